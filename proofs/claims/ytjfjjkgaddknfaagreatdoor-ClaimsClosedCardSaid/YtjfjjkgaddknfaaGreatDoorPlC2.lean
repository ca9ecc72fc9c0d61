/- Part of the proof. Conditions: none. -/
import Derived.Test.YtjfjjkgaddknfaaGreatDoorPlC1
namespace Go.GD
set_option autoImplicit false
set_option linter.unusedVariables false
section
theorem zXa {σ ρ : Type} {B B' : σ → Option (σ ⊕ ρ)} (I : σ → Prop) (h : ∀ s, I s → B s = B' s) (hs : ∀ s s', I s → B s = some (.inl s') → I s') : ∀ n s, I s → tJ B n s = tJ B' n s := by
 intro n
 induction n with
 | zero => intro s _; rfl
 | succ n ih =>
  intro s hI
  simp only [tJ]
  rw [← h s hI]
  cases hb : B s with
  | none => rfl
  | some o =>
   cases o with
   | inr r => rfl
   | inl s' => exact ih s' (hs s s' hI hb)
theorem zYI {σ ρ : Type} {B B' : σ → Option (σ ⊕ ρ)} (I : σ → Prop) (h : ∀ s, I s → B s = B' s) (hs : ∀ s s', I s → B s = some (.inl s') → I s') (s : σ) (hI : I s) : zW B s = zW B' s := by
 have hit := zXa I h hs
 cases h1 : zW B s with
 | some r =>
  obtain ⟨n, hn⟩ := zH2 h1
  rw [hit n s hI] at hn
  exact (zIt hn).symm
 | none =>
  cases h2 : zW B' s with
  | none => rfl
  | some r =>
   obtain ⟨n, hn⟩ := zH2 h2
   rw [← hit n s hI] at hn
   rw [zIt hn] at h1; cases h1
def tT (n : Int) (p : wD) : Bool := decide (p.1 < 0) || decide (n ≤ p.1) || decide (p.2 < 0) || decide (n ≤ p.2)
theorem zLv (x y : wD) : zCG x y = some (orF [zVR x.1 y.1, zVR x.2 y.2]) := by
 unfold zCG
 rw [zND, zND]
 simp only [zob]
 rw [zYc _ (by simp)]
 rfl
theorem zVL (x y : wD) : decide (0 ≤ orF [zVR x.1 y.1, zVR x.2 y.2]) = !xU x y := by
 have h : decide (orF [zVR x.1 y.1, zVR x.2 y.2] < 0) = xU x y := zOF (by rw [zOF (r := []) (b := false) (by simp [orF])]; simp)
 rw [← h, Bool.eq_iff_iff]
 simp
def zLo (n : Int) (L : List wD) (i : Nat) : Option Int := match L[i]? with
 | none => some 0
 | some p => if tT n p then some 1 else if i = 0 then none else match L[i - 1]? with
  | none => none
  | some q => if !xU q p then some 8 else none
theorem zKD (n : Int) (L : List wD) (hL : L.length < 4294967296) (i : Nat) (hi : i ≤ L.length) : zBJ (n, L) (i : Int) = match zLo n L i with
  | some e => some (.inr e)
  | none => some (.inl ((i + 1 : Nat) : Int)) := by
 unfold zBJ zLo
 by_cases he : i = L.length
 ·subst he
  simp [len]
 ·have hx : L[i]? = some L[i] := List.getElem?_eq_getElem (by omega)
  generalize L[i] = x at hx
  simp only [vA hx, if_true, wV hx, zob, hx, wX hx hL]
  have hb : (decide ((if x.2 < x.1 then x.2 else x.1) < 0) || decide (n ≤ (if x.2 > x.1 then x.2 else x.1))) = tT n x := by
   rw [Bool.eq_iff_iff]
   simp only [tT, Bool.or_eq_true, decide_eq_true_eq]
   split <;> split <;> omega
  rw [hb]
  cases tT n x with
  | true => simp
  | false =>
   simp only [zbf, if_false]
   by_cases h0 : i = 0
   ·subst h0; simp
   ·obtain ⟨j, rfl⟩ : ∃ j, i = j + 1 := ⟨i - 1, by omega⟩
    have hy : L[j]? = some L[j] := List.getElem?_eq_getElem (by omega)
    generalize L[j] = y at hy
    have hd : decide (0 < ((j + 1 : Nat) : Int)) = true := by rw [decide_eq_true_eq]; omega
    have hw : zR (((j + 1 : Nat) : Int) - 1) = (j : Int) := by rw [xQ (by omega) (by omega)]; omega
    simp only [hd, if_true, hw, wV hy, zob, zLv, zVL, Nat.add_sub_cancel, hy, h0, if_false]
    cases xU y x <;> simp
theorem zRi (n : Int) (L : List wD) (hL : L.length < 4294967296) (i : Nat) (hi : i ≤ L.length) : zFL (n, L) (i : Int) = match zLo n L i with
  | some e => some (.inr e)
  | none => some (.inl ((i + 1 : Nat) : Int)) := by
 unfold zFL zLo
 by_cases he : i = L.length
 ·subst he
  simp [len]
 ·have hx : L[i]? = some L[i] := List.getElem?_eq_getElem (by omega)
  generalize L[i] = x at hx
  simp only [vA hx, if_true, wV hx, zob, hx, wX hx hL]
  have hb : (decide (x.1 < 0) || (decide (n ≤ x.1) || (decide (x.2 < 0) || decide (n ≤ x.2)))) = tT n x := by simp [tT, Bool.or_assoc]
  rw [hb]
  cases tT n x with
  | true => simp
  | false =>
   simp only [zbf, if_false]
   by_cases h0 : i = 0
   ·subst h0; simp
   ·obtain ⟨j, rfl⟩ : ∃ j, i = j + 1 := ⟨i - 1, by omega⟩
    have hy : L[j]? = some L[j] := List.getElem?_eq_getElem (by omega)
    generalize L[j] = y at hy
    have hd : decide (0 < ((j + 1 : Nat) : Int)) = true := by rw [decide_eq_true_eq]; omega
    have hw : zR (((j + 1 : Nat) : Int) - 1) = (j : Int) := by rw [xQ (by omega) (by omega)]; omega
    simp only [hd, if_true, hw, wV hy, zob, Nat.add_sub_cancel, hy, h0, if_false]
    have hlt : xU y x = (yZ y.1 x.1 || (y.1 == x.1 && yZ y.2 x.2)) := rfl
    rw [hlt]
    simp only [yZ]
    by_cases h1 : x.1 < y.1
    ·have h2 : ¬ y.1 < x.1 := by omega
     have h3 : (y.1 == x.1) = false := by simp; omega
     simp [h1, h2, h3]
    ·by_cases h3 : y.1 = x.1
     ·have h2 : ¬ y.1 < x.1 := by omega
      by_cases h4 : x.2 ≤ y.2
      ·have h5 : ¬ y.2 < x.2 := by omega
       simp [h3, h4, h5]
      ·have h5 : y.2 < x.2 := by omega
       simp [h3, h4, h5]
     ·have h2 : y.1 < x.1 := by omega
      have h4 : (y.1 == x.1) = false := by simpa using h3
      simp [h1, h2, h4]
def zZl (g : vH) : Prop := 0 ≤ g.1 ∧ g.1 ≤ 40 ∧ ∀ p ∈ g.2, tT g.1 p = false
theorem zZy (g : vH) (hL : g.2.length < 4294967296) : ∃ e, zAx g = some e ∧ zF0 g = some e ∧ (e = 0 → zZl g) := by
 obtain ⟨n, L⟩ := g
 unfold zAx zF0
 cases h0 : (decide (n < 0) || decide (40 < n)) with
 | true => exact ⟨1, by simp, by simp, by simp⟩
 | false =>
  simp only [Bool.or_eq_false_iff, decide_eq_false_iff_not] at h0
  simp only [zbf, if_false]
  have hc : zW (zFL (n, L)) 0 = zW (zBJ (n, L)) 0 := by
   refine zYI (fun s => ∃ i : Nat, s = (i : Int) ∧ i ≤ L.length) ?_ ?_ 0 ⟨0, rfl, Nat.zero_le _⟩
   ·rintro s ⟨i, rfl, hi⟩
    rw [zKD n L hL i hi, zRi n L hL i hi]
   ·rintro s s' ⟨i, rfl, hi⟩ hb
    rw [zRi n L hL i hi] at hb
    cases hv : zLo n L i with
    | some e => rw [hv] at hb; cases hb
    | none =>
     rw [hv] at hb
     simp only [Option.some.injEq, Sum.inl.injEq] at hb
     refine ⟨i + 1, hb.symm, ?_⟩
     by_cases he : i = L.length
     ·subst he; simp [zLo] at hv
     ·omega
  have h := xB (B := zBJ (n, L)) (fun i (_ : Unit) => (i : Int)) L (fun i _ => ∀ p ∈ L.take i, tT n p = false) (fun e => e = 0 → ∀ p ∈ L, tT n p = false) ?_ ?_ () (by simp)
  ·obtain ⟨e, h1, h2⟩ := h
   exact ⟨e, h1, by rw [hc]; exact h1, fun he => ⟨by omega, by omega, h2 he⟩⟩
  ·intro i x _ hx hI
   have hi := vK hx
   rw [zKD n L hL i (by omega)]
   cases hv : zLo n L i with
   | some e =>
    refine .inr ⟨e, rfl, fun he => ?_⟩
    subst he
    exfalso
    unfold zLo at hv
    rw [hx] at hv
    simp only at hv
    split at hv
    ·cases hv
    ·split at hv
     ·cases hv
     ·split at hv
      ·cases hv
      ·split at hv <;> cases hv
   | none =>
    refine .inl ⟨(), rfl, fun p hp => ?_⟩
    rw [xI hx, List.mem_append, List.mem_singleton] at hp
    rcases hp with hp | rfl
    ·exact hI p hp
    ·cases hb : tT n p with
     | false => rfl
     | true => unfold zLo at hv; rw [hx] at hv; simp [hb] at hv
  ·intro _ hI
   rw [zKD n L hL _ (Nat.le_refl _)]
   refine ⟨0, by simp [zLo], fun _ => ?_⟩
   rwa [List.take_length] at hI
theorem zZl.inN {N : Nat} {L : List wD} (h : zZl ((N : Int), L)) : inN N L := fun a b he => by
 have := h.2.2 _ (zRN.1 he)
 simp only [tT, Bool.or_eq_false_iff, decide_eq_false_iff_not] at this
 exact ⟨a.toNat, b.toNat, by omega, by omega, by omega, by omega⟩
end
section
section
variable {N : Nat} (hN : N ≤ 10) {L : List wD} (hV : inN N L) (hL : L.length < 4294967296) (a : Nat) (ha : a < N)
def vJ (N : Nat) (L : List wD) (a k : Nat) : List Nat := (List.range k).filter fun X => X.testBit a && admS L (zPU X)
end
end
section
theorem zYB : ∀ (n m : Nat) (acc : List Int), m < 18446744073709551616 → (zPU m).length ≤ n → acc.length + n ≤ 64 → zW zEg ((m : Int), acc) = some (acc ++ zPU m) := by
 intro n
 induction n with
 | zero =>
  intro m acc hm hn ha
  have h0 : zPU m = [] := List.eq_nil_of_length_eq_zero (by omega)
  have hz : m = 0 := by
   apply Nat.eq_of_testBit_eq
   intro i
   rw [Nat.zero_testBit]
   cases ht : m.testBit i with
   | false => rfl
   | true =>
    have := (zYM hm).2 ht
    rw [h0] at this; cases this
  subst hz
  rw [vZ]
  simp [zEg, h0]
 | succ n ih =>
  intro m acc hm hn ha
  by_cases h0 : m = 0
  ·subst h0
   have hb : zPU 0 = [] := by
    apply List.eq_nil_iff_forall_not_mem.2
    intro x hx
    obtain ⟨i, _, _, h⟩ := zLb.1 hx
    rw [Nat.zero_testBit] at h; cases h
   rw [vZ]
   simp [zEg, hb]
  ·obtain ⟨k, q, ht, hk, hmq⟩ := tz_nat h0 hm
   have hcons : zPU m = (k : Int) :: zPU (2 ^ (k + 1) * q) := by
    have hq2 : ∀ j, (2 ^ (k + 1) * q).testBit j = (decide (k < j) && q.testBit (j - k - 1)) := by
     intro j
     have e2 : 2 ^ (k + 1) * q = 2 ^ (k + 1) * q + 0 := rfl
     rw [e2, Nat.testBit_two_pow_mul_add _ (Nat.pow_pos (by decide))]
     by_cases hj : j < k + 1
     ·have h1 : decide (k < j) = false := by simp; omega
      rw [if_pos hj, Nat.zero_testBit, h1, Bool.false_and]
     ·have h1 : decide (k < j) = true := by simp; omega
      rw [if_neg hj, h1, Bool.true_and]
      congr 1
    apply vV.ext tH (zRo m)
    ·refine List.pairwise_cons.2 ⟨fun x hx => ?_, zRo _⟩
     obtain ⟨j, rfl, hj, hb⟩ := zLb.1 hx
     rw [hq2, Bool.and_eq_true, decide_eq_true_eq] at hb
     simp [yZ]; omega
    ·intro x
     rw [List.mem_cons, zLb, zLb]
     constructor
     ·rintro ⟨i, rfl, h1, h2⟩
      rw [hmq, zQu, Bool.or_eq_true, decide_eq_true_eq] at h2
      rcases h2 with rfl | h2
      ·exact .inl rfl
      ·exact .inr ⟨i, rfl, h1, by rw [hq2]; exact h2⟩
     ·rintro (rfl | ⟨i, rfl, h1, h2⟩)
      ·exact ⟨k, rfl, hk, by rw [hmq, zQu]; simp⟩
      ·rw [hq2] at h2
       exact ⟨i, rfl, h1, by rw [hmq, zQu, h2, Bool.or_true]⟩
   have hw : IntKind.u64.wrap ((m : Int) - 1) = ((m - 1 : Nat) : Int) := by rw [wrapU (by omega) (by omega)]; omega
   have hand : m &&& (m - 1) = 2 ^ (k + 1) * q := by rw [hmq]; exact zXt q k
   have hlt : 2 ^ (k + 1) * q < 18446744073709551616 := by rw [← hand]; exact z1l hm
   have hne : ((m : Int) != 0) = true := by simp; omega
   have hstep : zEg ((m : Int), acc) = some (.inl (((2 ^ (k + 1) * q : Nat) : Int), acc ++ [(k : Int)])) := by
    unfold zEg
    simp only [hne, if_true, ht, zob]
    rw [vX (by simp; omega)]
    simp only [zob]
    rw [hw, zW8 hm (by omega), hand]
   rw [vZ, hstep]
   have := ih (2 ^ (k + 1) * q) (acc ++ [(k : Int)]) hlt (by rw [hcons] at hn; simp at hn; omega) (by simp; omega)
   rw [hcons]
   simpa using this
theorem z2X {m : Nat} (hm : m < 18446744073709551616) : zH6 (m : Int) = some (zPU m) := by
 have := zYB 64 m [] hm (zZF m) (by simp)
 simpa [zH6] using this
structure yL (N : Nat) (L : List wD) : Prop where
 hN : N ≤ 40
 inr : ∀ p ∈ L, tT (N : Int) p = false
 asc : vV xU L
theorem zK1 {N : Nat} {p : wD} (h : tT (N : Int) p = false) : ∃ i j : Nat, i < N ∧ j < N ∧ p = ((i : Int), (j : Int)) := by
 obtain ⟨a, b⟩ := p
 simp only [tT, Bool.or_eq_false_iff, decide_eq_false_iff_not] at h
 exact ⟨a.toNat, b.toNat, by omega, by omega, by simp only [Prod.mk.injEq]; omega⟩
theorem z2Y {N i j : Nat} (hi : i < N) (hj : j < N) : tT (N : Int) ((i : Int), (j : Int)) = false := by
 simp only [tT, Bool.or_eq_false_iff, decide_eq_false_iff_not]
 omega
section
variable {N : Nat} {L : List wD}
theorem yL.nodup (h : yL N L) : L.Nodup := h.asc.imp fun {x y} hh e => by subst e; rw [z0P.irrefl] at hh; cases hh
theorem yL.inN (h : yL N L) : inN N L := fun a b he => by
 obtain ⟨i, j, h1, h2, h3⟩ := zK1 (h.inr _ (zRN.1 he))
 simp only [Prod.mk.injEq] at h3
 exact ⟨i, j, h1, h2, h3.1, h3.2⟩
theorem zOo {α : Type} [DecidableEq α] : ∀ {l m : List α}, l.Nodup → (∀ x ∈ l, x ∈ m) → l.length ≤ m.length
 | [], _, _, _ => Nat.zero_le _
 | x :: l, m, hn, hs => by
  obtain ⟨h1, h2⟩ := List.nodup_cons.1 hn
  have hx : x ∈ m := hs x List.mem_cons_self
  have h3 := zOo (m := m.erase x) h2 fun y hy => (List.mem_erase_of_ne (fun e => by subst e; exact h1 hy)).2 (hs y (List.mem_cons_of_mem _ hy))
  rw [List.length_erase_of_mem hx] at h3
  have : 0 < m.length := List.length_pos_of_mem hx
  simp only [List.length_cons]
  omega
theorem yL.len (h : yL N L) : L.length ≤ 1600 := by
 have h1 := zOo (m := (wY N).flatMap fun i => (wY N).map fun j => (i, j)) h.nodup fun p hp => by
  obtain ⟨i, j, hi, hj, rfl⟩ := zK1 (h.inr p hp)
  exact List.mem_flatMap.2 ⟨(i : Int), xK.2 ⟨by omega, by omega⟩, List.mem_map.2 ⟨(j : Int), xK.2 ⟨by omega, by omega⟩, rfl⟩⟩
 have h2 := zLj (fun i : Int => (wY N).map fun j : Int => (i, j)) N (wY N) fun x _ => by simp [tO]
 rw [tO] at h2
 have h3 : N * N ≤ 40 * 40 := Nat.mul_le_mul h.hN h.hN
 omega
theorem yL.len' (h : yL N L) : L.length < 4294967296 := by have := h.len; omega
theorem zSo {n : Int} {i : Nat} {p : wD} (hp : L[i]? = some p) : zLo n L i = none ↔ tT n p = false ∧ (i = 0 ∨ ∃ q, L[i - 1]? = some q ∧ xU q p = true) := by
 unfold zLo
 rw [hp]
 cases hb : tT n p with
 | true => simp [hb]
 | false =>
  by_cases h0 : i = 0
  ·subst h0; simp [hb]
  ·have hi := vK hp
   obtain ⟨q, hq⟩ : ∃ q, L[i - 1]? = some q := ⟨L[i - 1], List.getElem?_eq_getElem (by omega)⟩
   simp only [hb, h0, if_false, hq, false_or, zbf, Option.some.injEq, exists_eq_left', true_and]
   cases xU q p <;> simp
theorem vLoop (n : Int) (hL : L.length < 4294967296) : ∃ e, zW (zBJ (n, L)) 0 = some e ∧ (e = 0 ↔ ∀ i, i < L.length → zLo n L i = none) := by
 have h := xB (B := zBJ (n, L)) (fun i (_ : Unit) => (i : Int)) L (fun i _ => ∀ j, j < i → zLo n L j = none) (fun e => e = 0 ↔ ∀ i, i < L.length → zLo n L i = none) ?_ ?_ () (fun j hj => absurd hj (Nat.not_lt_zero _))
 ·obtain ⟨e, h1, h2⟩ := h
  exact ⟨e, h1, h2⟩
 ·intro i x _ hx hI
  have hi := vK hx
  rw [zKD n L hL i (by omega)]
  cases hv : zLo n L i with
  | some e =>
   refine .inr ⟨e, rfl, ?_⟩
   constructor
   ·intro he
    subst he
    exfalso
    unfold zLo at hv
    rw [hx] at hv
    simp only at hv
    split at hv
    ·cases hv
    ·split at hv
     ·cases hv
     ·split at hv
      ·cases hv
      ·split at hv <;> cases hv
   ·intro h
    rw [h i hi] at hv; cases hv
  | none =>
   refine .inl ⟨(), rfl, fun j hj => ?_⟩
   by_cases he : j = i
   ·subst he; exact hv
   ·exact hI j (by omega)
 ·intro _ hI
  rw [zKD n L hL _ (Nat.le_refl _)]
  exact ⟨0, by simp [zLo], by simp; exact hI⟩
theorem zWe {α : Type} {lt : α → α → Bool} (O : zSP lt) : ∀ {l : List α}, (∀ i x y, l[i]? = some x → l[i + 1]? = some y → lt x y = true) → vV lt l
 | [], _ => List.Pairwise.nil
 | [x], _ => List.pairwise_singleton _ _
 | x :: y :: l, h => by
  have h1 := zWe O (l := y :: l) fun i a b ha hb => h (i + 1) a b (by simpa using ha) (by simpa using hb)
  have h2 : lt x y = true := h 0 x y rfl rfl
  refine List.pairwise_cons.2 ⟨fun z hz => ?_, h1⟩
  rcases List.mem_cons.1 hz with rfl | hz
  ·exact h2
  ·exact O.trans _ _ _ h2 ((List.pairwise_cons.1 h1).1 z hz)
theorem z1D {α : Type} {lt : α → α → Bool} {l : List α} (h : vV lt l) {i : Nat} {x y : α} (hx : l[i]? = some x) (hy : l[i + 1]? = some y) : lt x y = true := by
 obtain ⟨h1, rfl⟩ := List.getElem?_eq_some_iff.1 hx
 obtain ⟨h2, rfl⟩ := List.getElem?_eq_some_iff.1 hy
 exact List.pairwise_iff_getElem.1 h i (i + 1) h1 h2 (Nat.lt_succ_self i)
theorem zSl {n : Int} : (∀ i, i < L.length → zLo n L i = none) ↔ (∀ p ∈ L, tT n p = false) ∧ vV xU L := by
 constructor
 ·intro h
  have h1 : ∀ (i : Nat) p, L[i]? = some p → tT n p = false ∧ (i = 0 ∨ ∃ q, L[i - 1]? = some q ∧ xU q p = true) := fun i p hp => (zSo hp).1 (h i (vK hp))
  refine ⟨fun p hp => ?_, zWe z0P fun i x y hx hy => ?_⟩
  ·obtain ⟨i, hi⟩ := List.getElem?_of_mem hp
   exact (h1 i p hi).1
  ·rcases (h1 (i + 1) y hy).2 with h2 | ⟨q, h2, h3⟩
   ·omega
   ·rw [Nat.add_sub_cancel, hx] at h2
    cases h2; exact h3
 ·rintro ⟨h1, h2⟩ i hi
  have hp : L[i]? = some L[i] := List.getElem?_eq_getElem hi
  refine (zSo hp).2 ⟨h1 _ (List.getElem_mem hi), ?_⟩
  by_cases h0 : i = 0
  ·exact .inl h0
  ·have hq : L[i - 1]? = some L[i - 1] := List.getElem?_eq_getElem (by omega)
   exact .inr ⟨_, hq, z1D h2 hq (by rw [show i - 1 + 1 = i by omega]; exact hp)⟩
theorem zK0 (n : Int) (hL : L.length < 4294967296) : ∃ e, zAx (n, L) = some e ∧ zF0 (n, L) = some e ∧ (e = 0 ↔ ∃ N : Nat, n = (N : Int) ∧ yL N L) := by
 obtain ⟨e, h1, h2, h3⟩ := zZy (n, L) hL
 refine ⟨e, h1, h2, ?_⟩
 constructor
 ·intro he
  obtain ⟨k1, k2, k3⟩ := h3 he
  obtain ⟨N, rfl⟩ := Int.eq_ofNat_of_zero_le k1
  refine ⟨N, rfl, by have : (N : Int) ≤ 40 := k2; omega, k3, ?_⟩
  subst he
  unfold zAx at h1
  have hc : (decide ((N : Int) < 0) || decide (40 < (N : Int))) = false := by
   have : (N : Int) ≤ 40 := k2
   simp; omega
  simp only [hc, zbf, if_false] at h1
  obtain ⟨e', h4, h5⟩ := vLoop (L := L) (N : Int) hL
  rw [h4] at h1
  exact (zSl.1 (h5.1 (Option.some.inj h1))).2
 ·rintro ⟨N, rfl, hG⟩
  unfold zAx at h1
  have hc : (decide ((N : Int) < 0) || decide (40 < (N : Int))) = false := by
   have := hG.hN
   simp; omega
  simp only [hc, zbf, if_false] at h1
  obtain ⟨e', h4, h5⟩ := vLoop (L := L) (N : Int) hL
  rw [h4] at h1
  rw [← Option.some.inj h1]
  exact h5.2 (zSl.2 ⟨hG.inr, hG.asc⟩)
theorem yL.v1 (h : yL N L) : zAx ((N : Int), L) = some 0 := by
 obtain ⟨e, h1, _, h3⟩ := zK0 (N : Int) h.len'
 rw [h1, h3.2 ⟨N, rfl, h⟩]
theorem yL.v2 (h : yL N L) : zF0 ((N : Int), L) = some 0 := by
 obtain ⟨e, _, h1, h3⟩ := zK0 (N : Int) h.len'
 rw [h1, h3.2 ⟨N, rfl, h⟩]
theorem yL.proper (h : yL N L) : zEF ((N : Int), L) = some ((N : Int), L) := by
 unfold zEF; rw [h.v1]; rfl
theorem yL.valid (h : yL N L) : zOp ((N : Int), L) = some ((N : Int), L) := by
 unfold zOp; rw [h.v2]; rfl
theorem zVj {n : Int} {l : List wT} {g : vH} (h : zRu n l = (g, 0)) : ∃ N : Nat, n = (N : Int) ∧ g.1 = (N : Int) ∧ yL N g.2 ∧ g.2 = xS xU (zGL l) := by
 unfold zRu at h
 cases h0 : (decide (n < 0) || decide (40 < n)) with
 | true => simp [h0] at h
 | false =>
  cases h1 : l.any (zXc n) with
  | true => simp [h0, h1] at h
  | false =>
   simp only [h0, h1, zbf, if_false, Prod.mk.injEq, and_true] at h
   subst h
   simp only [Bool.or_eq_false_iff, decide_eq_false_iff_not] at h0
   refine ⟨n.toNat, by omega, by show n = _; omega, ⟨by omega, fun p hp => ?_, (zHv z0P _).1⟩, rfl⟩
   have hp : p ∈ zGL l := ((zHv z0P _).2 p).1 hp
   obtain ⟨a, ha, rfl⟩ := List.mem_map.1 hp
   have := List.any_eq_false.1 h1 a ha
   simp only [zXc, Bool.or_eq_true, decide_eq_true_eq, not_or] at this
   simp only [tT, Bool.or_eq_false_iff, decide_eq_false_iff_not]
   omega
def z0O (L : List wD) (i : Nat) : Nat := zUv ((L.filter fun p => p.1 == (i : Int)).map (·.2))
theorem zYS (h : yL N L) (i : Nat) : z0O L i < 18446744073709551616 := z1M fun x hx => by
 obtain ⟨p, hp, rfl⟩ := List.mem_map.1 hx
 obtain ⟨a, b, h1, h2, rfl⟩ := zK1 (h.inr p (List.mem_filter.1 hp).1)
 have := h.hN
 show (b : Int) < 64
 omega
theorem zWu (h : yL N L) (i j : Nat) : (z0O L i).testBit j = ed L (i : Int) (j : Int) := by
 unfold z0O
 rw [zZp (fun x hx => ?_), Bool.eq_iff_iff, decide_eq_true_eq, zRN]
 ·constructor
  ·intro hx
   obtain ⟨p, hp, h2⟩ := List.mem_map.1 hx
   obtain ⟨h3, h4⟩ := List.mem_filter.1 hp
   have h5 : p.1 = (i : Int) := by simpa using h4
   have : p = ((i : Int), (j : Int)) := by rw [← h5, ← h2]
   rw [← this]; exact h3
  ·intro hx
   exact List.mem_map.2 ⟨_, List.mem_filter.2 ⟨hx, by simp⟩, rfl⟩
 ·obtain ⟨p, hp, rfl⟩ := List.mem_map.1 hx
  obtain ⟨a, b, h1, h2, rfl⟩ := zK1 (h.inr p (List.mem_filter.1 hp).1)
  show (0 : Int) ≤ (b : Int)
  omega
theorem zYG (l : List Int) (x : Int) : zUv (l ++ [x]) = zUv l ||| 2 ^ x.toNat := by simp [zUv]
theorem z2B {i : Nat} (h : i < 64) : z3J .u64 1 (i : Int) = some ((2 ^ i : Nat) : Int) := by
 have := z0n h
 rwa [zMy (by omega)] at this
theorem zWA (h : yL N L) : zG8 ((N : Int), L) = some (qN N fun i => ((z0O L i : Nat) : Int)) := by
 unfold zG8
 have hN := h.hN
 rw [zZt (by omega)]
 simp only [zob]
 have hlp := xB (B := zHA ((N : Int), L)) (fun i (s : List Int) => (s, (i : Int))) L (fun i s => s = qN N fun a => ((z0O (L.take i) a : Nat) : Int)) (fun r => r = qN N fun i => ((z0O L i : Nat) : Int)) ?_ ?_ (qN N fun _ => 0) (by
   apply tU; intro i _; simp [z0O, zUv])
 ·obtain ⟨r, h1, rfl⟩ := hlp
  exact h1
 ·rintro i p s hp rfl
  refine .inl ⟨_, ?_, rfl⟩
  obtain ⟨a, b, h1, h2, rfl⟩ := zK1 (h.inr p (vW hp))
  have hg : ∀ q ∈ L.take i, q ∈ L := fun q hq => List.mem_of_mem_take hq
  have hgood : yL N (L.take i) := ⟨hN, fun q hq => h.inr q (hg q hq), h.asc.sublist (List.take_sublist _ _)⟩
  unfold zHA
  simp only [vA hp, if_true, wV hp, zob, zNj _ h1, z2B (i := b) (by omega), wX hp h.len', Int.toNat_natCast, zOm]
  rw [z3D (zYS hgood a) (zXF (by omega))]
  congr 3
  apply tU
  intro q _
  rw [xI hp]
  by_cases hq : q = a
  ·subst hq
   simp only [if_true]
   unfold z0O
   rw [List.filter_append, List.map_append]
   simp [zYG]
  ·have hf : (((a : Nat) : Int) == (q : Int)) = false := by simp; omega
   simp only [hq, if_false]
   unfold z0O
   rw [List.filter_append]
   simp [hf]
 ·rintro s rfl
  refine ⟨_, ?_, rfl⟩
  unfold zHA
  simp [len]
abbrev zLQ (N : Nat) (L : List wD) (i : Int) : List Int := (wY N).filter fun j => ed L i j
abbrev yS (N : Nat) (L : List wD) (i : Int) : List Int := (wY N).filter fun j => ed L j i
theorem z0X (h : yL N L) (i : Nat) : zPU (z0O L i) = zLQ N L (i : Int) := by
 apply vV.ext tH (zRo _) ((zJE N).filter _)
 intro x
 rw [zLb, List.mem_filter, xK]
 constructor
 ·rintro ⟨j, rfl, h1, h2⟩
  rw [zWu h] at h2
  obtain ⟨a, b, h3, h4, h5, h6⟩ := h.inN _ _ h2
  exact ⟨by omega, h2⟩
 ·rintro ⟨h1, h2⟩
  obtain ⟨j, rfl⟩ := Int.eq_ofNat_of_zero_le h1.1
  have := h.hN
  exact ⟨j, rfl, by omega, by rw [zWu h]; exact h2⟩
theorem zKk (h : yL N L) (i : Int) : zCK ((N : Int), L) i = some (zLQ N L i) := by
 unfold zCK
 rw [h.proper]
 simp only [zob]
 cases hc : (decide (i < 0) || decide ((N : Int) ≤ i)) with
 | true =>
  simp only [if_true, Option.some.injEq]
  symm
  apply List.filter_eq_nil_iff.2
  intro x _ he
  obtain ⟨a, b, h1, h2, h3, h4⟩ := h.inN _ _ he
  simp only [Bool.or_eq_true, decide_eq_true_eq] at hc
  omega
 | false =>
  simp only [Bool.or_eq_false_iff, decide_eq_false_iff_not] at hc
  obtain ⟨k, rfl⟩ := Int.eq_ofNat_of_zero_le (show 0 ≤ i by omega)
  simp only [zbf, if_false, zWA h, zob, zNj _ (show k < N by omega), z2X (zYS h k), z0X h]
def zYf (p : wD) : wD := (p.2, p.1)
def revL (L : List wD) : List wD := (L.map zYf).mergeSort fun x y => !xU y x
theorem ed_rev {a b : Int} : ed (revL L) a b = ed L b a := by
 rw [Bool.eq_iff_iff, zRN, zRN, revL, List.mem_mergeSort, List.mem_map]
 constructor
 ·rintro ⟨⟨c, d⟩, h1, h2⟩
  simp only [zYf, Prod.mk.injEq] at h2
  rw [← h2.1, ← h2.2]; exact h1
 ·intro h
  exact ⟨_, h, rfl⟩
theorem zUu {α : Type} {lt : α → α → Bool} (O : zSP lt) {l : List α} (h : l.Pairwise fun x y => lt y x = false) (hn : l.Nodup) : vV lt l := by
 have := List.Pairwise.and h hn
 exact this.imp fun {x y} hh => by
  rcases O.tri x y with h1 | h1 | h1
  ·exact h1
  ·exact absurd h1 hh.2
  ·rw [hh.1] at h1; cases h1
theorem yL.rev (h : yL N L) : yL N (revL L) := by
 refine ⟨h.hN, fun p hp => ?_, zUu z0P (zKW z0P _) ?_⟩
 ·obtain ⟨q, hq, rfl⟩ := List.mem_map.1 (List.mem_mergeSort.1 hp)
  obtain ⟨i, j, hi, hj, rfl⟩ := zK1 (h.inr q hq)
  exact z2Y hj hi
 ·have hp : (revL L).Perm (L.map zYf) := List.mergeSort_perm _ _
  rw [hp.nodup_iff]
  refine List.pairwise_map.2 (h.nodup.imp ?_)
  rintro ⟨a, b⟩ ⟨c, d⟩ hne he
  simp only [zYf, Prod.mk.injEq] at he
  exact hne (by rw [he.1, he.2])
theorem zQW (x y : wD) : uG zCG x y = xU x y := by
 simp only [uG, zLv, Option.getD_some]
 exact zOF (by rw [zOF (r := []) (b := false) (by simp [orF])]; simp)
theorem zVu {l : List wD} (hl : l.length < 4294967296) : zA8 l = some (l.mergeSort fun x y => !xU y x) :=
 zTo z0P (fun x y => ⟨_, zLv x y⟩) zQW hl
theorem zSu (h : yL N L) : zE4 ((N : Int), L) = some ((N : Int), revL L) := by
 unfold zE4
 rw [h.proper]
 simp only [zob]
 have hl := zNb (B := zFz ((N : Int), L)) L (fun s p => s ++ [zYf p]) id (fun i s => s.length ≤ i) ([] : List wD) (by simp) ?_ ?_
 ·rw [hl.1, zGd]
  simp only [id, List.nil_append, zob]
  rw [zVu (by rw [List.length_map]; exact h.len')]
  rfl
 ·intro i p s hp hI
  have := h.len
  have := vK hp
  unfold zFz
  simp only [vA hp, if_true, wV hp, zob, wX hp h.len']
  rw [vX (by simp; omega)]
  exact ⟨rfl, by simp; omega⟩
 ·intro s _
  unfold zFz
  simp [len]
theorem zRx (h : yL N L) (i : Int) : zDG ((N : Int), L) i = some (yS N L i) := by
 unfold zDG
 rw [zSu h]
 simp only [zob]
 rw [zKk h.rev]
 simp only [zob, Option.some.injEq]
 exact List.filter_congr fun x _ => ed_rev
end
end
section
theorem zIb {N i : Nat} (f : Nat → Int) : (qN N f)[i]? = if i < N then some (f i) else none := by
 unfold qN
 by_cases h : i < N
 ·simp [h]
 ·simp [h]
theorem zZS (N : Nat) (f : Nat → Int) : qN (N + 1) f = qN N f ++ [f N] := by simp [qN, List.range_succ]
theorem zTu {N c : Nat} (f : Nat → Int) (h : c ≤ N) : (qN N f).take c = qN c f := by
 apply List.ext_getElem?
 intro i
 rw [List.getElem?_take, zIb, zIb]
 by_cases h1 : i < c
 ·simp [h1, show i < N by omega]
 ·simp [h1]
theorem zRk (k : Nat) (f : Nat → Int) {x : Nat} (hx : x < k) (v : Int) : xO k (qN k f) (x : Int) v = qN k fun j => if j = x then v else f j := by
 unfold xO qN
 apply List.map_congr_left
 intro j hj
 have hj := List.mem_range.1 hj
 rw [Int.toNat_natCast]
 by_cases h : j = x
 ·simp [h]
 ·simp only [h, if_false]
  simp [List.getD, hj]
theorem zNG (k : Nat) (f : Nat → Int) {x : Nat} (hx : x < k) : yM (qN k f) (x : Int) = f x := by
 unfold yM qN
 simp [List.getD, hx]
theorem zXG (k : Nat) (v : Int) : List.replicate k v = qN k fun _ => v := by
 apply List.ext_getElem?
 intro i
 rw [zIb, List.getElem?_replicate]
theorem zKd {x k : Nat} {K : Int} (hK : K = (k : Int)) (h : x < k) : vY (decide (0 ≤ (x : Int)) && decide ((x : Int) < K)) = some () := by
 subst hK
 simp [vY]; omega
theorem zY0 : ∀ n, n < 41 → zJi (IntKind.u64.wrap 1) (IntKind.u64.wrap ((n : Nat) : Int)) = some (0, (n : Int)) := by decide +kernel
theorem zWE {n c : Nat} (x : Int) (hc : c ≤ n) : zH0 (qN n fun i => if i < c then x else 0) (c : Int) (qN c fun i => if i < c then x else 0) = qN n fun i => if i < min (c + c) n then x else 0 := by
 unfold zH0
 apply List.ext_getElem?
 intro i
 rw [Int.toNat_natCast, zHD, zHD, zTu _ hc]
 rw [List.getElem?_append, List.getElem?_append, List.length_append, zHD, List.length_take, zHD, List.getElem?_take, List.getElem?_drop]
 rw [zIb, zIb, zIb, zIb]
 by_cases h1 : i < c
 ·have h2 : i < c + min (n - c) c := by omega
  have h3 : i < n := by omega
  have h4 : i < min (c + c) n := by omega
  simp only [h1, h2, h3, h4, if_true]
 ·by_cases h2 : i < c + min (n - c) c
  ·have h3 : i < n := by omega
   have h4 : i < min (c + c) n := by omega
   have h5 : i - c < n - c := by omega
   have h6 : i - c < c := by omega
   simp only [h1, h2, h3, h4, h5, h6, if_true, if_false]
  ·by_cases h3 : i < n
   ·have h4 : c + c + (i - (c + min (n - c) c)) = i := by omega
    have h5 : ¬ i < min (c + c) n := by omega
    rw [h4]
    simp only [h1, h2, h3, h5, if_true, if_false]
   ·have h4 : ¬ c + c + (i - (c + min (n - c) c)) < n := by omega
    simp only [h1, h2, h3, h4, if_false]
theorem zXm (x : Int) {n : Nat} (hn : n ≤ 40) : zCQ [x] (n : Int) = some (qN n fun _ => x) := by
 unfold zCQ
 have h0 : decide ((n : Int) < 0) = false := decide_eq_false (by omega)
 have h1 : IntKind.u64.wrap (len [x]) = IntKind.u64.wrap 1 := rfl
 have h2 : (decide ((0 : Int) < 0) || decide (9223372036854775807 < (n : Int))) = false := by simp; omega
 simp only [h0, zbf, if_false, zob, h1, zY0 n (by omega), h2, zWP n (by omega)]
 rw [zZt (by omega)]
 simp only [zob, zHD]
 have hs : zH0 (qN n fun _ => (0 : Int)) 0 [x] = qN n fun i => if i < min 1 n then x else 0 := by
  cases n with
  | zero => rfl
  | succ n =>
   unfold zH0 qN
   rw [List.range_succ_eq_map]
   simp only [List.map_cons, List.map_map]
   have h4 : min 1 (n + 1) = 1 := by omega
   simp [Function.comp_def, h4]
 rw [hs]
 have hm : ((Nat.min (List.length [x]) n : Nat) : Int) = ((min 1 n : Nat) : Int) := rfl
 rw [hm]
 have hl := zXE (B := zFj (qN n fun _ => 0)) (fun s => n - s.2.toNat) (fun s => ∃ c : Nat, c ≤ n ∧ min 1 n ≤ c ∧ s = (qN n (fun i => if i < c then x else 0), (c : Int))) (fun r => r = qN n fun _ => x) ?_ (qN n (fun i => if i < min 1 n then x else 0), ((min 1 n : Nat) : Int)) ⟨min 1 n, by omega, Nat.le_refl _, rfl⟩
 ·obtain ⟨r, h3, rfl⟩ := hl
  exact h3
 ·rintro _ ⟨c, hc, h1c, rfl⟩
  unfold zFj
  by_cases hlt : c < n
  ·refine .inl ⟨(qN n (fun i => if i < min (c + c) n then x else 0), ((min (c + c) n : Nat) : Int)), ?_, ⟨min (c + c) n, by omega, by omega, rfl⟩, ?_⟩
   ·have hd : decide ((c : Int) < len (qN n fun _ => (0 : Int))) = true := decide_eq_true (by simp only [len, zHD]; omega)
    have hck : (decide (0 ≤ (c : Int)) && decide ((c : Int) ≤ len (qN n fun i => if i < c then x else 0))) = true := by
     rw [decide_eq_true (show 0 ≤ (c : Int) by omega), decide_eq_true (show (c : Int) ≤ len (qN n fun i => if i < c then x else 0) by simp only [len, zHD]; omega)]
     rfl
    simp only [hd, if_true, hck, vY, zob]
    rw [zLf (by omega) (by rw [zHD]; omega)]
    simp only [zob, Int.toNat_natCast, zTu _ hc, zWE x hc, zHD]
    have hnum : ((Nat.min c (Int.toNat (((n : Nat) : Int) - (c : Int))) : Nat) : Int) = ((min c (n - c) : Nat) : Int) := by
     have : Int.toNat (((n : Nat) : Int) - (c : Int)) = n - c := by omega
     rw [this]
    rw [hnum, xQ (by omega) (by omega)]
    congr 3
    omega
   ·simp only [Int.toNat_natCast]
    omega
  ·have hcn : c = n := by omega
   subst hcn
   have hd : decide ((c : Int) < len (qN c fun _ => (0 : Int))) = false := by simp [len, zHD]
   refine .inr ⟨qN c fun i => if i < c then x else 0, by simp only [hd, zbf, if_false], ?_⟩
   apply tU
   intro i hi
   simp [hi]
section
variable (N : Nat) (L : List wD)
noncomputable def rnk : Nat → Nat → Int
 | 0, _ => 0
 | k + 1, i => if vE N L (k + 1) i = vE N L k i then rnk k i else ((k + 1 : Nat) : Int)
theorem zO7 (k i : Nat) : vE N L k i = 1 ∨ vE N L k i = 2 ∨ vE N L k i = 3 := by
 unfold vE
 by_cases h1 : uO N L k i
 ·simp [h1]
 ·by_cases h2 : att (uJ L) (uO N L k) i <;> simp [h1, h2]
theorem now3 {k i : Nat} (h : tE N L k i) : vE N L k i = 3 := (z26 N L).2 ⟨h.2, fun ⟨m, h3, h4⟩ => zPd N L h3 (h.1.2 m h4)⟩
theorem zY6 {k i : Nat} (h : vE N L k i = 2) : vE N L (k + 1) i = 2 := (zS0 N L).2 (by obtain ⟨m, h1, h2⟩ := (zS0 N L).1 h; exact ⟨m, zMi h1, h2⟩)
theorem zVf {k : Nat} (h : ∀ i, ¬ tE N L k i) : ∀ m, k ≤ m → ∀ i, vE N L m i = vE N L k i := by
 intro m hm i
 have hs := zYn (D := (· < N)) (R := uJ L) (k := k) fun i hi => Classical.byContradiction fun hn => h i ⟨hi, hn⟩
 have he : ∀ i, uO N L m i ↔ uO N L k i := fun i => ⟨hs m hm i, z2s hm⟩
 unfold vE
 have ha : att (uJ L) (uO N L m) i ↔ att (uJ L) (uO N L k) i := ⟨fun ⟨j, h1, h2⟩ => ⟨j, (he j).1 h1, h2⟩, fun ⟨j, h1, h2⟩ => ⟨j, (he j).2 h1, h2⟩⟩
 by_cases h1 : uO N L k i
 ·rw [if_pos ((he i).2 h1), if_pos h1]
 ·rw [if_neg (fun h => h1 ((he i).1 h)), if_neg h1]
  by_cases h2 : att (uJ L) (uO N L k) i
  ·rw [if_pos (ha.2 h2), if_pos h2]
  ·rw [if_neg (fun h => h2 (ha.1 h)), if_neg h2]
theorem z2S {k : Nat} (h : ∀ i, ¬ tE N L k i) : ∀ m, k ≤ m → ∀ i, rnk N L m i = rnk N L k i := by
 intro m hm i
 induction m with
 | zero => rw [show k = 0 by omega]
 | succ m ih =>
  by_cases he : k = m + 1
  ·rw [he]
  ·have h1 : vE N L (m + 1) i = vE N L m i := by rw [zVf N L h (m + 1) hm, zVf N L h m (by omega)]
   rw [rnk, if_pos h1, ih (by omega)]
theorem zTL {i : Nat} : ¬ tE N L N i := fun h => h.2 (z2E (D := (· < N)) (fun _ h => h) h.1)
end
section
variable {N : Nat} {L : List wD}
noncomputable abbrev lb (N : Nat) (L : List wD) (k : Nat) : List Int := qN N (vE N L k)
noncomputable abbrev rn (N : Nat) (L : List wD) (k : Nat) : List Int := qN N (rnk N L k)
noncomputable def zTA (N : Nat) (L : List wD) : List Int := lb N L (N + 1)
noncomputable def z2V (N : Nat) (L : List wD) : List Int := rn N L (N + 1)
theorem zVe : lb N L 0 = qN N fun _ => 3 := tU fun i _ => (z26 N L).2 ⟨fun h : uO N L 0 i => h.elim, fun ⟨m, (h : uO N L 0 m), _⟩ => h.elim⟩
theorem z1q {k : Nat} (hk : k ≤ N) (h : ∀ i, ¬ tE N L k i) : lb N L k = zTA N L ∧ rn N L k = z2V N L := by
 refine ⟨tU fun i _ => (zVf N L h (N + 1) (by omega) i).symm, tU fun i _ => (z2S N L h (N + 1) (by omega) i).symm⟩
theorem yL.hR (h : yL N L) : ∀ a b : Int, ed L a b = true → ∃ m, m < N ∧ a = (m : Int) := fun a b he => by
 obtain ⟨i, j, h1, _, h3, _⟩ := h.inN a b he
 exact ⟨i, h1, h3⟩
theorem z2N {i : Int} {q : Nat} {x : Int} (h : (yS N L i)[q]? = some x) : ∃ a : Nat, x = (a : Int) ∧ a < N ∧ ed L (a : Int) i = true := by
 obtain ⟨h1, h2⟩ := List.mem_filter.1 (vW h)
 obtain ⟨h3, h4⟩ := xK.1 h1
 obtain ⟨a, rfl⟩ := Int.eq_ofNat_of_zero_le h3
 exact ⟨a, rfl, by omega, h2⟩
theorem zT8 (i : Int) : (yS N L i).length ≤ N := Nat.le_trans (List.length_filter_le _ _) (by rw [tO]; exact Nat.le_refl _)
theorem zXM (i : Int) : (zLQ N L i).length ≤ N := Nat.le_trans (List.length_filter_le _ _) (by rw [tO]; exact Nat.le_refl _)
open Classical in
noncomputable def zUJ (N : Nat) (L : List wD) (k i : Nat) : Int := if tE N L k i then 1 else vE N L k i
open Classical in
noncomputable def z15 (N : Nat) (L : List wD) (k i : Nat) : Int := if tE N L k i then ((k + 1 : Nat) : Int) else rnk N L k i
end
end
section
section
variable {N : Nat} {L : List wD}
theorem z2v (h : yL N L) (i : Int) : (L.filter fun p => p.2 == i).map (·.1) = yS N L i := by
 apply vV.ext tH ?_ ((zJE N).filter _)
 ·intro x
  rw [List.mem_map, List.mem_filter, xK, zRN]
  constructor
  ·rintro ⟨p, hp, rfl⟩
   obtain ⟨h1, h2⟩ := List.mem_filter.1 hp
   have h3 : p.2 = i := by simpa using h2
   obtain ⟨a, b, h4, h5, h6⟩ := zK1 (h.inr p h1)
   subst h6
   exact ⟨⟨by show (0 : Int) ≤ (a : Int); omega, by show (a : Int) < (N : Int); omega⟩, by rw [← h3]; exact h1⟩
  ·rintro ⟨_, h1⟩
   exact ⟨_, List.mem_filter.2 ⟨h1, by simp⟩, rfl⟩
 ·have h1 := h.asc.filter fun p : wD => p.2 == i
  rw [vV, List.pairwise_map]
  refine List.Pairwise.imp_of_mem ?_ h1
  intro p q hp hq hlt
  have h2 : p.2 = i := by simpa using (List.mem_filter.1 hp).2
  have h3 : q.2 = i := by simpa using (List.mem_filter.1 hq).2
  simp only [xU, zUd, h2, h3, tH.irrefl, Bool.and_false, Bool.or_false] at hlt
  exact hlt
def vC (N : Nat) (L : List wD) (f : Nat → Int) (j : Nat) : Nat := ((yS N L (j : Int)).filter fun b => !(f b.toNat == 2)).length
theorem cnt_le (f : Nat → Int) (j : Nat) : vC N L f j ≤ N := Nat.le_trans (List.length_filter_le _ _) (zT8 _)
theorem zXI {f : Nat → Int} {j : Nat} : vC N L f j = 0 ↔ ∀ b, b < N → uJ L b j → f b = 2 := by
 unfold vC
 rw [List.length_eq_zero_iff, List.filter_eq_nil_iff]
 constructor
 ·intro h b hb he
  have := h (b : Int) (List.mem_filter.2 ⟨xK.2 ⟨by omega, by omega⟩, he⟩)
  simpa using this
 ·intro h x hx
  obtain ⟨h1, h2⟩ := List.mem_filter.1 hx
  obtain ⟨h3, h4⟩ := xK.1 h1
  obtain ⟨a, rfl⟩ := Int.eq_ofNat_of_zero_le h3
  simp [h a (by omega) h2]
theorem zS3 {α : Type} [DecidableEq α] {p q : α → Bool} {x : α} : ∀ {l : List α}, l.Nodup → x ∈ l → p x = true → q x = false → (∀ y ∈ l, y ≠ x → p y = q y) → (l.filter p).length = (l.filter q).length + 1
 | [], _, hx, _, _, _ => by cases hx
 | y :: l, hn, hx, h1, h2, h3 => by
  obtain ⟨hy, hl⟩ := List.nodup_cons.1 hn
  by_cases he : y = x
  ·subst he
   have : l.filter p = l.filter q := List.filter_congr fun z hz => h3 z (List.mem_cons_of_mem _ hz) fun e => by subst e; exact hy hz
   simp [h1, h2, this]
  ·have hm : x ∈ l := by
    rcases List.mem_cons.1 hx with h | h
    ·exact absurd h.symm he
    ·exact h
   have ih := zS3 hl hm h1 h2 fun z hz => h3 z (List.mem_cons_of_mem _ hz)
   have hpq := h3 y List.mem_cons_self he
   cases hq : q y with
   | true => simp [hpq, hq, ih]
   | false => simp [hpq, hq, ih]
theorem z2w {f : Nat → Int} {a : Nat} (ha : a < N) (h3 : f a = 3) (j : Nat) :
  vC N L f j = vC N L (fun b => if b = a then 2 else f b) j + (if ed L (a : Int) (j : Int) = true then 1 else 0) := by
 unfold vC
 by_cases he : ed L (a : Int) (j : Int) = true
 ·rw [if_pos he]
  refine zS3 (x := (a : Int)) ?_ (List.mem_filter.2 ⟨xK.2 ⟨by omega, by omega⟩, he⟩) (by simp [h3]) (by simp) ?_
  ·exact ((zJE N).filter _).imp fun {x y} hh e => by subst e; simp at hh
  ·intro y hy hne
   obtain ⟨h1, h2⟩ := List.mem_filter.1 hy
   obtain ⟨h4, h5⟩ := xK.1 h1
   obtain ⟨b, rfl⟩ := Int.eq_ofNat_of_zero_le h4
   have h6 : b ≠ a := fun e => hne (by rw [e])
   simp [h6]
 ·rw [if_neg he, Nat.add_zero]
  congr 1
  apply List.filter_congr
  intro x hx
  obtain ⟨h1, h2⟩ := List.mem_filter.1 hx
  obtain ⟨h4, h5⟩ := xK.1 h1
  obtain ⟨b, rfl⟩ := Int.eq_ofNat_of_zero_le h4
  have hne : b ≠ a := fun e => by subst e; exact he h2
  simp [hne]
theorem zQn {k b : Nat} : zUJ N L k b = 2 ↔ vE N L k b = 2 := by
 unfold zUJ
 by_cases h : tE N L k b
 ·have := now3 N L h
  simp [h, this]
 ·rw [if_neg h]
theorem zRJ {f f' : Nat → Int} (h : ∀ b, b < N → (f b = 2 ↔ f' b = 2)) (j : Nat) : vC N L f j = vC N L f' j := by
 unfold vC
 congr 1
 apply List.filter_congr
 intro x hx
 obtain ⟨h4, h5⟩ := xK.1 (List.mem_filter.1 hx).1
 obtain ⟨b, rfl⟩ := Int.eq_ofNat_of_zero_le h4
 have h1 := h b (by omega)
 rw [Int.toNat_natCast, Bool.eq_iff_iff]
 simp [h1]
theorem zRA (h : yL N L) {k j : Nat} (hj : j < N) : (vE N L k j = 3 ∧ vC N L (vE N L k) j = 0) ↔ tE N L k j := by
 rw [zXI, z2J N L hj h.hR]
structure Nxt (N : Nat) (L : List wD) (f : Nat → Int) (nx : List Int) : Prop where
 nd : nx.Nodup
 rg : ∀ x ∈ nx, 0 ≤ x ∧ x < N
 mem : ∀ j : Nat, (j : Int) ∈ nx ↔ j < N ∧ f j = 3 ∧ vC N L f j = 0
theorem zZZ {nx : List Int} (h1 : nx.Nodup) (h2 : ∀ x ∈ nx, 0 ≤ x ∧ x < (N : Int)) : nx.length ≤ N := by
 have := zOo (m := wY N) h1 fun x hx => xK.2 (h2 x hx)
 rwa [tO] at this
theorem zZY {i : Int} {q : Nat} {x : Int} (h : (zLQ N L i)[q]? = some x) : ∃ a : Nat, x = (a : Int) ∧ a < N ∧ ed L i (a : Int) = true := by
 obtain ⟨h1, h2⟩ := List.mem_filter.1 (vW h)
 obtain ⟨h3, h4⟩ := xK.1 h1
 obtain ⟨a, rfl⟩ := Int.eq_ofNat_of_zero_le h3
 exact ⟨a, rfl, by omega, h2⟩
theorem zX4 (i : Int) : (zLQ N L i).Nodup := ((zJE N).filter _).imp fun {x y} hh e => by subst e; simp at hh
theorem zWr {i : Int} {j : Nat} (hj : j < N) : (j : Int) ∈ zLQ N L i ↔ ed L i (j : Int) = true := by
 rw [List.mem_filter, xK]
 exact ⟨fun h => h.2, fun h => ⟨⟨by omega, by omega⟩, h⟩⟩
theorem z1I {α : Type} {l : List α} (hn : l.Nodup) {i : Nat} {x : α} (hx : l[i]? = some x) : x ∉ l.take i := by
 intro hm
 obtain ⟨j, hj⟩ := List.getElem?_of_mem hm
 rw [List.getElem?_take] at hj
 split at hj
 ·rename_i hji
  obtain ⟨h1, h2⟩ := List.getElem?_eq_some_iff.1 hj
  obtain ⟨h3, h4⟩ := List.getElem?_eq_some_iff.1 hx
  have := (List.getElem_inj hn).1 (h2.trans h4.symm)
  omega
 ·cases hj
theorem grp_L7 (h : yL N L) {f : Nat → Int} (l2 : List Int) {a : Nat} (ha : a < N) (h3 : f a = 3) (hca : vC N L f a ≠ 0) (q : Int) (s6 : List Int × List Int × List Int × Int × List Int) {nx : List Int} (hnx : Nxt N L f nx) (hq : 0 ≤ q ∧ q < 1000) :
  ∃ nx', Nxt N L (fun b => if b = a then 2 else f b) nx' ∧
   zW (zDS (zLQ N L (a : Int)) (qN N f, l2, nx, q, qN 40 fun j => (vC N L f j : Int)) (a : Int) s6) (nx, 0, qN 40 fun j => (vC N L f j : Int)) =
    some (.inl (qN N (fun b => if b = a then 2 else f b), List.set l2 a s6.2.2.2.1, nx', q + 1, qN 40 fun j => (vC N L (fun b => if b = a then 2 else f b) j : Int))) := by
 have hN := h.hN
 let f' : Nat → Int := fun b => if b = a then 2 else f b
 let o (t j : Nat) : Nat := vC N L f' j + if ed L (a : Int) (j : Int) = true ∧ (j : Int) ∉ (zLQ N L (a : Int)).take t then 1 else 0
 have ho0 : ∀ j, o 0 j = vC N L f j := fun j => by
  show vC N L f' j + _ = _
  rw [z2w ha h3 j]
  simp [f']
 have hsl := zXM (N := N) (L := L) (a : Int)
 have hl := xB (B := zDS (zLQ N L (a : Int)) (qN N f, l2, nx, q, qN 40 fun j => (vC N L f j : Int)) (a : Int) s6) (fun t (s : List Int × List Int) => (s.1, (t : Int), s.2)) (zLQ N L (a : Int))
  (fun t s => s.2 = qN 40 (fun j => (o t j : Int)) ∧ s.1.Nodup ∧ (∀ x ∈ s.1, 0 ≤ x ∧ x < (N : Int)) ∧ ∀ j : Nat, (j : Int) ∈ s.1 ↔ j < N ∧ f' j = 3 ∧ o t j = 0)
  (fun r => ∃ nx', Nxt N L f' nx' ∧ r = .inl (qN N f', List.set l2 a s6.2.2.2.1, nx', q + 1, qN 40 fun j => (vC N L f' j : Int))) ?_ ?_ (nx, qN 40 fun j => (vC N L f j : Int)) ?_
 ·obtain ⟨r, h1, nx', h2, rfl⟩ := hl
  exact ⟨nx', h2, h1⟩
 ·rintro t x ⟨n1, op⟩ hx ⟨hop, hnd, hrg, hmem⟩
  simp only at hop hnd hrg hmem
  subst hop
  obtain ⟨j0, rfl, hj0, he⟩ := zZY hx
  have hnot := z1I (zX4 (N := N) (L := L) (a : Int)) hx
  have hn1 := zZZ hnd hrg
  have ho1 : o t j0 = vC N L f' j0 + 1 := by
   show vC N L f' j0 + _ = _
   rw [if_pos ⟨he, hnot⟩]
  have ho2 : o (t + 1) j0 = vC N L f' j0 := by
   show vC N L f' j0 + _ = _
   rw [if_neg (fun hh => hh.2 (by rw [xI hx]; simp)), Nat.add_zero]
  have ho3 : ∀ j, j ≠ j0 → o (t + 1) j = o t j := fun j hj => by
   show vC N L f' j + _ = vC N L f' j + _
   congr 1
   have : (j : Int) ∉ (zLQ N L (a : Int)).take (t + 1) ↔ (j : Int) ∉ (zLQ N L (a : Int)).take t := by
    rw [xI hx, List.mem_append, List.mem_singleton]
    have : ¬ (j : Int) = (j0 : Int) := by omega
    simp [this]
   simp only [this]
  have hc0 := cnt_le (N := N) (L := L) f' j0
  have hnew : xO 40 (qN 40 fun j => (o t j : Int)) (j0 : Int) (zR ((yM (qN 40 fun j => (o t j : Int)) (j0 : Int)) - 1)) = qN 40 fun j => (o (t + 1) j : Int) := by
   rw [zNG _ _ (by omega), zRk _ _ (by omega), xQ (by omega) (by omega)]
   apply tU
   intro j _
   by_cases hj : j = j0
   ·subst hj; rw [if_pos rfl, ho1, ho2]; omega
   ·rw [if_neg hj, ho3 j hj]
  have hset : List.set (qN N f) (Int.toNat (a : Int)) 2 = qN N f' := by rw [Int.toNat_natCast, zOm]
  unfold zDS
  simp only [vA hx, if_true, wV hx, zob, zKd (show (40 : Int) = ((40 : Nat) : Int) from rfl) (show j0 < 40 by omega), hnew, zNG 40 (fun j => (o (t + 1) j : Int)) (show j0 < 40 by omega), hset, zNj f' hj0, wX hx (show (zLQ N L (a : Int)).length < 4294967296 by omega), ho2]
  cases hz : (((vC N L f' j0 : Nat) : Int) == 0) && (f' j0 == 3) with
  | true =>
   rw [Bool.and_eq_true, beq_iff_eq, beq_iff_eq] at hz
   have hnin : (j0 : Int) ∉ n1 := fun hm => by have := ((hmem j0).1 hm).2.2; omega
   refine .inl ⟨(n1 ++ [(j0 : Int)], qN 40 fun j => (o (t + 1) j : Int)), ?_, rfl, ?_, ?_, ?_⟩
   ·simp only [hz.1, hz.2, beq_self_eq_true, if_true, zob]
    rw [vX (by simp; omega)]
    rfl
   ·rw [List.nodup_append]
    exact ⟨hnd, by simp, fun x hx y hy e => by rw [List.mem_singleton] at hy; subst hy; subst e; exact hnin hx⟩
   ·intro x hx
    rcases List.mem_append.1 hx with hx | hx
    ·exact hrg x hx
    ·rw [List.mem_singleton] at hx; subst hx; omega
   ·intro j
    rw [List.mem_append, List.mem_singleton]
    by_cases hj : j = j0
    ·subst hj
     exact ⟨fun _ => ⟨hj0, hz.2, by rw [ho2]; omega⟩, fun _ => .inr rfl⟩
    ·rw [ho3 j hj, hmem j]
     exact ⟨fun hh => hh.elim id fun e => absurd (by omega) hj, .inl⟩
  | false =>
   refine .inl ⟨(n1, qN 40 fun j => (o (t + 1) j : Int)), ?_, rfl, hnd, hrg, ?_⟩
   ·cases h1 : (((vC N L f' j0 : Nat) : Int) == 0) with
    | false => simp only [zbf, if_false, zob]
    | true =>
     rw [h1, Bool.true_and] at hz
     simp only [if_true, zob, hz, zbf, if_false]
   ·intro j
    by_cases hj : j = j0
    ·subst hj
     rw [hmem j, ho1, ho2]
     constructor
     ·rintro ⟨_, _, h0⟩; omega
     ·rintro ⟨_, h1, h0⟩
      rw [h0, h1] at hz
      simp at hz
    ·rw [ho3 j hj, hmem j]
 ·rintro ⟨n1, op⟩ ⟨hop, hnd, hrg, hmem⟩
  simp only at hop hnd hrg hmem
  subst hop
  have hoe : ∀ j, j < 40 → o (zLQ N L (a : Int)).length j = vC N L f' j := fun j _ => by
   show vC N L f' j + _ = _
   rw [List.take_length, if_neg]
   ·rfl
   ·rintro ⟨h1, h2⟩
    obtain ⟨x, y, _, h4, _, h6⟩ := h.inN _ _ h1
    exact h2 ((zWr (by omega)).2 h1)
  refine ⟨_, ?_, n1, ⟨hnd, hrg, fun j => ?_⟩, rfl⟩
  ·unfold zDS
   have hset : List.set (qN N f) a 2 = qN N f' := zOm f 2
   have hm : (qN 40 fun j => (o (zLQ N L (a : Int)).length j : Int)) = qN 40 fun j => (vC N L f' j : Int) := tU fun j hj => by rw [hoe j hj]
   simp only [yV, zbf, if_false, Int.toNat_natCast, hset, hm]
   rw [xQ (by omega) (by omega)]
  ·rw [hmem j]
   constructor
   ·rintro ⟨h1, h2, h4⟩; exact ⟨h1, h2, by rw [hoe j (by omega)] at h4; exact h4⟩
   ·rintro ⟨h1, h2, h4⟩; exact ⟨h1, h2, by rw [hoe j (by omega)]; exact h4⟩
 ·refine ⟨?_, hnx.nd, hnx.rg, fun j => ?_⟩
  ·show (qN 40 fun j => (vC N L f j : Int)) = _
   exact tU fun j _ => by rw [ho0]
  ·show (j : Int) ∈ nx ↔ _
   rw [hnx.mem j, ho0]
   show _ ↔ j < N ∧ (if j = a then 2 else f j) = 3 ∧ vC N L f j = 0
   by_cases hj : j = a
   ·subst hj
    rw [if_pos rfl]
    exact ⟨fun hh => absurd hh.2.2 hca, fun hh => absurd hh.2.2 hca⟩
   ·rw [if_neg hj]
structure Mid (N : Nat) (L : List wD) (k : Nat) (f g : Nat → Int) (nx : List Int) : Prop where
 v : ∀ j, j < N → f j = 1 ∨ f j = 2 ∨ f j = 3
 one : ∀ j, j < N → (f j = 1 ↔ vE N L (k + 1) j = 1)
 two : ∀ j, j < N → f j = 2 → vE N L (k + 1) j = 2
 old : ∀ j, j < N → vE N L k j = 2 → f j = 2
 rk : ∀ j, j < N → g j = if f j = vE N L k j then rnk N L k j else ((k + 1 : Nat) : Int)
 nx : Nxt N L f nx
theorem grp_L6 (h : yL N L) {k : Nat} (hk : k ≤ 100) {i : Nat} (hi : tE N L k i) (s6 : List Int × List Int × List Int × Int × List Int) (hs6 : s6.2.2.2.1 = ((k + 1 : Nat) : Int)) (D : Nat → Prop)
  {f g : Nat → Int} {nx : List Int} (hM : Mid N L k f g nx) (hD : ∀ j, D j → f j ≠ 3) (q : Nat) (hq : q < 1000) (z1 z2 z3 z5 : List Int) :
  ∃ f' g' nx', Mid N L k f' g' nx' ∧ (∀ j, j < N → D j ∨ uJ L i j → f' j ≠ 3) ∧
   zW (zB3 (zLQ N L (i : Int)) ((N : Int), L) s6 (z1, z2, z3, (q : Int), z5)) (qN N f, qN N g, nx, 0, qN 40 fun j => (vC N L f j : Int)) =
    some (.inl (qN N f', qN N g', nx', ((q + 1 : Nat) : Int), qN 40 fun j => (vC N L f' j : Int))) := by
 have hN := h.hN
 have hsl := zXM (N := N) (L := L) (i : Int)
 have hl := xB (B := zB3 (zLQ N L (i : Int)) ((N : Int), L) s6 (z1, z2, z3, (q : Int), z5)) (fun t (s : List Int × List Int × List Int × List Int) => (s.1, s.2.1, s.2.2.1, (t : Int), s.2.2.2)) (zLQ N L (i : Int))
  (fun t s => ∃ f' g' nx', Mid N L k f' g' nx' ∧ (∀ j, j < N → D j ∨ (j : Int) ∈ (zLQ N L (i : Int)).take t → f' j ≠ 3) ∧ s = (qN N f', qN N g', nx', qN 40 fun j => (vC N L f' j : Int)))
  (fun r => ∃ f' g' nx', Mid N L k f' g' nx' ∧ (∀ j, j < N → D j ∨ uJ L i j → f' j ≠ 3) ∧ r = .inl (qN N f', qN N g', nx', ((q + 1 : Nat) : Int), qN 40 fun j => (vC N L f' j : Int))) ?_ ?_ (qN N f, qN N g, nx, qN 40 fun j => (vC N L f j : Int)) ⟨f, g, nx, hM, fun j _ hj => by simp at hj; exact hD j hj, rfl⟩
 ·obtain ⟨r, h1, f', g', nx', h2, h3, rfl⟩ := hl
  exact ⟨f', g', nx', h2, h3, h1⟩
 ·rintro t x _ hx ⟨f', g', nx', hM', hD', rfl⟩
  obtain ⟨a, rfl, ha, he⟩ := zZY hx
  by_cases h3 : f' a = 3
  ·have hb : (f' a != 3) = false := by simp [h3]
   have hfi : f' i = 1 := (hM'.one i (zSi (D := (· < N)) hi.1)).2 ((z1f N L).2 hi.1)
   have hca : vC N L f' a ≠ 0 := fun h0 => by have := zXI.1 h0 i (zSi (D := (· < N)) hi.1) he; omega
   have ht : t < 1000 := by have := vK hx; omega
   obtain ⟨n2, hn2, h7⟩ := grp_L7 h (qN N g') ha h3 hca (t : Int) s6 hM'.nx ⟨by omega, by omega⟩
   have hla : vE N L k a ≠ 2 := fun e => by have := hM'.old a ha e; omega
   refine .inl ⟨(qN N (fun b => if b = a then 2 else f' b), qN N (fun b => if b = a then ((k + 1 : Nat) : Int) else g' b), n2, qN 40 fun j => (vC N L (fun b => if b = a then 2 else f' b) j : Int)), ?_, _, _, n2, ⟨?_, ?_, ?_, ?_, ?_, hn2⟩, ?_, rfl⟩
   ·unfold zB3
    simp only [vA hx, if_true, wV hx, zob, zNj _ ha, hb, zbf, if_false, zKk h]
    rw [h7, hs6, zOm]
    rfl
   ·intro j hj
    by_cases e : j = a
    ·simp [e]
    ·simpa [e] using hM'.v j hj
   ·intro j hj
    by_cases e : j = a
    ·subst e
     have h1 := hM'.one j hj
     rw [h3] at h1
     simp only [if_true]
     constructor
     ·intro h2; cases h2
     ·intro h2; have := h1.2 h2; omega
    ·simpa [e] using hM'.one j hj
   ·intro j hj
    by_cases e : j = a
    ·subst e
     intro _
     exact (zS0 N L).2 ⟨i, hi.1, he⟩
    ·simpa [e] using hM'.two j hj
   ·intro j hj hj2
    by_cases e : j = a
    ·subst e; exact absurd hj2 hla
    ·simpa [e] using hM'.old j hj hj2
   ·intro j hj
    by_cases e : j = a
    ·subst e
     rw [if_pos rfl, if_pos rfl, if_neg (fun e2 => hla e2.symm)]
    ·simpa [e] using hM'.rk j hj
   ·intro j hj hjd
    by_cases e : j = a
    ·simp [e]
    ·simp only [e, if_false]
     refine hD' j hj (hjd.imp id fun hm => ?_)
     rw [xI hx, List.mem_append, List.mem_singleton] at hm
     exact hm.resolve_right (by omega)
  ·have hb : (f' a != 3) = true := by simp [h3]
   refine .inl ⟨(qN N f', qN N g', nx', qN 40 fun j => (vC N L f' j : Int)), ?_, f', g', nx', hM', ?_, rfl⟩
   ·unfold zB3
    simp only [vA hx, if_true, wV hx, zob, zNj _ ha, hb, wX hx (show (zLQ N L (i : Int)).length < 4294967296 by omega)]
   ·intro j hj hjd
    by_cases e : j = a
    ·subst e; exact h3
    ·refine hD' j hj (hjd.imp id fun hm => ?_)
     rw [xI hx, List.mem_append, List.mem_singleton] at hm
     exact hm.resolve_right (by omega)
 ·rintro _ ⟨f', g', nx', hM', hD', rfl⟩
  refine ⟨_, ?_, f', g', nx', hM', fun j hj hjd => hD' j hj (hjd.imp id fun he => ?_), rfl⟩
  ·unfold zB3
   simp only [yV, zbf, if_false, yP q (by omega)]
  ·rw [List.take_length]
   exact (zWr hj).2 he
structure zMb (N : Nat) (L : List wD) (k : Nat) (Q : List Int) : Prop where
 nd : Q.Nodup
 rg : ∀ x ∈ Q, 0 ≤ x ∧ x < N
 mem : ∀ j : Nat, (j : Int) ∈ Q ↔ tE N L k j
theorem z0I (h : yL N L) (k : Nat) : Mid N L k (zUJ N L k) (z15 N L k) [] := by
 have h1 : ∀ j, zUJ N L k j = 1 ↔ vE N L (k + 1) j = 1 := fun j => by
  rw [z1f N L]
  unfold zUJ
  by_cases hn : tE N L k j
  ·simp [hn, hn.1]
  ·rw [if_neg hn, z1f N L]
   exact ⟨fun hg => zMi hg, fun hg => Classical.byContradiction fun hc => hn ⟨hg, hc⟩⟩
 refine ⟨fun j _ => ?_, fun j _ => h1 j, fun j _ h2 => zY6 N L (zQn.1 h2), fun j _ h2 => zQn.2 h2, fun j _ => ?_, ⟨List.nodup_nil, (fun x hx => by cases hx), fun j => ?_⟩⟩
 ·unfold zUJ
  by_cases hn : tE N L k j
  ·simp [hn]
  ·rw [if_neg hn]; exact zO7 N L k j
 ·unfold zUJ z15
  by_cases hn : tE N L k j
  ·have := now3 N L hn
   simp [hn, this]
  ·simp [hn]
 ·constructor
  ·intro hm; cases hm
  ·rintro ⟨hj, h3, h0⟩
   exfalso
   have hc : vC N L (zUJ N L k) j = vC N L (vE N L k) j := zRJ (fun b _ => zQn) j
   rw [hc] at h0
   by_cases hn : tE N L k j
   ·unfold zUJ at h3; rw [if_pos hn] at h3; cases h3
   ·unfold zUJ at h3; rw [if_neg hn] at h3
    exact hn ((zRA h hj).1 ⟨h3, h0⟩)
theorem grp_L5 (h : yL N L) {k : Nat} (hk : k ≤ 100) {Q : List Int} (hQ : zMb N L k Q) (z1 z2 z5 : List Int) :
  ∃ Q', zMb N L (k + 1) Q' ∧ zW (zBy (z1, z2, Q, ((k + 1 : Nat) : Int), z5) ((N : Int), L)) (qN N (zUJ N L k), qN N (z15 N L k), ([] : List Int), 0, qN 40 fun j => (vC N L (vE N L k) j : Int)) =
   some (.inl (lb N L (k + 1), rn N L (k + 1), Q', ((k + 2 : Nat) : Int), qN 40 fun j => (vC N L (vE N L (k + 1)) j : Int))) := by
 have hN := h.hN
 have hql := zZZ hQ.nd hQ.rg
 have hl := xB (B := zBy (z1, z2, Q, ((k + 1 : Nat) : Int), z5) ((N : Int), L)) (fun t (s : List Int × List Int × List Int × List Int) => (s.1, s.2.1, s.2.2.1, (t : Int), s.2.2.2)) Q
  (fun t s => ∃ f' g' nx', Mid N L k f' g' nx' ∧ (∀ j, j < N → (∃ i : Nat, (i : Int) ∈ Q.take t ∧ uJ L i j) → f' j ≠ 3) ∧ s = (qN N f', qN N g', nx', qN 40 fun j => (vC N L f' j : Int)))
  (fun r => ∃ Q', zMb N L (k + 1) Q' ∧ r = .inl (lb N L (k + 1), rn N L (k + 1), Q', ((k + 2 : Nat) : Int), qN 40 fun j => (vC N L (vE N L (k + 1)) j : Int))) ?_ ?_ (qN N (zUJ N L k), qN N (z15 N L k), [], qN 40 fun j => (vC N L (vE N L k) j : Int)) ?_
 ·obtain ⟨r, h1, Q', h2, rfl⟩ := hl
  exact ⟨Q', h2, h1⟩
 ·rintro t x _ hx ⟨f', g', nx', hM, hD, rfl⟩
  have ht := vK hx
  obtain ⟨h0, h1⟩ := hQ.rg x (vW hx)
  obtain ⟨i, rfl⟩ := Int.eq_ofNat_of_zero_le h0
  have hi := (hQ.mem i).1 (vW hx)
  obtain ⟨f2, g2, n2, hM2, hD2, h6⟩ := grp_L6 h hk hi (z1, z2, Q, ((k + 1 : Nat) : Int), z5) rfl (fun j => j < N ∧ ∃ i : Nat, (i : Int) ∈ Q.take t ∧ uJ L i j) hM (fun j hj => hD j hj.1 hj.2) t (by omega) (qN N f') (qN N g') nx' (qN 40 fun j => (vC N L f' j : Int))
  refine .inl ⟨(qN N f2, qN N g2, n2, qN 40 fun j => (vC N L f2 j : Int)), ?_, f2, g2, n2, hM2, ?_, rfl⟩
  ·unfold zBy
   simp only [vA hx, if_true, wV hx, zob, zKk h]
   rw [h6]
  ·rintro j hj ⟨i', hi', he⟩
   rw [xI hx, List.mem_append, List.mem_singleton] at hi'
   rcases hi' with hi' | hi'
   ·exact hD2 j hj (.inl ⟨hj, i', hi', he⟩)
   ·have : i' = i := by omega
    subst this
    exact hD2 j hj (.inr he)
 ·rintro _ ⟨f', g', nx', hM, hD, rfl⟩
  rw [List.take_length] at hD
  have hf : ∀ j, j < N → f' j = vE N L (k + 1) j := fun j hj => by
   rcases hM.v j hj with h1 | h1 | h1
   ·rw [h1, (hM.one j hj).1 h1]
   ·rw [h1, hM.two j hj h1]
   ·rcases zO7 N L (k + 1) j with h2 | h2 | h2
    ·have := (hM.one j hj).2 h2; omega
    ·exfalso
     rw [z0l] at h2
     by_cases hn : tE N L k j
     ·rw [if_pos hn] at h2; cases h2
     ·rw [if_neg hn] at h2
      by_cases hc : vE N L k j = 3 ∧ att (uJ L) (tE N L k) j
      ·obtain ⟨m, h4, h5⟩ := hc.2
       exact hD j hj ⟨m, (hQ.mem m).2 h4, h5⟩ h1
      ·rw [if_neg hc] at h2
       have := hM.old j hj h2; omega
    ·rw [h1, h2]
  have hg : ∀ j, j < N → g' j = rnk N L (k + 1) j := fun j hj => by
   rw [hM.rk j hj, hf j hj, rnk]
  have hc : ∀ j, vC N L f' j = vC N L (vE N L (k + 1)) j := zRJ fun b hb => by rw [hf b hb]
  refine ⟨_, ?_, nx', ⟨hM.nx.nd, hM.nx.rg, fun j => ?_⟩, rfl⟩
  ·unfold zBy
   have e1 : qN N f' = lb N L (k + 1) := tU hf
   have e2 : qN N g' = rn N L (k + 1) := tU hg
   have e3 : (qN 40 fun j => (vC N L f' j : Int)) = qN 40 fun j => (vC N L (vE N L (k + 1)) j : Int) := tU fun j _ => by rw [hc]
   simp only [yV, zbf, if_false, e1, e2, e3, yP (k + 1) (show k + 1 + 1 < 9223372036854775808 by omega)]
  ·rw [hM.nx.mem j, hc j]
   constructor
   ·rintro ⟨h1, h2, h3⟩; rw [hf j h1] at h2; exact (zRA h h1).1 ⟨h2, h3⟩
   ·intro hn
    have h1 : j < N := zSi (D := (· < N)) hn.1
    obtain ⟨h2, h3⟩ := (zRA h h1).2 hn
    exact ⟨h1, by rw [hf j h1]; exact h2, h3⟩
 ·refine ⟨zUJ N L k, z15 N L k, [], z0I h k, fun j _ hj => by obtain ⟨i, hi, _⟩ := hj; simp at hi, ?_⟩
  have : (qN 40 fun j => (vC N L (vE N L k) j : Int)) = qN 40 fun j => (vC N L (zUJ N L k) j : Int) := tU fun j _ => by rw [zRJ fun b _ => zQn]
  rw [this]
open Classical in
theorem grp_L4 (h : yL N L) {k : Nat} {Q : List Int} (hQ : zMb N L k Q) (z1 z2 z5 : List Int) :
  zW (zDN (z1, z2, Q, ((k + 1 : Nat) : Int), z5)) (lb N L k, rn N L k, 0) = some (qN N (zUJ N L k), qN N (z15 N L k)) := by
 have hN := h.hN
 have hql := zZZ hQ.nd hQ.rg
 have hl := xB (B := zDN (z1, z2, Q, ((k + 1 : Nat) : Int), z5)) (fun t (s : List Int × List Int) => (s.1, s.2, (t : Int))) Q
  (fun t s => s = (qN N (fun j => if (j : Int) ∈ Q.take t then 1 else vE N L k j), qN N (fun j => if (j : Int) ∈ Q.take t then ((k + 1 : Nat) : Int) else rnk N L k j)))
  (fun r => r = (qN N (zUJ N L k), qN N (z15 N L k))) ?_ ?_ (lb N L k, rn N L k) (by simp)
 ·obtain ⟨r, h1, rfl⟩ := hl
  exact h1
 ·rintro t x _ hx rfl
  obtain ⟨h0, h1⟩ := hQ.rg x (vW hx)
  obtain ⟨i, rfl⟩ := Int.eq_ofNat_of_zero_le h0
  refine .inl ⟨_, ?_, rfl⟩
  unfold zDN
  simp only [vA hx, if_true, wV hx, zob, zNj _ (show i < N by omega), Int.toNat_natCast, zOm, wX hx (show Q.length < 4294967296 by omega)]
  congr 3
  ·apply tU
   intro j _
   rw [xI hx]
   by_cases e : j = i
   ·subst e; simp
   ·have : ¬ (j : Int) = (i : Int) := by omega
    simp [e, this]
  ·congr 1
   apply tU
   intro j _
   rw [xI hx]
   by_cases e : j = i
   ·subst e; simp
   ·have : ¬ (j : Int) = (i : Int) := by omega
    simp [e, this]
 ·rintro _ rfl
  rw [List.take_length]
  refine ⟨_, ?_, rfl⟩
  unfold zDN
  simp only [yV, zbf, if_false]
  have e1 : (qN N fun j => if (j : Int) ∈ Q then 1 else vE N L k j) = qN N (zUJ N L k) := tU fun j _ => by simp only [hQ.mem j]; rfl
  have e2 : (qN N fun j => if (j : Int) ∈ Q then ((k + 1 : Nat) : Int) else rnk N L k j) = qN N (z15 N L k) := tU fun j _ => by simp only [hQ.mem j]; rfl
  rw [e1, e2]
theorem grp_L1 (h : yL N L) : zW (zDL ((N : Int), L)) (0, List.replicate 40 (0 : Int)) = some (qN 40 fun j => (vC N L (vE N L 0) j : Int)) := by
 have hN := h.hN
 have hL := h.len
 have hl := xB (B := zDL ((N : Int), L)) (fun t (s : List Int) => ((t : Int), s)) L
  (fun t s => s = qN 40 fun j => (((L.take t).filter fun p => p.2 == (j : Int)).length : Int)) (fun r => r = qN 40 fun j => (vC N L (vE N L 0) j : Int)) ?_ ?_ (List.replicate 40 (0 : Int)) (by rw [zXG]; simp)
 ·obtain ⟨r, h1, rfl⟩ := hl
  exact h1
 ·rintro t p _ hp rfl
  obtain ⟨a, b, ha, hb, rfl⟩ := zK1 (h.inr p (vW hp))
  have hle : ((L.take t).filter fun p => p.2 == (b : Int)).length ≤ 1600 := Nat.le_trans (List.length_filter_le _ _) (Nat.le_trans (List.length_take_le _ _) (by have := vK hp; omega))
  refine .inl ⟨_, ?_, rfl⟩
  unfold zDL
  simp only [vA hp, if_true, wV hp, zob, zKd (show (40 : Int) = ((40 : Nat) : Int) from rfl) (show b < 40 by omega), wX hp h.len', zNG 40 _ (show b < 40 by omega), zRk 40 _ (show b < 40 by omega)]
  congr 3
  apply tU
  intro j _
  rw [xI hp, List.filter_append, List.length_append]
  by_cases e : j = b
  ·subst e
   rw [if_pos rfl, xQ (by omega) (by omega)]
   simp
  ·have : ¬ (b : Int) = (j : Int) := by omega
   simp [e, this]
 ·rintro _ rfl
  rw [List.take_length]
  refine ⟨_, ?_, rfl⟩
  unfold zDL
  have e1 : (qN 40 fun j => ((L.filter fun p => p.2 == (j : Int)).length : Int)) = qN 40 fun j => (vC N L (vE N L 0) j : Int) := tU fun j _ => by
   have h1 : (L.filter fun p => p.2 == (j : Int)).length = (yS N L (j : Int)).length := by rw [← z2v h, List.length_map]
   rw [h1]
   unfold vC
   rw [List.filter_eq_self.2]
   intro x hx
   obtain ⟨q, hq⟩ := List.getElem?_of_mem hx
   obtain ⟨a, rfl, ha, _⟩ := z2N hq
   have : vE N L 0 a = 3 := by
    have := congrArg (fun l : List Int => l[a]?) (zVe (N := N) (L := L))
    simpa [zIb, ha] using this
   simp [this]
  simp only [yV, zbf, if_false, e1]
theorem grp_L2 (h : yL N L) : ∃ Q, zMb N L 0 Q ∧ zW (zDT ((N : Int), L) (qN 40 fun j => (vC N L (vE N L 0) j : Int))) (([] : List Int), 0) = some Q := by
 have hN := h.hN
 refine ⟨(wY N).filter fun j => vC N L (vE N L 0) j.toNat == 0, ⟨((zJE N).filter _).imp fun {x y} hh e => by subst e; simp at hh, fun x hx => xK.1 (List.mem_filter.1 hx).1, fun j => ?_⟩, ?_⟩
 ·rw [List.mem_filter, xK, Int.toNat_natCast, beq_iff_eq]
  have h0 : ∀ j, j < N → vE N L 0 j = 3 := fun j hj => by
   have := congrArg (fun l : List Int => l[j]?) (zVe (N := N) (L := L))
   simpa [zIb, hj] using this
  constructor
  ·rintro ⟨h1, h2⟩
   exact (zRA h (show j < N by omega)).1 ⟨h0 j (by omega), h2⟩
  ·intro hn
   have hj : j < N := zSi (D := (· < N)) hn.1
   exact ⟨⟨by omega, by omega⟩, ((zRA h hj).2 hn).2⟩
 ·have hl := zEk (B := zDT ((N : Int), L) (qN 40 fun j => (vC N L (vE N L 0) j : Int))) (wY N) (fun s j => if (vC N L (vE N L 0) j.toNat == 0) then s ++ [j] else s) id (fun i s => s.length ≤ i) ([] : List Int) (by simp) ?_ ?_
  ·have h2 := zF4 (fun j : Int => vC N L (vE N L 0) j.toNat == 0) id (wY N) []
   simp only [id, List.map_id, List.nil_append] at h2
   rw [hl.1, h2]; rfl
  ·intro i x s hx hI
   obtain ⟨rfl, hi⟩ := zP0 hx
   unfold zDT
   have hd : decide ((i : Int) < (N : Int)) = true := decide_eq_true (by omega)
   simp only [hd, if_true, zKd (show (40 : Int) = ((40 : Nat) : Int) from rfl) (show i < 40 by omega), zob, zNG 40 _ (show i < 40 by omega), yP i (by omega), Int.toNat_natCast]
   have hz : (((vC N L (vE N L 0) i : Nat) : Int) == 0) = (vC N L (vE N L 0) i == 0) := by rw [Bool.eq_iff_iff, beq_iff_eq, beq_iff_eq]; omega
   rw [hz]
   by_cases hc : (vC N L (vE N L 0) i == 0) = true
   ·rw [if_pos hc, if_pos hc, vX (by simp; omega)]
    exact ⟨rfl, by simp; omega⟩
   ·rw [if_neg hc, if_neg hc]
    exact ⟨rfl, by omega⟩
  ·intro s _
   rw [tO]
   unfold zDT
   simp
theorem zSF (h : yL N L) : zDb ((N : Int), L) = some (zTA N L, z2V N L) := by
 have hN := h.hN
 unfold zDb
 simp only
 rw [zXm 3 hN, zZt (by omega)]
 simp only [zob]
 rw [grp_L1 h]
 simp only [zob]
 obtain ⟨Q0, hQ0, h2⟩ := grp_L2 h
 rw [h2, ← zVe (N := N) (L := L)]
 simp only [zob]
 have hstep : ∀ k, k ≤ N → ∀ Q, zMb N L k Q → (Q = [] ∧ zBH ((N : Int), L) (lb N L k, rn N L k, Q, ((k + 1 : Nat) : Int), qN 40 fun j => (vC N L (vE N L k) j : Int)) = some (.inr (lb N L k, rn N L k))) ∨
   ∃ Q', zMb N L (k + 1) Q' ∧ zBH ((N : Int), L) (lb N L k, rn N L k, Q, ((k + 1 : Nat) : Int), qN 40 fun j => (vC N L (vE N L k) j : Int)) = some (.inl (lb N L (k + 1), rn N L (k + 1), Q', ((k + 2 : Nat) : Int), qN 40 fun j => (vC N L (vE N L (k + 1)) j : Int))) := by
  intro k hk Q hQ
  by_cases he : Q = []
  ·subst he
   refine .inl ⟨rfl, ?_⟩
   unfold zBH
   simp [len]
  ·obtain ⟨Q', hQ', h5⟩ := grp_L5 h (k := k) (by omega) hQ (lb N L k) (rn N L k) (qN 40 fun j => (vC N L (vE N L k) j : Int))
   refine .inr ⟨Q', hQ', ?_⟩
   have hd : decide (0 < len Q) = true := decide_eq_true (by have := List.length_pos_iff.2 he; simp only [len]; omega)
   unfold zBH
   simp only [hd, if_true]
   rw [grp_L4 h hQ]
   simp only [zob]
   rw [h5]
 have hl := zX0 (B := zBH ((N : Int), L)) (fun (Q : List Int) k => (lb N L k, rn N L k, Q, ((k + 1 : Nat) : Int), qN 40 fun j => (vC N L (vE N L k) j : Int))) N (fun k Q => zMb N L k Q) (fun r => r = (zTA N L, z2V N L)) ?_ ?_ Q0 hQ0
 ·obtain ⟨r, h1, rfl⟩ := hl
  exact h1
 ·intro k Q hk hQ
  rcases hstep k (by omega) Q hQ with ⟨he, h1⟩ | ⟨Q', hQ', h1⟩
  ·subst he
   have hno : ∀ i, ¬ tE N L k i := fun i hi => by have := (hQ.mem i).2 hi; cases this
   obtain ⟨e1, e2⟩ := z1q (by omega) hno
   exact .inr ⟨_, h1, by rw [e1, e2]⟩
  ·exact .inl ⟨Q', h1, hQ'⟩
 ·intro Q hQ
  rcases hstep N (Nat.le_refl _) Q hQ with ⟨he, h1⟩ | ⟨Q', hQ', h1⟩
  ·subst he
   have hno : ∀ i, ¬ tE N L N i := fun i => zTL N L
   obtain ⟨e1, e2⟩ := z1q (Nat.le_refl _) hno
   exact ⟨_, h1, by rw [e1, e2]⟩
  ·exfalso
   have hne : Q ≠ [] := by
    intro e
    subst e
    unfold zBH at h1
    simp [len] at h1
   obtain ⟨x, hx⟩ := List.exists_mem_of_ne_nil Q hne
   obtain ⟨h3, _⟩ := hQ.rg x hx
   obtain ⟨i, rfl⟩ := Int.eq_ofNat_of_zero_le h3
   exact zTL N L ((hQ.mem i).1 hx)
theorem zSR (h : yL N L) : zCo ((N : Int), L) = some (zTA N L) := by
 unfold zCo
 rw [zSF h]
 rfl
end
end
section
variable {b : zM} {l : List zH} {D : List zF} {c : Nat}
theorem uP.runsA (h : uP b l) (hs : tF b D c) : z3C b l := Go.GD.z2W h.toFormB (runSz hs h)
noncomputable def zMh (b : zM) (l : List zH) (f : Int) (q : Int) (r : qK) (ys : List zF) (s : List Int) : List zH :=
 ((xG l l.length ys s).filter fun s => s.any (fun k => decide (f ≤ k)) && uR b l q r s).map fun s => (-1, q, s, r.2.2.2.2)
theorem zXw {f q : Int} {r : qK} {s : List Int} : zMh b l f q r [] s = if s.any (fun k => decide (f ≤ k)) && uR b l q r s then [(-1, q, s, r.2.2.2.2)] else [] := by
 unfold zMh
 simp only [xG, List.filter_cons, List.filter_nil]
 split <;> rfl
theorem zW0 {f q : Int} {r : qK} {y : zF} {ys : List zF} {s : List Int} : zMh b l f q r (y :: ys) s = (wY l.length).flatMap fun i => match zD l i with | some a => if a.2.2.2 == y then zMh b l f q r ys (s ++ [i]) else [] | none => [] := by
 unfold zMh
 simp only [xG, List.filter_flatMap, List.map_flatMap]
 congr 1
 funext i
 cases zD l i with
 | none => rfl
 | some a =>
  dsimp only
  split <;> rfl
def xY (l new h res : List zH) : Prop := res = (new ++ h).take (41 - l.length)
theorem zTb {α : Type} (n : Nat) (x y : List α) : (x.take n ++ y).take n = (x ++ y).take n := by
 by_cases h : x.length ≤ n
 ·rw [List.take_of_length_le h]
 ·rw [List.take_append_of_le_length (by rw [List.length_take]; omega), List.take_append_of_le_length (by omega), List.take_take, Nat.min_self]
theorem xY.nil {new : List zH} (h : l.length + new.length ≤ 41) : xY l new [] new := by
 unfold xY
 rw [List.append_nil, List.take_of_length_le (by omega)]
theorem xY.trans {new h1 r1 h2 r2 : List zH} (a : xY l new h1 r1) (b : xY l r1 h2 r2) : xY l new (h1 ++ h2) r2 := by
 unfold xY at a b ⊢
 rw [b, a, zTb, List.append_assoc]
theorem xY.le {new h res : List zH} (hl : l.length ≤ 41) (a : xY l new h res) : l.length + res.length ≤ 41 := by
 unfold xY at a
 rw [a, List.length_take]
 omega
theorem xY.stay {new h : List zH} (hf : l.length + new.length = 41) : xY l new h new := by
 unfold xY
 rw [List.take_append_of_le_length (by omega), List.take_of_length_le (by omega)]
theorem xY.all {new h : List zH} (hf : l.length + new.length + h.length ≤ 41) : xY l new h (new ++ h) := by
 unfold xY
 rw [List.take_of_length_le (by rw [List.length_append]; omega)]
theorem zVV (b : zM) (l new : List zH) (f : Int) (h1 : l.length ≤ 100) (h2 : new.length ≤ 100) : zBI (b, l, new, f) = some (decide (40 < l.length + new.length)) := by
 unfold zBI
 simp only [len]
 rw [xQ (by omega) (by omega)]
 refine congrArg some (decide_eq_decide.2 ?_)
 omega
theorem z0H {s : List Int} (h : s.length < 4294967296) : zDi s = some s := by
 simp [zDi, vX (l := ([] : List Int)) (m := s) (by simpa using h)]
theorem zUC (s : List Int) (b : zM) (l new : List zH) (f : Int) (h : s.length < 1000000) : zAA s (b, l, new, f) = some (s.any fun k => decide (f ≤ k)) := by
 unfold zAA zAF
 obtain ⟨r, h1, h2⟩ := xB (B := zAO s (b, l, new, f)) (fun i (_ : Unit) => (i : Int)) s (fun i _ => ∀ (j : Nat) k, j < i → s[j]? = some k → ¬ f ≤ k) (fun r => decide (0 ≤ r) = s.any fun k => decide (f ≤ k)) (fun i k _ hi hI => by
  unfold zAO zD5
  simp only [vA hi, if_true, wV hi, zob, wX hi (show s.length < 4294967296 by omega)]
  by_cases hk : f ≤ k
  ·simp only [hk, decide_true, if_true]
   refine .inr ⟨(i : Int), rfl, ?_⟩
   have : (s.any fun k => decide (f ≤ k)) = true := List.any_eq_true.2 ⟨k, vW hi, by simpa using hk⟩
   rw [this]
   exact decide_eq_true (by omega)
  ·simp only [hk, decide_false, zbf, if_false]
   exact .inl ⟨(), by trivial, fun j x hj hx => by
    by_cases hji : j = i
    ·subst hji; rw [hi] at hx; cases hx; exact hk
    ·exact hI j x (by omega) hx⟩) (fun _ hI => ⟨-1, by
  unfold zAO
  simp only [yV, zbf, if_false], by
  have : (s.any fun k => decide (f ≤ k)) = false := by
   rw [List.any_eq_false]
   intro k hk
   obtain ⟨j, hj⟩ := List.mem_iff_getElem?.1 hk
   simpa using hI j k (vK hj) hj
  rw [this]
  rfl⟩) () (fun j k hj => by omega)
 rw [show ((0 : Nat) : Int) = 0 from rfl] at h1
 rw [h1]
 simp only [zob, h2]
theorem zV5 (hs : tF b D c) (h : uP b l) (hl : l.length ≤ 40) {f : Int} {q : Int} {r : qK} (hr : zD b.2.1 q = some r) : ∀ (k : Nat) (ys : List zF) (s : List Int) (new : List zH), ys = r.2.2.2.1.drop s.length → s.length ≤ r.2.2.2.1.length → ys.length < k → (∀ k ∈ s, 0 ≤ k ∧ k < l.length) → l.length + new.length ≤ 41 →
  ∃ res, zA7 k (b, l, new, f) q s = some res ∧ xY l new (zMh b l f q r ys s) res := by
 have hb := hs.body hr
 intro k
 induction k with
 | zero => intro ys _ _ _ _ hk; omega
 | succ k ih =>
  intro ys s new hys hsl hk hsub hnew
  show ∃ res, zBE (zA7 k) (b, l, new, f) q s = some res ∧ _
  unfold zBE
  simp only [hr, zob, zVV b l new f (by omega) (by omega)]
  by_cases hf : 40 < l.length + new.length
  ·simp only [hf, decide_true, if_true]
   exact ⟨new, rfl, xY.stay (by omega)⟩
  ·simp only [hf, decide_false, zbf, if_false]
   cases ys with
   | nil =>
    have hlen : s.length = r.2.2.2.1.length := by
     have := congrArg List.length hys
     simp at this
     omega
    have hd : decide (len s < len r.2.2.2.1) = false := by simp [len]; omega
    simp only [hd, zbf, if_false, yC, zob]
    rw [zUC s b l new f (by omega), zXw]
    simp only [zob]
    rw [zX3 h.toFormC (h.runsA hs) hr hsub (by omega)]
    cases h1 : s.any fun k => decide (f ≤ k) with
    | false =>
     simp only [zbf, if_false, zob, Bool.false_and]
     exact ⟨new, rfl, xY.nil hnew⟩
    | true =>
     simp only [if_true, zob, Bool.true_and]
     cases h2 : uR b l q r s with
     | false =>
      simp only [zbf, if_false]
      exact ⟨new, rfl, xY.nil hnew⟩
     | true =>
      simp only [if_true]
      rw [vX (by simp; omega)]
      exact ⟨_, rfl, xY.all (by simp only [List.length_singleton]; omega)⟩
   | cons y ys =>
    have hlen : s.length < r.2.2.2.1.length := by
     have := congrArg List.length hys
     simp at this
     omega
    have hd : decide (len s < len r.2.2.2.1) = true := by simp [len]; omega
    have hy : r.2.2.2.1[s.length]? = some y := by
     have := congrArg (fun l => l[0]?) hys
     simpa using this.symm
    have hys2 : ys = r.2.2.2.1.drop (s.length + 1) := by
     have := congrArg List.tail hys
     simpa using this
    have hix : zD r.2.2.2.1 (len s) = some y := by rw [show len s = ((s.length : Nat) : Int) from rfl, xC]; exact hy
    simp only [hd, if_true]
    have hloop := xB (B := zAg (b, l, new, f) r s (zA7 k) q) (fun i (t : List zH) => ((i : Int), t)) (wY l.length)
     (fun i t => xY l new (((wY l.length).take i).flatMap fun i => match zD l i with | some a => if a.2.2.2 == y then zMh b l f q r ys (s ++ [i]) else [] | none => []) t)
     (fun res => ∃ t, res = .inr t ∧ xY l new (zMh b l f q r (y :: ys) s) t) (fun i x t hi hI => .inl ?_) (fun t hI => ?_) new (xY.nil hnew)
    ·obtain ⟨res, h1, t, h2, h3⟩ := hloop
     rw [show ((0 : Nat) : Int) = 0 from rfl] at h1
     subst h2
     exact ⟨t, by rw [h1]; rfl, h3⟩
    ·obtain ⟨rfl, hin⟩ := zP0 hi
     obtain ⟨a, ha⟩ := zH1 (l := l) (j := (i : Int)) (by omega) (by omega)
     have hdl : decide ((i : Int) < len l) = true := by simp [len]; omega
     have ht := hI.le (by omega)
     unfold zAg
     simp only [hdl, if_true, ha, zob, hix, yP i (by omega)]
     rw [xI hi, List.flatMap_append, List.flatMap_singleton, ha]
     dsimp only
     cases hc : a.2.2.2 == y with
     | false =>
      simp only [zbf, if_false, List.append_nil]
      exact ⟨t, rfl, hI⟩
     | true =>
      simp only [if_true]
      rw [z0H (by omega)]
      simp only [zob]
      rw [vX (by simp; omega)]
      simp only [zob]
      obtain ⟨res, e1, e2⟩ := ih ys (s ++ [(i : Int)]) t (by simpa using hys2) (by simp; omega) (by simp at hk; omega) (fun k hk => by
       rcases List.mem_append.1 hk with hk | hk
       ·exact hsub k hk
       ·simp only [List.mem_singleton] at hk; subst hk; omega) ht
      rw [e1]
      exact ⟨res, rfl, hI.trans e2⟩
    ·refine ⟨_, ?_, t, rfl, ?_⟩
     ·unfold zAg
      have hdl : decide (((wY l.length).length : Int) < len l) = false := by rw [tO]; simp [len]
      simp only [hdl, zbf, if_false]
     ·rw [zW0]
      rw [List.take_length] at hI
      exact hI
theorem z0F (hs : tF b D c) (h : uP b l) (hl : l.length ≤ 40) {f : Int} {q : Int} {r : qK} (hr : zD b.2.1 q = some r) (new : List zH) (hnew : l.length + new.length ≤ 41) :
  zBF (b, l, new, f) q [] = some ((new ++ zMh b l f q r r.2.2.2.1 []).take (41 - l.length)) :=
 zMF 5 fun k hk => by
  obtain ⟨res, h1, h2⟩ := zV5 hs h hl hr k r.2.2.2.1 [] new (f := f) (by simp) (by simp) (by have := hs.body hr; omega) (by simp) hnew
  rw [h1, h2]
theorem zY8 {f : Int} {first : Bool} {q : Int} {r : qK} (hr : zD b.2.1 q = some r) : tP b l f first q = if r.2.2.2.1 = [] then (if first then [(-1, q, [], r.2.2.2.2)] else []) else zMh b l f q r r.2.2.2.1 [] := by
 unfold tP zMh
 rw [hr]
 dsimp only
 split
 ·rename_i hb
  rw [hb]
  simp only [xG, List.filter_cons, List.filter_nil]
  cases first <;> simp [zJt, uR]
 ·rename_i hb
  congr 1
  refine List.filter_congr fun s hs => ?_
  obtain ⟨t, ht, htl, _⟩ := (zMq l l.length r.2.2.2.1 [] s).1 hs
  rw [List.nil_append] at ht
  subst ht
  unfold zJt
  have : s.isEmpty = false := by
   cases s with
   | nil => exact absurd (List.eq_nil_of_length_eq_zero htl.symm) hb
   | cons _ _ => rfl
  rw [this, Bool.and_false, Bool.or_false]
theorem zUj (h : zIV b) : zW (zDH b) (0, ([] : List zH)) = some (zKl b) := by
 have hn := h.np
 have hl := zIE b
 have := (zNb (B := zDH b) (zKl b) (fun s a => s ++ [a]) (fun s => s) (fun i s => s.length ≤ i) [] (by simp) (fun i a s hi hs => by
  obtain ⟨p, hp, rfl⟩ := zFy hi
  have hlt := vK hp
  refine ⟨?_, by simp; omega⟩
  unfold zDH
  simp only [vA hp, if_true, wV hp, zob]
  rw [vX (by simp; omega)]
  simp only [zob, wX hp (by omega)]) (fun s _ => by
  unfold zDH
  rw [hl]
  simp only [yV, zbf, if_false])).1
 rw [this]
 have := zGd (fun a : zH => a) (zKl b) []
 simpa using this
theorem zVB (hs : tF b D c) (h : uP b l) (hl : l.length ≤ 40) {f : Int} {r : Nat} (hr0 : 1 ≤ r) (hr : r < 1000) (z : List zH) :
  ∃ res, zW (zBw b ((r : Int), l, z, f)) (0, []) = some res ∧
   (if 40 < (l ++ uL b l f (decide (r ≤ 1))).length then ∃ x, res = .inr (.inr (l, x, f)) ∧ l.length + x.length = 41 else res = .inl (uL b l f (decide (r ≤ 1)))) := by
 have hnr := hs.valid.nr
 have hone : ((r : Int) == 1) = decide (r ≤ 1) := by
  rw [Bool.eq_iff_iff]
  simp only [beq_iff_eq, decide_eq_true_eq]
  omega
 refine xB (B := zBw b ((r : Int), l, z, f)) (fun i (t : List zH) => ((i : Int), t)) (wY b.2.1.length)
  (fun i t => t = ((wY b.2.1.length).take i).flatMap (tP b l f (decide (r ≤ 1))) ∧ l.length + t.length ≤ 40)
  (fun res => if 40 < (l ++ uL b l f (decide (r ≤ 1))).length then ∃ x, res = .inr (.inr (l, x, f)) ∧ l.length + x.length = 41 else res = .inl (uL b l f (decide (r ≤ 1)))) (fun i x t hi hI => ?_) (fun t hI => ?_) [] ⟨by simp, by simpa using hl⟩
 ·obtain ⟨rfl, hin⟩ := zP0 hi
  obtain ⟨ru, hru⟩ := zH1 (l := b.2.1) (j := (i : Int)) (by omega) (by omega)
  have hd : decide ((i : Int) < len b.2.1) = true := by simp [len]; omega
  obtain ⟨hI1, hI2⟩ := hI
  have hnext : ((wY b.2.1.length).take (i + 1)).flatMap (tP b l f (decide (r ≤ 1))) = t ++ tP b l f (decide (r ≤ 1)) i := by
   rw [xI hi, List.flatMap_append, List.flatMap_singleton, ← hI1]
  have hpart : (t ++ tP b l f (decide (r ≤ 1)) i).length ≤ (uL b l f (decide (r ≤ 1))).length := by
   rw [← hnext]
   unfold uL
   conv => rhs; rw [← List.take_append_drop (i + 1) (wY b.2.1.length), List.flatMap_append]
   rw [List.length_append]
   omega
  have hs7 : (if decide (0 < len ru.2.2.2.1) = true then (zBF (b, l, t, f) i []).bind fun r2 => some r2
    else if ((r : Int) == 1) = true then (wB t [((-1 : Int), (i : Int), ([] : List Int), ru.2.2.2.2)]).bind fun x4 => some x4 else some t) = some ((t ++ tP b l f (decide (r ≤ 1)) i).take (41 - l.length)) := by
   rw [zY8 hru, hone]
   by_cases hb : ru.2.2.2.1 = []
   ·have hd0 : decide (0 < len ru.2.2.2.1) = false := by rw [hb]; rfl
    rw [if_pos hb]
    simp only [hd0, zbf, if_false]
    cases hr1 : decide (r ≤ 1) with
    | true =>
     simp only [if_true]
     rw [vX (by simp; omega)]
     simp only [zob]
     rw [List.take_of_length_le (by simp; omega)]
    | false =>
     simp only [zbf, if_false, List.append_nil]
     rw [List.take_of_length_le (by omega)]
   ·have hd0 : decide (0 < len ru.2.2.2.1) = true := by
     have := List.length_pos_iff.2 hb
     simp [len]; omega
    rw [if_neg hb]
    simp only [hd0, if_true]
    rw [z0F hs h hl hru t (by omega)]
    rfl
  unfold zBw
  simp only [hd, if_true, hru, zob]
  rw [hs7]
  simp only [zob]
  rw [zVV b l _ f (by omega) (by rw [List.length_take]; omega)]
  simp only [zob, yP i (by omega)]
  by_cases hlim : 40 < l.length + (t ++ tP b l f (decide (r ≤ 1)) i).length
  ·have hx : l.length + ((t ++ tP b l f (decide (r ≤ 1)) i).take (41 - l.length)).length = 41 := by rw [List.length_take]; omega
   have hd4 : decide (40 < l.length + ((t ++ tP b l f (decide (r ≤ 1)) i).take (41 - l.length)).length) = true := by simp only [decide_eq_true_eq]; omega
   simp only [hd4, if_true]
   refine .inr ⟨_, rfl, ?_⟩
   rw [if_pos (by rw [List.length_append]; omega)]
   exact ⟨_, rfl, hx⟩
  ·have hx : (t ++ tP b l f (decide (r ≤ 1)) i).take (41 - l.length) = t ++ tP b l f (decide (r ≤ 1)) i := List.take_of_length_le (by omega)
   rw [hx]
   have hd4 : decide (40 < l.length + (t ++ tP b l f (decide (r ≤ 1)) i).length) = false := by simp only [decide_eq_false_iff_not]; omega
   simp only [hd4, zbf, if_false]
   exact .inl ⟨_, rfl, hnext.symm, by omega⟩
 ·obtain ⟨hI1, hI2⟩ := hI
  rw [List.take_length] at hI1
  have : t = uL b l f (decide (r ≤ 1)) := hI1
  unfold zBw
  have hd : decide (((wY b.2.1.length).length : Int) < len b.2.1) = false := by rw [tO]; simp [len]
  simp only [hd, zbf, if_false]
  refine ⟨_, rfl, ?_⟩
  rw [if_neg (by rw [List.length_append, ← this]; omega), this]
theorem zUq (hs : tF b D c) : ∀ (k : Nat) (l z : List zH) (f : Int) (r : Nat), uP b l → l.length ≤ 40 → 41 ≤ l.length + k → r + k ≤ 900 → 1 ≤ r →
  ∃ l' x' f', zW (zAp b) ((r : Int), l, z, f) = some (l', x', f') ∧ l'.length ≤ 100 ∧ x'.length ≤ 100 ∧
   match zL3 b k l f (decide (r ≤ 1)) with | none => 40 < l'.length + x'.length | some y => l' = y ∧ x' = [] ∧ y.length ≤ 40 := by
 intro k
 induction k with
 | zero => intros; omega
 | succ k ih =>
  intro l z f r h hl hk hr h1
  obtain ⟨res, e1, e2⟩ := zVB hs h hl (f := f) h1 (by omega) z
  unfold zL3
  by_cases hlim : 40 < (l ++ uL b l f (decide (r ≤ 1))).length
  ·rw [if_pos hlim] at e2
   obtain ⟨x, rfl, hx⟩ := e2
   refine ⟨l, x, f, ?_, by omega, by omega, ?_⟩
   ·have hstep : zAp b ((r : Int), l, z, f) = some (.inr (l, x, f)) := by
     unfold zAp
     rw [e1]
     rfl
    rw [vZ, hstep]
   ·rw [if_pos hlim]
    dsimp only
    omega
  ·rw [if_neg hlim] at e2
   subst e2
   by_cases hn : uL b l f (decide (r ≤ 1)) = []
   ·refine ⟨l, [], f, ?_, by omega, by simp, ?_⟩
    ·have hstep : zAp b ((r : Int), l, z, f) = some (.inr (l, [], f)) := by
      unfold zAp
      rw [e1, hn]
      rfl
     rw [vZ, hstep]
    ·rw [if_neg hlim, if_pos hn]
     exact ⟨rfl, rfl, hl⟩
   ·rw [if_neg hlim, if_neg hn]
    have hpos : 0 < (uL b l f (decide (r ≤ 1))).length := List.length_pos_iff.2 hn
    rw [List.length_append] at hlim
    obtain ⟨l', x', f', g1, g2, g3, g4⟩ := ih (l ++ uL b l f (decide (r ≤ 1))) (uL b l f (decide (r ≤ 1))) l.length (r + 1) (h.round hs (by rw [List.length_append]; omega)) (by rw [List.length_append]; omega) (by rw [List.length_append]; omega) (by omega) (by omega)
    rw [show decide (r + 1 ≤ 1) = false from by simp; omega] at g4
    refine ⟨l', x', f', ?_, g2, g3, g4⟩
    have hstep : zAp b ((r : Int), l, z, f) = some (.inl (((r + 1 : Nat) : Int), l ++ uL b l f (decide (r ≤ 1)), uL b l f (decide (r ≤ 1)), (l.length : Int))) := by
     unfold zAp
     rw [e1]
     simp only [yC, zob]
     have hl0 : ((len (uL b l f (decide (r ≤ 1)))) == 0) = false := by simp only [len, beq_eq_false_iff_ne]; omega
     simp only [hl0, zbf, if_false]
     rw [vX (by omega)]
     simp only [zob, yP r (by omega)]
    rw [vZ, hstep]
    exact g1
theorem zYo (hs : tF b D c) : zD9 b = some (ansB (zPI b)) := by
 unfold zD9
 rw [zVy (zK4 hs.valid), zJ9.2 hs.valid]
 simp only [zob, bne_self_eq_false, zbf, if_false]
 rw [zUj hs.valid]
 have hn := hs.valid.np
 obtain ⟨l', x', f', g1, g2, g3, g4⟩ := zUq hs 50 (zKl b) [] 0 1 (zN5 hs.valid) (by rw [zIE]; omega) (by omega) (by omega) (by omega)
 rw [show ((1 : Nat) : Int) = 1 from rfl] at g1
 simp only [zob, g1]
 rw [zVV b l' x' f' g2 g3]
 simp only [zob]
 unfold zPI
 rw [show decide (1 ≤ 1) = true from rfl] at g4
 cases hb : zL3 b 50 (zKl b) 0 true with
 | none =>
  rw [hb] at g4
  dsimp only at g4
  simp only [g4, decide_true, if_true]
  rfl
 | some y =>
  rw [hb] at g4
  obtain ⟨rfl, rfl, g5⟩ := g4
  have hd : decide (40 < l'.length + ([] : List zH).length) = false := by simp; omega
  simp only [hd, zbf, if_false]
  rfl
end
section
variable {b : zM} {l m : List zH} {D : List zF} {c : Nat}
theorem FormC.pre (h : FormC b (l ++ m)) : FormC b l := by
 have key : ∀ (i : Nat) a, l[i]? = some a → (l ++ m)[i]? = some a := fun i a ha => by rw [List.getElem?_append_left (vK ha)]; exact ha
 have hl := h.len
 have hl41 := h.l41
 rw [List.length_append] at hl hl41
 refine ⟨⟨⟨by omega, fun a ha => h.nsub a (List.mem_append_left _ ha), fun i a ha => h.sub i a (key i a ha)⟩, h.np, h.nr, fun i a ha => h.kind i a (key i a ha)⟩, by omega, fun i a p ha => h.pr i a p (key i a ha), fun i a r ha h0 hr => ?_⟩
 obtain ⟨g1, g2, g3⟩ := h.ru i a r (key i a ha) h0 hr
 refine ⟨g1, g2, fun j k y hk hy => ?_⟩
 obtain ⟨a', e1, e2⟩ := g3 j k y hk hy
 have := h.sub i a (key i a ha) k (vW hk)
 have hi := vK ha
 rw [zIZ (by omega)] at e1
 exact ⟨a', e1, e2⟩
theorem uP.pre (h : uP b (l ++ m)) : uP b l := by
 refine ⟨h.toFormC.pre, fun i a r ha h0 hr => ?_⟩
 have hi := vK ha
 have hk : (l ++ m)[i]? = some a := by rw [List.getElem?_append_left hi]; exact ha
 rw [← zJc h.toFormC.pre h.toFormC fun k hk2 => by have := h.sub i a hk k hk2; omega]
 exact h.cut i a r hk h0 hr
theorem uP.take (h : uP b l) (n : Nat) : uP b (l.take n) := by
 rw [← List.take_append_drop n l] at h
 exact h.pre
theorem zS4 : ∀ (k : Nat) (l : List zH) (f : Int) (first : Bool) (x : List zH), zL3 b k l f first = some x → ∃ m, x = l ++ m
 | 0, _, _, _, _, h => by cases h
 | k + 1, l, f, first, x, hx => by
  unfold zL3 at hx
  split at hx
  ·cases hx
  ·split at hx
   ·cases hx
    exact ⟨[], by simp⟩
   ·obtain ⟨m, hm⟩ := zS4 k _ _ _ x hx
    exact ⟨uL b l f first ++ m, by rw [hm, List.append_assoc]⟩
theorem zQE {α β : Type} {g : α → List β} : ∀ {l : List α}, l.Nodup → (∀ x ∈ l, (g x).Nodup) → (∀ x ∈ l, ∀ y ∈ l, ∀ z, z ∈ g x → z ∈ g y → x = y) → (l.flatMap g).Nodup
 | [], _, _, _ => by simp
 | x :: l, h1, h2, h3 => by
  obtain ⟨a1, a2⟩ := List.nodup_cons.1 h1
  rw [List.flatMap_cons]
  refine List.nodup_append.2 ⟨h2 x List.mem_cons_self, zQE a2 (fun y hy => h2 y (List.mem_cons_of_mem _ hy)) (fun y hy z hz => h3 y (List.mem_cons_of_mem _ hy) z (List.mem_cons_of_mem _ hz)), fun z hz w hw e => ?_⟩
  subst e
  obtain ⟨y, hy, hyz⟩ := List.mem_flatMap.1 hw
  have := h3 x List.mem_cons_self y (List.mem_cons_of_mem _ hy) z hz hyz
  subst this
  exact a1 hy
theorem zU3 (n : Nat) : (wY n).Nodup := (zJE n).imp fun {x y} h => by
 simp at h
 omega
theorem zUI (n : Nat) : ∀ (ys : List zF) (sofar : List Int), (xG l n ys sofar).Nodup
 | [], sofar => by simp [xG]
 | y :: ys, sofar => by
  refine zQE (zU3 n) (fun i _ => ?_) (fun i _ j _ s hi hj => ?_)
  ·split
   ·split
    ·exact zUI n ys _
    ·exact List.nodup_nil
   ·exact List.nodup_nil
  ·have key : ∀ i, (s ∈ match zD l i with | some a => if a.2.2.2 == y then xG l n ys (sofar ++ [i]) else [] | none => []) → s[sofar.length]? = some i := fun i hs => by
    cases hx : zD l i with
    | none => rw [hx] at hs; cases hs
    | some a =>
     rw [hx] at hs
     dsimp only at hs
     split at hs
     ·obtain ⟨t, rfl, _⟩ := (zMq l n ys (sofar ++ [i]) s).1 hs
      rw [List.append_assoc, List.getElem?_append_right (Nat.le_refl _)]
      simp
     ·cases hs
   have h1 := key i hi
   have h2 := key j hj
   rw [h1] at h2
   exact Option.some.inj h2
theorem zU2 {f : Int} {first : Bool} : (uL b l f first).Nodup := by
 refine zQE (zU3 _) (fun q _ => ?_) (fun q _ q' _ a h1 h2 => ?_)
 ·unfold tP
  split
  ·refine List.Pairwise.map _ (fun s t hst => ?_) (List.Pairwise.filter _ (zUI (l := l) l.length _ []))
   exact fun e => hst (by simpa using congrArg (fun a : zH => a.2.2.1) e)
  ·exact List.nodup_nil
 ·have key : ∀ q, a ∈ tP b l f first q → a.2.1 = q := fun q h => by
   unfold tP at h
   split at h
   ·obtain ⟨s, _, rfl⟩ := List.mem_map.1 h
    rfl
   ·cases h
  rw [← key q h1, ← key q' h2]
structure Now (b : zM) (l : List zH) (f : Int) (first : Bool) : Prop where
 nd : l.Nodup
 old : ∀ a ∈ l, ∀ k ∈ a.2.2.1, k < f
 fst : first = true → f = 0 ∧ ∀ a ∈ l, a.2.1 < 0
 done : ∀ q r s, zD b.2.1 q = some r → s.length = r.2.2.2.1.length → (∀ (j : Nat) k y, s[j]? = some k → r.2.2.2.1[j]? = some y → ∃ a', zD l k = some a' ∧ a'.2.2.2 = y) → uR b l q r s = true → zJt f first s = false → ((-1 : Int), q, s, r.2.2.2.2) ∈ l
theorem zSq {s : List Int} {bd : List zF} (h1 : s.length = bd.length) (h : ∀ (j : Nat) k y, s[j]? = some k → bd[j]? = some y → ∃ a' : zH, zD l k = some a' ∧ a'.2.2.2 = y) : ∀ k ∈ s, 0 ≤ k ∧ k < l.length := fun k hk => by
 obtain ⟨j, hj⟩ := List.mem_iff_getElem?.1 hk
 have := vK hj
 obtain ⟨a', e1, _⟩ := h j k _ hj (List.getElem?_eq_getElem (by omega))
 exact zOG e1
theorem Now.nodup {f : Int} {first : Bool} (hn : Now b l f first) : (l ++ uL b l f first).Nodup := by
 refine List.nodup_append.2 ⟨hn.nd, zU2, fun a ha a' ha' e => ?_⟩
 subst e
 obtain ⟨_, r, g1, _, g2, _⟩ := zN7.1 ha'
 unfold zJt at g2
 rw [Bool.or_eq_true] at g2
 rcases g2 with g2 | g2
 ·obtain ⟨k, hk, hk2⟩ := List.any_eq_true.1 g2
  have := hn.old a ha k hk
  simp at hk2
  omega
 ·rw [Bool.and_eq_true] at g2
  have := (hn.fst g2.1).2 a ha
  have := (zOG g1).1
  omega
theorem Now.next (hs : tF b D c) (h : uP b l) {f : Int} {first : Bool} (hn : Now b l f first) (hl : (l ++ uL b l f first).length ≤ 41) (hf : f ≤ l.length) : Now b (l ++ uL b l f first) l.length false := by
 have h' := h.round hs hl
 refine ⟨hn.nodup, fun a ha k hk => ?_, (fun h => by cases h), fun q r s hq h1 h2 h3 h4 => ?_⟩
 ·rcases List.mem_append.1 ha with ha | ha
  ·have := hn.old a ha k hk
   omega
  ·exact ((zPf hs a ha).1.sub k hk).2
 ·have hk : ∀ k ∈ s, k < l.length := fun k hk => by
   unfold zJt at h4
   simp only [Bool.false_and, Bool.or_false, List.any_eq_false, decide_eq_true_eq] at h4
   have := h4 k hk
   omega
  have hr := zSq h1 h2
  have h2' : ∀ (j : Nat) k y, s[j]? = some k → r.2.2.2.1[j]? = some y → ∃ a', zD l k = some a' ∧ a'.2.2.2 = y := fun j k y hj hy => by
   obtain ⟨a', e1, e2⟩ := h2 j k y hj hy
   rw [zIZ (hk k (vW hj))] at e1
   exact ⟨a', e1, e2⟩
  rw [zJc h.toFormC h'.toFormC fun k hk2 => ⟨(hr k hk2).1, hk k hk2⟩] at h3
  cases hfr : zJt f first s with
  | true => exact List.mem_append_right _ (zN7.2 ⟨rfl, r, hq, rfl, hfr, h3, h1, h2'⟩)
  | false => exact List.mem_append_left _ (hn.done q r s hq h1 h2' h3 hfr)
theorem Now.first (h : zIV b) : Now b (zKl b) 0 true := by
 refine ⟨?_, fun a ha k hk => ?_, fun _ => ⟨rfl, fun a ha => ?_⟩, fun q r s hq h1 h2 h3 h4 => ?_⟩
 ·rw [List.nodup_iff_pairwise_ne, List.pairwise_iff_getElem]
  intro i j hi hj hij e
  obtain ⟨p, _, h1⟩ := zFy (List.getElem?_eq_getElem hi)
  obtain ⟨p', _, h2⟩ := zFy (List.getElem?_eq_getElem hj)
  rw [h1, h2] at e
  have := congrArg (fun a : zH => a.1) e
  simp at this
  omega
 ·obtain ⟨i, hi⟩ := List.mem_iff_getElem?.1 ha
  obtain ⟨p, _, rfl⟩ := zFy hi
  cases hk
 ·obtain ⟨i, hi⟩ := List.mem_iff_getElem?.1 ha
  obtain ⟨p, _, rfl⟩ := zFy hi
  show (-1 : Int) < 0
  omega
 ·have hr := zSq h1 h2
  unfold zJt at h4
  rw [Bool.or_eq_false_iff] at h4
  cases s with
  | nil => simp at h4
  | cons k s =>
   have h5 := List.any_eq_false.1 h4.1 k List.mem_cons_self
   have h6 := hr k List.mem_cons_self
   simp at h5
   omega
structure zRn (b : zM) (x : List zH) : Prop where
 form : uP b x
 len : x.length ≤ 40
 pre : ∃ m, x = zKl b ++ m
 nd : x.Nodup
 all : ∀ q r s, zD b.2.1 q = some r → s.length = r.2.2.2.1.length → (∀ (j : Nat) k y, s[j]? = some k → r.2.2.2.1[j]? = some y → ∃ a', zD x k = some a' ∧ a'.2.2.2 = y) → uR b x q r s = true → ((-1 : Int), q, s, r.2.2.2.2) ∈ x
theorem zSf (hs : tF b D c) : ∀ (k : Nat) (l : List zH) (f : Int) (first : Bool) (x : List zH), uP b l → l.length ≤ 40 → f ≤ l.length → Now b l f first → zL3 b k l f first = some x → x.Nodup ∧ ∀ q r s, zD b.2.1 q = some r → s.length = r.2.2.2.1.length → (∀ (j : Nat) k y, s[j]? = some k → r.2.2.2.1[j]? = some y → ∃ a', zD x k = some a' ∧ a'.2.2.2 = y) → uR b x q r s = true → ((-1 : Int), q, s, r.2.2.2.2) ∈ x
 | 0, _, _, _, _, _, _, _, _, h => by cases h
 | k + 1, l, f, first, x, h, hl, hf, hn, hx => by
  unfold zL3 at hx
  split at hx
  ·cases hx
  ·rename_i hlim
   split at hx
   ·rename_i hr
    cases hx
    refine ⟨hn.nd, fun q r s hq h1 h2 h3 => ?_⟩
    cases hfr : zJt f first s with
    | true =>
     have : ((-1 : Int), q, s, r.2.2.2.2) ∈ uL b l f first := zN7.2 ⟨rfl, r, hq, rfl, hfr, h3, h1, h2⟩
     rw [hr] at this
     cases this
    | false => exact hn.done q r s hq h1 h2 h3 hfr
   ·exact zSf hs k _ _ _ x (h.round hs (by omega)) (by omega) (by rw [List.length_append]; omega) (hn.next hs h (by omega) hf) hx
theorem zNN (hs : tF b D c) {x : List zH} (hx : zPI b = some x) : zRn b x := by
 have hp := hs.valid.np
 have hl : (zKl b).length ≤ 40 := by rw [zIE]; omega
 obtain ⟨g1, g2⟩ := zRC hs 50 (zKl b) 0 true x (zN5 hs.valid) hl hx
 obtain ⟨g3, g4⟩ := zSf hs 50 (zKl b) 0 true x (zN5 hs.valid) hl (by omega) (Now.first hs.valid) hx
 exact ⟨g1, g2, zS4 _ _ _ _ _ hx, g3, g4⟩
end
section
variable {b : zM} {l : List zH}
theorem FormC.nil (hp : b.1.length ≤ 100) (hr : b.2.1.length ≤ 100) : FormC b [] :=
 ⟨⟨⟨by simp, by simp, by simp⟩, hp, hr, by simp⟩, by simp, by simp, by simp⟩
theorem zWo (h : l.length ≤ 100) (o : yH) : (zDr b l o).length ≤ 3000000 := Nat.le_trans (List.length_filter_le _ _) (zRX h)
def ords : List yH := [(1, 1), (1, 2), (2, 1), (2, 2)]
theorem zS1 : zJQ = some ords := rfl
theorem zQv (h : FormA l) {c : Int} (h0 : 0 ≤ c) (h1 : c < l.length) : c ∈ yB l c := (zCA h h0 h1 c).2 (.self c)
theorem zZx (h : FormB b l) {i k c kd : Int} (k0 : 0 ≤ k) (k1 : k < l.length) (hc : c ∈ yB l k) : (i, c, c, kd) ∈ zPu b l ↔ (i, k, c, kd) ∈ zPu b l := by
 have hr := zWp hc
 rw [zMu, zMu]
 constructor
 ·rintro ⟨h1, _, _, h4⟩
  exact ⟨h1, ⟨k0, k1⟩, hc, h4⟩
 ·rintro ⟨h1, _, _, h4⟩
  exact ⟨h1, hr, zQv h.toFormA hr.1 hr.2, h4⟩
theorem zPP (h : FormB b l) {i k c kd : Int} (o : yH) (k0 : 0 ≤ k) (k1 : k < l.length) (hc : c ∈ yB l k) : (i, c, c, kd) ∈ zDr b l o ↔ (i, k, c, kd) ∈ zDr b l o := by
 unfold zDr
 rw [List.mem_filter, List.mem_filter, zZx h k0 k1 hc]
 exact Iff.rfl
theorem zVw (y : List Int) (o : Int) : zHN [] y o = false := by simp [zHN]
end
section
variable {b : zM} {l : List zH}
theorem zRn.prem {x : List zH} (h : zRn b x) {i : Nat} {a : zH} (hi : x[i]? = some a) (hn : i < b.1.length) : ∃ p, b.1[i]? = some p ∧ a = ((i : Int), -1, [], p.1) := by
 obtain ⟨m, hm⟩ := h.pre
 rw [hm, List.getElem?_append_left (by rw [zIE]; exact hn)] at hi
 exact zFy hi
theorem zRn.np {x : List zH} (h : zRn b x) : b.1.length ≤ x.length := by
 obtain ⟨m, hm⟩ := h.pre
 rw [hm, List.length_append, zIE]
 omega
theorem zRn.rule {x : List zH} (h : zRn b x) {i : Nat} {a : zH} (hi : x[i]? = some a) (hn : b.1.length ≤ i) : a.1 = -1 ∧ ∃ r, zD b.2.1 a.2.1 = some r ∧ 0 ≤ a.2.1 ∧ a.2.1 < b.2.1.length ∧ a.2.2.2 = r.2.2.2.2 ∧ a.2.2.1.length = r.2.2.2.1.length ∧ ∀ (j : Nat) k y, a.2.2.1[j]? = some k → r.2.2.2.1[j]? = some y → ∃ a', zD x k = some a' ∧ a'.2.2.2 = y := by
 rcases h.form.kind i a hi with ⟨_, g, _⟩ | ⟨g1, g2, g3⟩
 ·omega
 ·obtain ⟨r, hr⟩ := zH1 (l := b.2.1) g2 g3
  obtain ⟨e1, e2, e3⟩ := h.form.ru i a r hi g2 hr
  exact ⟨g1, r, hr, g2, g3, e1, e2, e3⟩
end
section
variable {b : zM} {l : List zH}
theorem zYK {i : Int} (h : ¬ (0 ≤ i ∧ i < l.length)) : zAi l i = some false := by
 unfold zAi
 congr 1
 rw [Bool.and_eq_false_iff]
 by_cases h0 : 0 ≤ i
 ·exact .inr (by simp [len]; omega)
 ·exact .inl (by simpa using h0)
def zQh (l : List zH) (i : Int) : List zF := match zD l i with | some a => [a.2.2.2] | none => []
theorem z2D {α : Type} {l : List α} {i : Int} (h : ¬ (0 ≤ i ∧ i < l.length)) : zD l i = none := by
 unfold zD
 split
 ·rename_i h0
  exact List.getElem?_eq_none (by omega)
 ·rfl
theorem zRg (is : List Int) : (is.flatMap (zQh l)).length ≤ is.length * 1 := zLj (zQh l) 1 is fun i _ => by
 unfold zQh
 split <;> simp
theorem zMm (is : List Int) (h : is.length < 1000000) : zBT l is = some (xS vG (is.flatMap (zQh l))) := by
 unfold zBT
 have hloop := zJr (B := zCW is l) is (zQh l) (fun s => s) 1 (fun i _ => by unfold zQh; split <;> simp) [] (fun i x s hi hs => by
  have hlt := vK hi
  unfold zCW zQh
  simp only [vA hi, if_true, wV hi, zob, wX hi (show is.length < 4294967296 by omega)]
  by_cases hin : 0 ≤ x ∧ x < l.length
  ·obtain ⟨a, ha⟩ := zH1 (l := l) hin.1 hin.2
   have : zAi l x = some true := by
    unfold zAi
    congr 1
    rw [Bool.and_eq_true]
    exact ⟨by simpa using hin.1, by simpa [len] using hin.2⟩
   simp only [this, zob, if_true, ha]
   rw [vX (by simp at hs ⊢; omega)]
   rfl
  ·simp only [zYK hin, zob, zbf, if_false, z2D hin, List.append_nil]) (fun s => by
  unfold zCW
  simp only [yV, zbf, if_false])
 rw [hloop]
 have hl := zRg (l := l) is
 simp only [zob, List.nil_append]
 rw [zXn (by omega)]
 rfl
end
section
theorem z2m {σ ρ : Type} {B : σ → Option (σ ⊕ ρ)} {s s' : σ} (h : B s = some (.inl s')) : zW B s = zW B s' := by rw [vZ, h]
theorem zZi {σ ρ : Type} {B : σ → Option (σ ⊕ ρ)} {s : σ} {r : ρ} (h : B s = some (.inr r)) : zW B s = some r := by rw [vZ, h]
end
section
def zZ6 (y : List zF) (r : qK) (k : Int) (p : vN) : Int := if (!r.2.1 && p.1 == r.1 && decide (p.2.2 ∈ y)) = true then p.2.1 else k
def rankS (ps : List vN) (y : List zF) (r : qK) : Int := ps.foldl (zZ6 y r) r.2.2.1
def zQb (ps : List vN) (y : List zF) (r : qK) : qK := (r.1, r.2.1, rankS ps y r, r.2.2.2.1, r.2.2.2.2)
def xD (b : zM) (y : List zF) : zM := (b.1, b.2.1.map (zQb b.2.2 y), b.2.2)
def upto (b : zM) (y : List zF) (i : Nat) : List qK := (b.2.1.take i).map (zQb b.2.2 y) ++ b.2.1.drop i
theorem z1R (b : zM) (y : List zF) (i : Nat) : (upto b y i).length = b.2.1.length := by simp [upto]; omega
theorem z2R {b : zM} {y : List zF} {i : Nat} {r : qK} (hr : b.2.1[i]? = some r) : (upto b y i)[i]? = some r := by
 have hi := (List.getElem?_eq_some_iff.1 hr).1
 unfold upto
 rw [List.getElem?_append_right (by simp; omega)]
 simp only [List.length_map, List.length_take, List.getElem?_drop]
 rw [show i + (i - min i b.2.1.length) = i by omega]
 exact hr
theorem z0d {b : zM} {y : List zF} {i : Nat} {r : qK} (hr : b.2.1[i]? = some r) : (upto b y i).set i (zQb b.2.2 y r) = upto b y (i + 1) := by
 have hi := (List.getElem?_eq_some_iff.1 hr).1
 have h1 : ((b.2.1.take i).map (zQb b.2.2 y)).length = i := by simp; omega
 unfold upto
 rw [List.set_append_right _ _ (by omega), h1, Nat.sub_self, List.take_add_one, hr]
 have h2 : b.2.1.drop i = r :: b.2.1.drop (i + 1) := by
  rw [List.drop_eq_getElem_cons hi]
  congr 1
  rw [List.getElem?_eq_getElem hi] at hr
  exact Option.some.inj hr
 rw [h2]
 simp
theorem z08 (b : zM) (y : List zF) : upto b y b.2.1.length = b.2.1.map (zQb b.2.2 y) := by simp [upto]
def mid (b : zM) (y : List zF) (i : Nat) (r : qK) (k : Nat) : List qK := (upto b y i).set i (r.1, r.2.1, (b.2.2.take k).foldl (zZ6 y r) r.2.2.1, r.2.2.2.1, r.2.2.2.2)
theorem z2q {b : zM} {y : List zF} {i : Nat} {r : qK} (hr : b.2.1[i]? = some r) : mid b y i r b.2.2.length = upto b y (i + 1) := by
 unfold mid
 rw [List.take_of_length_le (Nat.le_refl _)]
 exact z0d hr
theorem z0f {b : zM} {y : List zF} {i : Nat} {r : qK} : mid b y i r 0 = (upto b y i).set i r := by simp [mid]
theorem mid_at {b : zM} {y : List zF} {i : Nat} {r : qK} (hr : b.2.1[i]? = some r) (k : Nat) : (mid b y i r k)[i]? = some (r.1, r.2.1, (b.2.2.take k).foldl (zZ6 y r) r.2.2.1, r.2.2.2.1, r.2.2.2.2) := by
 have hi := (List.getElem?_eq_some_iff.1 hr).1
 unfold mid
 rw [List.getElem?_set_self (by rw [z1R]; exact hi)]
theorem z2c {b : zM} {y : List zF} {i : Nat} {r : qK} {k : Nat} {p : vN} (hp : b.2.2[k]? = some p) :
  (if (!r.2.1 && p.1 == r.1 && decide (p.2.2 ∈ y)) = true then (mid b y i r k).set i (r.1, r.2.1, p.2.1, r.2.2.2.1, r.2.2.2.2) else mid b y i r k) = mid b y i r (k + 1) := by
 unfold mid
 rw [List.take_add_one, hp]
 simp only [Option.toList, List.foldl_append, List.foldl_cons, List.foldl_nil]
 show _ = List.set _ i (r.1, r.2.1, zZ6 y r _ p, r.2.2.2.1, r.2.2.2.2)
 unfold zZ6
 by_cases hc : (!r.2.1 && p.1 == r.1 && decide (p.2.2 ∈ y)) = true
 ·rw [if_pos hc, if_pos hc, List.set_set]
 ·rw [if_neg hc, if_neg hc]
theorem zXi {b : zM} {y : List zF} (h : Cnt b) (hy : y.length < 4294967296) : zC9 b y = some (xD b y) := by
 unfold zC9
 have c1 : zDX b.1 = some b.1 := by simp [zDX, zJb h.p]
 have c2 : zFO b.2.1 = some b.2.1 := by simp [zFO, zJb h.r]
 have c3 : zCj b.2.2 = some b.2.2 := by simp [zCj, zJb h.m]
 simp only [c1, c2, c3, zob]
 suffices hh : Ok (zW (zCB b y) (0, b.2.1)) fun r => r = upto b y b.2.1.length by
  obtain ⟨r, e, rfl⟩ := hh
  rw [e, z08]
  rfl
 refine Ok.forI (fun i (s : List qK) => ((i : Int), s)) b.2.1 (fun i s => s = upto b y i) _ (fun i r s hr hs => ?_) (fun s hs => ?_) b.2.1 (by simp [upto])
 ·have hi := (List.getElem?_eq_some_iff.1 hr).1
  have hbr := h.r
  subst hs
  unfold zCB
  have hx := z2R (y := y) hr
  simp only [z0E hr, if_true, xC, hr, hx, zob, zVC (h.q r (List.mem_of_getElem? hr)), Int.toNat_natCast]
  refine Ok.forI (fun k (s : List qK) => ((k : Int), s)) b.2.2 (fun k s => s = mid b y i r k) _ (fun k p s hp hs => ?_) (fun s hs => ?_) _ z0f.symm
  ·have hk := (List.getElem?_eq_some_iff.1 hp).1
   have hbm := h.m
   subst hs
   unfold zCY
   simp only [z0E hp, if_true, xC, hp, zob, zY1 _ (show y.length < 9223372036854775807 by omega), Int.toNat_natCast, mid_at hr k]
   have hif : (if (!r.2.1) = true then (if (p.1 == r.1) = true then some (decide (p.2.2 ∈ y)) else some false) else some false) = some (!r.2.1 && p.1 == r.1 && decide (p.2.2 ∈ y)) := by
    cases hg : (!r.2.1) <;> cases hh : (p.1 == r.1) <;> simp
   rw [hif, zob]
   have hm := z2c (b := b) (y := y) (i := i) (r := r) hp
   refine .ite (fun hc => ?_) fun hc => ?_
   ·rw [if_pos hc] at hm
    exact .ret ⟨_, by rw [yP k (by omega)], hm⟩
   ·rw [hc] at hm
    simp only [zbf, if_false] at hm
    exact .ret ⟨_, by rw [yP k (by omega)], hm⟩
  ·subst hs
   unfold zCY
   simp only [zVh, zbf, if_false]
   exact .ret ⟨_, by simp only [yP i (by omega)], z2q hr⟩
 ·subst hs
  unfold zCB
  simp only [zVh, zbf, if_false]
  exact .ret rfl
theorem z1Q {b : zM} (h : Cnt b) : zKb b = some b := by
 unfold zKb
 simp only [zJb h.p, zJb h.m, zob]
 have hl := zNb (B := zHu b) b.2.1 (fun s x => s ++ [x]) (fun s => s) (fun i s => s.length = i) [] rfl (fun i x s hx hI => ?_) (fun s _ => ?_)
 ·rw [hl.1, zSn, List.nil_append]
  rfl
 ·have hlt := (List.getElem?_eq_some_iff.1 hx).1
  have hbr := h.r
  refine ⟨?_, by simp [hI]⟩
  unfold zHu
  simp only [z0E hx, if_true, xC, hx, zob]
  rw [zJb (h.q x (List.mem_of_getElem? hx))]
  simp only [zob]
  rw [vX (by simp; omega), yP i (by omega)]
  rfl
 ·unfold zHu
  simp only [zVh, zbf, if_false]
end
section
def uM (l : List Int) (x : Int) : List Int := (wY l.length).filter fun i => decide (l[i.toNat]? = some x)
theorem zIs (l : List Int) (x : Int) : (uM l x).length ≤ l.length := Nat.le_trans (List.length_filter_le _ _) (by rw [tO]; exact Nat.le_refl _)
theorem zUN {l : List Int} {x : Int} {j : Nat} : (j : Int) ∈ uM l x ↔ l[j]? = some x := by
 rw [uM, List.mem_filter, xK, Int.toNat_natCast, decide_eq_true_eq]
 exact ⟨fun h => h.2, fun h => ⟨⟨by omega, by have := vK h; omega⟩, h⟩⟩
theorem zQs (l : List Int) (x : Int) (hl : l.length < 4294967000) : zAw l x = some (uM l x) := by
 unfold zAw
 have h := zEk (B := zFH l x) (wY l.length) (fun s i => if decide (l[i.toNat]? = some x) then s ++ [i] else s) id (fun i s => s.length ≤ i) ([] : List Int) (by simp) ?_ ?_
 ·have h2 := zF4 (fun i : Int => decide (l[i.toNat]? = some x)) id (wY l.length) []
  simp only [id, List.map_id, List.nil_append] at h2
  rw [h.1, h2]; rfl
 ·intro i y s hy hI
  obtain ⟨rfl, hi⟩ := zP0 hy
  have hx : l[i]? = some l[i] := List.getElem?_eq_getElem hi
  unfold zFH
  simp only [vA hx, if_true, wV hx, zob, wX hx (by omega), Int.toNat_natCast, hx, Option.some.injEq]
  by_cases he : l[i] = x
  ·simp only [he, beq_self_eq_true, if_true, decide_true]
   rw [vX (by simp; omega)]
   exact ⟨rfl, by simp; omega⟩
  ·have hb : (l[i] == x) = false := by simpa using he
   simp only [hb, he, decide_false, zbf, if_false]
   exact ⟨trivial, by omega⟩
 ·intro s _
  rw [tO]
  unfold zFH
  simp [len]
def badO (o : yH) : Bool := if o.1 != 1 then (o.1 != 2) || ((o.2 != 1) && (o.2 != 2)) else (o.2 != 1) && (o.2 != 2)
noncomputable def tR (b : zM) (l : List zH) (o : yH) : List wD := xS xU (zGL (zDr b l o))
noncomputable def z0N (b : zM) (l : List zH) (o : yH) : List zF := xS vG ((uM (zTA l.length (tR b l o)) 1).flatMap (zQh l))
noncomputable def zVt (b : zM) (l : List zH) (o : yH) : zFh := (xD b (z0N b l o), l, zDr (xD b (z0N b l o)) l o, ((l.length : Int), tR (xD b (z0N b l o)) l o))
theorem zN2 {b : zM} {l : List zH} (hl : l.length ≤ 40) (o : yH) : zRu (len l) (zDr b l o) = (((l.length : Int), tR b l o), 0) ∧ yL l.length (tR b l o) := by
 have h0 : (decide (len l < 0) || decide (40 < len l)) = false := by
  simp only [len, Bool.or_eq_false_iff, decide_eq_false_iff_not]; omega
 have h1 : (zDr b l o).any (zXc (len l)) = false := by
  rw [List.any_eq_false]
  intro y hy
  have hy := zMu (b := b) (l := l) y |>.1 (List.mem_filter.1 hy).1
  simp only [zXc, len, Bool.or_eq_true, decide_eq_true_eq, not_or]
  omega
 have h2 : zRu (len l) (zDr b l o) = (((l.length : Int), tR b l o), 0) := by
  unfold zRu tR
  simp only [h0, h1, zbf, if_false]
 refine ⟨h2, ?_⟩
 obtain ⟨N, e1, e2, e3, _⟩ := zVj h2
 have : N = l.length := by simp only [len] at e1; omega
 rw [← this]; exact e3
theorem zUi {b : zM} {l : List zH} {y : List zF} (h : FormB b l) : FormB (xD b y) l :=
 ⟨h.toFormA, by simpa [xD] using h.np, by simpa [xD] using h.nr, fun i a ha => by simpa [xD] using h.kind i a ha⟩
theorem z1A (b : zM) (l : List zH) (o : yH) : (z0N b l o).length ≤ l.length := by
 refine Nat.le_trans (zSA _ _) (Nat.le_trans (zRg _) ?_)
 rw [Nat.mul_one]
 refine Nat.le_trans (zIs _ _) ?_
 rw [zTA, zHD]; exact Nat.le_refl _
end
section
theorem zXr : zJO = some () := rfl
def zHo (l : List zH) (s : List Int) : List zF := xS vG (s.flatMap (zQh l))
theorem zXU (l : List zH) (s : List Int) : vV vG (zHo l s) := (zHv zME _).1
theorem zS7 (l : List zH) (s : List Int) : (zHo l s).length ≤ s.length := Nat.le_trans (zSA _ _) (by have := zRg (l := l) s; omega)
theorem zO3 {c : zFh} {q : Int} {es : List (List Int)} (h : zBG c.2.2.2 q = some (es, 0)) (hl : es.length ≤ 100000) (hs : ∀ s ∈ es, s.length < 1000000) :
  zAt c q = some (es.map (zHo c.2.1), 0) := by
 unfold zAt
 rw [h]
 simp only [zob, bne_self_eq_false, zbf, if_false]
 have hlp := zEk (B := zBc (es, 0) c) es (fun r s => r ++ [zHo c.2.1 s]) (fun r => (r, (0 : Int))) (fun i s => s.length ≤ i) ([] : List (List zF)) (by simp) ?_ ?_
 ·rw [hlp.1, zGd]; rfl
 ·intro i x s hx hI
  have := vK hx
  unfold zBc
  simp only [vA hx, if_true, wV hx, zob, wX hx (by omega), zMm x (hs x (vW hx))]
  rw [vX (by simp; omega)]
  exact ⟨rfl, by simp; omega⟩
 ·intro s _
  unfold zBc
  simp [len]
end
section
theorem z0q {i : Int} {o : yH} (h : zD ords i = some o) : badO o = false := by
 obtain ⟨n, rfl, hn⟩ := zKz h
 have hm := vW hn
 have : ∀ o ∈ ords, badO o = false := by decide
 exact this o hm
end
section
abbrev Dm := Bool × Bool × Bool
def eD (x : Dm) : Int := (if x.1 then 2 else 0) + (if x.2.1 then 4 else 0) + (if x.2.2 then 8 else 0)
def iD (x y : Dm) : Dm := (x.1 && y.1, x.2.1 && y.2.1, x.2.2 && y.2.2)
def mD (x y : Dm) : Bool := (x.1 && y.1) || (x.2.1 && y.2.1) || (x.2.2 && y.2.2)
theorem zTX : ∀ x y : Dm, yG .i64 (eD x) (eD y) = eD (iD x y) := by
 rintro ⟨a, b, c⟩ ⟨d, e, f⟩
 revert a b c d e f
 decide +kernel
theorem z2Q : ∀ x : Dm, (eD x == 0) = (!(x.1 || x.2.1 || x.2.2)) := by
 rintro ⟨a, b, c⟩; revert a b c; decide
theorem zW2 (x y : Dm) : (yG .i64 (eD x) (eD y) != 0) = mD x y := by
 rw [zTX]
 show (!(eD (iD x y) == 0)) = _
 rw [z2Q]
 simp [iD, mD]
theorem zW6 : ∀ x y : Dm, eD x = eD y → x = y := by
 rintro ⟨a, b, c⟩ ⟨d, e, f⟩
 revert a b c d e f
 decide +kernel
def tK (x y : Dm) : Prop := (x.1 = true → y.1 = true) ∧ (x.2.1 = true → y.2.1 = true) ∧ (x.2.2 = true → y.2.2 = true)
theorem tK.refl (x : Dm) : tK x x := ⟨id, id, id⟩
theorem tK.trans {x y z : Dm} (h : tK x y) (k : tK y z) : tK x z := ⟨fun a => k.1 (h.1 a), fun a => k.2.1 (h.2.1 a), fun a => k.2.2 (h.2.2 a)⟩
theorem tK.anti {x y : Dm} (h : tK x y) (k : tK y x) : x = y := by
 obtain ⟨a, b, c⟩ := x
 obtain ⟨d, e, f⟩ := y
 simp only [tK] at h k
 have h1 : a = d := by cases a <;> cases d <;> simp_all
 have h2 : b = e := by cases b <;> cases e <;> simp_all
 have h3 : c = f := by cases c <;> cases f <;> simp_all
 rw [h1, h2, h3]
theorem z2k (x y : Dm) : tK (iD x y) x := by
 refine ⟨fun h => ?_, fun h => ?_, fun h => ?_⟩ <;> (simp [iD] at h; exact h.1)
theorem iD_le2 (x y : Dm) : tK (iD x y) y := by
 refine ⟨fun h => ?_, fun h => ?_, fun h => ?_⟩ <;> (simp [iD] at h; exact h.2)
def zWk (x : Dm) : Nat := (if x.1 then 1 else 0) + (if x.2.1 then 1 else 0) + (if x.2.2 then 1 else 0)
theorem zVv : ∀ {x y : Dm}, tK x y → zWk x ≤ zWk y ∧ (zWk x = zWk y → x = y) := by
 rintro ⟨a, b, c⟩ ⟨d, e, f⟩ h
 simp only [tK] at h
 cases a <;> cases b <;> cases c <;> cases d <;> cases e <;> cases f <;> simp_all [zWk]
abbrev DD := Nat → Dm
def dA (D : DD) : List Int := qN 40 fun j => eD (D j)
def leF (D E : DD) : Prop := ∀ j, tK (D j) (E j)
theorem leF.refl (D : DD) : leF D D := fun _ => tK.refl _
theorem leF.trans {D E G : DD} (h : leF D E) (k : leF E G) : leF D G := fun j => (h j).trans (k j)
theorem leF.anti {D E : DD} (h : leF D E) (k : leF E D) : D = E := funext fun j => (h j).anti (k j)
def tM (D : DD) (i : Nat) (x : Dm) : DD := fun j => if j = i then x else D j
theorem zUU (D : DD) {i : Nat} (hi : i < 40) (x : Dm) : xO 40 (dA D) (i : Int) (eD x) = dA (tM D i x) := by
 unfold dA
 rw [zRk 40 _ hi]
 apply tU
 intro j _
 simp only [tM]
 split <;> rfl
theorem zIu (D : DD) {i : Nat} (hi : i < 40) : yM (dA D) (i : Int) = eD (D i) := zNG 40 _ hi
theorem zPy {D : DD} {i : Nat} {x : Dm} (h : tK x (D i)) : leF (tM D i x) D := fun j => by
 unfold tM
 split
 ·rename_i e; subst e; exact h
 ·exact tK.refl _
def zU0 (D : DD) : Nat → Nat
 | 0 => 0
 | n + 1 => zU0 D n + zWk (D n)
theorem zR4 {D E : DD} (h : leF D E) : ∀ n, zU0 D n ≤ zU0 E n
 | 0 => Nat.le_refl _
 | n + 1 => Nat.add_le_add (zR4 h n) (zVv (h n)).1
theorem zYW {D E : DD} (h : leF D E) : ∀ n, zU0 D n = zU0 E n → ∀ j, j < n → D j = E j
 | 0, _, j, hj => absurd hj (Nat.not_lt_zero _)
 | n + 1, he, j, hj => by
  have h1 := zR4 h n
  have h2 := (zVv (h n)).1
  simp only [zU0] at he
  rcases Nat.lt_succ_iff_lt_or_eq.1 hj with hj | rfl
  ·exact zYW h n (by omega) j hj
  ·exact (zVv (h j)).2 (by omega)
def Emp (N : Nat) (D : DD) : Prop := ∀ j, N ≤ j → D j = (false, false, false)
theorem Emp.le {N : Nat} {D E : DD} (h : Emp N E) (k : leF D E) : Emp N D := fun j hj => by
 have h1 := k j
 rw [h j hj] at h1
 exact tK.anti h1 ⟨fun h => Bool.noConfusion h, fun h => Bool.noConfusion h, fun h => Bool.noConfusion h⟩
section
variable {N : Nat} {L : List wD}
def tG (N : Nat) (L : List wD) : List (List Int) := (wY N).map (yS N L)
theorem zYi {i : Nat} (hi : i < N) : zD (tG N L) (i : Int) = some (yS N L (i : Int)) := by
 rw [xC, tG, List.getElem?_map, wY, List.getElem?_map, List.getElem?_range hi]
 rfl
theorem zPB (hN : N ≤ 40) (D : DD) (at0 vJ : List (List Int)) (n : Int) (full : Bool) (a : List Int) (ha : ∀ x ∈ a, ∃ k : Nat, x = (k : Int) ∧ k < N) (hl : a.length ≤ 40) (t : Dm) :
  zAr (n, at0, dA D, vJ, full) a (eD t) = some (a.filter fun x => mD (D x.toNat) t) := by
 unfold zAr
 have h := zEk (B := zDZ a (n, at0, dA D, vJ, full) (eD t)) a (fun s x => if mD (D x.toNat) t then s ++ [x] else s) id (fun i s => s.length ≤ i) ([] : List Int) (by simp) ?_ ?_
 ·have h2 := zF4 (fun x : Int => mD (D x.toNat) t) id a []
  simp only [id, List.map_id, List.nil_append] at h2
  rw [h.1, h2]; rfl
 ·intro i y s hy hI
  have hlt := vK hy
  obtain ⟨k, rfl, hk⟩ := ha y (vW hy)
  unfold zDZ
  simp only [vA hy, if_true, wV hy, zob, wX hy (by omega)]
  rw [zKd (K := 40) rfl (show k < 40 by omega), zob, zIu D (by omega), zW2, Int.toNat_natCast]
  cases mD (D k) t with
  | true =>
   simp only [if_true]
   rw [vX (by simp; omega)]
   exact ⟨rfl, by simp; omega⟩
  | false =>
   simp only [zbf, if_false]
   exact ⟨trivial, by omega⟩
 ·intro s _
  unfold zDZ
  simp [len]
theorem z2M : zC2 = zAr := rfl
theorem zI3 {i : Nat} : ∀ x ∈ yS N L (i : Int), ∃ k : Nat, x = (k : Int) ∧ k < N := fun x hx => by
 have h := (List.mem_filter.1 hx).1
 rw [xK] at h
 exact ⟨x.toNat, by omega, by omega⟩
theorem zJ2 {i j : Nat} (hj : j < N) : (j : Int) ∈ yS N L (i : Int) ↔ uJ L j i := by
 rw [List.mem_filter, xK]
 exact ⟨fun h => h.2, fun h => ⟨⟨by omega, by omega⟩, h⟩⟩
def zTq (N : Nat) (L : List wD) (D : DD) (i : Nat) : Dm :=
 ((yS N L (i : Int)).all fun x => (D x.toNat).2.1, (yS N L (i : Int)).any fun x => (D x.toNat).1,
  ((yS N L (i : Int)).all fun x => (D x.toNat).2.1 || (D x.toNat).2.2) && (yS N L (i : Int)).any fun x => (D x.toNat).2.2)
theorem zZg {α : Type} (p : α → Bool) (l : List α) : decide (len (l.filter p) < len l) = !(l.all p) := by
 induction l with
 | nil => rfl
 | cons x l ih =>
  rw [List.filter_cons]
  have hle := List.length_filter_le p l
  cases hp : p x with
  | true =>
   simp only [if_true, List.all_cons, hp, Bool.true_and]
   rw [← ih]
   simp only [len, List.length_cons]
   congr 1
   exact propext (by omega)
  | false =>
   simp only [zbf, if_false, List.all_cons, hp, Bool.false_and, Bool.not_false, decide_eq_true_eq, len, List.length_cons]
   omega
theorem zL0 {α : Type} (p : α → Bool) (l : List α) : (len (l.filter p) == 0) = !(l.any p) := by
 induction l with
 | nil => rfl
 | cons x l ih =>
  rw [List.filter_cons]
  cases hp : p x with
  | true =>
   simp only [if_true, List.any_cons, hp, Bool.true_or, Bool.not_true, len, List.length_cons]
   exact beq_eq_false_iff_ne.2 (by omega)
  | false => simp only [zbf, if_false, List.any_cons, hp, Bool.false_or]; exact ih
theorem zT3 (hN : N ≤ 40) (D : DD) (vJ : List (List Int)) (full : Bool) {i : Nat} (hi : i < N) :
  zBV ((N : Int), tG N L, dA D, vJ, full) (i : Int) = some (eD (zTq N L D i)) := by
 have hl : (yS N L (i : Int)).length ≤ 40 := Nat.le_trans (zT8 _) hN
 have c4 := zPB hN D (tG N L) vJ (N : Int) full (yS N L (i : Int)) zI3 hl (false, true, false)
 have c2 := zPB hN D (tG N L) vJ (N : Int) full (yS N L (i : Int)) zI3 hl (true, false, false)
 have c12 := zPB hN D (tG N L) vJ (N : Int) full (yS N L (i : Int)) zI3 hl (false, true, true)
 have c8 := zPB hN D (tG N L) vJ (N : Int) full (yS N L (i : Int)) zI3 hl (false, false, true)
 simp only [mD, Bool.and_false, Bool.and_true, Bool.false_or, Bool.or_false] at c4 c2 c12 c8
 rw [show eD (false, true, false) = 4 from rfl] at c4
 rw [show eD (true, false, false) = 2 from rfl] at c2
 rw [show eD (false, true, true) = 12 from rfl] at c12
 rw [show eD (false, false, true) = 8 from rfl] at c8
 unfold zBV
 simp only [zYi hi, zob, c4, c2, c12, c8, zZg, zL0]
 unfold zTq
 generalize ((yS N L (i : Int)).all fun x => (D x.toNat).2.1) = q1
 generalize ((yS N L (i : Int)).any fun x => (D x.toNat).1) = q2
 generalize ((yS N L (i : Int)).all fun x => (D x.toNat).2.1 || (D x.toNat).2.2) = q3
 generalize ((yS N L (i : Int)).any fun x => (D x.toNat).2.2) = q4
 revert q1 q2 q3 q4
 decide +kernel
structure CL (N : Nat) (L : List wD) (f : Nat → Nat) : Prop where
 r : ∀ i, i < N → f i = 1 ∨ f i = 2 ∨ f i = 3
 i1 : ∀ i, i < N → f i = 1 → ∀ j, j < N → uJ L j i → f j = 2
 i2 : ∀ i, i < N → f i = 2 → ∃ j, j < N ∧ uJ L j i ∧ f j = 1
 i3 : ∀ i, i < N → f i = 3 → (∃ j, j < N ∧ uJ L j i ∧ f j = 3) ∧ ∀ j, j < N → uJ L j i → f j ≠ 1
def zTB (x : Dm) (k : Nat) : Bool := match k with
 | 1 => x.1
 | 2 => x.2.1
 | 3 => x.2.2
 | _ => false
def zWQ (N : Nat) (D : DD) (f : Nat → Nat) : Prop := ∀ i, i < N → zTB (D i) (f i) = true
theorem zYV (x y : Dm) (k : Nat) : zTB (iD x y) k = (zTB x k && zTB y k) := by
 match k with
 | 0 | 1 | 2 | 3 => rfl
 | _ + 4 => rfl
theorem zWF {x y : Dm} (h : tK x y) {k : Nat} (hk : zTB x k = true) : zTB y k = true := by
 match k, hk with
 | 1, hk => exact h.1 hk
 | 2, hk => exact h.2.1 hk
 | 3, hk => exact h.2.2 hk
theorem z2e {D : DD} {f : Nat → Nat} (hf : CL N L f) (hc : zWQ N D f) {i : Nat} (hi : i < N) : zTB (zTq N L D i) (f i) = true := by
 have hpr : ∀ x ∈ yS N L (i : Int), ∃ k : Nat, x = (k : Int) ∧ k < N ∧ uJ L k i := fun x hx => by
  obtain ⟨k, rfl, hk⟩ := zI3 x hx
  exact ⟨k, rfl, hk, (zJ2 hk).1 hx⟩
 rcases hf.r i hi with h | h | h <;> rw [h]
 ·show ((yS N L (i : Int)).all fun x => (D x.toNat).2.1) = true
  rw [List.all_eq_true]
  intro x hx
  obtain ⟨k, rfl, hk, he⟩ := hpr x hx
  have := hc k hk
  rw [hf.i1 i hi h k hk he] at this
  exact this
 ·show ((yS N L (i : Int)).any fun x => (D x.toNat).1) = true
  obtain ⟨k, hk, he, h1⟩ := hf.i2 i hi h
  rw [List.any_eq_true]
  have := hc k hk
  rw [h1] at this
  exact ⟨(k : Int), (zJ2 hk).2 he, this⟩
 ·show (_ && _) = true
  obtain ⟨⟨k, hk, he, h3⟩, h4⟩ := hf.i3 i hi h
  rw [Bool.and_eq_true, List.all_eq_true, List.any_eq_true]
  refine ⟨fun x hx => ?_, (k : Int), (zJ2 hk).2 he, ?_⟩
  ·obtain ⟨k, rfl, hk, he⟩ := hpr x hx
   have := hc k hk
   rcases hf.r k hk with q | q | q
   ·exact absurd q (h4 k hk he)
   ·rw [q] at this; simp [show (D k).2.1 = true from this]
   ·rw [q] at this; simp [show (D k).2.2 = true from this]
  ·have := hc k hk
   rw [h3] at this
   exact this
end
end
section
section
variable {N : Nat} {L : List wD}
def xF (N : Nat) (L : List wD) (D E : DD) : Prop := leF E D ∧ ∀ f, CL N L f → zWQ N D f → zWQ N E f
theorem xF.refl (D : DD) : xF N L D D := ⟨leF.refl D, fun _ _ h => h⟩
theorem xF.trans {D E G : DD} (h : xF N L D E) (k : xF N L E G) : xF N L D G := ⟨k.1.trans h.1, fun f hf hc => k.2 f hf (h.2 f hf hc)⟩
theorem zVG {D E : DD} (h : xF N L D E) {k : Nat} (t : Dm) (ht : ∀ f, CL N L f → zWQ N D f → zTB t (f k) = true) : xF N L D (tM E k (iD (E k) t)) := by
 refine ⟨(zPy (z2k _ _)).trans h.1, fun f hf hc j hj => ?_⟩
 unfold tM
 split
 ·rename_i e; subst e
  rw [zYV, h.2 f hf hc j hj, ht f hf hc]; rfl
 ·exact h.2 f hf hc j hj
theorem zS6 {ρ : Type} {B : Int × List Int → Option ((Int × List Int) ⊕ ρ)} (hN : N ≤ 40) (D : DD) (a : List Int) (ha : ∀ x ∈ a, ∃ k : Nat, x = (k : Int) ∧ k < N) (t : Dm) (ht : ∀ f, CL N L f → zWQ N D f → ∀ k : Nat, (k : Int) ∈ a → zTB t (f k) = true) (fin : List Int → ρ)
  (hB : ∀ (i : Nat) (k : Nat) s, a[i]? = some (k : Int) → k < 40 → B ((i : Int), s) = some (.inl (((i + 1 : Nat) : Int), xO 40 s (k : Int) (yG .i64 (yM s (k : Int)) (eD t)))))
  (he : ∀ s, B ((a.length : Int), s) = some (.inr (fin s))) : ∃ E, zW B (0, dA D) = some (fin (dA E)) ∧ xF N L D E := by
 have h := zNb (B := B) a (fun s x => xO 40 s x (yG .i64 (yM s x) (eD t))) fin (fun _ s => ∃ E, s = dA E ∧ xF N L D E) (dA D) ⟨D, rfl, xF.refl D⟩ ?_ fun s _ => he s
 ·obtain ⟨h1, E, h2, h3⟩ := h
  exact ⟨E, by rw [h1, h2], h3⟩
 ·rintro i x s hx ⟨E, rfl, hE⟩
  obtain ⟨k, rfl, hk⟩ := ha x (vW hx)
  refine ⟨hB i k _ hx (by omega), tM E k (iD (E k) t), ?_, zVG hE t fun f hf hc => ht f hf hc k (vW hx)⟩
  rw [zIu E (by omega), zTX, zUU E (by omega)]
theorem zWK (x y : Dm) : (eD x == eD y) = decide (x = y) := by
 by_cases h : x = y
 ·subst h; simp
 ·simp only [h, decide_false, beq_eq_false_iff_ne]
  exact fun e => h (zW6 _ _ e)
theorem zYA (hN : N ≤ 40) (D : DD) (vJ : List (List Int)) (full : Bool) {i : Nat} (hi : i < N) :
  ∃ E, zBa ((N : Int), tG N L, dA D, vJ, full) (i : Int) = some (dA E, vJ) ∧ xF N L D E := by
 have hl : (yS N L (i : Int)).length ≤ 40 := Nat.le_trans (zT8 _) hN
 have hne : ∀ f, CL N L f → zWQ N D f → zTB (D i) (f i) = true := fun f _ hc => hc i hi
 have hon : ∀ (f : Nat → Nat) (k : Nat), CL N L f → zWQ N D f → (∀ q, q = 1 ∨ q = 2 ∨ q = 3 → zTB (D i) q = true → q = k) → f i = k := fun f k hf hc hq => hq _ (hf.r i hi) (hc i hi)
 have first : ∃ (t : Dm) (E : DD), ((vY (decide (0 ≤ (i : Int)) && decide ((i : Int) < 40))).bind fun _ =>
   if (yM (dA D) (i : Int)) == 2 then
    zW (zBh (yS N L (i : Int))) (0, dA D)
   else
    if (yM (dA D) (i : Int)) == 4 then
     some (2, dA D)
    else
     if (yM (dA D) (i : Int)) == 8 then
      (zW (zBg (yS N L (i : Int))) (0, dA D) : Option (List Int)).bind fun s3 =>
      some (8, s3)
     else
      some (0, dA D) : Option (Int × (List Int))) = some (eD t, dA E) ∧ xF N L D E ∧ (t = (false, false, false) ∨ ∃ c : Nat, (t = (true, false, false) ∧ c = 1 ∨ t = (false, false, true) ∧ c = 3) ∧
    ∀ f, CL N L f → zWQ N D f → ∃ j, j < N ∧ uJ L j i ∧ f j = c) := by
  rw [zKd (K := 40) rfl (show i < 40 by omega), zob, zIu D (by omega)]
  rw [show (2 : Int) = eD (true, false, false) from rfl, show (4 : Int) = eD (false, true, false) from rfl, show (8 : Int) = eD (false, false, true) from rfl, zWK, zWK, zWK]
  by_cases h1 : D i = (true, false, false)
  ·have hf1 : ∀ f, CL N L f → zWQ N D f → f i = 1 := fun f hf hc => hon f 1 hf hc fun q hq hh => by
    rw [h1] at hh
    rcases hq with rfl | rfl | rfl
    ·rfl
    ·exact Bool.noConfusion hh
    ·exact Bool.noConfusion hh
   obtain ⟨E, h2, h3⟩ := zS6 (B := zBh (yS N L (i : Int))) hN D (yS N L (i : Int)) zI3 (false, true, false) (fun f hf hc k hk => by
    have hkN : k < N := by obtain ⟨k', e, h⟩ := zI3 _ hk; omega
    rw [hf.i1 i hi (hf1 f hf hc) k hkN ((zJ2 hkN).1 hk)]; rfl) (fun s => (0, s)) (fun q k s hq hk => by
     unfold zBh
     simp only [vA hq, if_true, wV hq, zob, wX hq (by omega)]
     rw [zKd (K := 40) rfl hk]
     rfl) (fun s => by unfold zBh; simp [len])
   refine ⟨(false, false, false), E, ?_, h3, .inl rfl⟩
   simp only [h1, decide_true, if_true]
   exact h2
  ·simp only [h1, decide_false, zbf, if_false]
   by_cases h2 : D i = (false, true, false)
   ·refine ⟨(true, false, false), D, by simp only [h2, decide_true, if_true], xF.refl D, .inr ⟨1, .inl ⟨rfl, rfl⟩, fun f hf hc => ?_⟩⟩
    refine hf.i2 i hi (hon f 2 hf hc fun q hq hh => ?_)
    rw [h2] at hh
    rcases hq with rfl | rfl | rfl
    ·exact Bool.noConfusion hh
    ·rfl
    ·exact Bool.noConfusion hh
   ·simp only [h2, decide_false, zbf, if_false]
    by_cases h3 : D i = (false, false, true)
    ·have hf3 : ∀ f, CL N L f → zWQ N D f → f i = 3 := fun f hf hc => hon f 3 hf hc fun q hq hh => by
      rw [h3] at hh
      rcases hq with rfl | rfl | rfl
      ·exact Bool.noConfusion hh
      ·exact Bool.noConfusion hh
      ·rfl
     obtain ⟨E, h4, h5⟩ := zS6 (B := zBg (yS N L (i : Int))) hN D (yS N L (i : Int)) zI3 (false, true, true) (fun f hf hc k hk => by
      have hkN : k < N := by obtain ⟨k', e, h⟩ := zI3 _ hk; omega
      have h6 := (hf.i3 i hi (hf3 f hf hc)).2 k hkN ((zJ2 hkN).1 hk)
      rcases hf.r k hkN with h | h | h
      ·exact absurd h h6
      ·rw [h]; rfl
      ·rw [h]; rfl) (fun s => s) (fun q k s hq hk => by
       unfold zBg
       simp only [vA hq, if_true, wV hq, zob, wX hq (by omega)]
       rw [zKd (K := 40) rfl hk]
       rfl) (fun s => by unfold zBg; simp [len])
     refine ⟨(false, false, true), E, ?_, h5, .inr ⟨3, .inr ⟨rfl, rfl⟩, fun f hf hc => (hf.i3 i hi (hf3 f hf hc)).1⟩⟩
     simp only [h3, decide_true, if_true]
     rw [h4]; rfl
    ·refine ⟨(false, false, false), D, by simp only [h3, decide_false, zbf, if_false]; rfl, xF.refl D, .inl rfl⟩
 obtain ⟨t, E, h1, h2, h3⟩ := first
 unfold zBa
 simp only [zYi hi, zob]
 rw [h1, zob, z2M, zPB hN E _ vJ (N : Int) full _ zI3 hl t, zob]
 by_cases hlen : len ((yS N L (i : Int)).filter fun x => mD (E x.toNat) t) = 1
 ·have hb : (len ((yS N L (i : Int)).filter fun x => mD (E x.toNat) t) == 1) = true := by rw [hlen]; rfl
  rw [hb]
  simp only [if_true]
  obtain ⟨x, hx⟩ : ∃ x, (yS N L (i : Int)).filter (fun x => mD (E x.toNat) t) = [x] := by
   have : ((yS N L (i : Int)).filter fun x => mD (E x.toNat) t).length = 1 := by simp only [len] at hlen; omega
   exact List.length_eq_one_iff.1 this
  rw [hx]
  have hxm : x ∈ (yS N L (i : Int)).filter fun x => mD (E x.toNat) t := by rw [hx]; exact List.mem_cons_self
  obtain ⟨k, rfl, hk⟩ := zI3 x (List.mem_filter.1 hxm).1
  refine ⟨tM E k (iD (E k) t), ?_, zVG h2 t fun f hf hc => ?_⟩
  ·rw [show zD [(k : Int)] 0 = some (k : Int) from rfl, zob, zKd (K := 40) rfl (show k < 40 by omega), zob, zob, zIu E (by omega), zTX, zUU E (by omega)]
  ·rcases h3 with rfl | ⟨c, hc1, hc2⟩
   ·have := (List.mem_filter.1 hxm).2
    simp [mD] at this
   ·obtain ⟨j, hj, he, hfj⟩ := hc2 f hf hc
    have hEj := h2.2 f hf hc j hj
    rw [hfj] at hEj
    have hjm : (j : Int) ∈ (yS N L (i : Int)).filter fun x => mD (E x.toNat) t := by
     rw [List.mem_filter]
     refine ⟨(zJ2 hj).2 he, ?_⟩
     rw [Int.toNat_natCast]
     rcases hc1 with ⟨rfl, rfl⟩ | ⟨rfl, rfl⟩
     ·have : (E j).1 = true := hEj
      simp [mD, this]
     ·have : (E j).2.2 = true := hEj
      simp [mD, this]
    rw [hx, List.mem_singleton] at hjm
    have : j = k := by omega
    subst this
    rw [hfj]
    rcases hc1 with ⟨rfl, rfl⟩ | ⟨rfl, rfl⟩ <;> rfl
 ·have hb : (len ((yS N L (i : Int)).filter fun x => mD (E x.toNat) t) == 1) = false := beq_eq_false_iff_ne.2 hlen
  rw [hb]
  exact ⟨E, rfl, h2⟩
def Dead (N : Nat) (L : List wD) (D : DD) : Prop := ∀ f, CL N L f → ¬ zWQ N D f
def Fix (N : Nat) (L : List wD) (D : DD) : Prop := ∀ i, i < N → tK (D i) (zTq N L D i)
theorem zZL {D E : DD} (h : xF N L D E) {i : Nat} (hi : i < N) (h0 : E i = (false, false, false)) : Dead N L D := fun f hf hc => by
 have := h.2 f hf hc i hi
 rw [h0] at this
 rcases hf.r i hi with h | h | h <;> rw [h] at this <;> exact Bool.noConfusion this
theorem zVg (hN : N ≤ 40) (D : DD) (vJ : List (List Int)) (n2 : List Int) (f2 : List (List Int)) (full : Bool) :
  (∃ E, zW (zAH ((N : Int), tG N L, n2, f2, full)) (0, dA D, vJ) = some (.inl (dA E, vJ)) ∧ xF N L D E ∧ (E = D → Fix N L D)) ∨
  ∃ E, zW (zAH ((N : Int), tG N L, n2, f2, full)) (0, dA D, vJ) = some (.inr (.inr (false, dA E, vJ))) ∧ leF E D ∧ Dead N L D := by
 have key : ∀ (m i : Nat) (E : DD), i + m = N → xF N L D E → (E = D → ∀ j, j < i → tK (D j) (zTq N L D j)) →
   (∃ G, zW (zAH ((N : Int), tG N L, n2, f2, full)) ((i : Int), dA E, vJ) = some (.inl (dA G, vJ)) ∧ xF N L D G ∧ (G = D → Fix N L D)) ∨
   ∃ G, zW (zAH ((N : Int), tG N L, n2, f2, full)) ((i : Int), dA E, vJ) = some (.inr (.inr (false, dA G, vJ))) ∧ leF G D ∧ Dead N L D := by
  intro m
  induction m with
  | zero =>
   intro i E h hE hI
   rw [Nat.add_zero] at h
   subst h
   refine .inl ⟨E, ?_, hE, fun e j hj => hI e j hj⟩
   rw [vZ]
   unfold zAH
   simp
  | succ m ih =>
   intro i E h hE hI
   have hi : i < N := by omega
   have hd : decide ((i : Int) < (N : Int)) = true := by simp; omega
   have hp := zT3 (L := L) hN E vJ full hi
   have hK1 : xF N L D (tM E i (iD (E i) (zTq N L E i))) := by
    refine hE.trans ⟨zPy (z2k _ _), fun f hf hc j hj => ?_⟩
    unfold tM
    split
    ·rename_i e; subst e
     rw [zYV, hc j hj, z2e hf hc hj]; rfl
    ·exact hc j hj
   obtain ⟨G, hG1, hG2⟩ := zYA (L := L) hN (tM E i (iD (E i) (zTq N L E i))) vJ full hi
   have hstep : zAH ((N : Int), tG N L, n2, f2, full) ((i : Int), dA E, vJ) =
     if (tM E i (iD (E i) (zTq N L E i)) i) = (false, false, false) then some (.inr (.inr (.inr (false, dA (tM E i (iD (E i) (zTq N L E i))), vJ)))) else some (.inl (((i + 1 : Nat) : Int), dA G, vJ)) := by
    unfold zAH
    simp only [hd, if_true]
    rw [zKd (K := 40) rfl (show i < 40 by omega), zob, hp, zob, zob, zob, zIu E (by omega), zTX, zUU E (by omega), zIu _ (by omega)]
    rw [show (0 : Int) = eD (false, false, false) from rfl, zWK]
    by_cases h0 : tM E i (iD (E i) (zTq N L E i)) i = (false, false, false)
    ·simp only [h0, decide_true, if_true]
    ·simp only [h0, decide_false, zbf, if_false]
     rw [hG1, zob, yP i (by omega)]
   rw [vZ, hstep]
   by_cases h0 : tM E i (iD (E i) (zTq N L E i)) i = (false, false, false)
   ·rw [if_pos h0]
    exact .inr ⟨_, rfl, hK1.1, zZL hK1 hi h0⟩
   ·rw [if_neg h0]
    refine ih (i + 1) G (by omega) (hK1.trans hG2) fun e j hj => ?_
    have e1 : tM E i (iD (E i) (zTq N L E i)) = D := hK1.1.anti (by rw [← e]; exact hG2.1)
    have e2 : E = D := hE.1.anti (by rw [← e1]; exact zPy (z2k _ _))
    rcases Nat.lt_succ_iff_lt_or_eq.1 hj with hj | rfl
    ·exact hI e2 j hj
    ·have h3 : iD (E j) (zTq N L E j) = E j := by
      have := congrFun (e1.trans e2.symm) j
      simpa [tM] using this
     rw [e2] at h3
     have := iD_le2 (D j) (zTq N L D j)
     rwa [h3] at this
 exact key N 0 D (by omega) (xF.refl D) fun _ j hj => absurd hj (Nat.not_lt_zero _)
theorem z1c (D E : DD) : aeq 40 (dA D) (dA E) = true ↔ ∀ j, j < 40 → D j = E j := by
 unfold aeq
 rw [List.all_eq_true]
 refine ⟨fun h j hj => ?_, fun h j hj => ?_⟩
 ·have := h j (List.mem_range.2 hj)
  rw [beq_iff_eq] at this
  have h1 := zIu D hj
  have h2 := zIu E hj
  simp only [yM, Int.toNat_natCast] at h1 h2
  rw [h1, h2] at this
  exact zW6 _ _ this
 ·have hj := List.mem_range.1 hj
  have h1 := zIu D hj
  have h2 := zIu E hj
  simp only [yM, Int.toNat_natCast] at h1 h2
  rw [h1, h2, h j hj]; simp
theorem z3A (hN : N ≤ 40) (D : DD) : z1W 40 (dA D) (N : Int) = some (qN N fun j => eD (D j)) := by
 unfold z1W
 rw [if_pos ⟨by omega, by omega⟩, Int.toNat_natCast]
 congr 1
 apply List.map_congr_left
 intro j hj
 have hj := List.mem_range.1 hj
 have h1 := zIu D (show j < 40 by omega)
 simpa only [yM, Int.toNat_natCast] using h1
theorem zYy (D : DD) : ((0 : Int) ∈ qN N fun j => eD (D j)) ↔ ∃ j, j < N ∧ D j = (false, false, false) := by
 constructor
 ·intro h
  obtain ⟨j, hj, he⟩ := List.mem_map.1 h
  refine ⟨j, List.mem_range.1 hj, zW6 _ _ ?_⟩
  rw [he]; rfl
 ·rintro ⟨j, hj, he⟩
  refine List.mem_map.2 ⟨j, List.mem_range.2 hj, ?_⟩
  rw [he]; rfl
theorem zVU (hN : N ≤ 40) (D : DD) (hD : Emp N D) (vJ : List (List Int)) (full : Bool) :
  (∃ E, zAz ((N : Int), tG N L, dA D, vJ, full) = some (true, dA E, vJ) ∧ xF N L D E ∧ Fix N L E ∧ ∀ i, i < N → E i ≠ (false, false, false)) ∨
  ∃ E, zAz ((N : Int), tG N L, dA D, vJ, full) = some (false, dA E, vJ) ∧ leF E D ∧ Dead N L D := by
 have h := zLY (B := zB1 ((N : Int), tG N L, dA D, vJ, full)) (fun s => ∃ E, s = (dA E, vJ) ∧ xF N L D E)
  (fun s => open Classical in if h : ∃ E, s = (dA E, vJ) ∧ xF N L D E then zU0 (Classical.choose h) 40 else 0)
  (fun r => (∃ E, r = (true, dA E, vJ) ∧ xF N L D E ∧ Fix N L E ∧ ∀ i, i < N → E i ≠ (false, false, false)) ∨ ∃ E, r = (false, dA E, vJ) ∧ leF E D ∧ Dead N L D) ?_ (dA D, vJ) ⟨D, rfl, xF.refl D⟩
 ·obtain ⟨r, h1, ⟨E, rfl, h2⟩ | ⟨E, rfl, h2⟩⟩ := h
  ·exact .inl ⟨E, h1, h2⟩
  ·exact .inr ⟨E, h1, h2⟩
 ·rintro s ⟨E, rfl, hE⟩
  have dinj : ∀ {G H : DD}, leF G D → leF H D → dA G = dA H → G = H := by
   intro G H hG hH he
   funext j
   by_cases hj : j < 40
   ·have h1 := zIu G hj
    rw [he, zIu H hj] at h1
    exact (zW6 _ _ h1).symm
   ·rw [hD.le hG j (by omega), hD.le hH j (by omega)]
  have hmu : ∀ G, xF N L D G → (open Classical in if h : ∃ E, ((dA G, vJ) : List Int × List (List Int)) = (dA E, vJ) ∧ xF N L D E then zU0 (Classical.choose h) 40 else 0) = zU0 G 40 := by
   intro G hG
   have hex : ∃ E, ((dA G, vJ) : List Int × List (List Int)) = (dA E, vJ) ∧ xF N L D E := ⟨G, rfl, hG⟩
   rw [dif_pos hex]
   have h1 := Classical.choose_spec hex
   exact congrArg (fun z => zU0 z 40) (dinj h1.2.1 hG.1 (congrArg Prod.fst h1.1).symm)
  unfold zB1
  rcases zVg (L := L) hN E vJ (dA D) vJ full with ⟨G, h1, h2, h3⟩ | ⟨G, h1, h2, h3⟩
  ·rw [h1]
   simp only [yC, zob]
   rw [z3A hN, zob, zKa _ _ (by simp only [qN, List.length_map, List.length_range]; omega), zob]
   by_cases h0 : (0 : Int) ∈ qN N fun j => eD (G j)
   ·simp only [h0, decide_true, if_true]
    obtain ⟨j, hj, hz⟩ := (zYy G).1 h0
    exact .inr ⟨_, rfl, .inr ⟨G, rfl, h2.1.trans hE.1, zZL (hE.trans h2) hj hz⟩⟩
   ·simp only [h0, decide_false, zbf, if_false]
    by_cases he : ∀ j, j < 40 → G j = E j
    ·rw [(z1c G E).2 he]
     simp only [if_true]
     have hGE : G = E := funext fun j => by
      by_cases hj : j < 40
      ·exact he j hj
      ·rw [hD.le (h2.1.trans hE.1) j (by omega), hD.le hE.1 j (by omega)]
     subst hGE
     refine .inr ⟨_, rfl, .inl ⟨G, rfl, hE, h3 rfl, fun i hi hz => h0 ((zYy G).2 ⟨i, hi, hz⟩)⟩⟩
    ·have hb : aeq 40 (dA G) (dA E) = false := by
      cases hq : aeq 40 (dA G) (dA E) with
      | false => rfl
      | true => exact absurd ((z1c G E).1 hq) he
     rw [hb]
     simp only [zbf, if_false]
     refine .inl ⟨_, rfl, ⟨G, rfl, hE.trans h2⟩, ?_⟩
     rw [hmu G (hE.trans h2), hmu E hE]
     have h4 := zR4 h2.1 40
     rcases Nat.lt_or_eq_of_le h4 with h5 | h5
     ·exact h5
     ·exact absurd (zYW h2.1 40 h5) he
  ·rw [h1]
   simp only [yC, zob]
   exact .inr ⟨_, rfl, .inr ⟨G, rfl, h2.trans hE.1, fun f hf hc => h3 f hf (hE.2 f hf hc)⟩⟩
end
end
section
def yX (N : Nat) (f : Nat → Nat) : List Int := qN N fun j => ((f j : Nat) : Int)
theorem zQt {N i : Nat} (hi : i < N) (f : Nat → Nat) : (yX N f)[i]? = some ((f i : Nat) : Int) := by rw [yX, zIb, if_pos hi]
theorem zNf (N : Nat) (f : Nat → Nat) : (yX N f).length = N := by simp [yX, qN]
theorem z2i {N : Nat} {f g : Nat → Nat} (h : ∀ j, j < N → f j = g j) : yX N f = yX N g := tU fun j hj => by rw [h j hj]
theorem zWz {N : Nat} {f g : Nat → Nat} (h : yX N f = yX N g) : ∀ j, j < N → f j = g j := fun j hj => by
 have h1 := zQt hj f
 rw [h, zQt hj g] at h1
 simp only [Option.some.injEq] at h1
 omega
def yR (c : Nat) : Dm := (decide (c = 1), decide (c = 2), decide (c = 3))
theorem zWm {c k : Nat} (hc : c = 1 ∨ c = 2 ∨ c = 3) (h : zTB (yR c) k = true) : k = c := by
 match k, h with
 | 1, h => simpa [zTB, yR, eq_comm] using h
 | 2, h => simpa [zTB, yR, eq_comm] using h
 | 3, h => simpa [zTB, yR, eq_comm] using h
theorem zZW {c : Nat} (hc : c = 1 ∨ c = 2 ∨ c = 3) : zTB (yR c) c = true := by
 rcases hc with rfl | rfl | rfl <;> rfl
theorem sgl_le {c : Nat} {x : Dm} (hc : c = 1 ∨ c = 2 ∨ c = 3) (h : zTB x c = true) : tK (yR c) x := by
 rcases hc with rfl | rfl | rfl
 ·exact ⟨fun _ => h, fun k => by simp [yR] at k, fun k => by simp [yR] at k⟩
 ·exact ⟨fun k => by simp [yR] at k, fun _ => h, fun k => by simp [yR] at k⟩
 ·exact ⟨fun k => by simp [yR] at k, fun k => by simp [yR] at k, fun _ => h⟩
theorem zZM : ∀ x : Dm, x ≠ (false, false, false) → (∃ c, (c = 1 ∨ c = 2 ∨ c = 3) ∧ x = yR c) ∨ 2 ≤ zWk x := by
 rintro ⟨a, b, c⟩ h
 cases a <;> cases b <;> cases c
 ·exact absurd rfl h
 ·exact .inl ⟨3, by decide, rfl⟩
 ·exact .inl ⟨2, by decide, rfl⟩
 ·exact .inr (by decide)
 ·exact .inl ⟨1, by decide, rfl⟩
 ·exact .inr (by decide)
 ·exact .inr (by decide)
 ·exact .inr (by decide)
theorem zYh {c : Nat} (hc : c = 1 ∨ c = 2 ∨ c = 3) : zWk (yR c) = 1 := by rcases hc with rfl | rfl | rfl <;> rfl
theorem zWh {D : DD} {i : Nat} {x : Dm} (h : tK x (D i)) (hp : zWk x < zWk (D i)) : ∀ n, i < n → zU0 (tM D i x) n < zU0 D n
 | 0, hn => absurd hn (Nat.not_lt_zero _)
 | n + 1, hn => by
  simp only [zU0]
  rcases Nat.lt_succ_iff_lt_or_eq.1 hn with h1 | rfl
  ·have h2 := zWh h hp n h1
   have h3 : tM D i x n = D n := if_neg (by omega)
   rw [h3]; omega
  ·have h2 := zR4 (zPy h) i
   have h3 : tM D i x i = x := if_pos rfl
   rw [h3]; omega
section
variable {N : Nat} {L : List wD}
theorem zVq (hN : N ≤ 40) (D : DD) (h0 : ∀ i, i < N → D i ≠ (false, false, false)) (at0 vJ : List (List Int)) (full : Bool) :
  (∃ f : Nat → Nat, zBA ((N : Int), at0, dA D, vJ, full) = some (yX N f, -1) ∧ ∀ j, j < N → (f j = 1 ∨ f j = 2 ∨ f j = 3) ∧ D j = yR (f j)) ∨
  ∃ i, i < N ∧ zBA ((N : Int), at0, dA D, vJ, full) = some ([], (i : Int)) ∧ 2 ≤ zWk (D i) := by
 have key : ∀ (m i : Nat) (f : Nat → Nat), i + m = N → (∀ j, j < i → (f j = 1 ∨ f j = 2 ∨ f j = 3) ∧ D j = yR (f j)) →
   (∃ g : Nat → Nat, zW (zA1 ((N : Int), at0, dA D, vJ, full)) (yX i f, (i : Int)) = some (yX N g, -1) ∧ ∀ j, j < N → (g j = 1 ∨ g j = 2 ∨ g j = 3) ∧ D j = yR (g j)) ∨
   ∃ q, q < N ∧ zW (zA1 ((N : Int), at0, dA D, vJ, full)) (yX i f, (i : Int)) = some ([], (q : Int)) ∧ 2 ≤ zWk (D q) := by
  intro m
  induction m with
  | zero =>
   intro i f h hf
   rw [Nat.add_zero] at h
   subst h
   refine .inl ⟨f, ?_, hf⟩
   rw [vZ]
   unfold zA1
   simp
  | succ m ih =>
   intro i f h hf
   have hi : i < N := by omega
   have hd : decide ((i : Int) < (N : Int)) = true := by simp; omega
   have hstep : ∀ c : Nat, c = 1 ∨ c = 2 ∨ c = 3 → D i = yR c → zA1 ((N : Int), at0, dA D, vJ, full) (yX i f, (i : Int)) = some (.inl (yX i f ++ [(c : Int)], ((i + 1 : Nat) : Int))) := by
    intro c hc hDi
    unfold zA1
    simp only [hd, if_true]
    rw [zKd (K := 40) rfl (show i < 40 by omega), zob, zIu D (by omega), hDi]
    have hl := zNf i f
    rcases hc with rfl | rfl | rfl
    ·rw [show (eD (yR 1) == 2) = true from rfl]
     simp only [if_true]
     rw [vX (by simp only [List.length_cons, List.length_nil]; omega), zob, yP i (by omega)]; rfl
    ·rw [show (eD (yR 2) == 2) = false from rfl, show (eD (yR 2) == 4) = true from rfl]
     simp only [if_true, zbf, if_false]
     rw [vX (by simp only [List.length_cons, List.length_nil]; omega), zob, yP i (by omega)]; rfl
    ·rw [show (eD (yR 3) == 2) = false from rfl, show (eD (yR 3) == 4) = false from rfl, show (eD (yR 3) == 8) = true from rfl]
     simp only [if_true, zbf, if_false]
     rw [vX (by simp only [List.length_cons, List.length_nil]; omega), zob, yP i (by omega)]; rfl
   rcases zZM (D i) (h0 i hi) with ⟨c, hc, hDi⟩ | hp
   ·rw [vZ, hstep c hc hDi]
    have e1 : yX i f ++ [(c : Int)] = yX (i + 1) fun j => if j = i then c else f j := by
     unfold yX
     rw [zZS]
     congr 1
     ·exact tU fun j hj => by
       have : ¬ j = i := by omega
       simp only [this, if_false]
     ·simp
    rw [e1]
    refine ih (i + 1) _ (by omega) fun j hj => ?_
    rcases Nat.lt_succ_iff_lt_or_eq.1 hj with hj | rfl
    ·have : ¬ j = i := by omega
     simp only [this, if_false]
     exact hf j hj
    ·simp only [if_true]
     exact ⟨hc, hDi⟩
   ·refine .inr ⟨i, hi, ?_, hp⟩
    rw [vZ]
    have : zA1 ((N : Int), at0, dA D, vJ, full) (yX i f, (i : Int)) = some (.inr ([], (i : Int))) := by
     unfold zA1
     simp only [hd, if_true]
     rw [zKd (K := 40) rfl (show i < 40 by omega), zob, zIu D (by omega)]
     rw [show (2 : Int) = eD (yR 1) from rfl, show (4 : Int) = eD (yR 2) from rfl, show (8 : Int) = eD (yR 3) from rfl, zWK, zWK, zWK]
     have hn : ∀ c, c = 1 ∨ c = 2 ∨ c = 3 → ¬ D i = yR c := fun c hc he => by rw [he, zYh hc] at hp; omega
     simp only [hn 1 (by decide), hn 2 (by decide), hn 3 (by decide), decide_false, zbf, if_false]
    rw [this]
 exact key N 0 (fun _ => 0) (by omega) fun j hj => absurd hj (Nat.not_lt_zero _)
structure Sp (N : Nat) (L : List wD) (P : (Nat → Nat) → Prop) (n0 : Nat) (full : Bool) (new : List (List Int)) (full' : Bool) : Prop where
 snd : ∀ x ∈ new, ∃ f, CL N L f ∧ P f ∧ x = yX N f
 nd : new.Nodup
 ful : full = true → new = [] ∧ full' = true
 hi : full = false → full' = true → n0 + new.length = 201
 lo : full = false → full' = false → n0 + new.length ≤ 200 ∧ ∀ f, CL N L f → P f → yX N f ∈ new
theorem Sp.none {P : (Nat → Nat) → Prop} {n0 : Nat} {full : Bool} (h : full = false → n0 ≤ 200) (hP : ∀ f, CL N L f → ¬ P f) : Sp N L P n0 full [] full :=
 ⟨fun x hx => (by cases hx), List.nodup_nil, fun h => ⟨rfl, h⟩, fun h1 h2 => (by rw [h1] at h2; cases h2), fun h1 _ => ⟨h h1, fun f hf hp => absurd hp (hP f hf)⟩⟩
theorem Sp.or {P Q : (Nat → Nat) → Prop} {n0 : Nat} {full f1 f2 : Bool} {new1 new2 : List (List Int)} (h1 : Sp N L P n0 full new1 f1) (h2 : Sp N L Q (n0 + new1.length) f1 new2 f2) (hd : ∀ f g, P f → Q g → yX N f ≠ yX N g) :
  Sp N L (fun f => P f ∨ Q f) n0 full (new1 ++ new2) f2 := by
 refine ⟨fun x hx => ?_, ?_, fun hf => ?_, fun h3 h4 => ?_, fun h3 h4 => ?_⟩
 ·rcases List.mem_append.1 hx with h | h
  ·obtain ⟨f, a, b, c⟩ := h1.snd x h; exact ⟨f, a, .inl b, c⟩
  ·obtain ⟨f, a, b, c⟩ := h2.snd x h; exact ⟨f, a, .inr b, c⟩
 ·refine List.nodup_append.2 ⟨h1.nd, h2.nd, fun x hx y hy e => ?_⟩
  obtain ⟨f, _, a, b⟩ := h1.snd x hx
  obtain ⟨g, _, c, d⟩ := h2.snd y hy
  exact hd f g a c (by rw [← b, ← d]; exact e)
 ·obtain ⟨rfl, k1⟩ := h1.ful hf
  obtain ⟨rfl, k2⟩ := h2.ful k1
  exact ⟨rfl, k2⟩
 ·rw [List.length_append]
  cases hq : f1 with
  | true =>
   obtain ⟨rfl, _⟩ := h2.ful hq
   have := h1.hi h3 hq
   simpa using this
  | false =>
   have := h2.hi hq h4
   omega
 ·have hq : f1 = false := by
   cases hq : f1 with
   | false => rfl
   | true => rw [(h2.ful hq).2] at h4; cases h4
  have k1 := h1.lo h3 hq
  have k2 := h2.lo hq h4
  rw [List.length_append]
  refine ⟨by omega, fun f hf hp => List.mem_append.2 ?_⟩
  rcases hp with h | h
  ·exact .inl (k1.2 f hf h)
  ·exact .inr (k2.2 f hf h)
theorem Sp.of {P Q : (Nat → Nat) → Prop} {n0 : Nat} {full f1 : Bool} {new : List (List Int)} (h : Sp N L P n0 full new f1) (h1 : ∀ f, CL N L f → P f → Q f) (h2 : ∀ f, CL N L f → Q f → P f) : Sp N L Q n0 full new f1 :=
 ⟨fun x hx => by obtain ⟨f, a, b, c⟩ := h.snd x hx; exact ⟨f, a, h1 f a b, c⟩, h.nd, h.ful, h.hi, fun a b => ⟨(h.lo a b).1, fun f hf hq => (h.lo a b).2 f hf (h2 f hf hq)⟩⟩
theorem Sp.pre {P : (Nat → Nat) → Prop} {n0 : Nat} {full f1 : Bool} {new : List (List Int)} (h : Sp N L P n0 full new f1) : f1 = false → n0 + new.length ≤ 200 := fun hf => by
 cases hq : full with
 | true => rw [(h.ful hq).2] at hf; cases hf
 | false => exact (h.lo hq hf).1
theorem Sp.len {P : (Nat → Nat) → Prop} {n0 : Nat} {full f1 : Bool} {new : List (List Int)} (h : Sp N L P n0 full new f1) (h0 : n0 ≤ 201) : n0 + new.length ≤ 201 := by
 cases hq : full with
 | true => rw [(h.ful hq).1]; simpa using h0
 | false =>
  cases hf : f1 with
  | true => rw [h.hi hq hf]; exact Nat.le_refl _
  | false => have := (h.lo hq hf).1; omega
theorem fix_CL {E : DD} (hF : Fix N L E) {f : Nat → Nat} (h : ∀ j, j < N → (f j = 1 ∨ f j = 2 ∨ f j = 3) ∧ E j = yR (f j)) : CL N L f := by
 have hpr : ∀ {i j : Nat}, j < N → uJ L j i → (j : Int) ∈ yS N L (i : Int) := fun hj he => (zJ2 hj).2 he
 refine ⟨fun i hi => (h i hi).1, fun i hi h1 j hj he => ?_, fun i hi h1 => ?_, fun i hi h1 => ?_⟩
 ·have h2 := hF i hi
  rw [(h i hi).2, h1] at h2
  have h3 : (zTq N L E i).1 = true := h2.1 rfl
  have h4 := List.all_eq_true.1 h3 (j : Int) (hpr hj he)
  rw [Int.toNat_natCast, (h j hj).2] at h4
  simpa [yR] using h4
 ·have h2 := hF i hi
  rw [(h i hi).2, h1] at h2
  have h3 : (zTq N L E i).2.1 = true := h2.2.1 rfl
  obtain ⟨x, hx, h4⟩ := List.any_eq_true.1 h3
  obtain ⟨j, rfl, hj⟩ := zI3 x hx
  rw [Int.toNat_natCast, (h j hj).2] at h4
  exact ⟨j, hj, (zJ2 hj).1 hx, by simpa [yR] using h4⟩
 ·have h2 := hF i hi
  rw [(h i hi).2, h1] at h2
  have h3 : (zTq N L E i).2.2 = true := h2.2.2 rfl
  unfold zTq at h3
  simp only [Bool.and_eq_true] at h3
  obtain ⟨h4, h5⟩ := h3
  obtain ⟨x, hx, h6⟩ := List.any_eq_true.1 h5
  obtain ⟨j, rfl, hj⟩ := zI3 x hx
  rw [Int.toNat_natCast, (h j hj).2] at h6
  refine ⟨⟨j, hj, (zJ2 hj).1 hx, by simpa [yR] using h6⟩, fun j hj he h7 => ?_⟩
  have h8 := List.all_eq_true.1 h4 (j : Int) (hpr hj he)
  rw [Int.toNat_natCast, (h j hj).2, h7] at h8
  exact Bool.noConfusion h8
theorem zVK (hN : N ≤ 40) : ∀ (k : Nat) (D : DD) (vJ : List (List Int)) (full : Bool), Emp N D → zU0 D 40 < k → vJ.length ≤ 201 → (full = false → vJ.length ≤ 200) →
  ∃ d' new full', (∀ m, k ≤ m → zAv m ((N : Int), tG N L, dA D, vJ, full) = some (d', vJ ++ new, full')) ∧ Sp N L (zWQ N D) vJ.length full new full'
 | 0, _, _, _, _, h, _, _ => absurd h (Nat.not_lt_zero _)
 | k + 1, D, vJ, full, hE, hk, hl, hf => by
  cases full with
  | true =>
   refine ⟨dA D, [], true, fun m hm => ?_, ⟨fun x hx => (by cases hx), List.nodup_nil, fun _ => ⟨rfl, rfl⟩, fun h => (by cases h), fun h => (by cases h)⟩⟩
   obtain ⟨m, rfl⟩ : ∃ q, m = q + 1 := ⟨m - 1, by omega⟩
   simp [zAv, zA9]
  | false =>
   have hf := hf rfl
   rcases zVU (L := L) hN D hE vJ false with ⟨E, hs, hK, hF, hne⟩ | ⟨E, hs, hle, hdead⟩
   ·rcases zVq hN E hne (tG N L) vJ false with ⟨f, hlab, hsg⟩ | ⟨i, hi, hlab, hp⟩
    ·
     have hcl := fix_CL hF hsg
     have hcE : zWQ N E f := fun j hj => by rw [(hsg j hj).2]; exact zZW (hsg j hj).1
     refine ⟨dA E, [yX N f], decide (vJ.length = 200), fun m hm => ?_, ?_⟩
     ·obtain ⟨m, rfl⟩ : ∃ q, m = q + 1 := ⟨m - 1, by omega⟩
      show zA9 _ _ = _
      unfold zA9
      simp only [zbf, if_false, hs, zob, Bool.not_true, hlab]
      rw [show decide ((-1 : Int) < 0) = true from rfl]
      simp only [if_true]
      rw [vX (by simp only [List.length_cons, List.length_nil]; omega), zob]
      congr 3
      rw [Bool.eq_iff_iff]
      simp only [len, beq_iff_eq, decide_eq_true_eq]
      omega
     ·refine ⟨fun x hx => ?_, List.nodup_cons.2 ⟨by simp, List.nodup_nil⟩, fun h => (by cases h), fun _ h => ?_, fun _ h => ?_⟩
      ·simp only [List.mem_singleton] at hx
       exact ⟨f, hcl, fun j hj => zWF (hK.1 j) (hcE j hj), hx⟩
      ·simp only [decide_eq_true_eq] at h
       simp only [List.length_cons, List.length_nil]; omega
      ·simp only [decide_eq_false_iff_not] at h
       simp only [List.length_cons, List.length_nil]
       refine ⟨by omega, fun g hg hc => List.mem_singleton.2 (z2i fun j hj => ?_)⟩
       have := hK.2 g hg hc j hj
       rw [(hsg j hj).2] at this
       exact zWm (hsg j hj).1 this
    ·
     have hlt : zU0 E 40 ≤ zU0 D 40 := zR4 hK.1 40
     have hEmpE := hE.le hK.1
     have one : ∀ c : Nat, c = 1 ∨ c = 2 ∨ c = 3 → ∀ (fn : List (List Int)) (fu : Bool), fn.length ≤ 201 → (fu = false → fn.length ≤ 200) →
       ∃ new fu', (∀ m, k ≤ m → ∀ (q : Int) (z : List Int), zD ([2, 4, 8] : List Int) q = some (eD (yR c)) → decide (q < (len ([2, 4, 8] : List Int))) = true →
        zAm ([], (i : Int)) (false, dA E, vJ) (zAv m) ((N : Int), tG N L, dA D, vJ, false) (q, fn, fu) = some (.inl (zR (q + 1), fn ++ new, fu'))) ∧ Sp N L (fun f => zWQ N E f ∧ f i = c) fn.length fu new fu' := by
      intro c hc fn fu hfn hfu
      by_cases hh : zTB (E i) c = true
      ·have hle := sgl_le hc hh
       have hpp : zWk (yR c) < zWk (E i) := by rw [zYh hc]; omega
       have hsum := zWh hle hpp 40 (by omega)
       obtain ⟨d', new, fu', h1, h2⟩ := zVK hN k (tM E i (yR c)) fn fu (hEmpE.le (zPy hle)) (by omega) hfn hfu
       refine ⟨new, fu', fun m hm q z hq hd => ?_, h2.of (fun f hf hcn => ⟨fun j hj => zWF (zPy hle j) (hcn j hj), zWm hc (by have := hcn i hi; rwa [show tM E i (yR c) i = yR c from if_pos rfl] at this)⟩)
        (fun f hf hcn j hj => by
         unfold tM
         split
         ·rename_i e; subst e; rw [hcn.2]; exact zZW hc
         ·exact hcn.1 j hj)⟩
       unfold zAm
       simp only [hd, if_true, hq, zob]
       rw [zKd (K := 40) rfl (show i < 40 by omega), zob, zIu E (by omega), zW2]
       have hm1 : mD (E i) (yR c) = true := by
        rcases hc with rfl | rfl | rfl
        ·simp [mD, yR, show (E i).1 = true from hh]
        ·simp [mD, yR, show (E i).2.1 = true from hh]
        ·simp [mD, yR, show (E i).2.2 = true from hh]
       rw [hm1]
       simp only [if_true, zob]
       rw [zUU E (by omega), h1 m hm, zob]
      ·refine ⟨[], fu, fun m hm q z hq hd => ?_, Sp.none hfu fun f hf hcn => hh (by have := hcn.1 i hi; rwa [hcn.2] at this)⟩
       unfold zAm
       simp only [hd, if_true, hq, zob]
       rw [zKd (K := 40) rfl (show i < 40 by omega), zob, zIu E (by omega), zW2]
       have hm1 : mD (E i) (yR c) = false := by
        have hh' : zTB (E i) c = false := by simpa using hh
        rcases hc with rfl | rfl | rfl
        ·simp [mD, yR, show (E i).1 = false from hh']
        ·simp [mD, yR, show (E i).2.1 = false from hh']
        ·simp [mD, yR, show (E i).2.2 = false from hh']
       rw [hm1]
       simp only [zbf, if_false, List.append_nil]
     obtain ⟨n1, f1, a1, b1⟩ := one 1 (by decide) vJ false hl fun _ => hf
     obtain ⟨n2, f2, a2, b2⟩ := one 2 (by decide) (vJ ++ n1) f1 (by rw [List.length_append]; exact b1.len hl) (by rw [List.length_append]; exact b1.pre)
     rw [List.length_append] at b2
     have c2 := b1.or b2 fun f g hf hg he => by have := zWz he i hi; omega
     obtain ⟨n3, f3, a3, b3⟩ := one 3 (by decide) (vJ ++ n1 ++ n2) f2 (by rw [List.append_assoc, List.length_append]; exact c2.len hl) (by rw [List.append_assoc, List.length_append]; exact c2.pre)
     rw [List.append_assoc, List.length_append] at b3
     have c3 := c2.or b3 fun f g hf hg he => by have := zWz he i hi; rcases hf with hf | hf <;> omega
     refine ⟨dA E, n1 ++ n2 ++ n3, f3, fun m hm => ?_, c3.of (fun f hf hp => ?_) fun f hf hc => ?_⟩
     ·obtain ⟨m, rfl⟩ : ∃ q, m = q + 1 := ⟨m - 1, by omega⟩
      show zA9 _ _ = _
      unfold zA9
      simp only [zbf, if_false, hs, zob, Bool.not_true, hlab]
      have hneg : decide ((i : Int) < 0) = false := by simp
      rw [hneg]
      simp only [zbf, if_false]
      rw [vZ, a1 m (by omega) 0 [] rfl rfl]
      show zW _ (zR (0 + 1), _) = _
      rw [show zR (0 + 1) = 1 from rfl, vZ, a2 m (by omega) 1 [] rfl rfl]
      show zW _ (zR (1 + 1), _) = _
      rw [show zR (1 + 1) = 2 from rfl, vZ, a3 m (by omega) 2 [] rfl rfl]
      show zW _ (zR (2 + 1), _) = _
      rw [show zR (2 + 1) = 3 from rfl, vZ]
      have hend : zAm ([], (i : Int)) (false, dA E, vJ) (zAv m) ((N : Int), tG N L, dA D, vJ, false) (3, vJ ++ n1 ++ n2 ++ n3, f3) = some (.inr (dA E, vJ ++ n1 ++ n2 ++ n3, f3)) := by
       unfold zAm
       rw [show decide ((3 : Int) < (len ([2, 4, 8] : List Int))) = false from rfl]
       rfl
      rw [hend]
      simp only [List.append_assoc]
     ·rcases hp with (hp | hp) | hp <;> exact fun j hj => zWF (hK.1 j) (hp.1 j hj)
     ·have hcE := hK.2 f hf hc
      rcases hf.r i hi with h | h | h
      ·exact .inl (.inl ⟨hcE, h⟩)
      ·exact .inl (.inr ⟨hcE, h⟩)
      ·exact .inr ⟨hcE, h⟩
   ·refine ⟨dA E, [], false, fun m hm => ?_, Sp.none (fun _ => hf) fun f hcl hc => hdead f hcl hc⟩
    obtain ⟨m, rfl⟩ : ∃ q, m = q + 1 := ⟨m - 1, by omega⟩
    show zA9 _ _ = _
    unfold zA9
    simp only [zbf, if_false, hs, zob, Bool.not_false, if_true, List.append_nil]
theorem zWO (h : yL N L) : zW (zBS ((N : Int), L)) (0, ([] : List (List Int)), (List.replicate 40 (0 : Int))) = some (tG N L, dA fun j => if j < N then (true, true, true) else (false, false, false)) := by
 have hN := h.hN
 have key : ∀ (m i : Nat), i + m = N → zW (zBS ((N : Int), L)) ((i : Int), (wY i).map (yS N L), dA fun j => if j < i then (true, true, true) else (false, false, false)) = some (tG N L, dA fun j => if j < N then (true, true, true) else (false, false, false)) := by
  intro m
  induction m with
  | zero =>
   intro i hi
   rw [Nat.add_zero] at hi
   subst hi
   rw [vZ]
   unfold zBS
   simp [tG]
  | succ m ih =>
   intro i hi
   have hd : decide ((i : Int) < (N : Int)) = true := by simp; omega
   rw [vZ]
   have hstep : zBS ((N : Int), L) ((i : Int), (wY i).map (yS N L), dA fun j => if j < i then (true, true, true) else (false, false, false)) =
     some (.inl (((i + 1 : Nat) : Int), (wY (i + 1)).map (yS N L), dA fun j => if j < i + 1 then (true, true, true) else (false, false, false))) := by
    unfold zBS
    simp only [hd, if_true]
    rw [zRx h, zob, vX (by simp [tO]; omega), zob, zKd (K := 40) rfl (show i < 40 by omega), zob, show (14 : Int) = eD (true, true, true) from rfl, zUU _ (by omega), yP i (by omega)]
    congr 4
    ·simp [wY, List.range_succ]
    ·refine congrArg dA (funext fun j => ?_)
     unfold tM
     by_cases hj : j = i
     ·simp [hj]
     ·simp only [hj, if_false]
      have : j < i ↔ j < i + 1 := by omega
      simp only [this]
   rw [hstep]
   exact ih (i + 1) (by omega)
 have := key N 0 (by omega)
 rw [zXG]
 refine Eq.trans ?_ this
 congr 1
theorem zR3 (h : yL N L) : ∃ l : List (List Int), (∀ x ∈ l, ∃ f, CL N L f ∧ x = yX N f) ∧ l.Nodup ∧
  ((zCC ((N : Int), L) = some (l, 0) ∧ l.length ≤ 200 ∧ ∀ f, CL N L f → yX N f ∈ l) ∨ (zCC ((N : Int), L) = some ([], 2) ∧ l.length = 201)) := by
 have hN := h.hN
 obtain ⟨d', new, fu, h1, h2⟩ := zVK (L := L) hN (zU0 (fun j => if j < N then (true, true, true) else (false, false, false)) 40 + 1) (fun j => if j < N then (true, true, true) else (false, false, false)) [] false
  (fun j hj => if_neg (by omega)) (Nat.lt_succ_self _) (by simp) (fun _ => by simp)
 have hfind : zCx ((N : Int), tG N L, dA (fun j => if j < N then (true, true, true) else (false, false, false)), [], false) = some (d', new, fu) := zMF _ h1
 refine ⟨new, fun x hx => by obtain ⟨f, a, _, b⟩ := h2.snd x hx; exact ⟨f, a, b⟩, h2.nd, ?_⟩
 have hall : ∀ f, CL N L f → zWQ N (fun j => if j < N then (true, true, true) else (false, false, false)) f := fun f hf j hj => by
  simp only [hj, if_true]
  rcases hf.r j hj with q | q | q <;> rw [q] <;> rfl
 unfold zCC
 rw [h.v1]
 simp only [zob, bne_self_eq_false, zbf, if_false]
 rw [zWO h, zob, hfind]
 simp only [zob]
 cases hfu : fu with
 | true =>
  have := h2.hi rfl hfu
  exact .inr ⟨by simp, by simpa using this⟩
 | false =>
  have := h2.lo rfl hfu
  exact .inl ⟨by simp, by simpa using this.1, fun f hf => this.2 f hf (hall f hf)⟩
end
end
section
inductive SD (b : zM) (S : zF → Prop) : Nat → zF → Prop
 | base {n : Nat} {x : zF} : S x → SD b S n x
 | step {n : Nat} {r : qK} : r ∈ b.2.1 → r.2.1 = true → (∀ y, y ∈ r.2.2.2.1 → SD b S n y) → SD b S (n + 1) r.2.2.2.2
def uA (b : zM) (S : zF → Prop) (x : zF) : Prop := ∃ n, SD b S n x
section
variable {b : zM} {S S' : zF → Prop}
theorem SD.mono {n m : Nat} {x : zF} (h : SD b S n x) (hm : n ≤ m) : SD b S m x := by
 induction h generalizing m with
 | base hx => exact .base hx
 | step hr hs _ ih =>
  obtain ⟨k, rfl⟩ : ∃ k, m = k + 1 := ⟨m - 1, by omega⟩
  exact .step hr hs fun y hy => ih y hy (by omega)
theorem SD.sub {n : Nat} {x : zF} (h : SD b S n x) (hS : ∀ y, S y → S' y) : SD b S' n x := by
 induction h with
 | base hx => exact .base (hS _ hx)
 | step hr hs _ ih => exact .step hr hs fun y hy => ih y hy
theorem uA.sub {x : zF} (h : uA b S x) (hS : ∀ y, S y → S' y) : uA b S' x := by
 obtain ⟨n, h⟩ := h
 exact ⟨n, h.sub hS⟩
theorem uA.base {x : zF} (h : S x) : uA b S x := ⟨0, .base h⟩
theorem zUc : ∀ (l : List zF), (∀ y ∈ l, uA b S y) → ∃ n, ∀ y ∈ l, SD b S n y
 | [], _ => ⟨0, fun _ h => by cases h⟩
 | x :: l, h => by
  obtain ⟨n, hn⟩ := zUc l fun y hy => h y (List.mem_cons_of_mem _ hy)
  obtain ⟨m, hm⟩ := h x List.mem_cons_self
  refine ⟨max n m, fun y hy => ?_⟩
  rcases List.mem_cons.1 hy with rfl | hy
  ·exact hm.mono (by omega)
  ·exact (hn y hy).mono (by omega)
theorem uA.rule {r : qK} (hr : r ∈ b.2.1) (hs : r.2.1 = true) (h : ∀ y ∈ r.2.2.2.1, uA b S y) : uA b S r.2.2.2.2 := by
 obtain ⟨n, hn⟩ := zUc _ h
 exact ⟨n + 1, .step hr hs hn⟩
theorem uA.trans {T : zF → Prop} {x : zF} (h : uA b T x) (hT : ∀ y, T y → uA b S y) : uA b S x := by
 obtain ⟨n, h⟩ := h
 induction h with
 | base hx => exact hT _ hx
 | step hr hs _ ih => exact uA.rule hr hs fun y hy => ih y hy
def TrC (b : zM) : Prop := ∀ r ∈ b.2.1, r.2.1 = true → ∀ y ∈ r.2.2.2.1, ∃ r' ∈ b.2.1, r'.2.1 = true ∧ r'.2.2.2.2 = xH y ∧ ∀ z ∈ r'.2.2.2.1, z = xH r.2.2.2.2 ∨ z ∈ r.2.2.2.1
def Inc (b : zM) (S : zF → Prop) : Prop := ∃ p, uA b S p ∧ uA b S (xH p)
theorem contra (hT : TrC b) {x : zF} (hc : ¬ Inc b S) (hi : Inc b fun y => S y ∨ y = x) : uA b (fun y => S y ∨ y = x) (xH x) := by
 apply Classical.byContradiction
 intro hx
 have key : ∀ n y, SD b (fun y => S y ∨ y = x) n y → uA b (fun y => S y ∨ y = x) (xH y) → uA b S y := by
  intro n y h
  induction h with
  | base hy =>
   intro hc
   rcases hy with hy | rfl
   ·exact uA.base hy
   ·exact absurd hc hx
  | step hr hs hb ih =>
   intro hc
   refine uA.rule hr hs fun z hz => ih z hz ?_
   obtain ⟨r', h1, h2, h3, h4⟩ := hT _ hr hs z hz
   rw [← h3]
   refine uA.rule h1 h2 fun w hw => ?_
   rcases h4 w hw with rfl | hw
   ·exact hc
   ·exact ⟨_, hb w hw⟩
 obtain ⟨p, ⟨n, h1⟩, ⟨m, h2⟩⟩ := hi
 exact hc ⟨p, key n p h1 ⟨m, h2⟩, key m _ h2 (by rw [zQy]; exact ⟨n, h1⟩)⟩
end
inductive xP (b : zM) (l : List zH) : Int → Int → Prop
 | prem {i : Int} {a : zH} : zD l i = some a → 0 ≤ a.1 → xP b l i i
 | dfs {i : Int} {a : zH} {r : qK} : zD l i = some a → 0 ≤ a.2.1 → zD b.2.1 a.2.1 = some r → r.2.1 = false → xP b l i i
 | step {i k j : Int} {a : zH} {r : qK} : zD l i = some a → 0 ≤ a.2.1 → zD b.2.1 a.2.1 = some r → r.2.1 = true → k ∈ a.2.2.1 → xP b l k j → xP b l i j
structure Rb (b : zM) (l : List zH) : Prop where
 form : FormC b l
 pre : ∀ (p : Nat) q, b.1[p]? = some q → ∃ a, zD l (p : Int) = some a ∧ a.1 = (p : Int)
 all : ∀ q r s, zD b.2.1 q = some r → s.length = r.2.2.2.1.length → (∀ (j : Nat) k y, s[j]? = some k → r.2.2.2.1[j]? = some y → ∃ a', zD l k = some a' ∧ a'.2.2.2 = y) → uR b l q r s = true → ((-1 : Int), q, s, r.2.2.2.2) ∈ l
 kd : ∀ p ∈ b.1, p.2.1 = 1 ∨ p.2.1 = 2 ∨ p.2.1 = 3
section
variable {b : zM} {l : List zH}
theorem xP.sub {i j : Int} (h : xP b l i j) : uZ l i j := by
 induction h with
 | prem _ _ => exact .self _
 | dfs _ _ _ _ => exact .self _
 | step h1 _ _ _ h2 _ ih => exact .step h1 h2 ih
def zON (b : zM) (l : List zH) (j : Int) : Prop := ∃ a, zD l j = some a ∧ (0 ≤ a.1 ∨ (0 ≤ a.2.1 ∧ ∃ r, zD b.2.1 a.2.1 = some r ∧ r.2.1 = false))
theorem xP.leaf {i j : Int} (h : xP b l i j) : zON b l j := by
 induction h with
 | prem h1 h2 => exact ⟨_, h1, .inl h2⟩
 | dfs h1 h2 h3 h4 => exact ⟨_, h1, .inr ⟨h2, _, h3, h4⟩⟩
 | step _ _ _ _ _ _ ih => exact ih
theorem zON.self {j : Int} (h : zON b l j) : xP b l j j := by
 obtain ⟨a, h1, h2 | ⟨h2, r, h3, h4⟩⟩ := h
 ·exact .prem h1 h2
 ·exact .dfs h1 h2 h3 h4
theorem zON.only (hf : FormB b l) {j k : Int} (h : zON b l j) (hk : xP b l j k) : k = j := by
 obtain ⟨a, h1, h2⟩ := h
 cases hk with
 | prem _ _ => rfl
 | dfs _ _ _ _ => rfl
 | step g1 g2 g3 g4 _ _ =>
  rw [h1] at g1
  cases g1
  rcases h2 with h2 | ⟨_, r, h3, h4⟩
  ·have := (hf.prem h1).2.2; omega
  ·rw [h3] at g3; cases g3; rw [h4] at g4; cases g4
theorem zV1 (hf : FormB b l) {i : Int} {a : zH} (hi : zD l i = some a) : zON b l i ∨ (a.1 < 0 ∧ 0 ≤ a.2.1 ∧ ∃ r, zD b.2.1 a.2.1 = some r ∧ r.2.1 = true) := by
 by_cases h : 0 ≤ a.1
 ·exact .inl ⟨a, hi, .inl h⟩
 ·obtain ⟨r, hr⟩ := (hf.prem hi).2.1 (by omega)
  have h0 := (hf.prem hi).2.2.2 (by omega)
  cases hs : r.2.1 with
  | true => exact .inr ⟨by omega, h0, r, hr, hs⟩
  | false => exact .inl ⟨a, hi, .inr ⟨h0, r, hr, hs⟩⟩
theorem zWt (hf : FormB b l) {i j : Int} (h : uZ l i j) {a : zH} (hj : zD l j = some a) : (∃ k, xP b l i k ∧ uZ l k j) ∨ (a.1 < 0 ∧ 0 ≤ a.2.1 ∧ ∃ r, zD b.2.1 a.2.1 = some r ∧ r.2.1 = true) := by
 induction h with
 | self i =>
  rcases zV1 hf hj with h | h
  ·exact .inl ⟨i, h.self, .self i⟩
  ·exact .inr h
 | @step i k j a' hi hk hs ih =>
  rcases zV1 hf hi with h | ⟨h1, h2, r, h3, h4⟩
  ·exact .inl ⟨i, h.self, .step hi hk hs⟩
  ·rcases ih hj with ⟨q, g1, g2⟩ | g
   ·exact .inl ⟨q, .step hi h2 h3 h4 hk g1, g2⟩
   ·exact .inr g
theorem z2T {i : Int} {y : zF} (h : tL b l i y) : ∃ j a, uZ l i j ∧ zD l j = some a ∧ a.2.2.2 = y ∧ ∀ k, xP b l j k → xP b l i k := by
 induction h with
 | here hi => exact ⟨_, _, .self _, hi, rfl, fun _ h => h⟩
 | step hi h0 hr hs hk _ ih =>
  obtain ⟨j, a, h1, h2, h3, h4⟩ := ih
  exact ⟨j, a, .step hi hk h1, h2, h3, fun k hk' => .step hi h0 hr hs hk (h4 k hk')⟩
theorem zYd {i y : Int} (h : zK8 b l i y) : ∃ j, xP b l i j ∧ zK8 b l j y := by
 induction h with
 | here h1 h2 h3 h4 => exact ⟨_, .dfs h1 h2 h3 h4, .here h1 h2 h3 h4⟩
 | step h1 h2 h3 h4 hk _ ih =>
  obtain ⟨j, g1, g2⟩ := ih
  exact ⟨j, .step h1 h2 h3 h4 hk g1, g2⟩
theorem zZm {i j y : Int} (h : xP b l i j) (hy : zK8 b l j y) : zK8 b l i y := by
 induction h with
 | prem _ _ => exact hy
 | dfs _ _ _ _ => exact hy
 | step h1 h2 h3 h4 hk _ ih => exact .step h1 h2 h3 h4 hk (ih hy)
theorem zWD (hf : FormA l) {i j : Int} (h : uZ l i j) (h0 : 0 ≤ i) (h1 : i < l.length) : 0 ≤ j ∧ j < l.length := by
 have := h.le hf h0
 exact ⟨this.1, by omega⟩
theorem z0K (hf : FormB b l) {i : Int} (h0 : 0 ≤ i) (h1 : i < l.length) {y : Int} (hy : y ∈ yA b l i) : ∃ j, xP b l i j ∧ y ∈ yA b l j := by
 obtain ⟨m, hm, a, ha, h2, h3, rfl⟩ := (zGv hf h0 h1 y).1 hy
 have hsm := (zCA hf.toFormA h0 h1 m).1 hm
 rcases zWt hf hsm ha with ⟨j, g1, g2⟩ | ⟨_, _, r, g1, g2⟩
 ·have hj := zWD hf.toFormA g1.sub h0 h1
  exact ⟨j, g1, (zGv hf hj.1 hj.2 _).2 ⟨m, (zCA hf.toFormA hj.1 hj.2 m).2 g2, a, ha, h2, h3, rfl⟩⟩
 ·simp only [zNF, g1, g2] at h3
  cases h3
theorem zYb (hf : FormB b l) {i j : Int} (h0 : 0 ≤ i) (h1 : i < l.length) (h : xP b l i j) {y : Int} (hy : y ∈ yA b l j) : y ∈ yA b l i := by
 have hj := zWD hf.toFormA h.sub h0 h1
 obtain ⟨m, hm, k⟩ := (zGv hf hj.1 hj.2 y).1 hy
 exact (zGv hf h0 h1 y).2 ⟨m, (zCA hf.toFormA h0 h1 m).2 (h.sub.trans ((zCA hf.toFormA hj.1 hj.2 m).1 hm)), k⟩
theorem zLA (hf : FormB b l) {i : Int} (h0 : 0 ≤ i) (h1 : i < l.length) {p : Int} : p ∈ zGx l i ↔ uZ l i p ∧ ∃ a, zD l p = some a ∧ 0 ≤ a.1 := by
 unfold zGx
 rw [List.mem_filter, zCA hf.toFormA h0 h1]
 constructor
 ·rintro ⟨g1, g2⟩
  refine ⟨g1, ?_⟩
  split at g2
  ·rename_i a ha; exact ⟨a, ha, by simpa using g2⟩
  ·cases g2
 ·rintro ⟨g1, a, ha, g2⟩
  refine ⟨g1, ?_⟩
  rw [ha]; simpa using g2
theorem zZq (hf : FormB b l) {i : Int} (h0 : 0 ≤ i) (h1 : i < l.length) {p : Int} (hp : p ∈ zGx l i) : ∃ j, xP b l i j ∧ p ∈ zGx l j := by
 obtain ⟨g1, a, ha, g2⟩ := (zLA hf h0 h1).1 hp
 rcases zWt hf g1 ha with ⟨j, k1, k2⟩ | ⟨k1, _⟩
 ·have hj := zWD hf.toFormA k1.sub h0 h1
  exact ⟨j, k1, (zLA hf hj.1 hj.2).2 ⟨k2, a, ha, g2⟩⟩
 ·omega
theorem zZT (hf : FormB b l) {i j : Int} (h0 : 0 ≤ i) (h1 : i < l.length) (h : xP b l i j) {p : Int} (hp : p ∈ zGx l j) : p ∈ zGx l i := by
 have hj := zWD hf.toFormA h.sub h0 h1
 obtain ⟨g1, g2⟩ := (zLA hf hj.1 hj.2).1 hp
 exact (zLA hf h0 h1).2 ⟨h.sub.trans g1, g2⟩
end
theorem zWv : ∀ {l : List Int}, l ≠ [] → z1j l ∈ l ∧ ∀ x ∈ l, z1j l ≤ x := by
 have key : ∀ (r : List Int) (x : Int), (r.foldl (fun m y => if y < m then y else m) x = x ∨ r.foldl (fun m y => if y < m then y else m) x ∈ r) ∧ r.foldl (fun m y => if y < m then y else m) x ≤ x ∧ ∀ y ∈ r, r.foldl (fun m y => if y < m then y else m) x ≤ y := by
  intro r
  induction r with
  | nil => intro x; exact ⟨.inl rfl, Int.le_refl _, fun _ h => by cases h⟩
  | cons z r ih =>
   intro x
   obtain ⟨h1, h2, h3⟩ := ih (if z < x then z else x)
   simp only [List.foldl_cons]
   by_cases hz : z < x
   ·simp only [hz, if_true] at h1 h2 h3 ⊢
    refine ⟨.inr ?_, by omega, fun y hy => ?_⟩
    ·rcases h1 with h1 | h1
     ·rw [h1]; exact List.mem_cons_self
     ·exact List.mem_cons_of_mem _ h1
    ·rcases List.mem_cons.1 hy with rfl | hy
     ·exact h2
     ·exact h3 y hy
   ·simp only [hz, if_false] at h1 h2 h3 ⊢
    refine ⟨h1.imp id (List.mem_cons_of_mem _), h2, fun y hy => ?_⟩
    rcases List.mem_cons.1 hy with rfl | hy
    ·omega
    ·exact h3 y hy
 intro l hl
 cases l with
 | nil => exact absurd rfl hl
 | cons x r =>
  obtain ⟨h1, h2, h3⟩ := key r x
  refine ⟨?_, fun y hy => ?_⟩
  ·rcases h1 with h1 | h1
   ·show r.foldl _ x ∈ _; rw [h1]; exact List.mem_cons_self
   ·exact List.mem_cons_of_mem _ h1
  ·rcases List.mem_cons.1 hy with rfl | hy
   ·exact h2
   ·exact h3 y hy
theorem zW5 : ∀ {l : List Int}, l ≠ [] → z1t l ∈ l ∧ ∀ x ∈ l, x ≤ z1t l := by
 have key : ∀ (r : List Int) (x : Int), (r.foldl (fun m y => if y > m then y else m) x = x ∨ r.foldl (fun m y => if y > m then y else m) x ∈ r) ∧ x ≤ r.foldl (fun m y => if y > m then y else m) x ∧ ∀ y ∈ r, y ≤ r.foldl (fun m y => if y > m then y else m) x := by
  intro r
  induction r with
  | nil => intro x; exact ⟨.inl rfl, Int.le_refl _, fun _ h => by cases h⟩
  | cons z r ih =>
   intro x
   obtain ⟨h1, h2, h3⟩ := ih (if z > x then z else x)
   simp only [List.foldl_cons]
   by_cases hz : z > x
   ·simp only [hz, if_true] at h1 h2 h3 ⊢
    refine ⟨.inr ?_, by omega, fun y hy => ?_⟩
    ·rcases h1 with h1 | h1
     ·rw [h1]; exact List.mem_cons_self
     ·exact List.mem_cons_of_mem _ h1
    ·rcases List.mem_cons.1 hy with rfl | hy
     ·exact h2
     ·exact h3 y hy
   ·simp only [hz, if_false] at h1 h2 h3 ⊢
    refine ⟨h1.imp id (List.mem_cons_of_mem _), h2, fun y hy => ?_⟩
    rcases List.mem_cons.1 hy with rfl | hy
    ·omega
    ·exact h3 y hy
 intro l hl
 cases l with
 | nil => exact absurd rfl hl
 | cons x r =>
  obtain ⟨h1, h2, h3⟩ := key r x
  refine ⟨?_, fun y hy => ?_⟩
  ·rcases h1 with h1 | h1
   ·show r.foldl _ x ∈ _; rw [h1]; exact List.mem_cons_self
   ·exact List.mem_cons_of_mem _ h1
  ·rcases List.mem_cons.1 hy with rfl | hy
   ·exact h2
   ·exact h3 y hy
theorem zUD {α : Type} (f : α → Int) : ∀ (l : List α), l ≠ [] → ∃ i ∈ l, ∀ j ∈ l, f i ≤ f j
 | [], h => absurd rfl h
 | [x], _ => ⟨x, List.mem_cons_self, fun j hj => by rw [List.mem_singleton.1 hj]; exact Int.le_refl _⟩
 | x :: y :: l, _ => by
  obtain ⟨i, h1, h2⟩ := zUD f (y :: l) (by simp)
  by_cases h : f x ≤ f i
  ·refine ⟨x, List.mem_cons_self, fun j hj => ?_⟩
   rcases List.mem_cons.1 hj with rfl | hj
   ·exact Int.le_refl _
   ·have := h2 j hj; omega
  ·refine ⟨i, List.mem_cons_of_mem _ h1, fun j hj => ?_⟩
   rcases List.mem_cons.1 hj with rfl | hj
   ·omega
   ·exact h2 j hj
theorem zSw (D : List Int) (X : Int → List Int) (q : Int) (h : ∃ j ∈ D, X j ≠ []) : ∃ i ∈ D, X i ≠ [] ∧ ∀ z : List Int, (∀ v ∈ z, ∃ j ∈ D, v ∈ X j ∧ ∀ w ∈ X j, w ∈ z) → zHN z (X i) q = false := by
 have hne : (D.filter fun j => !(X j).isEmpty) ≠ [] := by
  obtain ⟨j, hj, hx⟩ := h
  intro e
  have : j ∈ D.filter fun j => !(X j).isEmpty := List.mem_filter.2 ⟨hj, by cases hX : X j with | nil => exact absurd hX hx | cons _ _ => rfl⟩
  rw [e] at this
  cases this
 obtain ⟨i, hi, hmin⟩ := zUD (fun j => if q = 1 then z1j (X j) else z1t (X j)) _ hne
 have hf : ∀ {j}, j ∈ D.filter (fun j => !(X j).isEmpty) ↔ j ∈ D ∧ X j ≠ [] := fun {j} => by
  rw [List.mem_filter]
  cases X j <;> simp
 obtain ⟨hiD, hiX⟩ := hf.1 hi
 refine ⟨i, hiD, hiX, fun z hz => ?_⟩
 unfold zHN
 by_cases hze : z = []
 ·subst hze; simp
 ·have hzE : z.isEmpty = false := by cases z with | nil => exact absurd rfl hze | cons _ _ => rfl
  have hiE : (X i).isEmpty = false := by cases hX : X i with | nil => exact absurd hX hiX | cons _ _ => rfl
  rw [hzE, hiE]
  by_cases h1 : q = 1
  ·subst h1
   simp only [if_true] at hmin
   have hm := zWv hze
   obtain ⟨j, hj, hv, _⟩ := hz _ hm.1
   have hjX : X j ≠ [] := fun e => by rw [e] at hv; cases hv
   have h2 := (zWv hjX).2 _ hv
   have h3 := hmin j (hf.2 ⟨hj, hjX⟩)
   have : ¬ z1j z < z1j (X i) := by omega
   simp [this]
  ·simp only [h1, if_false] at hmin
   have hq : (q == 1) = false := beq_eq_false_iff_ne.2 h1
   obtain ⟨v, hv⟩ : ∃ v, v ∈ z := by cases z with | nil => exact absurd rfl hze | cons v _ => exact ⟨v, List.mem_cons_self⟩
   obtain ⟨j, hj, hvj, hw⟩ := hz v hv
   have hjX : X j ≠ [] := fun e => by rw [e] at hvj; cases hvj
   have h2 := (zW5 hze).2 _ (hw _ (zW5 hjX).1)
   have h3 := hmin j (hf.2 ⟨hj, hjX⟩)
   have : ¬ z1t z < z1t (X i) := by omega
   simp [hq, this]
end
section
section
variable {b : zM} {l : List zH} {o : yH} {f : Nat → Nat}
def Inn (l : List zH) (f : Nat → Nat) (i : Int) : Prop := 0 ≤ i ∧ i < l.length ∧ f i.toNat = 1
theorem zXK {i j : Nat} : uJ (tR b l o) i j ↔ ∃ c kd, ((i : Int), (j : Int), c, kd) ∈ zDr b l o := by
 show ed _ _ _ = true ↔ _
 rw [zRN, tR, (zHv z0P _).2, zGL, List.mem_map]
 constructor
 ·rintro ⟨⟨a, b', c, kd⟩, h1, h2⟩
  simp only [Prod.mk.injEq] at h2
  obtain ⟨rfl, rfl⟩ := h2
  exact ⟨c, kd, h1⟩
 ·rintro ⟨c, kd, h⟩
  exact ⟨_, h, rfl⟩
theorem zQH {m j c kd : Int} : (m, j, c, kd) ∈ zDr b l o ↔ ((0 ≤ m ∧ m < l.length) ∧ (0 ≤ j ∧ j < l.length) ∧ c ∈ yB l j ∧ (kd = 1 ∨ kd = 2 ∨ kd = 3) ∧ zX8 b l m c kd = true) ∧ (kd = 3 ∨ zOT b l m c o = false) := by
 rw [zDr, List.mem_filter, zMu, zYm]
 show _ ∧ ((kd == 3) || !zOT b l m c o) = true ↔ _
 rw [Bool.or_eq_true, beq_iff_eq, Bool.not_eq_true']
theorem z0L (hf : CL l.length (tR b l o) f) {j m c kd : Int} (hj : Inn l f j) (h : (m, j, c, kd) ∈ zDr b l o) : f m.toNat = 2 := by
 have hm := (zQH.1 h).1.1
 obtain ⟨j0, j1, j2⟩ := hj
 refine hf.i1 j.toNat (by omega) j2 m.toNat (by omega) (zXK.2 ⟨c, kd, ?_⟩)
 rw [show ((m.toNat : Nat) : Int) = m by omega, show ((j.toNat : Nat) : Int) = j by omega]
 exact h
theorem z2U (hf : CL l.length (tR b l o) f) {j : Int} (j0 : 0 ≤ j) (j1 : j < l.length) (h : ∀ m c kd, (m, j, c, kd) ∈ zDr b l o → f m.toNat = 2) : Inn l f j := by
 have hall : ∀ m : Nat, m < l.length → uJ (tR b l o) m j.toNat → f m = 2 := fun m hm he => by
  obtain ⟨c, kd, h1⟩ := zXK.1 he
  rw [show ((j.toNat : Nat) : Int) = j by omega] at h1
  have := h _ c kd h1
  rwa [Int.toNat_natCast] at this
 refine ⟨j0, j1, ?_⟩
 have hjN : j.toNat < l.length := by omega
 rcases hf.r j.toNat hjN with h1 | h1 | h1
 ·exact h1
 ·obtain ⟨m, hm, he, h2⟩ := hf.i2 _ hjN h1
  have := hall m hm he
  omega
 ·obtain ⟨⟨m, hm, he, h2⟩, _⟩ := hf.i3 _ hjN h1
  have := hall m hm he
  omega
theorem z14 (hB : FormB b l) (hf : CL l.length (tR b l o) f) {i j : Int} (hi : Inn l f i) (hs : uZ l i j) : Inn l f j := by
 have hj := zWD hB.toFormA hs hi.1 hi.2.1
 refine z2U hf hj.1 hj.2 fun m c kd h => ?_
 have hc := (zQH.1 h).1.2.2.1
 have hci : c ∈ yB l i := (zCA hB.toFormA hi.1 hi.2.1 c).2 (hs.trans ((zCA hB.toFormA hj.1 hj.2 c).1 hc))
 exact z0L hf hi ((zPP hB o hi.1 hi.2.1 hci).1 ((zPP hB o hj.1 hj.2 hc).2 h))
theorem zXX {m i kd : Int} {a : zH} {r : qK} (ha : zD l i = some a) (h0 : 0 ≤ a.2.1) (hr : zD b.2.1 a.2.1 = some r) (hs : r.2.1 = true) : zX8 b l m i kd = false := by
 unfold zX8
 rw [ha]
 cases zD l m with
 | none => rfl
 | some x =>
  have : ¬ a.2.1 < 0 := by omega
  simp only [this, decide_false, zbf, if_false, hr, hs, Bool.not_true, Bool.false_and]
theorem zZ7 {m i kd : Int} {a : zH} {p : vO} (ha : zD l i = some a) (h0 : a.2.1 < 0) (hp : zD b.1 a.1 = some p) (hk : p.2.1 = 1) : zX8 b l m i kd = false := by
 unfold zX8
 rw [ha]
 cases zD l m with
 | none => rfl
 | some x => simp [h0, hp, hk]
theorem zYj (hB : FormB b l) (hf : CL l.length (tR b l o) f) {i : Int} {a : zH} {r : qK} (ha : zD l i = some a) (h0 : 0 ≤ a.2.1) (hr : zD b.2.1 a.2.1 = some r) (hs : r.2.1 = true) (hsub : ∀ k ∈ a.2.2.1, Inn l f k) : Inn l f i := by
 have hi := zOG ha
 refine z2U hf hi.1 hi.2 fun m c kd h => ?_
 have hd := zQH.1 h
 have hc := (zCA hB.toFormA hi.1 hi.2 c).1 hd.1.2.2.1
 rcases (uZ.iff ha).1 hc with rfl | ⟨k, hk, hck⟩
 ·rw [zXX ha h0 hr hs] at hd
  exact Bool.noConfusion hd.1.2.2.2.2
 ·have hkin := hsub k hk
  have hck' : c ∈ yB l k := (zCA hB.toFormA hkin.1 hkin.2.1 c).2 hck
  exact z0L hf hkin ((zPP hB o hkin.1 hkin.2.1 hck').1 ((zPP hB o hi.1 hi.2 hd.1.2.2.1).2 h))
def zWZ (b : zM) (l : List zH) (j : Int) : Prop := ∃ a p, zD l j = some a ∧ 0 ≤ a.1 ∧ zD b.1 a.1 = some p ∧ p.2.1 = 1
def Cnc (b : zM) (l : List zH) (D : Int → Prop) (x : zF) : Prop := (∃ j a, D j ∧ zD l j = some a ∧ a.2.2.2 = x) ∨ ∃ p ∈ b.1, p.2.1 = 1 ∧ p.1 = x
theorem zZP {α : Type} {l : List α} {x : α} (h : x ∈ l) : ∃ i : Int, zD l i = some x := by
 obtain ⟨n, hn⟩ := List.mem_iff_getElem?.1 h
 exact ⟨(n : Int), by rw [xC]; exact hn⟩
theorem zWS {α : Type} {l : List α} {i : Int} {x : α} (h : zD l i = some x) : x ∈ l := by
 obtain ⟨n, rfl, hn⟩ := zKz h
 exact vW hn
theorem zRB {α β : Type} {P : α → β → Prop} : ∀ (l : List α), (∀ x ∈ l, ∃ y, P x y) → ∃ m : List β, m.length = l.length ∧ ∀ (j : Nat) x y, l[j]? = some x → m[j]? = some y → P x y
 | [], _ => ⟨[], rfl, fun j x y h => by simp at h⟩
 | x :: l, h => by
  obtain ⟨y, hy⟩ := h x List.mem_cons_self
  obtain ⟨m, h1, h2⟩ := zRB l fun z hz => h z (List.mem_cons_of_mem _ hz)
  refine ⟨y :: m, by simp [h1], fun j u v hu hv => ?_⟩
  cases j with
  | zero => simp at hu hv; subst hu hv; exact hy
  | succ j => exact h2 j u v (by simpa using hu) (by simpa using hv)
theorem z16 (hR : Rb b l) (hf : CL l.length (tR b l o) f) {D : Int → Prop} (hD : ∀ j, D j → Inn l f j ∧ zON b l j) {n : Nat} {x : zF} (h : SD b (Cnc b l D) n x) :
  ∃ i a, Inn l f i ∧ zD l i = some a ∧ a.2.2.2 = x ∧ ∀ j, xP b l i j → D j ∨ zWZ b l j := by
 have hB := hR.form.toFormB
 induction h with
 | base hx =>
  rcases hx with ⟨j, a, hj, ha, rfl⟩ | ⟨p, hp, hk, rfl⟩
  ·obtain ⟨h1, h2⟩ := hD j hj
   exact ⟨j, a, h1, ha, rfl, fun k hk => by rw [h2.only hB hk]; exact .inl hj⟩
  ·obtain ⟨q, hq⟩ := List.mem_iff_getElem?.1 hp
   obtain ⟨a, ha, h1⟩ := hR.pre q p hq
   have hpq : zD b.1 a.1 = some p := by rw [h1, xC]; exact hq
   have h0 : 0 ≤ a.1 := by rw [h1]; omega
   have hneg : a.2.1 < 0 := by have := (hB.prem ha).2.2; omega
   have hpr := hR.form.prI ha h0 hpq
   have hi := zOG ha
   refine ⟨(q : Int), a, z2U hf hi.1 hi.2 fun m c kd hd => ?_, ha, hpr.1, fun k hk' => ?_⟩
   ·have hd' := (zQH.1 hd).1
    have hc := (zCA hB.toFormA hi.1 hi.2 c).1 hd'.2.2.1
    rcases (uZ.iff ha).1 hc with rfl | ⟨k, hk', _⟩
    ·rw [zZ7 ha hneg hpq hk] at hd'
     exact Bool.noConfusion hd'.2.2.2.2
    ·rw [hpr.2] at hk'; cases hk'
   ·have hlf : zON b l (q : Int) := ⟨a, ha, .inl h0⟩
    rw [hlf.only hB hk']
    exact .inr ⟨a, p, ha, h0, hpq, hk⟩
 | @step n r hr hs hb ih =>
  obtain ⟨q, hq⟩ := zZP hr
  obtain ⟨s, h1, h2⟩ := zRB (P := fun y i => ∃ a, Inn l f i ∧ zD l i = some a ∧ a.2.2.2 = y ∧ ∀ j, xP b l i j → D j ∨ zWZ b l j) r.2.2.2.1 fun y hy => ih y hy
  have hs2 : ∀ k ∈ s, ∃ a y, Inn l f k ∧ zD l k = some a ∧ a.2.2.2 = y ∧ ∀ j, xP b l k j → D j ∨ zWZ b l j := fun k hk => by
   obtain ⟨j, hj⟩ := List.mem_iff_getElem?.1 hk
   have hjl := vK hj
   obtain ⟨a, g⟩ := h2 j _ k (List.getElem?_eq_getElem (by omega)) hj
   exact ⟨a, _, g⟩
  cases hw : uR b l q r s with
  | true =>
   have hm := hR.all q r s hq h1 (fun j k y hk hy => by
    obtain ⟨a, _, g2, g3, _⟩ := h2 j y k hy hk
    exact ⟨a, g2, g3⟩) hw
   obtain ⟨i, hi⟩ := zZP hm
   have h0 : (0 : Int) ≤ q := (zOG hq).1
   refine ⟨i, _, zYj hB hf hi h0 hq hs fun k hk => ?_, hi, rfl, fun j hj => ?_⟩
   ·obtain ⟨_, _, g, _⟩ := hs2 k hk; exact g
   ·cases hj with
    | prem g1 g2 => rw [hi] at g1; cases g1; omega
    | dfs g1 g2 g3 g4 => rw [hi] at g1; cases g1; rw [hq] at g3; cases g3; rw [hs] at g4; cases g4
    | step g1 g2 g3 g4 g5 g6 =>
     rw [hi] at g1; cases g1
     obtain ⟨_, _, _, _, _, g⟩ := hs2 _ g5
     exact g j g6
  | false =>
   unfold uR at hw
   have hw' : s.any (zV4 b l q r) = true := by simpa using hw
   obtain ⟨k, hk, hc⟩ := List.any_eq_true.1 hw'
   unfold zV4 at hc
   simp only [hs, if_true, decide_eq_true_eq] at hc
   obtain ⟨_, _, g1, g2, _, g4⟩ := hs2 k hk
   obtain ⟨j, a, k1, k2, k3, k4⟩ := z2T hc
   exact ⟨j, a, z14 hB hf g1 k1, k2, k3, fun w hw => g4 w (k4 w hw)⟩
theorem z1k (hR : Rb b l) {D : Int → Prop} : ∀ (n : Nat) (i : Int) (a : zH), i < n → zD l i = some a → (∀ j, xP b l i j → D j ∨ zWZ b l j) → uA b (Cnc b l D) a.2.2.2
 | 0, i, a, hn, ha, _ => by have := (zOG ha).1; omega
 | n + 1, i, a, hn, ha, hl => by
  have hB := hR.form.toFormB
  rcases zV1 hB ha with h | ⟨h1, h2, r, hr, hs⟩
  ·rcases hl i h.self with hd | ⟨a', p, g1, g2, g3, g4⟩
   ·exact uA.base (.inl ⟨i, a, hd, ha, rfl⟩)
   ·rw [ha] at g1; cases g1
    exact uA.base (.inr ⟨p, zWS g3, g4, (hR.form.prI ha g2 g3).1.symm⟩)
  ·have hru := hR.form.ruI ha h2 hr
   rw [hru.1]
   refine uA.rule (zWS hr) hs fun y hy => ?_
   obtain ⟨j, hj⟩ := List.mem_iff_getElem?.1 hy
   have hjl := vK hj
   have hk : a.2.2.1[j]? = some a.2.2.1[j] := List.getElem?_eq_getElem (by omega)
   obtain ⟨a', g1, g2⟩ := hru.2.2 j _ y hk hj
   have hkm := vW hk
   have hlt := (hB.toFormA.at ha).2.2.2 _ hkm
   rw [← g2]
   exact z1k hR n _ a' (by omega) g1 fun w hw => hl w (.step ha h2 hr hs hkm hw)
theorem zZz (hR : Rb b l) (D : List Int) (hD : ∀ j ∈ D, (0 ≤ j ∧ j < l.length) ∧ zON b l j ∧ ¬ zWZ b l j) (hne : D ≠ []) : ∃ i ∈ D, ∀ m : Int, 0 ≤ m → m < l.length → (∀ j, xP b l m j → j ∈ D ∨ zWZ b l j) → zOT b l m i o = false := by
 have hB := hR.form.toFormB
 have ax_last : ∀ {j y : Int}, zWZ b l j → ¬ zK8 b l j y := fun {j y} ⟨a, p, g1, g2, _, _⟩ h => by
  have := (hB.prem g1).2.2
  cases h with
  | here k1 k2 _ _ => rw [g1] at k1; cases k1; omega
  | step k1 k2 _ _ _ _ => rw [g1] at k1; cases k1; omega
 have ax_sub : ∀ {j k : Int}, zWZ b l j → uZ l j k → k = j := fun {j k} ⟨a, p, g1, g2, g3, _⟩ h => by
  rcases (uZ.iff g1).1 h with h | ⟨q, hq, _⟩
  ·exact h
  ·rw [(hR.form.prI g1 g2 g3).2] at hq; cases hq
 have ax_defs : ∀ {j y : Int}, 0 ≤ j → j < l.length → zWZ b l j → y ∉ yA b l j := fun {j y} h0 h1 hj hy => by
  obtain ⟨m, hm, a, ha, h2, _⟩ := (zGv hB h0 h1 y).1 hy
  have hmj := ax_sub hj ((zCA hB.toFormA h0 h1 m).1 hm)
  obtain ⟨a', p, g1, g2, _⟩ := hj
  rw [hmj, g1] at ha; cases ha
  have := (hB.prem g1).2.2; omega
 have ax_prem : ∀ {j v : Int}, 0 ≤ j → j < l.length → zWZ b l j → v ∉ xW b l j := fun {j v} h0 h1 hj hv => by
  obtain ⟨p, hp, hv⟩ := List.mem_flatMap.1 hv
  have hpj := ax_sub hj ((zLA hB h0 h1).1 hp).1
  obtain ⟨a, q, g1, g2, g3, g4⟩ := hj
  have : a.1 = j := ((hB.prem g1).1 g2).1
  rw [this] at g3
  rw [hpj] at hv
  simp [zJ7, g3, g4] at hv
 have unL : ∀ m : Int, 0 ≤ m → m < l.length → (∀ j, xP b l m j → j ∈ D ∨ zWZ b l j) → ∀ v ∈ uX b (uB b l m), ∃ j ∈ D, v ∈ uX b (uB b l j) ∧ ∀ w ∈ uX b (uB b l j), w ∈ uX b (uB b l m) := by
  intro m m0 m1 hm v hv
  obtain ⟨y, hy, rfl⟩ := List.mem_map.1 hv
  obtain ⟨j, hj, hyj⟩ := zYd ((zHd hB m y).1 hy)
  rcases hm j hj with hjD | hax
  ·refine ⟨j, hjD, List.mem_map.2 ⟨y, (zHd hB j y).2 hyj, rfl⟩, fun w hw => ?_⟩
   obtain ⟨z, hz, rfl⟩ := List.mem_map.1 hw
   exact List.mem_map.2 ⟨z, (zHd hB m z).2 (zZm hj ((zHd hB j z).1 hz)), rfl⟩
  ·exact absurd hyj (ax_last hax)
 have unD : ∀ m : Int, 0 ≤ m → m < l.length → (∀ j, xP b l m j → j ∈ D ∨ zWZ b l j) → ∀ v ∈ uX b (yA b l m), ∃ j ∈ D, v ∈ uX b (yA b l j) ∧ ∀ w ∈ uX b (yA b l j), w ∈ uX b (yA b l m) := by
  intro m m0 m1 hm v hv
  obtain ⟨y, hy, rfl⟩ := List.mem_map.1 hv
  obtain ⟨j, hj, hyj⟩ := z0K hB m0 m1 hy
  have hjr := zWD hB.toFormA hj.sub m0 m1
  rcases hm j hj with hjD | hax
  ·refine ⟨j, hjD, List.mem_map.2 ⟨y, hyj, rfl⟩, fun w hw => ?_⟩
   obtain ⟨z, hz, rfl⟩ := List.mem_map.1 hw
   exact List.mem_map.2 ⟨z, zYb hB m0 m1 hj hz, rfl⟩
  ·exact absurd hyj (ax_defs hjr.1 hjr.2 hax)
 have unP : ∀ m : Int, 0 ≤ m → m < l.length → (∀ j, xP b l m j → j ∈ D ∨ zWZ b l j) → ∀ v ∈ xW b l m, ∃ j ∈ D, v ∈ xW b l j ∧ ∀ w ∈ xW b l j, w ∈ xW b l m := by
  intro m m0 m1 hm v hv
  obtain ⟨p, hp, hv⟩ := List.mem_flatMap.1 hv
  obtain ⟨j, hj, hpj⟩ := zZq hB m0 m1 hp
  have hjr := zWD hB.toFormA hj.sub m0 m1
  rcases hm j hj with hjD | hax
  ·refine ⟨j, hjD, List.mem_flatMap.2 ⟨p, hpj, hv⟩, fun w hw => ?_⟩
   obtain ⟨z, hz, hw⟩ := List.mem_flatMap.1 hw
   exact List.mem_flatMap.2 ⟨z, zZT hB m0 m1 hj hz, hw⟩
  ·exact absurd (List.mem_flatMap.2 ⟨p, hpj, hv⟩) (ax_prem hjr.1 hjr.2 hax)
 have premD : ∀ j ∈ D, (uB b l j = [] ∨ yA b l j = []) → xW b l j ≠ [] := by
  intro j hj he
  obtain ⟨⟨j0, j1⟩, ⟨a, ha, h1 | ⟨h2, r, hr, hs⟩⟩, hnax⟩ := hD j hj
  ·obtain ⟨p, hp⟩ := ((hB.prem ha).1 h1).2.1
   have hk := hR.kd p (zWS hp)
   have haj : a.1 = j := ((hB.prem ha).1 h1).1
   have hmem : j ∈ zGx l j := (zLA hB j0 j1).2 ⟨.self j, a, ha, h1⟩
   intro e
   have hnil : ∀ v, v ∉ zJ7 b j := fun v hv => by
    have : v ∈ xW b l j := List.mem_flatMap.2 ⟨j, hmem, hv⟩
    rw [e] at this; cases this
   rw [haj] at hp
   unfold zJ7 at hnil
   rw [hp] at hnil
   rcases hk with hk | hk | hk
   ·exact hnax ⟨a, p, ha, h1, by rw [haj]; exact hp, hk⟩
   ·simp [hk] at hnil
   ·simp [hk] at hnil
  ·rcases he with he | he
   ·have : a.2.1 ∈ uB b l j := (zHd hB j _).2 (.here ha h2 hr hs)
    rw [he] at this; cases this
   ·have : a.2.1 ∈ yA b l j := (zGv hB j0 j1 _).2 ⟨j, zQv hB.toFormA j0 j1, a, ha, h2, by simp [zNF, hr, hs], rfl⟩
    rw [he] at this; cases this
 have hne' : ∃ j, j ∈ D := by cases D with | nil => exact absurd rfl hne | cons j _ => exact ⟨j, List.mem_cons_self⟩
 have bool4 : ∀ {p q r s t x : Bool}, x = false → (p && q && r && s && t && x) = false := fun h => by rw [h, Bool.and_false]
 by_cases ho1 : o.1 = 1
 ·
  have e1 : (o.1 == 1) = true := by simpa using ho1
  by_cases hex : ∃ j ∈ D, uX b (uB b l j) ≠ []
  ·obtain ⟨i, hi, hX, hw⟩ := zSw D (fun j => uX b (uB b l j)) o.2 hex
   refine ⟨i, hi, fun m m0 m1 hm => ?_⟩
   unfold zOT
   refine bool4 ?_
   have hX' : (uB b l i).isEmpty = false := by
    cases hq : uB b l i with
    | nil => exact absurd (by rw [hq]; rfl) hX
    | cons _ _ => rfl
   simp only [e1, if_true, hw _ (unL m m0 m1 hm), hX', Bool.and_false, Bool.false_and, Bool.or_false]
  ·have hall : ∀ j ∈ D, uB b l j = [] := fun j hj => by
    cases hq : uB b l j with
    | nil => rfl
    | cons y z => exact absurd ⟨j, hj, by rw [hq]; simp⟩ hex
   obtain ⟨j0, hj0⟩ := hne'
   obtain ⟨i, hi, hX, hw⟩ := zSw D (fun j => xW b l j) o.2 ⟨j0, hj0, premD j0 hj0 (.inl (hall j0 hj0))⟩
   refine ⟨i, hi, fun m m0 m1 hm => ?_⟩
   have hme : uB b l m = [] := by
    cases hq : uB b l m with
    | nil => rfl
    | cons y z =>
     obtain ⟨j, hj, h2, _⟩ := unL m m0 m1 hm (zUo b y) (by rw [hq]; exact List.mem_cons_self)
     rw [hall j hj] at h2; cases h2
   unfold zOT
   refine bool4 ?_
   simp only [e1, if_true, hme, hw _ (unP m m0 m1 hm), Bool.and_false, Bool.or_false]
   exact zVw _ _
 ·have e1 : (o.1 == 1) = false := beq_eq_false_iff_ne.2 ho1
  by_cases ho2 : o.1 = 2
  ·have e2 : (o.1 == 2) = true := by simpa using ho2
   by_cases hex : ∃ j ∈ D, uX b (yA b l j) ≠ []
   ·obtain ⟨i, hi, hX, hw⟩ := zSw D (fun j => uX b (yA b l j)) o.2 hex
    refine ⟨i, hi, fun m m0 m1 hm => ?_⟩
    unfold zOT
    refine bool4 ?_
    have hX' : (yA b l i).isEmpty = false := by
     cases hq : yA b l i with
     | nil => exact absurd (by rw [hq]; rfl) hX
     | cons _ _ => rfl
    simp only [e1, e2, zbf, if_false, if_true, hX', Bool.and_false, hw _ (unD m m0 m1 hm)]
    split <;> rfl
   ·have hall : ∀ j ∈ D, yA b l j = [] := fun j hj => by
     cases hq : yA b l j with
     | nil => rfl
     | cons y z => exact absurd ⟨j, hj, by rw [hq]; simp⟩ hex
    obtain ⟨j0, hj0⟩ := hne'
    obtain ⟨i, hi, hX, hw⟩ := zSw D (fun j => xW b l j) o.2 ⟨j0, hj0, premD j0 hj0 (.inr (hall j0 hj0))⟩
    refine ⟨i, hi, fun m m0 m1 hm => ?_⟩
    have hme : yA b l m = [] := by
     cases hq : yA b l m with
     | nil => rfl
     | cons y z =>
      obtain ⟨j, hj, h2, _⟩ := unD m m0 m1 hm (zUo b y) (by rw [hq]; exact List.mem_cons_self)
      rw [hall j hj] at h2; cases h2
    unfold zOT
    refine bool4 ?_
    simp only [e1, e2, zbf, if_false, if_true, hme, hall i hi, List.isEmpty_nil, Bool.and_self, hw _ (unP m m0 m1 hm)]
  ·have e2 : (o.1 == 2) = false := beq_eq_false_iff_ne.2 ho2
   obtain ⟨j0, hj0⟩ := hne'
   refine ⟨j0, hj0, fun m m0 m1 hm => ?_⟩
   unfold zOT
   refine bool4 ?_
   simp only [e1, e2, zbf, if_false]
def Out (l : List zH) (f : Nat → Nat) (x : zF) : Prop := ∃ i a, Inn l f i ∧ zD l i = some a ∧ a.2.2.2 = x
abbrev Fal (b : zM) (l : List zH) (f : Nat → Nat) (j : Int) : Prop := Inn l f j ∧ zON b l j ∧ ¬ zWZ b l j
theorem zTG (hR : Rb b l) (hf : CL l.length (tR b l o) f) (x : zF) : Out l f x ↔ uA b (Cnc b l (Fal b l f)) x := by
 constructor
 ·rintro ⟨i, a, h1, h2, rfl⟩
  refine z1k hR (i.toNat + 1) i a (by have := h1.1; omega) h2 fun j hj => ?_
  by_cases hax : zWZ b l j
  ·exact .inr hax
  ·exact .inl ⟨z14 hR.form.toFormB hf h1 hj.sub, hj.leaf, hax⟩
 ·rintro ⟨n, h⟩
  obtain ⟨i, a, h1, h2, h3, _⟩ := z16 hR hf (D := Fal b l f) (fun j hj => ⟨hj.1, hj.2.1⟩) h
  exact ⟨i, a, h1, h2, h3⟩
theorem zYL (hR : Rb b l) (hf : CL l.length (tR b l o) f) {x : zF} (h : uA b (fun y => Out l f y ∨ ∃ p ∈ b.1, p.2.1 = 1 ∧ p.1 = y) x) : Out l f x := by
 rw [zTG hR hf]
 refine h.trans fun y hy => ?_
 rcases hy with hy | hy
 ·exact (zTG hR hf y).1 hy
 ·exact uA.base (.inr hy)
theorem zSW (hR : Rb b l) (hT : TrC b) (hA : ¬ Inc b fun x => ∃ p ∈ b.1, p.2.1 = 1 ∧ p.1 = x) (hf : CL l.length (tR b l o) f) (x : zF) : ¬ (Out l f x ∧ Out l f (xH x)) := by
 rintro ⟨h1, h2⟩
 have hB := hR.form.toFormB
 have hinc : Inc b (Cnc b l (Fal b l f)) := ⟨x, (zTG hR hf x).1 h1, (zTG hR hf _).1 h2⟩
 have hlist : ∃ n, ∃ D : List Int, D.length = n ∧ (∀ j ∈ D, Fal b l f j) ∧ Inc b (Cnc b l (· ∈ D)) := by
  classical
  refine ⟨_, (wY l.length).filter fun j => decide (Fal b l f j), rfl, fun j hj => by simpa using (List.mem_filter.1 hj).2, ?_⟩
  obtain ⟨p, g1, g2⟩ := hinc
  have hsub : ∀ y, Cnc b l (Fal b l f) y → Cnc b l (· ∈ (wY l.length).filter fun j => decide (Fal b l f j)) y := fun y hy => by
   rcases hy with ⟨j, a, hj, ha, e⟩ | hy
   ·exact .inl ⟨j, a, List.mem_filter.2 ⟨xK.2 ⟨hj.1.1, hj.1.2.1⟩, by simpa using hj⟩, ha, e⟩
   ·exact .inr hy
  exact ⟨p, g1.sub hsub, g2.sub hsub⟩
 have hmin : ∃ D : List Int, (∀ j ∈ D, Fal b l f j) ∧ Inc b (Cnc b l (· ∈ D)) ∧ ∀ D' : List Int, D'.length < D.length → (∀ j ∈ D', Fal b l f j) → ¬ Inc b (Cnc b l (· ∈ D')) := by
  obtain ⟨n, hn⟩ := hlist
  induction n using Nat.strongRecOn with
  | _ n ih =>
   obtain ⟨D, hl, h3, h4⟩ := hn
   by_cases hex : ∃ D' : List Int, D'.length < D.length ∧ (∀ j ∈ D', Fal b l f j) ∧ Inc b (Cnc b l (· ∈ D'))
   ·obtain ⟨D', g1, g2, g3⟩ := hex
    exact ih D'.length (by omega) ⟨D', rfl, g2, g3⟩
   ·exact ⟨D, h3, h4, fun D' g1 g2 g3 => hex ⟨D', g1, g2, g3⟩⟩
 obtain ⟨D, hD, hDi, hDm⟩ := hmin
 have hne : D ≠ [] := by
  rintro rfl
  obtain ⟨p, g1, g2⟩ := hDi
  have hsub : ∀ y, Cnc b l (· ∈ ([] : List Int)) y → ∃ p ∈ b.1, p.2.1 = 1 ∧ p.1 = y := fun y hy => by
   rcases hy with ⟨j, a, hj, _⟩ | hy
   ·cases hj
   ·exact hy
  exact hA ⟨p, g1.sub hsub, g2.sub hsub⟩
 obtain ⟨i, hi, hw⟩ := zZz (o := o) hR D (fun j hj => ⟨⟨(hD j hj).1.1, (hD j hj).1.2.1⟩, (hD j hj).2⟩) hne
 obtain ⟨hin, hleaf, hnax⟩ := hD i hi
 obtain ⟨a, ha⟩ := zH1 hin.1 hin.2.1
 have hcon : ¬ Inc b (Cnc b l (· ∈ D.erase i)) := hDm _ (by
  have := List.length_pos_of_mem hi
  rw [List.length_erase_of_mem hi]; omega) fun j hj => hD j (List.mem_of_mem_erase hj)
 have hsub1 : ∀ y, Cnc b l (· ∈ D) y → Cnc b l (· ∈ D.erase i) y ∨ y = a.2.2.2 := fun y hy => by
  rcases hy with ⟨j, a', hj, ha', e⟩ | hy
  ·by_cases hji : j = i
   ·subst hji; rw [ha] at ha'; cases ha'; exact .inr e.symm
   ·exact .inl (.inl ⟨j, a', (List.mem_erase_of_ne hji).2 hj, ha', e⟩)
  ·exact .inl (.inr hy)
 have hsub2 : ∀ y, (Cnc b l (· ∈ D.erase i) y ∨ y = a.2.2.2) → Cnc b l (· ∈ D) y := fun y hy => by
  rcases hy with (⟨j, a', hj, ha', e⟩ | hy) | rfl
  ·exact .inl ⟨j, a', List.mem_of_mem_erase hj, ha', e⟩
  ·exact .inr hy
  ·exact .inl ⟨i, a, hi, ha, rfl⟩
 have hinc2 : Inc b fun y => Cnc b l (· ∈ D.erase i) y ∨ y = a.2.2.2 := by
  obtain ⟨p, g1, g2⟩ := hDi
  exact ⟨p, g1.sub hsub1, g2.sub hsub1⟩
 obtain ⟨n, hn⟩ := (contra hT hcon hinc2).sub hsub2
 obtain ⟨m, am, hm, ham, hcm, hlm⟩ := z16 hR hf (D := (· ∈ D)) (fun j hj => ⟨(hD j hj).1, (hD j hj).2.1⟩) hn
 have hless := hw m hm.1 hm.2.1 hlm
 have hdef : ∃ kd, (m, i, i, kd) ∈ zDr b l o := by
  obtain ⟨a', ha', h3 | ⟨h3, r, hr, hs⟩⟩ := hleaf
  ·rw [ha] at ha'; cases ha'
   obtain ⟨p, hp⟩ := ((hB.prem ha).1 h3).2.1
   have hk : p.2.1 ≠ 1 := fun e => hnax ⟨a, p, ha, h3, hp, e⟩
   have hneg : a.2.1 < 0 := by have := (hB.prem ha).2.2; omega
   refine ⟨1, zQH.2 ⟨⟨⟨hm.1, hm.2.1⟩, ⟨hin.1, hin.2.1⟩, zQv hB.toFormA hin.1 hin.2.1, .inl rfl, ?_⟩, .inr hless⟩⟩
   unfold zX8
   rw [ham, ha]
   simp [hneg, hp, hk, hcm]
  ·rw [ha] at ha'; cases ha'
   have hneg : ¬ a.2.1 < 0 := by omega
   refine ⟨2, zQH.2 ⟨⟨⟨hm.1, hm.2.1⟩, ⟨hin.1, hin.2.1⟩, zQv hB.toFormA hin.1 hin.2.1, .inr (.inl rfl), ?_⟩, .inr hless⟩⟩
   unfold zX8
   rw [ham, ha]
   simp [hneg, hr, hs, hcm]
 obtain ⟨kd, hd⟩ := hdef
 have := z0L hf hin hd
 have := hm.2.2
 omega
end
end
section
def trS (r : qK) (y : zF) : qK := ([], true, 0, xS vG ((r.2.2.2.1.filter fun x => !(x == y)) ++ [xH r.2.2.2.2]), xH y)
theorem zOn {r : qK} {i : Nat} {y : zF} (hy : r.2.2.2.1[i]? = some y) (hl : r.2.2.2.1.length < 1000000) : zEq r (i : Int) = some (trS r y) := by
 obtain ⟨v, h1, rfl⟩ := xB (B := zEY r (i : Int)) (fun k (s : List zF) => (s, (k : Int))) r.2.2.2.1 (fun k s => s = (r.2.2.2.1.take k).filter fun x => !(x == y)) (fun v => v = r.2.2.2.1.filter fun x => !(x == y))
  (fun k x s hx hI => by
   have hk := vK hx
   left
   subst hI
   have hlen : ((r.2.2.2.1.take k).filter fun x => !(x == y)).length ≤ k := Nat.le_trans (List.length_filter_le _ _) (by rw [List.length_take]; omega)
   refine ⟨_, ?_, rfl⟩
   unfold zEY
   simp only [vA hx, if_true, wV hx, wV hy, zob, wX hx (show r.2.2.2.1.length < 4294967296 by omega)]
   rw [xI hx, List.filter_append]
   cases he : (x == y) with
   | true => simp [he]
   | false => simp [he, vX (show ((r.2.2.2.1.take k).filter fun x => !(x == y)).length + [x].length < 4294967296 by simp; omega)])
  (fun s hI => ⟨s, by unfold zEY; simp [len], by rw [hI, List.take_length]⟩) [] (by simp)
 have hlen := List.length_filter_le (fun x => !(x == y)) r.2.2.2.1
 unfold zEq
 rw [show ((0 : Int)) = ((0 : Nat) : Int) from rfl, h1]
 simp only [zob, zSE]
 rw [vX (by simp; omega)]
 simp only [zob, wV hy]
 rw [zSs (by simp; omega)]
 rfl
def zUf (b : zM) (r : qK) : Bool := b.2.1.any fun x => x.2.1 && ((x.2.2.2.2 == r.2.2.2.2) && decide (x.2.2.2.1 = r.2.2.2.1))
theorem zUx {b : zM} (hc : Cnt b) (r : qK) : zJZ b r = some (zUf b r) := by
 refine zTY b.2.1 _ (fun i x hx => ?_) (by unfold zJD; simp [len])
 have hq := hc.q x (vW hx)
 unfold zJD
 simp only [vA hx, if_true, wV hx, zob, wX hx hc.r, zWl x.2.2.2.1 r.2.2.2.1 (by omega)]
 cases h1 : x.2.1 <;> cases h2 : (x.2.2.2.2 == r.2.2.2.2) <;> cases h3 : decide (x.2.2.2.1 = r.2.2.2.1) <;> rfl
theorem zYu {b : zM} {r : qK} : zUf b r = true ↔ ∃ x ∈ b.2.1, x.2.1 = true ∧ x.2.2.2.2 = r.2.2.2.2 ∧ x.2.2.2.1 = r.2.2.2.1 := by
 rw [zUf, List.any_eq_true]
 constructor
 ·rintro ⟨x, h1, h2⟩
  simp only [Bool.and_eq_true, beq_iff_eq, decide_eq_true_eq] at h2
  exact ⟨x, h1, h2⟩
 ·rintro ⟨x, h1, h2, h3, h4⟩
  exact ⟨x, h1, by simp [h2, h3, h4]⟩
theorem Ok.Closed {b : zM} (hc : Cnt b) (hq : ∀ r ∈ b.2.1, r.2.2.2.1.length < 1000000) : Ok (zId b) fun v => v = true → TrC b := by
 unfold zId
 refine Ok.forI (B := zGg b) (fun i (_ : Unit) => (i : Int)) b.2.1 (fun i _ => ∀ (j : Nat) r, j < i → b.2.1[j]? = some r → r.2.1 = true → ∀ y ∈ r.2.2.2.1, zUf b (trS r y) = true) _ ?_ ?_ () (fun j r hj => by omega)
 ·intro i x _ hx hI
  unfold zGg
  simp only [vA hx, if_true, wV hx, zob]
  have hxq := hq x (vW hx)
  refine Ok.forI (B := zG4 x b (i : Int)) (fun k (_ : Unit) => (k : Int)) x.2.2.2.1 (fun k _ => x.2.1 = true → ∀ (j : Nat) y, j < k → x.2.2.2.1[j]? = some y → zUf b (trS x y) = true) _ ?_ ?_ () (fun _ j r hj => by omega)
  ·intro k y _ hy hK
   unfold zG4
   simp only [vA hy, Bool.true_and]
   refine Ok.ite (fun hs => ?_) (fun hs => ?_)
   ·rw [zOn hy hxq, zob, zUx hc, zob]
    refine Ok.ite (fun h => Ok.ret ?_) (fun h => Ok.ret ?_)
    ·exact fun h' => by cases h'
    ·rw [wX hy (by omega)]
     refine ⟨(), rfl, fun hs j z hj hz => ?_⟩
     rcases Nat.lt_succ_iff_lt_or_eq.1 hj with h' | rfl
     ·exact hK hs j z h' hz
     ·rw [hy] at hz; cases hz; simpa using h
   ·refine Ok.ret ?_
    rw [wX hx hc.r]
    refine ⟨(), rfl, fun j r hj hr hst y hym => ?_⟩
    rcases Nat.lt_succ_iff_lt_or_eq.1 hj with h' | rfl
    ·exact hI j r h' hr hst y hym
    ·rw [hx] at hr; cases hr; rw [hs] at hst; cases hst
  ·intro _ hK
   unfold zG4
   simp only [yV, Bool.false_and, zbf, if_false]
   refine Ok.ret ?_
   rw [wX hx hc.r]
   refine ⟨(), rfl, fun j r hj hr hst y hym => ?_⟩
   rcases Nat.lt_succ_iff_lt_or_eq.1 hj with h' | rfl
   ·exact hI j r h' hr hst y hym
   ·rw [hx] at hr; cases hr
    obtain ⟨k, hk⟩ := List.mem_iff_getElem?.1 hym
    exact hK hst k y (vK hk) hk
 ·intro _ hI
  unfold zGg
  simp only [yV, zbf, if_false]
  refine Ok.ret fun _ => ?_
  intro r hr hst y hy
  obtain ⟨j, hj⟩ := List.mem_iff_getElem?.1 hr
  obtain ⟨x, h1, h2, h3, h4⟩ := zYu.1 (hI j r (vK hj) hj hst y hy)
  refine ⟨x, h1, h2, h3, fun z hz => ?_⟩
  rw [h4] at hz
  have := (zHv zME _).2 z |>.1 hz
  rw [List.mem_append, List.mem_filter, List.mem_singleton] at this
  rcases this with h | h
  ·exact .inr h.1
  ·exact .inl h
theorem Ok.Axioms {b : zM} (hp : b.1.length < 1000000) : Ok (zFi b) fun l => vV vG l ∧ (∀ x, x ∈ l ↔ ∃ p ∈ b.1, p.2.1 = 1 ∧ p.1 = x) ∧ l.length ≤ b.1.length := by
 unfold zFi
 refine Ok.forI (B := zGa b) (fun i (s : List zF) => (s, (i : Int))) b.1 (fun i s => vV vG s ∧ (∀ x, x ∈ s ↔ ∃ p ∈ b.1.take i, p.2.1 = 1 ∧ p.1 = x) ∧ s.length ≤ i) _ ?_ ?_ [] ⟨by simp, by simp, by simp⟩
 ·rintro i p s hp' ⟨h1, h2, h3⟩
  have hi := vK hp'
  unfold zGa
  simp only [vA hp', if_true, wV hp', zob, wX hp' (show b.1.length < 4294967296 by omega)]
  refine Ok.ite (fun he => ?_) (fun he => ?_)
  ·obtain ⟨r, hr, g1, g2, g3⟩ := zPg p.1 (l := s) (by omega) h1
   rw [hr, zob]
   refine Ok.ret ⟨r, rfl, g1, fun x => ?_, by omega⟩
   rw [g2, h2, xI hp']
   have he' : p.2.1 = 1 := by simpa using he
   constructor
   ·rintro (rfl | ⟨q, hq, hq2⟩)
    ·exact ⟨p, by simp, he', rfl⟩
    ·exact ⟨q, List.mem_append_left _ hq, hq2⟩
   ·rintro ⟨q, hq, hq2, hq3⟩
    rcases List.mem_append.1 hq with hq | hq
    ·exact .inr ⟨q, hq, hq2, hq3⟩
    ·rw [List.mem_singleton] at hq; subst hq; exact .inl hq3.symm
  ·refine Ok.ret ⟨s, rfl, h1, fun x => ?_, by omega⟩
   rw [h2, xI hp']
   have he' : ¬ p.2.1 = 1 := by simpa using he
   constructor
   ·rintro ⟨q, hq, hq2⟩
    exact ⟨q, List.mem_append_left _ hq, hq2⟩
   ·rintro ⟨q, hq, hq2, hq3⟩
    rcases List.mem_append.1 hq with hq | hq
    ·exact ⟨q, hq, hq2, hq3⟩
    ·rw [List.mem_singleton] at hq; subst hq; exact absurd hq2 he'
 ·rintro s ⟨h1, h2, h3⟩
  unfold zGa
  simp only [yV, zbf, if_false]
  refine Ok.ret ⟨h1, fun x => by rw [h2, List.take_length], h3⟩
theorem z2H {l m : List zF} (hl : l.length < 1000000000) (hm : m.length < 1000000000) : zOZ l m = some (m.all fun x => decide (x ∈ l)) := by
 refine z0s m _ (fun i x hx => ?_) (by unfold zKu; simp [len])
 unfold zKu
 simp only [vA hx, if_true, wV hx, zob, zTM x (show l.length < 9223372036854775807 by omega), wX hx (show m.length < 4294967296 by omega)]
 cases decide (x ∈ l) <;> simp
structure CloI (b : zM) (S : zF → Prop) (s : List zF) : Prop where
 asc : vV vG s
 snd : ∀ y ∈ s, uA b S y
 sup : ∀ y, S y → y ∈ s
 bnd : s.length < 1000000
def tD (b : zM) (s : List zF) : Nat := (b.2.1.filter fun r => !decide (r.2.2.2.2 ∈ s)).length
theorem z2g {b : zM} {s t : List zF} (h : ∀ y ∈ s, y ∈ t) {r : qK} (hr : r ∈ b.2.1) (h1 : r.2.2.2.2 ∉ s) (h2 : r.2.2.2.2 ∈ t) : tD b t < tD b s := by
 unfold tD
 refine zTf b.2.1 (fun r hr => ?_) r hr (by simp [h1]) (by simp [h2])
 simp only [Bool.not_eq_true', decide_eq_false_iff_not] at hr ⊢
 exact fun h' => hr (h _ h')
theorem Ok.Closure {b : zM} (hc : Cnt b) (hq : ∀ r ∈ b.2.1, r.2.2.2.1.length < 1000000) (hr : b.2.1.length ≤ 1000) {xs : List zF} (hx : xs.length ≤ 1000) :
  Ok (zC3 b xs) fun l => vV vG l ∧ (∀ y, y ∈ l ↔ uA b (· ∈ xs) y) ∧ l.length ≤ 10000 := by
 unfold zC3
 rw [zSs (by omega), zob]
 have hn := zHv zME xs
 have hnl := zSA vG xs
 refine Ok.nat (B := zHi b) (fun s => 2 * tD b s.1 + (if s.2 then 1 else 0)) (fun s => CloI b (· ∈ xs) s.1 ∧ s.1.length + tD b s.1 ≤ xs.length + b.2.1.length ∧ (s.2 = false → ∀ r ∈ b.2.1, r.2.1 = true → (∀ y ∈ r.2.2.2.1, y ∈ s.1) → r.2.2.2.2 ∈ s.1)) _ ?_ _ ⟨⟨hn.1, fun y hy => uA.base ((hn.2 y).1 hy), fun y hy => (hn.2 y).2 hy, (by show (xS vG xs).length < 1000000; omega)⟩, ?_, (fun h => nomatch h)⟩
 ·rintro ⟨s, go⟩ ⟨hI, hL, hD⟩
  unfold zHi
  refine Ok.ite (fun hg => ?_) (fun hg => ?_)
  ·have hg' : go = true := hg
   subst hg'
   have hT : Ok (zW (zDt b) (s, false, ((0 : Nat) : Int))) (fun o => match o with
     | .inl t => CloI b (· ∈ xs) t.1 ∧ t.1.length + tD b t.1 ≤ xs.length + b.2.1.length ∧ (t.2 = true → tD b t.1 < tD b s) ∧ tD b t.1 ≤ tD b s ∧ (t.2 = false → ∀ r ∈ b.2.1, r.2.1 = true → (∀ y ∈ r.2.2.2.1, y ∈ t.1) → r.2.2.2.2 ∈ t.1)
     | .inr r => False) := by
    refine Ok.forI (B := zDt b) (fun i (t : List zF × Bool) => (t.1, t.2, (i : Int))) b.2.1 (fun i t => CloI b (· ∈ xs) t.1 ∧ t.1.length + tD b t.1 ≤ xs.length + b.2.1.length ∧ (t.2 = true → tD b t.1 < tD b s) ∧ tD b t.1 ≤ tD b s ∧ (t.2 = false → t.1 = s) ∧ (t.2 = false → ∀ (j : Nat) r, j < i → b.2.1[j]? = some r → r.2.1 = true → (∀ y ∈ r.2.2.2.1, y ∈ t.1) → r.2.2.2.2 ∈ t.1)) _ ?_ ?_ (s, false) ⟨hI, hL, (fun h => nomatch h), Nat.le_refl _, fun _ => rfl, (fun _ j r hj => absurd hj (Nat.not_lt_zero _))⟩
    ·rintro i r ⟨t, c⟩ hr' ⟨h1, h2, h3, h4, h5, h6⟩
     have hrm := vW hr'
     have hrq := hq r hrm
     have htb : t.length < 1000000 := h1.bnd
     unfold zDt
     dsimp only
     simp only [vA hr', if_true, wV hr', zob, z2H (l := t) (m := r.2.2.2.1) (by omega) (by omega), zTM r.2.2.2.2 (show t.length < 9223372036854775807 by omega), wX hr' hc.r]
     have hcase : (if r.2.1 = true then if (r.2.2.2.1.all fun x => decide (x ∈ t)) = true then some (!decide (r.2.2.2.2 ∈ t)) else some false else some false) = some (r.2.1 && ((r.2.2.2.1.all fun x => decide (x ∈ t)) && !decide (r.2.2.2.2 ∈ t))) := by
      cases r.2.1 <;> cases (r.2.2.2.1.all fun x => decide (x ∈ t)) <;> simp
     rw [hcase, zob]
     refine Ok.ite (fun he => ?_) (fun he => ?_)
     ·simp only [Bool.and_eq_true, List.all_eq_true, decide_eq_true_eq, Bool.not_eq_true', decide_eq_false_iff_not] at he
      obtain ⟨e1, e2, e3⟩ := he
      obtain ⟨u, hu, g1, g2, g3⟩ := zPg r.2.2.2.2 (l := t) (by omega) h1.asc
      rw [hu, zob]
      have hlt : tD b u < tD b t := z2g (fun y hy => (g2 y).2 (.inr hy)) hrm e3 ((g2 _).2 (.inl rfl))
      refine Ok.ret ⟨(u, true), rfl, ⟨g1, fun y hy => ?_, fun y hy => (g2 y).2 (.inr (h1.sup y hy)), ?_⟩, ?_, fun _ => ?_, ?_, (fun h => nomatch h), (fun h => nomatch h)⟩
      ·rcases (g2 y).1 hy with rfl | hy
       ·exact uA.rule hrm e1 fun z hz => h1.snd z (e2 z hz)
       ·exact h1.snd y hy
      ·show u.length < 1000000; dsimp only at h2; omega
      ·show u.length + tD b u ≤ _; dsimp only at h2; omega
      ·show tD b u < tD b s; dsimp only at h4; omega
      ·show tD b u ≤ tD b s; dsimp only at h4; omega
     ·refine Ok.ret ⟨(t, c), rfl, h1, h2, h3, h4, h5, fun hcf j q hj hq' hst hb => ?_⟩
      rcases Nat.lt_succ_iff_lt_or_eq.1 hj with h' | rfl
      ·exact h6 hcf j q h' hq' hst hb
      ·rw [hr'] at hq'; cases hq'
       apply Classical.byContradiction
       intro hno
       have : (r.2.1 && ((r.2.2.2.1.all fun x => decide (x ∈ t)) && !decide (r.2.2.2.2 ∈ t))) = true := by
        simp only [Bool.and_eq_true, List.all_eq_true, decide_eq_true_eq, Bool.not_eq_true', decide_eq_false_iff_not]
        exact ⟨hst, hb, hno⟩
       rw [this] at he; cases he
    ·rintro ⟨t, c⟩ ⟨h1, h2, h3, h4, h5, h6⟩
     unfold zDt
     simp only [yV, zbf, if_false]
     refine Ok.ret ⟨h1, h2, h3, h4, fun hcf r hr' hst hb => ?_⟩
     obtain ⟨j, hj⟩ := List.mem_iff_getElem?.1 hr'
     exact h6 hcf j r (vK hj) hj hst hb
   refine hT.imp fun o ho => ?_
   cases o with
   | inr r => exact ho.elim
   | inl t =>
    obtain ⟨h1, h2, h3, h4, h5⟩ := ho
    refine ⟨⟨h1, h2, h5⟩, ?_⟩
    obtain ⟨t, c⟩ := t
    dsimp only at h3 h4 ⊢
    cases c with
    | true => have := h3 rfl; simp; omega
    | false => simp; omega
  ·have hg' : go = false := hg
   subst hg'
   refine Ok.ret ⟨hI.asc, fun y => ⟨hI.snd y, fun hy => ?_⟩, ?_⟩
   ·obtain ⟨n, hn⟩ := hy
    induction hn with
    | base h => exact hI.sup _ h
    | step hr' hs _ ih => exact hD rfl _ hr' hs ih
   ·dsimp only at hL ⊢; omega
 ·show (xS vG xs).length + tD b (xS vG xs) ≤ _
  have : tD b (xS vG xs) ≤ b.2.1.length := List.length_filter_le _ _
  omega
theorem Ok.Sound {b : zM} (hc : Cnt b) : Ok (zJ3 b) fun v => v = true → zIV b ∧ TrC b ∧ ¬ Inc b fun x => ∃ p ∈ b.1, p.2.1 = 1 ∧ p.1 = x := by
 unfold zJ3
 rw [zMp hc, zob]
 refine Ok.bind (I := fun v => v = true → zIV b ∧ TrC b ∧ ¬ Inc b fun x => ∃ p ∈ b.1, p.2.1 = 1 ∧ p.1 = x) ?_ fun v hv => Ok.ret hv
 refine Ok.ite (fun h0 => ?_) (fun _ => Ok.ret fun h => by cases h)
 have hv : zIV b := zJ9.1 (by simpa using h0)
 have hq : ∀ r ∈ b.2.1, r.2.2.2.1.length < 1000000 := fun r hr => by have := zOk (hv.rule r hr); omega
 refine Ok.bind (Ok.Closed hc hq) fun c hcl => ?_
 refine Ok.ite (fun h1 => ?_) (fun _ => Ok.ret fun h => by cases h)
 have hnp := hv.np
 have hnr := hv.nr
 refine Ok.bind (Ok.Axioms (by omega)) fun ax hax => ?_
 refine Ok.bind (Ok.Closure hc hq (by omega) (xs := ax) (by omega)) fun cl hcl2 => ?_
 obtain ⟨g1, g2, g3⟩ := hcl2
 rw [zOI (by omega), zob]
 refine Ok.ret fun hcon => ⟨hv, hcl h1, ?_⟩
 rintro ⟨p, d1, d2⟩
 rw [zI4, List.all_eq_true] at hcon
 have e1 := (g2 p).2 (d1.sub fun y hy => (hax.2.1 y).2 hy)
 have e2 := (g2 (xH p)).2 (d2.sub fun y hy => (hax.2.1 y).2 hy)
 have := hcon p e1
 simp [e2] at this
end
section
def nmS (n : Nat) : qC := if n < 10 then [UInt8.ofNat (48 + n)] else [UInt8.ofNat (48 + n / 10), UInt8.ofNat (48 + n % 10)]
theorem zWg (n : Nat) (h : n < 10) : sub ([48, 49, 50, 51, 52, 53, 54, 55, 56, 57] : qC) (n : Int) (zR ((n : Int) + 1)) = some [UInt8.ofNat (48 + n)] := by
 rw [yP n (by omega)]
 have : ∀ k : _root_.Fin 10, sub ([48, 49, 50, 51, 52, 53, 54, 55, 56, 57] : qC) ((k.val : Nat) : Int) ((k.val + 1 : Nat) : Int) = some [UInt8.ofNat (48 + k.val)] := by decide
 exact this ⟨n, h⟩
theorem zZ2 (n : Nat) (h : n < 10) (k : Nat) : zDU (k + 1) (n : Int) = some [UInt8.ofNat (48 + n)] := by
 show zEm (zDU k) (n : Int) = _
 unfold zEm
 rw [if_pos (decide_eq_true (show (n : Int) < 10 by omega)), zWg n h]
 rfl
theorem zRv (n : Nat) (h : n < 100) : zHl (n : Int) = some (nmS n) := by
 refine zMF 2 fun m hm => ?_
 obtain ⟨k, rfl⟩ : ∃ k, m = k + 2 := ⟨m - 2, by omega⟩
 unfold nmS
 by_cases h1 : n < 10
 ·rw [if_pos h1]; exact zZ2 n h1 (k + 1)
 ·rw [if_neg h1]
  show zEm (zDU (k + 1)) (n : Int) = _
  unfold zEm
  rw [if_neg (by simpa using (show ¬ (n : Int) < 10 by omega))]
  have hq : z1m .i64 (n : Int) 10 = some ((n / 10 : Nat) : Int) := by
   unfold z1m
   rw [if_neg (by decide)]
   have : ((n : Int)).tdiv 10 = ((n / 10 : Nat) : Int) := by rw [Int.tdiv_eq_ediv_of_nonneg (by omega)]; omega
   rw [this]
   exact congrArg some (zWP _ (by omega))
  have hr : z13 (n : Int) 10 = some ((n % 10 : Nat) : Int) := by
   unfold z13
   rw [if_neg (by decide)]
   have : ((n : Int)).tmod 10 = ((n % 10 : Nat) : Int) := by rw [Int.tmod_eq_emod_of_nonneg (by omega)]; omega
   rw [this]
  rw [hq, zob, hr, zob, zob, zWg (n % 10) (by omega), zob, zZ2 (n / 10) (by omega) k, zob, zXJ (by simp), zob]
  rfl
def zTl (n : Nat) : qC := 116 :: nmS n
theorem zYk : ∀ i j : Nat, i < 26 → j < 26 → zTl i = zTl j → i = j := by
 have : ∀ i j : _root_.Fin 26, zTl i.val = zTl j.val → i.val = j.val := by decide
 exact fun i j hi hj h => this ⟨i, hi⟩ ⟨j, hj⟩ h
theorem Ok.name {b : zM} (hr : b.2.1.length ≤ 24) : Ok (zK6 b) fun _ => True := by
 unfold zK6
 have key : Ok (zW (zHy b) ((1 : Nat) : Int)) fun r => ∃ n : Nat, r = (n : Int) ∧ n < 100 := by
  refine Ok.nat (B := zHy b) (fun s => 26 - s.toNat) (fun s => ∃ n : Nat, s = (n : Int) ∧ 1 ≤ n ∧ n ≤ 25 ∧ ∀ j, 1 ≤ j → j < n → ∃ r ∈ b.2.1, r.1 = zTl j) _ ?_ _ ⟨1, rfl, Nat.le_refl _, by omega, fun j h1 h2 => by omega⟩
  rintro s ⟨n, rfl, h1, h2, h3⟩
  unfold zHy
  rw [zRv n (by omega), zob, zXJ (by unfold nmS; split <;> simp), zob, zTV b _ (by omega), zob]
  refine Ok.ite (fun he => ?_) (fun he => ?_)
  ·have he' : 0 ≤ zKp b ([116] ++ nmS n) := by simpa using he
   obtain ⟨k, x, _, hx, hq, _⟩ := zTm he'
   have hxn : x.1 = zTl n := by simpa [zTl] using hq
   have hall : ∀ j, 1 ≤ j → j < n + 1 → ∃ r ∈ b.2.1, r.1 = zTl j := fun j g1 g2 => by
    rcases Nat.lt_succ_iff_lt_or_eq.1 g2 with g | rfl
    ·exact h3 j g1 g
    ·exact ⟨x, vW hx, hxn⟩
   have hlen : n ≤ 24 := by
    have hnd : ((List.range n).map fun j => zTl (j + 1)).Nodup := by
     rw [List.nodup_iff_pairwise_ne, List.pairwise_map]
     refine List.Pairwise.imp_of_mem (R := fun a b => a ≠ b) (fun {a c} ha hc hne h => hne ?_) List.nodup_range
     have := zYk _ _ (by have := List.mem_range.1 ha; omega) (by have := List.mem_range.1 hc; omega) h
     omega
    have := zOo hnd (m := b.2.1.map fun r => r.1) fun y hy => by
     obtain ⟨j, hj, rfl⟩ := List.mem_map.1 hy
     obtain ⟨r, g1, g2⟩ := hall (j + 1) (by omega) (by have := List.mem_range.1 hj; omega)
     exact List.mem_map.2 ⟨r, g1, g2⟩
    simp only [List.length_map, List.length_range] at this
    omega
   refine Ok.ret ⟨⟨n + 1, ?_, by omega, by omega, hall⟩, ?_⟩
   ·rw [yP n (by omega)]
   ·rw [yP n (by omega)]; simp only [Int.toNat_natCast]; omega
  ·exact Ok.ret ⟨n, rfl, by omega⟩
 refine Ok.bind key fun r hr => ?_
 obtain ⟨n, rfl, hn⟩ := hr
 rw [zRv n hn, zob, zXJ (by unfold nmS; split <;> simp)]
 exact Ok.ret trivial
structure Stk (D : List zF) (c : Nat) (rs : List qK) : Prop where
 hd : ∀ r ∈ rs, r.2.2.2.2 ∈ D
 bd : ∀ r ∈ rs, ∀ y ∈ r.2.2.2.1, xH y ∈ D
 ln : ∀ r ∈ rs, r.2.2.2.1.length ≤ c
theorem Stk.sub {D : List zF} {c : Nat} {rs rs' : List qK} (h : Stk D c rs) (hs : ∀ r ∈ rs', r ∈ rs) : Stk D c rs' :=
 ⟨fun r hr => h.hd r (hs r hr), fun r hr => h.bd r (hs r hr), fun r hr => h.ln r (hs r hr)⟩
theorem Stk.tr {D : List zF} {c : Nat} {rs : List qK} (h : Stk D c rs) {r : qK} (hr : r ∈ rs) {y : zF} (hy : y ∈ r.2.2.2.1) (nm : qC) : Stk D c (rs ++ [(nm, (trS r y).2.1, (trS r y).2.2.1, (trS r y).2.2.2.1, (trS r y).2.2.2.2)]) := by
 have h1 : (trS r y).2.2.2.2 ∈ D := h.bd r hr y hy
 have h2 : ∀ z ∈ (trS r y).2.2.2.1, xH z ∈ D := fun z hz => by
  have := (zHv zME _).2 z |>.1 hz
  rw [List.mem_append, List.mem_filter, List.mem_singleton] at this
  rcases this with g | g
  ·exact h.bd r hr z g.1
  ·rw [g, zQy]; exact h.hd r hr
 have h3 : (trS r y).2.2.2.1.length ≤ c := by
  refine Nat.le_trans (zSA _ _) ?_
  have g1 : (r.2.2.2.1.filter fun x => !(x == y)).length < r.2.2.2.1.length := by
   rw [List.length_filter_lt_length_iff_exists]
   exact ⟨y, hy, by simp⟩
  have := h.ln r hr
  simp only [List.length_append, List.length_singleton]
  omega
 refine ⟨fun q hq => ?_, fun q hq => ?_, fun q hq => ?_⟩ <;> rcases List.mem_append.1 hq with hq | hq
 ·exact h.hd q hq
 ·rw [List.mem_singleton] at hq; subst hq; exact h1
 ·exact h.bd q hq
 ·rw [List.mem_singleton] at hq; subst hq; exact h2
 ·exact h.ln q hq
 ·rw [List.mem_singleton] at hq; subst hq; exact h3
def z0c : zM := ([], [], [])
def TrAns (b : zM) (D : List zF) (c : Nat) (v : zM × Int) : Prop :=
 (v.2 = 0 ∧ v.1.1 = b.1 ∧ v.1.2.2 = b.2.2 ∧ Stk D c v.1.2.1 ∧ v.1.2.1.length ≤ 24) ∨ (v.2 ≠ 0 ∧ v.1 = z0c)
theorem Ok.Transpose {b : zM} (hc : Cnt b) {D : List zF} {c : Nat} (hD : Stk D c b.2.1) (hcc : c ≤ 1000) : Ok (zGc b) (TrAns b D c) := by
 unfold zGc
 rw [zMp hc, zob]
 refine Ok.ite (fun h0 => Ok.ret (.inr ⟨by simpa using h0, rfl⟩)) (fun h0 => ?_)
 have hv : zIV b := zJ9.1 (by simpa using h0)
 have hnr := hv.nr
 have hnp := hv.np
 have hnm := hv.nm
 rw [z1Q hc, zob]
 have hloop : Ok (zW (zET b) (((0 : Nat) : Int), b.2.1)) fun o => match o with
   | .inl rs => Stk D c rs ∧ rs.length ≤ 24
   | .inr v => v = (z0c, 2) := by
  refine Ok.nat (B := zET b) (fun s => 25 - s.1.toNat) (fun s => ∃ i : Nat, s.1 = (i : Int) ∧ i ≤ 24 ∧ Stk D c s.2 ∧ s.2.length ≤ 24) _ ?_ _ ⟨0, rfl, by omega, hD, hnr⟩
  rintro ⟨s1, rs⟩ ⟨i, hi, hi2, hS, hL⟩
  dsimp only at hi hS hL
  subst hi
  unfold zET
  refine Ok.ite (fun hlt => ?_) (fun hlt => Ok.ret ⟨hS, hL⟩)
  have hlt' : i < rs.length := by have := of_decide_eq_true hlt; simp only [len] at this; omega
  have hx : rs[i]? = some rs[i] := List.getElem?_eq_getElem hlt'
  dsimp only
  rw [wV hx, zob]
  have hxm := vW hx
  generalize hxe : rs[i] = x at hx hxm
  have hxl := hS.ln x hxm
  refine (Ok.forI (B := zE0 x b ((i : Int), rs)) (fun j (t : List qK) => ((j : Int), t)) x.2.2.2.1 (fun j t => Stk D c t ∧ t.length ≤ 24 ∧ x ∈ t) (fun o => match o with | .inl (i', t) => i' = ((i + 1 : Nat) : Int) ∧ Stk D c t ∧ t.length ≤ 24 | .inr o' => match o' with | .inl _ => False | .inr v => v = (z0c, 2)) ?_ ?_ rs ⟨hS, hL, hxm⟩).imp ?_
  ·rintro j y t hy ⟨h1, h2, h3⟩
   unfold zE0
   dsimp only
   simp only [vA hy, Bool.true_and]
   refine Ok.ite (fun hs => ?_) (fun hs => ?_)
   ·have hcnt : Cnt (b.1, t, b.2.2) := ⟨by show b.1.length < _; omega, by show t.length < _; omega, by show b.2.2.length < _; omega, fun r hr => by have := h1.ln r hr; omega⟩
    rw [zOn hy (by omega), zob, zUx hcnt, zob]
    refine Ok.ite (fun ha => ?_) (fun ha => ?_)
    ·exact Ok.ret ⟨t, by rw [wX hy (by omega)], h1, h2, h3⟩
    ·refine Ok.ite (fun hf => Ok.ret rfl) (fun hf => ?_)
     have hf' : t.length ≠ 24 := by
      intro h'
      have : ((len t) == 24) = true := by simp [len, h']
      rw [this] at hf; cases hf
     refine Ok.bind (Ok.name (b := (b.1, t, b.2.2)) (by show t.length ≤ 24; omega)) fun nm _ => ?_
     rw [vX (by simp; omega), zob]
     refine Ok.ret ⟨_, by rw [wX hy (by omega)], h1.tr h3 (vW hy) nm, by simp; omega, List.mem_append_left _ h3⟩
   ·exact Ok.ret ⟨by rw [yP i (by omega)], h1, h2⟩
  ·rintro t ⟨h1, h2, h3⟩
   unfold zE0
   simp only [yV, Bool.false_and, zbf, if_false]
   exact Ok.ret ⟨by rw [yP i (by omega)], h1, h2⟩
  ·rintro o ho
   match o, ho with
   | .inl (i', t), ⟨h1, h2, h3⟩ => exact ⟨⟨i + 1, h1, by omega, h2, h3⟩, by show 25 - i'.toNat < 25 - ((i : Int)).toNat; rw [h1]; simp only [Int.toNat_natCast]; omega⟩
   | .inr (.inr v), h => exact h
 refine Ok.seqE hloop (fun rs h => Ok.ret (.inl ⟨rfl, rfl, rfl, h.1, h.2⟩)) fun v h => ?_
 have h' : v = (z0c, 2) := h
 rw [h']
 exact .inr ⟨by decide, rfl⟩
end
section
section
variable {b : zM} {l : List zH} (y : List zF)
theorem zTj (q : Int) : zD (xD b y).2.1 q = (zD b.2.1 q).map (zQb b.2.2 y) := by
 show zD (b.2.1.map _) q = _
 unfold zD
 split
 ·rw [List.getElem?_map]
 ·rfl
theorem z0i {q : Int} {r : qK} (h : zD b.2.1 q = some r) : zD (xD b y).2.1 q = some (zQb b.2.2 y r) := by rw [zTj, h]; rfl
theorem zTE {q : Int} {r : qK} (h : zD (xD b y).2.1 q = some r) : ∃ r', zD b.2.1 q = some r' ∧ r = zQb b.2.2 y r' := by
 rw [zTj] at h
 cases h1 : zD b.2.1 q with
 | none => rw [h1] at h; cases h
 | some r' => rw [h1] at h; cases h; exact ⟨r', rfl, rfl⟩
theorem z0w {i : Int} {x : zF} : tL (xD b y) l i x ↔ tL b l i x := by
 constructor
 ·intro h
  induction h with
  | here h => exact .here h
  | step h1 h2 h3 h4 h5 _ ih =>
   obtain ⟨r', e1, rfl⟩ := zTE y h3
   exact .step h1 h2 e1 h4 h5 ih
 ·intro h
  induction h with
  | here h => exact .here h
  | step h1 h2 h3 h4 h5 _ ih => exact .step h1 h2 (z0i y h3) h4 h5 ih
theorem zXv (a : zH) : zNF (xD b y) a = zNF b a := by
 unfold zNF
 rw [zTj]
 cases zD b.2.1 a.2.1 <;> rfl
theorem zZH (i : Int) : yA (xD b y) l i = yA b l i := by
 unfold yA
 simp only [zXv]
open Classical in
theorem zWJ (q : Int) (r : qK) (s : List Int) : uR (xD b y) l q (zQb b.2.2 y r) s = uR b l q r s := by
 unfold uR
 have : zV4 (xD b y) l q (zQb b.2.2 y r) = zV4 b l q r := by
  funext k
  unfold zV4
  rw [zZH]
  have hh : tL (xD b y) l k r.2.2.2.2 ↔ tL b l k r.2.2.2.2 := z0w y
  show (if r.2.1 = true then decide (tL (xD b y) l k r.2.2.2.2) else decide (q ∈ yA b l k)) = _
  cases r.2.1 with
  | true => exact decide_eq_decide.2 hh
  | false => rfl
 rw [this]
theorem z2O (h : Rb b l) : Rb (xD b y) l := by
 refine ⟨⟨zUi h.form.toFormB, h.form.l41, fun i a p hi h0 hp => h.form.pr i a p hi h0 hp, fun i a r hi h0 hr => ?_⟩, h.pre, fun q r s hr hs hk hw => ?_, h.kd⟩
 ·obtain ⟨r', e1, rfl⟩ := zTE y hr
  exact h.form.ru i a r' hi h0 e1
 ·obtain ⟨r', e1, rfl⟩ := zTE y hr
  rw [zWJ] at hw
  exact h.all q r' s e1 hs hk hw
theorem z1U (h : TrC b) : TrC (xD b y) := by
 intro r hr hs x hx
 obtain ⟨r', e1, rfl⟩ := List.mem_map.1 hr
 obtain ⟨q, g1, g2, g3, g4⟩ := h r' e1 hs x hx
 exact ⟨zQb b.2.2 y q, List.mem_map.2 ⟨q, g1, rfl⟩, g2, g3, g4⟩
theorem zXB {S : zF → Prop} {x : zF} : uA (xD b y) S x ↔ uA b S x := by
 constructor
 ·rintro ⟨n, h⟩
  induction h with
  | base h => exact uA.base h
  | step hr hs _ ih =>
   obtain ⟨r', e1, rfl⟩ := List.mem_map.1 hr
   exact uA.rule (r := r') e1 hs ih
 ·rintro ⟨n, h⟩
  induction h with
  | base h => exact uA.base h
  | @step _ r hr hs _ ih => exact uA.rule (b := xD b y) (r := zQb b.2.2 y r) (List.mem_map.2 ⟨r, hr, rfl⟩) hs ih
theorem z1O {S : zF → Prop} : Inc (xD b y) S ↔ Inc b S := by
 unfold Inc
 simp only [zXB]
theorem zRn.rb (h : zRn b l) (hv : zIV b) : Rb b l := by
 refine ⟨h.form.toFormC, fun p q hp => ?_, h.all, fun p hp => ?_⟩
 ·obtain ⟨m, rfl⟩ := h.pre
  have hlt : p < (zKl b).length := by rw [zIE]; exact vK hp
  obtain ⟨a, ha⟩ : ∃ a, (zKl b)[p]? = some a := ⟨_, List.getElem?_eq_getElem hlt⟩
  obtain ⟨_, _, e⟩ := zFy ha
  exact ⟨a, by rw [xC, List.getElem?_append_left hlt]; exact ha, by rw [e]⟩
 ·have := hv.prem p hp
  unfold xZ at this
  split at this
  ·rename_i h1
   simp only [Bool.or_eq_true, beq_iff_eq] at h1
   omega
  ·cases this
end
section
variable {b : zM} {D : List zF} {c : Nat}
theorem zUm (hs : tF b D c) {x : List zH} (hx : zPI b = some x) : uP b x ∧ x.length ≤ 40 :=
 ⟨(zNN hs hx).form, (zNN hs hx).len⟩
theorem zRw (hs : tF b D c) {l : List zH} (hb : zPI b = some l) {o : yH} (ho : badO o = false) : zCr b o = some (zVt b l o, 0) := by
 have hv := hs.valid
 obtain ⟨hf, hl⟩ := zUm hs hb
 have hB := hf.toFormC.toFormB
 unfold zCr
 rw [zYo hs, hb]
 simp only [ansB, zob, bne_self_eq_false, zbf, if_false]
 show (if badO o = true then _ else _) = _
 have hd := zWo (b := b) (l := l) (by omega) o
 obtain ⟨hg, hG⟩ := zN2 (b := b) hl o
 have hac := z1A b l o
 have hd2 := zWo (b := xD b (z0N b l o)) (l := l) (by omega) o
 obtain ⟨hg2, _⟩ := zN2 (b := xD b (z0N b l o)) hl o
 have hgl : (zTA l.length (tR b l o)).length = l.length := zHD _ _
 have hw := zIs (zTA l.length (tR b l o)) 1
 simp only [ho, zbf, if_false, zRO hB o, zob]
 rw [zQU _ _ (by omega), hg]
 simp only [zob, bne_self_eq_false, zbf, if_false]
 rw [zSR hG]
 simp only [zob]
 rw [zQs _ _ (by omega)]
 simp only [zob]
 rw [zMm _ (by omega)]
 simp only [zob]
 rw [show xS vG ((uM (zTA l.length (tR b l o)) 1).flatMap (zQh l)) = z0N b l o from rfl, zXi (zK4 hv) (by omega)]
 simp only [zob, zRO (zUi hB) o]
 rw [zQU _ _ (by omega), hg2]
 rfl
end
structure zWx (b : zM) (l : List zH) : Prop where
 small : ∃ (D : List zF) (c : Nat), tF b D c
 tr : TrC b
 ax : ¬ Inc b fun x => ∃ p ∈ b.1, p.2.1 = 1 ∧ p.1 = x
 bld : zPI b = some l
 len : l.length ≤ 16
theorem Ok.sound {s : uQ} (h : uN s) {n : Int} (h1 : 1 ≤ n) (h2 : n ≤ 26) :
  Ok (zJ0 s n) fun r => uN (s.1, r.2.2) ∧ (r.2.1 = true → ∃ l, zWx r.1 l) := by
 obtain ⟨b, k, e1, hk, hd⟩ := zZu h (n := n) (p := 4) (q := 5) h1 h2 (by omega) (by omega) (by omega) (by omega)
 unfold zJ0
 rw [e1, zob]
 have hnp := hd.np
 have hnr := hd.nr
 have hnm := hd.nm
 have hst : ∃ D : List zF, D.length ≤ 15 ∧ Stk D 2 b.2.1 := by
  refine ⟨(b.2.1.map fun r => r.2.2.2.2) ++ b.2.1.flatMap (fun r => r.2.2.2.1.map xH), ?_, ⟨fun r hr => List.mem_append_left _ (List.mem_map.2 ⟨r, hr, rfl⟩), fun r hr y hy => List.mem_append_right _ (List.mem_flatMap.2 ⟨r, hr, List.mem_map.2 ⟨y, hy, rfl⟩⟩), hd.bd⟩⟩
  have : ∀ rs : List qK, (∀ r ∈ rs, r.2.2.2.1.length ≤ 2) → (rs.flatMap fun r => r.2.2.2.1.map xH).length ≤ rs.length * 2 := by
   intro rs hrs
   induction rs with
   | nil => simp
   | cons r rs ih =>
    have := hrs r List.mem_cons_self
    have := ih fun q hq => hrs q (List.mem_cons_of_mem _ hq)
    simp only [List.flatMap_cons, List.length_append, List.length_map, List.length_cons]
    omega
  have := this b.2.1 hd.bd
  simp only [List.length_append, List.length_map]
  omega
 obtain ⟨D, hDl, hD⟩ := hst
 refine Ok.nat (B := zJN (b, k)) (fun t => t.1.length) (fun t => (∀ r ∈ t.1, r ∈ b.2.1) ∧ t.1.length ≤ 5 ∧ t.2.length ≤ 2) _ ?_ _ ⟨fun r hr => hr, (by show b.2.1.length ≤ 5; omega), hnm⟩
 rintro ⟨rs, pm⟩ ⟨g1, g2, g3⟩
 unfold zJN
 dsimp only at g1 g2 g3 ⊢
 have hS : Stk D 2 rs := hD.sub g1
 have hcnt : Cnt (b.1, rs, pm) := ⟨by show b.1.length < _; omega, by show rs.length < _; omega, by show pm.length < _; omega, fun r hr => by have := hS.ln r hr; omega⟩
 refine Ok.bind (Ok.Transpose hcnt hS (by omega)) fun v hv => ?_
 obtain ⟨b', e⟩ := v
 have hcnt' : Cnt b' := by
  rcases hv with ⟨_, a1, a2, a3, a4⟩ | ⟨_, a1⟩
  ·exact ⟨by rw [a1]; show b.1.length < _; omega, by dsimp only at a4; omega, by rw [a2]; show pm.length < _; omega, fun r hr => by have := a3.ln r hr; omega⟩
  ·dsimp only at a1; subst a1; exact ⟨by decide, by decide, by decide, fun r hr => by cases hr⟩
 have hsm : zIV b' → ∃ (D : List zF) (c : Nat), tF b' D c := by
  intro hvb
  rcases hv with ⟨_, a1, a2, a3, a4⟩ | ⟨_, a1⟩
  ·refine ⟨D, 2, hvb, fun r hr => ⟨a3.hd r hr, a3.ln r hr⟩, ?_⟩
   calc (2 + 1) ^ D.length ≤ 3 ^ 15 := Nat.pow_le_pow_right (by omega) hDl
    _ < 4294967296 := by decide
  ·dsimp only at a1; subst a1
   exact ⟨[], 0, hvb, fun r hr => (by cases hr), by decide⟩
 have hbuild : ∃ l e2, zDC b' = some (l, e2) ∧ (e2 = 0 → zIV b' ∧ zPI b' = some l) := by
  by_cases hvb : zIV b'
  ·obtain ⟨D', c', hs⟩ := hsm hvb
   rw [zYe hs]
   cases hb : zPI b' with
   | none => exact ⟨_, _, rfl, fun h => by cases h⟩
   | some l => exact ⟨l, 0, rfl, fun _ => ⟨hvb, rfl⟩⟩
  ·refine ⟨_, _, zTN hcnt' hvb, fun h => absurd (zJ9.1 h) hvb⟩
 obtain ⟨l, e2, hbl, hbl2⟩ := hbuild
 show Ok ((zDC b').bind _) _
 rw [hbl, zob]
 refine Ok.bind (I := fun z => z = true → ∃ l, zWx b' l) ?_ fun z hz => ?_
 ·refine Ok.ite (fun _ => ?_) (fun _ => Ok.ret fun h => by cases h)
  refine Ok.ite (fun he2 => ?_) (fun _ => Ok.ret fun h => by cases h)
  refine Ok.bind (Ok.Sound hcnt') fun w hw => ?_
  refine Ok.ite (fun hwt => ?_) (fun _ => Ok.ret fun h => by cases h)
  obtain ⟨w1, w2, w3⟩ := hw hwt
  obtain ⟨w4, w5⟩ := hbl2 (by simpa using he2)
  exact Ok.ret fun hlen => ⟨l, hsm w1, w2, w3, w5, by have := of_decide_eq_true hlen; simp only [len] at this; omega⟩
 ·refine Ok.ite (fun hzt => Ok.ret ⟨hk, fun _ => hz hzt⟩) (fun _ => ?_)
  refine Ok.ite (fun h0 => Ok.ret ⟨hk, fun h => by cases h⟩) (fun h0 => ?_)
  have hpos : 0 < rs.length := by
   rcases Nat.eq_zero_or_pos rs.length with h' | h'
   ·have : ((len rs) == 0) = true := by simp [len, h']
    rw [this] at h0; cases h0
   ·exact h'
  have hw : zR ((len rs) - 1) = ((rs.length - 1 : Nat) : Int) := by
   rw [show (len rs) - 1 = ((rs.length - 1 : Nat) : Int) from by simp only [len]; omega]
   exact zWP _ (by omega)
  rw [hw, zLf (by omega) (by omega), zob]
  refine Ok.ret ⟨⟨fun r hr => g1 r (List.mem_of_mem_take hr), ?_, by simp⟩, ?_⟩
  ·simp only [List.length_take]; omega
  ·simp only [List.length_take]; omega
end
section
section
variable {N : Nat} {L : List wD}
theorem z2h {i : Nat} : (vE N L N i).toNat = 1 ↔ uO N L N i := by
 rw [← z1f N L]
 rcases zO7 N L N i with h | h | h <;> rw [h] <;> decide
theorem grf_2 {i : Nat} : (vE N L N i).toNat = 2 ↔ att (uJ L) (uO N L N) i := by
 rw [← zS0 N L]
 rcases zO7 N L N i with h | h | h <;> rw [h] <;> decide
theorem zWV (h : yL N L) : CL N L fun i => (vE N L N i).toNat := by
 refine ⟨fun i _ => by rcases zO7 N L N i with h | h | h <;> rw [h] <;> decide, fun i _ hi j _ he => ?_, fun i _ hi => ?_, fun i hiN hi => ?_⟩
 ·have := zMi (z2h.1 hi)
  exact grf_2.2 (this.2 j he)
 ·obtain ⟨m, h1, h2⟩ := grf_2.1 hi
  exact ⟨m, zSi (D := (· < N)) h1, h2, z2h.2 h1⟩
 ·have h3 : vE N L N i = 3 := by rcases zO7 N L N i with h | h | h <;> rw [h] at hi ⊢ <;> first | rfl | (exact absurd hi (by decide))
  obtain ⟨g1, g2⟩ := (z26 N L).1 h3
  refine ⟨?_, fun j _ he h1 => g2 ⟨j, z2h.1 h1, he⟩⟩
  apply Classical.byContradiction
  intro hno
  refine zTL N L (i := i) ⟨⟨hiN, fun j he => ?_⟩, g1⟩
  have hj : j < N := by
   obtain ⟨m, hm, e⟩ := h.hR _ _ he
   omega
  rcases zO7 N L N j with q | q | q
  ·exact absurd ⟨j, (z1f N L).1 q, he⟩ g2
  ·exact (zS0 N L).1 q
  ·exact absurd ⟨j, hj, he, by rw [q]; rfl⟩ hno
theorem z1o {α : Type} {B : Int → Option (Int ⊕ Int)} (l : List α) (q : α → Bool) (hB : ∀ (i : Nat) x, l[i]? = some x → B (i : Int) = some (if q x then .inr (i : Int) else .inl ((i + 1 : Nat) : Int))) (he : B (l.length : Int) = some (.inr (-1))) :
  ((zW B 0 : Option Int).bind fun r => some (decide (0 ≤ r))) = some (l.any q) := by
 rw [zMt q l (-1) id hB he]
 show ((some (if l.any q then zTw q l else -1) : Option Int).bind _) = _
 rw [zRh, zob]
 congr 1
 cases ha : l.any q with
 | true => exact decide_eq_true (by have := mt zWq.1 (show ¬ _ = false by rw [ha]; simp); omega)
 | false => exact decide_eq_false (by have := zWq.2 ha; omega)
theorem z28 {α β : Type} {B : List β × Int → Option ((List β × Int) ⊕ (List β × Int))} (l : List α) (g : α → β) (hl : l.length ≤ 100000) (hB : ∀ (i : Nat) x s, l[i]? = some x → B (s, (i : Int)) = (wB s [g x]).bind fun z => some (.inl (z, ((i + 1 : Nat) : Int)))) (he : ∀ s, B (s, (l.length : Int)) = some (.inr (s, 0))) :
  zW B ([], 0) = some (l.map g, 0) := by
 have h := zEk (B := B) l (fun s x => s ++ [g x]) (fun s => (s, (0 : Int))) (fun i s => s.length ≤ i) ([] : List β) (by simp) (fun i x s hx hI => by
  have := vK hx
  rw [hB i x s hx, vX (by simp; omega)]
  exact ⟨rfl, by simp; omega⟩) (fun s _ => he s)
 rw [h.1, zGd]; rfl
theorem zXh {α β : Type} {B : List α × Int → Option ((List α × Int) ⊕ β)} (l : List α) (q : α → Bool) (fin : List α → β) (hl : l.length ≤ 100000) (hB : ∀ (i : Nat) x s, l[i]? = some x → B (s, (i : Int)) = if q x = true then (wB s [x]).bind fun z => some (.inl (z, ((i + 1 : Nat) : Int))) else some (.inl (s, ((i + 1 : Nat) : Int)))) (he : ∀ s, B (s, (l.length : Int)) = some (.inr (fin s))) :
  zW B ([], 0) = some (fin (l.filter q)) := by
 have h := zEk (B := B) l (fun s x => if q x = true then s ++ [x] else s) fin (fun i s => s.length ≤ i) ([] : List α) (by simp) (fun i x s hx hI => by
  have := vK hx
  rw [hB i x s hx]
  cases q x with
  | true => simp only [if_true]; rw [vX (by simp; omega)]; exact ⟨rfl, by simp; omega⟩
  | false => exact ⟨rfl, by simp; omega⟩) (fun s _ => he s)
 rw [h.1, zF4 q (fun x => x) l []]
 simp
def z0e (x y : List Int) : Bool := decide (x.length < y.length) && x.all fun i => decide (i ∈ y)
theorem zX7 (x y : List Int) (hx : x.length < 4294967296) (hy : y.length < 4294967296) : zCc x y = some (z0e x y) := by
 have h1 : zAC x y = some (x.any fun i => !decide (i ∈ y)) := by
  unfold zAC zAR
  refine z1o x (fun i => !decide (i ∈ y)) (fun i u hu => ?_) (by unfold zAL; simp [len])
  unfold zAL zCz
  simp only [vA hu, if_true, wV hu, zob, wX hu hx, zKa y u (by omega)]
  cases decide (u ∈ y) <;> rfl
 unfold zCc
 rw [h1]
 unfold z0e
 have hd : decide ((len x) < (len y)) = decide (x.length < y.length) := by rw [decide_eq_decide]; simp only [len]; omega
 rw [hd, show (x.all fun i => decide (i ∈ y)) = !(x.any fun i => !decide (i ∈ y)) from List.all_eq_not_any_not]
 cases decide (x.length < y.length) <;> simp
theorem zSk (x : List Int) (hx : x.length < 1000000) (k : Int) : zCH x [k] = some (uM x k) := by
 have h := zIs x k
 unfold zCH
 rw [z2m (s' := (uM x k, 1)) (by unfold zC1; simp only [zQs x _ (show x.length < 4294967000 by omega), zD, len]; simp [vX (show ([] : List Int).length + (uM x k).length < 4294967296 by simp; omega)]; rfl)]
 rw [zZi (r := uM x k) (by unfold zC1; rfl)]
def zWG (x y : List Int) : Bool := z0e (uM y 1) (uM x 1)
theorem z05 (x y : List Int) (hx : x.length < 1000000) (hy : y.length < 1000000) : zBb x y = some (zWG x y) := by
 have h1 := zIs x 1
 have h2 := zIs y 1
 unfold zBb
 rw [zSk y hy, zob, zSk x hx, zob, zX7 _ _ (by omega) (by omega)]
 rfl
theorem z0r {l : List (List Int)} (hl : l.length < 4294967296) (hs : ∀ x ∈ l, x.length < 1000000) {y : List Int} (hy : y.length < 1000000) : zAD l y = some (l.any fun x => zWG x y) := by
 unfold zAD zAY
 refine z1o l (fun x => zWG x y) (fun i u hu => ?_) (by unfold zAP; simp [len])
 unfold zAP zAW
 simp only [vA hu, if_true, wV hu, zob, wX hu hl, z05 u y (hs u (vW hu)) hy]
 cases zWG u y <;> rfl
def z0u (l : List (List Int)) : List (List Int) := l.filter fun y => !l.any fun x => zWG x y
theorem z0Q : ∀ {l : List (List Int)}, l ≠ [] → ∃ y, y ∈ z0u l := by
 intro l hne
 have hmax : ∃ y ∈ l, ∀ x ∈ l, (uM x 1).length ≤ (uM y 1).length := by
  induction l with
  | nil => exact absurd rfl hne
  | cons a l ih =>
   by_cases h : l = []
   ·subst h; exact ⟨a, by simp, by simp⟩
   ·obtain ⟨y, h1, h2⟩ := ih h
    by_cases hc : (uM a 1).length ≤ (uM y 1).length
    ·exact ⟨y, List.mem_cons_of_mem _ h1, fun x hx => by
      rcases List.mem_cons.1 hx with rfl | hx
      ·exact hc
      ·exact h2 x hx⟩
    ·exact ⟨a, List.mem_cons_self, fun x hx => by
      rcases List.mem_cons.1 hx with rfl | hx
      ·exact Nat.le_refl _
      ·have := h2 x hx; omega⟩
 obtain ⟨y, h1, h2⟩ := hmax
 refine ⟨y, List.mem_filter.2 ⟨h1, ?_⟩⟩
 rw [Bool.not_eq_true', List.any_eq_false]
 intro x hx
 unfold zWG z0e
 have := h2 x hx
 simp only [Bool.and_eq_true, decide_eq_true_eq, not_and]
 intro h; omega
theorem zTC (h : yL N L) : (∃ l : List (List Int), zBG ((N : Int), L) 3 = some (l.map fun x => uM x 1, 0) ∧ l ≠ [] ∧ l.length ≤ 200 ∧ (∀ x ∈ l, ∃ f, CL N L f ∧ x = yX N f)) ∨ zBG ((N : Int), L) 3 = some ([], 2) := by
 have hN := h.hN
 have hE : ∀ v, zAG ((N : Int), L) = some v → zBG ((N : Int), L) 3 = some v := fun v hv => by
  unfold zBG
  rw [h.v1]
  simp only [zob, bne_self_eq_false, zbf, if_false, zXr]
  rw [if_neg (by decide), if_neg (by decide), if_neg (by decide), if_pos (by decide), hv]
  rfl
 obtain ⟨l, h1, h2, h3⟩ := zR3 h
 have hlen : ∀ x ∈ l, x.length = N := fun x hx => by
  obtain ⟨f, _, rfl⟩ := h1 x hx
  exact zNf N f
 rcases h3 with ⟨e1, e2, e3⟩ | ⟨e1, _⟩
 ·left
  have hbest : zB8 ((N : Int), L) = some (z0u l, 0) := by
   unfold zB8 zAK
   rw [e1, zob, if_neg (by simp)]
   have hl : zW (zAB (l, 0)) ([], 0) = some (z0u l, 0) := by
    refine zXh (B := zAB (l, 0)) l (fun x => !l.any fun y => zWG y x) (fun s => (s, (0 : Int))) (by omega) (fun i x s hx => ?_) (fun s => by unfold zAB; simp [len])
    unfold zAB
    simp only [vA hx, if_true, wV hx, zob, wX hx (show l.length < 4294967296 by omega), z0r (show l.length < 4294967296 by omega) (fun z hz => by have := hlen z hz; omega) (show x.length < 1000000 by have := hlen x (vW hx); omega)]
   rw [hl]
   rfl
  have hmem : ∀ x ∈ z0u l, x ∈ l := fun x hx => (List.mem_filter.1 hx).1
  have htl : (z0u l).length ≤ l.length := List.length_filter_le _ _
  refine ⟨z0u l, hE _ ?_, ?_, by omega, fun x hx => h1 x (hmem x hx)⟩
  ·unfold zAG
   rw [hbest, zob, if_neg (by simp)]
   refine z28 (B := zAM (z0u l, 0)) (z0u l) (fun x => uM x 1) (by omega) (fun i x s hx => ?_) (fun s => by unfold zAM; simp [len])
   unfold zAM
   simp only [vA hx, if_true, wV hx, zob, wX hx (show (z0u l).length < 4294967296 by omega), zQs x 1 (show x.length < 4294967000 by have := hlen x (hmem x (vW hx)); omega)]
  ·have hne : l ≠ [] := List.ne_nil_of_mem (e3 _ (zWV h))
   obtain ⟨y, hy⟩ := z0Q hne
   exact List.ne_nil_of_mem hy
 ·right
  refine hE _ ?_
  unfold zAG zB8 zAK
  rw [e1]
  rfl
end
end
section
theorem zPr {l : List zH} {f : Nat → Nat} (x : zF) : x ∈ zHo l (uM (yX l.length f) 1) ↔ Out l f x := by
 rw [zHo, (zHv zME _).2, List.mem_flatMap]
 constructor
 ·rintro ⟨i, hi, hx⟩
  have hr := xK.1 (List.mem_filter.1 hi).1
  rw [zNf] at hr
  obtain ⟨n, rfl⟩ : ∃ n : Nat, i = (n : Int) := ⟨i.toNat, by omega⟩
  have h1 := zUN.1 hi
  rw [zQt (by omega)] at h1
  unfold zQh at hx
  cases ha : zD l (n : Int) with
  | none => rw [ha] at hx; cases hx
  | some a =>
   rw [ha] at hx
   refine ⟨(n : Int), a, ⟨by omega, by omega, ?_⟩, ha, (List.mem_singleton.1 hx).symm⟩
   rw [Int.toNat_natCast]
   have : ((f n : Nat) : Int) = 1 := by simpa using h1
   omega
 ·rintro ⟨i, a, ⟨h0, h1, h2⟩, ha, rfl⟩
  obtain ⟨n, rfl⟩ : ∃ n : Nat, i = (n : Int) := ⟨i.toNat, by omega⟩
  rw [Int.toNat_natCast] at h2
  refine ⟨(n : Int), zUN.2 (by rw [zQt (by omega), h2]; rfl), ?_⟩
  unfold zQh
  rw [ha]
  exact List.mem_singleton.2 rfl
theorem zWb {l m : List zF} (h1 : vV vG l) (h2 : vV vG m) (h : ∀ y, y ∈ l ↔ y ∈ m) : l = m :=
 (zSp zME h1 h).symm.trans (zSp zME h2 fun _ => Iff.rfl)
theorem zYs {b : zM} {l : List zH} (h : zWx b l) (o : yH) (acc : List zF) {f : Nat → Nat} (hf : CL l.length (tR (xD b acc) l o) f) :
  (∀ x, uA b (fun y => Out l f y ∨ ∃ p ∈ b.1, p.2.1 = 1 ∧ p.1 = y) x → Out l f x) ∧ ∀ x, ¬ (Out l f x ∧ Out l f (xH x)) := by
 obtain ⟨D, c, hs⟩ := h.small
 have hW := zNN hs h.bld
 have hR : Rb (xD b acc) l := z2O acc (hW.rb hs.valid)
 refine ⟨fun x hx => zYL hR hf ((zXB acc).2 hx), fun x => zSW hR (z1U acc h.tr) (fun hi => h.ax ((z1O acc).1 hi)) hf x⟩
theorem zV8 {b : zM} {l : List zH} (h : zWx b l) (o : yH) (acc : List zF) {f : Nat → Nat} (hf : CL l.length (tR (xD b acc) l o) f) (hc : Cnt b) :
  ∃ ax, zFi b = some ax ∧ ax.length ≤ 16 ∧ zC3 b (zHo l (uM (yX l.length f) 1)) = some (zHo l (uM (yX l.length f) 1)) ∧
   zC3 b (zHo l (uM (yX l.length f) 1) ++ ax) = some (zHo l (uM (yX l.length f) 1)) ∧ zI4 (zHo l (uM (yX l.length f) 1)) = true := by
 obtain ⟨D, c, hs⟩ := h.small
 have hv := hs.valid
 have hnp := hv.np
 have hnr := hv.nr
 have hq : ∀ r ∈ b.2.1, r.2.2.2.1.length < 1000000 := fun r hr => by have := zOk (hv.rule r hr); omega
 obtain ⟨g1, g2⟩ := zYs h o acc hf
 obtain ⟨ax, e1, a1, a2, a3⟩ := Ok.Axioms (b := b) (by omega)
 have hlen : (zHo l (uM (yX l.length f) 1)).length ≤ 16 := by
  have h1 := zS7 l (uM (yX l.length f) 1)
  have h2 := zIs (yX l.length f) 1
  rw [zNf] at h2
  have := h.len
  omega
 have hasc := zXU l (uM (yX l.length f) 1)
 refine ⟨ax, e1, by omega, ?_, ?_, ?_⟩
 ·obtain ⟨r, e2, c1, c2, _⟩ := Ok.Closure hc hq (by omega) (xs := zHo l (uM (yX l.length f) 1)) (by omega)
  rw [e2]
  refine congrArg some (zWb c1 hasc fun y => ⟨fun hy => ?_, fun hy => (c2 y).2 (uA.base hy)⟩)
  exact (zPr y).2 (g1 y (((c2 y).1 hy).sub fun z hz => .inl ((zPr z).1 hz)))
 ·obtain ⟨r, e2, c1, c2, _⟩ := Ok.Closure hc hq (by omega) (xs := zHo l (uM (yX l.length f) 1) ++ ax) (by rw [List.length_append]; omega)
  rw [e2]
  refine congrArg some (zWb c1 hasc fun y => ⟨fun hy => ?_, fun hy => (c2 y).2 (uA.base (List.mem_append_left _ hy))⟩)
  refine (zPr y).2 (g1 y (((c2 y).1 hy).sub fun z hz => ?_))
  rcases List.mem_append.1 hz with hz | hz
  ·exact .inl ((zPr z).1 hz)
  ·exact .inr ((a2 z).1 hz)
 ·rw [zI4, List.all_eq_true]
  intro x hx
  rw [Bool.not_eq_true', decide_eq_false_iff_not]
  exact fun hx' => g2 x ⟨(zPr x).1 hx, (zPr _).1 hx'⟩
theorem zSU (hw : zDd = some true) (y0 : List Int) : zEX y0 = some true := by
 unfold zEX
 rw [z0U]
 simp only [zob]
 obtain ⟨⟨b, g, k⟩, e1, hk, hg⟩ := Ok.sound (zZa y0) (n := 4) (by omega) (by omega)
 dsimp only at hk hg
 rw [e1]
 simp only [zob]
 cases g with
 | false => simp [hw]
 | true =>
  obtain ⟨l, hS⟩ := hg rfl
  obtain ⟨D, c, hs⟩ := hS.small
  have hc := zK4 hs.valid
  have hl := hS.len
  simp only [Bool.not_true, zbf, if_false]
  rw [zS1]
  simp only [zob]
  obtain ⟨r4, e4, h4a, h4b, h4⟩ := Ok.N hk (n := 4) (by omega) (by omega)
  have e4' : xN ((y0.take 2000, (0 : Int)).1, k) 4 = some r4 := e4
  rw [e4']
  simp only [zob]
  obtain ⟨o, ho⟩ := zH1 (l := ords) (j := r4.1) h4a (by show r4.1 < 4; exact h4b (by omega))
  rw [ho]
  simp only [zob]
  rw [zRw hs hS.bld (z0q ho)]
  simp only [zob]
  have hG := (zN2 (b := xD b (z0N b l o)) (l := l) (by omega) o).2
  have hgr : (zVt b l o).2.2.2 = ((l.length : Int), tR (xD b (z0N b l o)) l o) := rfl
  rcases zTC hG with ⟨ls, f1, f2, f3, f4⟩ | f1
  ·have hcon := zO3 (c := zVt b l o) (q := 3) (es := ls.map fun x => uM x 1) (by rw [hgr]; exact f1) (by rw [List.length_map]; omega) (fun s hs => by
    obtain ⟨x, hx, rfl⟩ := List.mem_map.1 hs
    obtain ⟨f, _, rfl⟩ := f4 x hx
    have := zIs (yX l.length f) 1
    rw [zNf] at this
    omega)
   rw [hcon, List.map_map]
   have hll : zW (zBd (ls.map (zHo (zVt b l o).2.1 ∘ fun x => uM x 1), 0) (b, true, k)) 0 = some (.inl ()) := by
    refine z0V (l := ls) (fun i x hx => ?_) (by unfold zBd; simp [len])
    obtain ⟨f, hf, rfl⟩ := f4 x (vW hx)
    obtain ⟨ax, a1, a2, a3, a4, a5⟩ := zV8 hS o (z0N b l o) hf hc
    have hx' : (ls.map (zHo (zVt b l o).2.1 ∘ fun x => uM x 1))[i]? = some (zHo l (uM (yX l.length f) 1)) := by rw [List.getElem?_map, hx]; rfl
    have hcl : (zHo l (uM (yX l.length f) 1)).length ≤ 16 := by
     have h1 := zS7 l (uM (yX l.length f) 1)
     have h2 := zIs (yX l.length f) 1
     rw [zNf] at h2
     omega
    unfold zBd
    dsimp only
    simp only [vA hx', if_true, wV hx', zob]
    rw [vX (by simp; omega)]
    simp only [zob, a1, List.nil_append]
    rw [vX (by omega)]
    simp only [zob, a3, a4]
    rw [zWl _ _ (by omega), zOI (by omega), a5]
    simp only [decide_true, zob, Bool.not_true, zbf, if_false]
    rw [wX hx' (by rw [List.length_map]; omega)]
   simp only [zob, bne_self_eq_false, Bool.or_self, Bool.false_and, zbf, if_false]
   rw [hll]
   have hpos : decide (0 < len (ls.map (zHo (zVt b l o).2.1 ∘ fun x => uM x 1))) = true := by
    have : 0 < ls.length := List.length_pos_iff.2 f2
    exact decide_eq_true (by simp only [len, List.length_map]; omega)
   simp only [yC, hpos, if_true, hw, zob]
   rfl
  ·have hcon : zAt (zVt b l o) 3 = some ([], 2) := by
    unfold zAt
    rw [hgr, f1]
    rfl
   rw [hcon]
   have hll : zW (zBd ([], 2) (b, true, k)) 0 = some (.inl ()) := by
    refine zZi ?_
    unfold zBd
    rfl
   simp only [zob, bne_self_eq_false, Bool.false_or, Bool.and_false, zbf, if_false]
   rw [hll]
   simp only [yC, hw, zob]
   rw [if_pos (by decide)]
   rfl
end
section
def zBO (_ : Nat) (l : List wT) : Option (List wT) := if l.length < 4294967296 then some (zR9 lt4 l) else none
def zBe (_ : Nat) (l : List wD) : Option (List wD) := if l.length < 4294967296 then some (zR9 xU l) else none
def zEb (_ : Nat) (l : List Int) : Option (List Int) := if l.length < 4294967296 then some (zR9 yZ l) else none
theorem zEw (n : Nat) (l : List wT) : Le (zBO n l) (zAS l) := ⟨fun r h => by
 unfold zBO at h
 split at h
 ·rename_i hl; rw [zQK hl, zLp z3K]; exact h
 ·cases h⟩
theorem zGM (n : Nat) (l : List wD) : Le (zBe n l) (zA5 l) := ⟨fun r h => by
 unfold zBe at h
 split at h
 ·rename_i hl; rw [zSd hl, zLp z0P]; exact h
 ·cases h⟩
theorem zHq (n : Nat) (l : List Int) : Le (zEb n l) (zBC l) := ⟨fun r h => by
 unfold zEb at h
 split at h
 ·rename_i hl; unfold zBC; rw [zRp hl]; exact h
 ·cases h⟩
def zBP (_ : Nat) (l : List zF) : Option (List zF) := if l.length < 4294967296 then some (zR9 vG l) else none
theorem zFK (n : Nat) (l : List zF) : Le (zBP n l) (zAE l) := ⟨fun r h => by
 unfold zBP at h
 split at h
 ·rename_i hl; rw [zWw hl, zLp zME]; exact h
 ·cases h⟩
end
end Go.GD
