/- Part of the proof. Conditions: none. -/
import Derived.Test.YtkjadnjfmdgngaaGreatDoorLib
import Derived.Test.YtkjadnjfmdgngaaGreatDoorModels
import Derived.Lib.TrailingZeros
import Derived.Shelf.Strings.FieldsAny
import Derived.Test.YtkjadnjfmdgngaaGreatDoorJoin
namespace Go.GD
set_option autoImplicit false
set_option linter.unusedVariables false
section
theorem uD {x : Int} (h1 : -9223372036854775808 ≤ x) (h2 : x < 9223372036854775808) : zR x = x := by
 simp only [zR, IntKind.wrap, IntKind.signed, IntKind.bits]
 simp; omega
theorem zXD (n : Nat) (h : n < 9223372036854775808) : zR (n : Int) = n := uD (by omega) (by omega)
theorem vT (n : Nat) (h : n + 1 < 9223372036854775808) : zR ((n : Int) + 1) = ((n + 1 : Nat) : Int) := by rw [uD (by omega) (by omega)]; omega
theorem uT {α : Type} (l : List α) (i : Nat) : zH l (i : Int) = l[i]? := by simp [zH]
theorem zTv (l : wZ) (i : Nat) : zRN l (i : Int) = (l[i]?).map (fun b => (b.toNat : Int)) := by simp [zRN]
theorem zO7 {α : Type} {l : List α} {i : Int} (h0 : 0 ≤ i) (h1 : i < l.length) : ∃ x, zH l i = some x ∧ l[i.toNat]? = some x := by
 have : l[i.toNat]? = some l[i.toNat] := List.getElem?_eq_getElem (by omega)
 exact ⟨_, by simp [zH, h0, this], this⟩
theorem vN {α : Type} {l m : List α} (h : l.length + m.length < 4294967296) : wJ l m = some (l ++ m) := by simp [wJ, h]
theorem zK9 {α : Type} {l : List α} {j : Int} (h1 : 0 ≤ j) (h2 : j ≤ l.length) : sub l 0 j = some (l.take j.toNat) := by simp [sub, h1, h2]
theorem zWj {α : Type} {l : List α} {i : Int} (h1 : 0 ≤ i) (h2 : i ≤ l.length) : sub l i (len l) = some (l.drop i.toNat) := by simp [sub, h1, h2]
def zQ8 {σ ρ α : Type} (step : Nat → σ → α → Option (σ ⊕ ρ)) (fin : σ → Option ρ) : Nat → List α → σ → Option ρ
 | _, [], s => fin s
 | i, x :: l, s => match step i s x with
  | none => none
  | some (.inl s') => zQ8 step fin (i + 1) l s'
  | some (.inr r) => some r
theorem zXO {σ ρ α τ : Type} {B : τ → Option (τ ⊕ ρ)} (mk : Nat → σ → τ) (l : List α) (step : Nat → σ → α → Option (σ ⊕ ρ)) (fin : σ → Option ρ)
  (hB : ∀ i x s, l[i]? = some x → B (mk i s) = (step i s x).map fun o => match o with | .inl s' => .inl (mk (i + 1) s') | .inr r => .inr r)
  (he : ∀ s, B (mk l.length s) = (fin s).map .inr) : ∀ (n i : Nat) (s : σ), i + n = l.length → zW B (mk i s) = zQ8 step fin i (l.drop i) s := by
 intro n
 induction n with
 | zero =>
  intro i s h
  rw [Nat.add_zero] at h
  subst h
  rw [yA, he, List.drop_length]
  cases hf : fin s <;> simp [zQ8, hf]
 | succ n ih =>
  intro i s h
  have hx : l[i]? = some l[i] := List.getElem?_eq_getElem (by omega)
  rw [yA, hB i _ s hx, List.drop_eq_getElem_cons (by omega)]
  cases hs : step i s l[i] with
  | none => simp [zQ8, hs]
  | some o =>
   cases o with
   | inl s' => simp only [Option.map_some, zQ8, hs]; exact ih (i + 1) s' (by omega)
   | inr r => simp [zQ8, hs]
theorem zLk {σ ρ α τ : Type} {B : τ → Option (τ ⊕ ρ)} (mk : Nat → σ → τ) (l : List α) (step : Nat → σ → α → Option (σ ⊕ ρ)) (fin : σ → Option ρ)
  (hB : ∀ i x s, l[i]? = some x → B (mk i s) = (step i s x).map fun o => match o with | .inl s' => .inl (mk (i + 1) s') | .inr r => .inr r)
  (he : ∀ s, B (mk l.length s) = (fin s).map .inr) (s : σ) : zW B (mk 0 s) = zQ8 step fin 0 l s := by
 have := zXO mk l step fin hB he l.length 0 s (by omega)
 simpa using this
theorem zXl {ρ α : Type} {B : Int → Option (Int ⊕ ρ)} {l : List α} {r : ρ} (hB : ∀ (i : Nat) (x : α), l[i]? = some x → B (i : Int) = some (.inl ((i + 1 : Nat) : Int)))
  (he : B (l.length : Int) = some (.inr r)) : zW B 0 = some r := by
 have h := zLk (B := B) (fun i (_ : Unit) => (i : Int)) l (fun _ _ _ => some (.inl ())) (fun _ => some r) (fun i x s hx => by simp [hB i x hx]) (fun s => by simp [he]) ()
 have key : ∀ (l : List α) (i : Nat), zQ8 (fun _ (_ : Unit) (_ : α) => some (.inl ())) (fun _ => some r) i l () = some r := by
  intro l
  induction l with
  | nil => intro i; rfl
  | cons x l ih => intro i; exact ih (i + 1)
 rw [key] at h
 exact h
theorem yJ {ρ α σ τ : Type} {B : τ → Option (τ ⊕ ρ)} (mk : Nat → σ → τ) (l : List α) (I : Nat → σ → Prop) (Q : ρ → Prop)
  (hB : ∀ i x s, l[i]? = some x → I i s → (∃ s', B (mk i s) = some (.inl (mk (i + 1) s')) ∧ I (i + 1) s') ∨ ∃ r, B (mk i s) = some (.inr r) ∧ Q r)
  (he : ∀ s, I l.length s → ∃ r, B (mk l.length s) = some (.inr r) ∧ Q r) : ∀ s, I 0 s → ∃ r, zW B (mk 0 s) = some r ∧ Q r := by
 have key : ∀ n i s, i + n = l.length → I i s → ∃ r, zW B (mk i s) = some r ∧ Q r := by
  intro n
  induction n with
  | zero =>
   intro i s h hI
   rw [Nat.add_zero] at h
   subst h
   obtain ⟨r, h1, h2⟩ := he s hI
   exact ⟨r, by rw [yA, h1], h2⟩
  | succ n ih =>
   intro i s h hI
   have hx : l[i]? = some l[i] := List.getElem?_eq_getElem (by omega)
   rcases hB i _ s hx hI with ⟨s', h1, h2⟩ | ⟨r, h1, h2⟩
   ·obtain ⟨r, h3, h4⟩ := ih (i + 1) s' (by omega) h2
    exact ⟨r, by rw [yA, h1]; exact h3, h4⟩
   ·exact ⟨r, by rw [yA, h1], h2⟩
 exact fun s hI => key l.length 0 s (by omega) hI
theorem zX0 {ρ τ : Type} {B : τ → Option (τ ⊕ ρ)} (μ : τ → Nat) (I : τ → Prop) (Q : ρ → Prop)
  (step : ∀ s, I s → (∃ s', B s = some (.inl s') ∧ I s' ∧ μ s' < μ s) ∨ (∃ r, B s = some (.inr r) ∧ Q r)) (s : τ) (h : I s) : ∃ r, zW B s = some r ∧ Q r := zLf I μ Q step s h
end
section
structure yV (s : uC) : Prop where
 lo : 0 ≤ s.2
 hi : s.2 ≤ s.1.length
 small : s.1.length ≤ 2000
theorem zYO (l : List Int) : zLh l = some (l.take 2000, 0) := by
 unfold zLh
 by_cases h : 2000 < len l
 ·rw [if_pos h, zK9 (by omega) (by simp [len] at h; omega)]; rfl
 ·rw [if_neg h, zK9 (by simp [len]) (by simp [len])]
  simp only [zob]
  rw [List.take_of_length_le (by simp), List.take_of_length_le (by simp [len] at h; omega)]
theorem zVx (l : List Int) : yV (l.take 2000, 0) := ⟨Int.le_refl _, by simp, by simp; omega⟩
theorem zTz {s : uC} (h : yV s) : ∃ v k, zIB s = some (v, k) ∧ yV (s.1, k) := by
 obtain ⟨h1, h2, h3⟩ := h
 unfold zIB
 by_cases hk : len s.1 ≤ s.2
 ·exact ⟨0, s.2, by simp [hk], h1, h2, h3⟩
 ·have hk' : s.2 < s.1.length := by simpa [len] using hk
  obtain ⟨x, hx, _⟩ := zO7 h1 hk'
  refine ⟨x, s.2 + 1, ?_, by show (0 : Int) ≤ s.2 + 1; omega, by show s.2 + 1 ≤ (s.1.length : Int); omega, h3⟩
  simp only [hk, decide_false, zbf, if_false]
  rw [uD (x := s.2 + 1) (by omega) (by omega), show s.2 + 1 - 1 = s.2 by omega, uD (by omega) (by omega), hx]; rfl
theorem zXe {x n : Int} (h0 : 1 ≤ n) (h1 : n ≤ 4611686018427387904) : ∃ v, zIq x n = some v ∧ 0 ≤ v ∧ v < n := by
 unfold zIq
 have hn : ¬ n < 1 := by omega
 have hn0 : n ≠ 0 := by omega
 simp only [hn, decide_false, zbf, if_false, remK, hn0, zob]
 have ha := Int.tmod_lt_of_pos x (show 0 < n by omega)
 have hb : -n < x.tmod n := by
  have := Int.lt_tmod_of_pos x (show 0 < n by omega)
  exact this
 by_cases hx : x.tmod n < 0
 ·exact ⟨x.tmod n + n, by simp [hx, uD (x := x.tmod n + n) (by omega) (by omega)], by omega, by omega⟩
 ·exact ⟨x.tmod n, by simp [hx], by omega, ha⟩
theorem zIR {s : uC} {n : Int} (h : yV s) (h0 : 1 ≤ n) (h1 : n ≤ 4611686018427387904) : ∃ v k, xF s n = some (v, k) ∧ 0 ≤ v ∧ v < n ∧ yV (s.1, k) := by
 obtain ⟨v, k, hr, hk⟩ := zTz h
 obtain ⟨u, hu, h2, h3⟩ := zXe (x := v) h0 h1
 exact ⟨u, k, by simp [xF, hr, hu], h2, h3, hk⟩
theorem zXM {s : uC} {l : List wZ} (h : yV s) (h0 : l ≠ []) (h1 : l.length ≤ 1000) : ∃ x k, zGw s l = some (x, k) ∧ x ∈ l ∧ yV (s.1, k) := by
 have hp := List.length_pos_iff.2 h0
 obtain ⟨v, k, hr, h2, h3, hk⟩ := zIR (n := len l) h (by simp [len]; omega) (by simp [len]; omega)
 obtain ⟨x, hx, hx2⟩ := zO7 h2 h3
 exact ⟨x, k, by simp [zGw, hr, hx], List.mem_of_getElem? hx2, hk⟩
theorem band1 (k : Int) (h0 : 0 ≤ k) (h1 : k < 4611686018427387904) : vZ .i64 k 1 = k % 2 := by
 obtain ⟨n, rfl⟩ := Int.eq_ofNat_of_zero_le h0
 unfold vZ
 have h2 : (BitVec.ofInt IntKind.i64.bits (n : Int) &&& BitVec.ofInt IntKind.i64.bits 1).toNat = n % 2 := by
  show (BitVec.ofInt 64 (n : Int) &&& 1#64).toNat = n % 2
  rw [BitVec.toNat_and, BitVec.ofInt_natCast, BitVec.toNat_ofNat]
  show n % 2 ^ 64 &&& 1 = n % 2
  rw [Nat.and_one_is_mod]
  omega
 rw [h2]
 show zR _ = _
 rw [uD (by omega) (by omega)]
 omega
def tB (k : Nat) : wZ := [UInt8.ofNat (97 + k)]
theorem zIF {s : uC} {n : Int} (h : yV s) (h0 : 1 ≤ n) (h1 : n ≤ 26) : ∃ (g : Bool) (j : Nat) (k : Int), zAf s n = some ((g, tB j), k) ∧ (j : Int) < n ∧ yV (s.1, k) := by
 obtain ⟨v, k, hr, h2, h3, hk⟩ := zIR (n := 2 * n) h (by omega) (by omega)
 obtain ⟨m, rfl⟩ := Int.eq_ofNat_of_zero_le h2
 refine ⟨vZ .i64 m 1 == 1, m / 2, k, ?_, by omega, hk⟩
 unfold zAf
 rw [uD (x := 2 * n) (by omega) (by omega), hr]
 have hq : quoK .i64 (m : Int) 2 = some ((m / 2 : Nat) : Int) := by
  simp only [quoK]
  rw [if_neg (by omega)]
  show some (zR _) = _
  have : (m : Int).tdiv 2 = ((m / 2 : Nat) : Int) := by
   rw [Int.tdiv_eq_ediv_of_nonneg (by omega)]; omega
  rw [this, uD (by omega) (by omega)]
 simp only [zob, hq]
 have hw : IntKind.u8.wrap (zR (97 + ((m / 2 : Nat) : Int))) = ((97 + m / 2 : Nat) : Int) := by
  rw [uD (by omega) (by omega)]
  simp only [IntKind.wrap, IntKind.signed, IntKind.bits]
  simp; omega
 rw [hw]
 rfl
end
section
theorem zXn {α : Type} (l : List α) (i k : Nat) : tJ l (i : Int) (k : Int) = l[i + k]? := by
 simp only [tJ]
 rw [if_pos (by omega), show ((i : Int) + (k : Int)) = ((i + k : Nat) : Int) by omega, uT]
section
variable {α : Type} [BEq α]
noncomputable def zLK (y0 : List α) (s1 : Int) (s3 : (List α) × Int × Int) : Option (((List α) × Int × Int) ⊕ ((List α) × Int)) :=
 if decide (s3.2.2 < ((Int.toNat (((List.length y0 : Nat) : Int) - s1) : Nat) : Int)) then
  (tJ s3.1 s1 s3.2.2).bind fun x3 =>
  (tJ s3.1 s1 (zR (s3.2.2 - 1))).bind fun x4 =>
  if !(x3 == x4) then
   (tJ s3.1 s1 s3.2.2).bind fun x5 =>
   (zH s3.1 s3.2.1).bind fun _ =>
   some (.inl (List.set s3.1 (Int.toNat s3.2.1) x5, zR (s3.2.1 + 1), zR (s3.2.2 + 1)))
  else
   some (.inl (s3.1, s3.2.1, zR (s3.2.2 + 1)))
 else
  some (.inr (s3.1, s3.2.1))
noncomputable def zN1 (z : α) (y0 : List α) (s1 : Int) : Option (Int ⊕ (List α)) :=
 if decide (s1 < (len y0)) then
  (zH y0 s1).bind fun x1 =>
  (zH y0 (zR (s1 - 1))).bind fun x2 =>
  if x1 == x2 then
   (yX (decide (0 ≤ s1) && decide (s1 ≤ len y0))).bind fun _ =>
   (zW (zLK y0 s1) (y0, s1, 1) : Option ((List α) × Int)).bind fun s2 =>
   (yX (decide (0 ≤ s2.2) && decide (s2.2 ≤ len s2.1))).bind fun _ =>
   (sub (zBW s2.1 s2.2 z) 0 s2.2).bind fun x7 =>
   some (.inr x7)
  else
   some (.inl (zR (s1 + 1)))
 else
  some (.inr y0)
noncomputable def zQj (z : α) (y0 : List α) : Option (List α) :=
 if decide ((len y0) < 2) then
  some y0
 else
  zW (zN1 z y0) 1
def dd (a : α) : List α → List α
 | [] => []
 | b :: r => if a == b then dd b r else b :: dd b r
def xV : List α → List α
 | [] => []
 | a :: r => a :: dd a r
theorem zR0 : ∀ (r s : List α) (a : α), dd a (r ++ s) = dd a r ++ dd (r.getLastD a) s
 | [], s, a => rfl
 | b :: r, s, a => by
  simp only [List.cons_append, dd, zR0 r s b, List.getLastD_cons]
  split <;> simp
theorem zQG {l : List α} {j : Nat} {y x : α} (h1 : l[j]? = some y) (h2 : l[j + 1]? = some x) : xV (l.take (j + 2)) = xV (l.take (j + 1)) ++ if y == x then [] else [x] := by
 have e1 : l.take (j + 2) = l.take (j + 1) ++ [x] := by
  rw [List.take_add_one (i := j + 1), h2]; rfl
 have e2 : l.take (j + 1) = l.take j ++ [y] := by rw [List.take_add_one, h1]; rfl
 rw [e1]
 cases hl : l.take (j + 1) with
 | nil => rw [hl] at e2; cases h3 : l.take j <;> simp [h3] at e2
 | cons a r =>
  have hlast : r.getLastD a = y := by
   have : (a :: r).getLast? = some y := by rw [← hl, e2]; simp
   rw [← List.getLastD_cons (a := a) (b := a) (l := r), List.getLastD_eq_getLast?, this]; rfl
  simp only [List.cons_append, xV, zR0, hlast, dd]
theorem zYR : ∀ (r : List α) (a : α), (dd a r).length ≤ r.length
 | [], _ => Nat.le_refl _
 | b :: r, a => by
  simp only [dd]
  have := zYR r b
  split <;> simp <;> omega
theorem zWd (l : List α) : (xV l).length ≤ l.length := by
 cases l with
 | nil => simp [xV]
 | cons a r => have := zYR r a; simp [xV]; omega
theorem zPl [LawfulBEq α] (l : List α) (i0 : Nat) (h0 : 1 ≤ i0) (hi : i0 < l.length) (hbig : l.length < 9223372036854775807) (hd : xV (l.take (i0 + 1)) = xV (l.take i0)) (hk : xV (l.take i0) = l.take i0) :
  ∃ c k, zW (zLK l (i0 : Int)) (l, (i0 : Int), 1) = some (c, ((k : Nat) : Int)) ∧ c.length = l.length ∧ k ≤ l.length ∧ c.take k = xV l := by
 have key : ∀ n k2 (c : List α) (k : Nat), i0 + k2 + n = l.length → 1 ≤ k2 → c.length = l.length → k + 1 ≤ i0 + k2 → (∀ j, i0 + k2 ≤ j + 1 → c[j]? = l[j]?) → c.take k = xV (l.take (i0 + k2)) →
   ∃ c' k', zW (zLK l (i0 : Int)) (c, (k : Int), (k2 : Int)) = some (c', ((k' : Nat) : Int)) ∧ c'.length = l.length ∧ k' ≤ l.length ∧ c'.take k' = xV l := by
  intro n
  induction n with
  | zero =>
   intro k2 c k hn h1 hc hk1 hsame htake
   refine ⟨c, k, ?_, hc, by omega, ?_⟩
   ·rw [yA]
    unfold zLK
    have : decide ((k2 : Int) < ((Int.toNat (((List.length l : Nat) : Int) - (i0 : Int)) : Nat) : Int)) = false := by simp; omega
    simp only [this, zbf, if_false]
   ·rw [htake, List.take_of_length_le (by omega)]
  | succ n ih =>
   intro k2 c k hn h1 hc hk1 hsame htake
   have hx : l[i0 + k2]? = some l[i0 + k2] := List.getElem?_eq_getElem (by omega)
   have hy : l[i0 + k2 - 1]? = some l[i0 + k2 - 1] := List.getElem?_eq_getElem (by omega)
   have hcx : c[i0 + k2]? = some l[i0 + k2] := by rw [hsame _ (by omega)]; exact hx
   have hcy : c[i0 + (k2 - 1)]? = some l[i0 + k2 - 1] := by rw [hsame _ (by omega), ← hy]; congr 1; omega
   have hlt : decide ((k2 : Int) < ((Int.toNat (((List.length l : Nat) : Int) - (i0 : Int)) : Nat) : Int)) = true := by simp; omega
   have hw1 : zR ((k2 : Int) - 1) = ((k2 - 1 : Nat) : Int) := by rw [uD (by omega) (by omega)]; omega
   have hdt := zQG (l := l) (j := i0 + k2 - 1) (y := l[i0 + k2 - 1]) (x := l[i0 + k2]) hy (by rw [show i0 + k2 - 1 + 1 = i0 + k2 by omega]; exact hx)
   rw [show i0 + k2 - 1 + 2 = i0 + (k2 + 1) by omega, show i0 + k2 - 1 + 1 = i0 + k2 by omega] at hdt
   have hklt : k < c.length := by omega
   rw [yA]
   unfold zLK
   simp only [hlt, if_true, zXn, hcx, zob, hw1, hcy]
   rw [BEq.comm]
   have hklt' : zH c (k : Int) = some c[k] := by rw [uT]; exact List.getElem?_eq_getElem hklt
   cases hb : l[i0 + k2 - 1] == l[i0 + k2] with
   | true =>
    simp only [Bool.not_true, zbf, if_false]
    rw [vT k2 (by omega)]
    have := ih (k2 + 1) c k (by omega) (by omega) hc (by omega) (fun j hj => hsame j (by omega)) (by rw [hdt, hb]; simpa using htake)
    exact this
   | false =>
    simp only [Bool.not_false, if_true, hklt', zob]
    rw [vT k2 (by omega), vT k (by omega), Int.toNat_natCast]
    refine ih (k2 + 1) (c.set k l[i0 + k2]) (k + 1) (by omega) (by omega) (by simp [hc]) (by omega) (fun j hj => ?_) ?_
    ·rw [List.getElem?_set_ne (by omega)]; exact hsame j (by omega)
    ·rw [hdt, hb, ← htake]
     rw [List.take_add_one, List.getElem?_set_self hklt, List.take_set_of_le (Nat.le_refl _)]
     rfl
 have hsome : l[i0]? = some l[i0] := List.getElem?_eq_getElem hi
 refine key (l.length - (i0 + 1)) 1 l i0 (by omega) (Nat.le_refl _) rfl (by omega) (fun j _ => rfl) ?_
 rw [hd, hk]
theorem zKd [LawfulBEq α] (z : α) (l : List α) (hbig : l.length < 9223372036854775807) : zQj z l = some (xV l) := by
 unfold zQj
 by_cases h2 : l.length < 2
 ·have : decide (len l < 2) = true := by simp [len]; omega
  simp only [this, if_true]
  match l, h2 with
  | [], _ => rfl
  | [a], _ => rfl
 ·have : decide (len l < 2) = false := by simp [len]; omega
  simp only [this, zbf, if_false]
  have key : ∀ n k, k + n = l.length → 1 ≤ k → xV (l.take k) = l.take k → zW (zN1 z l) (k : Int) = some (xV l) := by
   intro n
   induction n with
   | zero =>
    intro k hn h1 hp
    rw [yA]
    unfold zN1
    have : decide ((k : Int) < len l) = false := by simp [len]; omega
    simp only [this, zbf, if_false]
    rw [List.take_of_length_le (by omega)] at hp
    rw [hp]
   | succ n ih =>
    intro k hn h1 hp
    have hx : l[k]? = some l[k] := List.getElem?_eq_getElem (by omega)
    have hy : l[k - 1]? = some l[k - 1] := List.getElem?_eq_getElem (by omega)
    have hlt : decide ((k : Int) < len l) = true := by simp [len]; omega
    have hw1 : zR ((k : Int) - 1) = ((k - 1 : Nat) : Int) := by rw [uD (by omega) (by omega)]; omega
    have hdt := zQG (l := l) (j := k - 1) (y := l[k - 1]) (x := l[k]) hy (by rw [show k - 1 + 1 = k by omega]; exact hx)
    rw [show k - 1 + 2 = k + 1 by omega, show k - 1 + 1 = k by omega, hp] at hdt
    rw [yA]
    unfold zN1
    simp only [hlt, if_true, uT, hx, hw1, hy, zob]
    rw [BEq.comm]
    cases hb : l[k - 1] == l[k] with
    | true =>
     have hc1 : (decide (0 ≤ (k : Int)) && decide ((k : Int) ≤ len l)) = true := by simp [len]; omega
     obtain ⟨c, q, hl, hcl, hq, htk⟩ := zPl l k h1 (by omega) hbig (by rw [hdt, hb, hp]; simp) hp
     have hc2 : (decide (0 ≤ ((q : Nat) : Int)) && decide (((q : Nat) : Int) ≤ len c)) = true := by simp [len]; omega
     simp only [if_true, hc1, yX, zob, hl, hc2]
     rw [zK9 (by omega) (by rw [zG4, hcl]; omega)]
     simp only [zob, Int.toNat_natCast, zBW, htk]
     have hdl : (xV l).length = q := by rw [← htk, List.length_take]; omega
     rw [← hdl, List.take_left]
    | false =>
     simp only [zbf, if_false]
     rw [vT k (by omega)]
     refine ih (k + 1) (by omega) (by omega) ?_
     rw [hdt, hb, List.take_add_one, hx]; rfl
  exact key (l.length - 1) 1 (by omega) (Nat.le_refl _) (by match l, h2 with | a :: r, _ => rfl)
end
section
variable {α : Type} {lt : α → α → Bool}
structure tM (lt : α → α → Bool) : Prop where
 irrefl : ∀ x, lt x x = false
 trans : ∀ x y z, lt x y = true → lt y z = true → lt x z = true
 tri : ∀ x y, lt x y = true ∨ x = y ∨ lt y x = true
abbrev vF (lt : α → α → Bool) (l : List α) : Prop := l.Pairwise fun x y => lt x y = true
theorem tM.asymm (O : tM lt) {x y : α} (h : lt x y = true) : lt y x = false := by
 cases hb : lt y x with
 | false => rfl
 | true => have := O.trans _ _ _ h hb; rw [O.irrefl] at this; cases this
theorem vF.ext (O : tM lt) : ∀ {l m : List α}, vF lt l → vF lt m → (∀ x, x ∈ l ↔ x ∈ m) → l = m
 | [], [], _, _, _ => rfl
 | [], y :: m, _, _, h => by have := (h y).2 (List.mem_cons_self); cases this
 | x :: l, [], _, _, h => by have := (h x).1 (List.mem_cons_self); cases this
 | x :: l, y :: m, hl, hm, h => by
  obtain ⟨h1, h2⟩ := List.pairwise_cons.1 hl
  obtain ⟨h3, h4⟩ := List.pairwise_cons.1 hm
  have hxy : x = y := by
   rcases List.mem_cons.1 ((h x).1 (List.mem_cons_self)) with h5 | h5
   ·exact h5
   ·rcases List.mem_cons.1 ((h y).2 (List.mem_cons_self)) with h6 | h6
    ·exact h6.symm
    ·have := O.asymm (h3 x h5); rw [h1 y h6] at this; cases this
  subst hxy
  congr 1
  refine vF.ext O h2 h4 fun z => ⟨fun hz => ?_, fun hz => ?_⟩
  ·rcases List.mem_cons.1 ((h z).1 (List.mem_cons_of_mem _ hz)) with rfl | h5
   ·have := h1 z hz; rw [O.irrefl] at this; cases this
   ·exact h5
  ·rcases List.mem_cons.1 ((h z).2 (List.mem_cons_of_mem _ hz)) with rfl | h5
   ·have := h3 z hz; rw [O.irrefl] at this; cases this
   ·exact h5
theorem zRp [BEq α] [LawfulBEq α] (O : tM lt) : ∀ {l : List α}, l.Pairwise (fun x y => lt y x = false) → vF lt (xV l) ∧ ∀ x, x ∈ xV l ↔ x ∈ l := by
 have key : ∀ (r : List α) (a : α), (a :: r).Pairwise (fun x y => lt y x = false) → vF lt (a :: dd a r) ∧ ∀ x, x ∈ a :: dd a r ↔ x ∈ a :: r := by
  intro r
  induction r with
  | nil => intro a _; simp [dd]
  | cons b r ih =>
   intro a h
   obtain ⟨h1, h2⟩ := List.pairwise_cons.1 h
   obtain ⟨i1, i2⟩ := ih b h2
   by_cases hab : a = b
   ·subst hab
    simp only [dd, beq_self_eq_true, if_true]
    refine ⟨i1, fun x => ?_⟩
    rw [i2]; simp
   ·have hb : (a == b) = false := beq_eq_false_iff_ne.2 hab
    simp only [dd, hb, zbf, if_false]
    have hlt : lt a b = true := by
     rcases O.tri a b with h | h | h
     ·exact h
     ·exact absurd h hab
     ·rw [h1 b (List.mem_cons_self)] at h; cases h
    refine ⟨List.pairwise_cons.2 ⟨fun y hy => ?_, i1⟩, fun x => ?_⟩
    ·rcases List.mem_cons.1 hy with rfl | hy
     ·exact hlt
     ·exact O.trans _ _ _ hlt ((List.pairwise_cons.1 i1).1 y hy)
    ·rw [List.mem_cons, i2]; simp
 intro l h
 cases l with
 | nil => simp [xV]
 | cons a r => exact key r a h
theorem zJU (O : tM lt) (l : List α) : (l.mergeSort fun x y => !lt y x).Pairwise (fun x y => lt y x = false) := by
 have h := List.pairwise_mergeSort (le := fun x y => !lt y x) (fun a b c h1 h2 => ?_) (fun a b => ?_) l
 ·exact h.imp fun h => by simpa using h
 ·simp only [Bool.not_eq_true'] at *
  cases h3 : lt c a with
  | false => rfl
  | true =>
   rcases O.tri a b with h | rfl | h
   ·have := O.trans _ _ _ h3 h; rw [this] at h2; cases h2
   ·rw [h3] at h2; cases h2
   ·rw [h] at h1; cases h1
 ·cases h : lt b a with
  | false => simp
  | true => simp [O.asymm h]
def xL [BEq α] (lt : α → α → Bool) (l : List α) : List α := xV (l.mergeSort fun x y => !lt y x)
theorem zKc [BEq α] [LawfulBEq α] (O : tM lt) (l : List α) : vF lt (xL lt l) ∧ ∀ x, x ∈ xL lt l ↔ x ∈ l := by
 obtain ⟨h1, h2⟩ := zRp O (zJU O l)
 exact ⟨h1, fun x => by rw [xL, h2, List.mem_mergeSort]⟩
theorem zQL [BEq α] [LawfulBEq α] (O : tM lt) {l m : List α} (h1 : vF lt m) (h2 : ∀ x, x ∈ m ↔ x ∈ l) : xL lt l = m := by
 obtain ⟨h3, h4⟩ := zKc O l
 exact vF.ext O h3 h1 fun x => by rw [h4, h2]
theorem zQ3 [BEq α] (lt : α → α → Bool) (l : List α) : (xL lt l).length ≤ l.length := by
 have := zWd (l.mergeSort fun x y => !lt y x)
 simpa [xL] using this
end
section
variable {α : Type} [BEq α]
noncomputable def zUZ (y0 : List α) (y1 : α) (s1 : Int) : Option (Int ⊕ Int) :=
 if decide (s1 < (len y0)) then
  (zH y0 s1).bind fun x1 =>
  if y1 == x1 then
   some (.inr s1)
  else
   some (.inl (zR (s1 + 1)))
 else
  some (.inr (-1))
noncomputable def zYS (y0 : List α) (y1 : α) : Option Int := zW (zUZ y0 y1) 0
theorem zPA (l : List α) (x : α) (hb : l.length < 9223372036854775807) : ∃ r, zYS l x = some r ∧ (0 ≤ r ↔ ∃ y ∈ l, x == y) := by
 have h := yJ (B := zUZ l x) (fun i (_ : Unit) => (i : Int)) l (fun i _ => ∀ j y, j < i → l[j]? = some y → (x == y) = false) (fun r => (0 ≤ r ↔ ∃ y ∈ l, x == y)) ?_ ?_ () (by simp)
 ·exact h
 ·intro i y s hy hI
  have hi := (List.getElem?_eq_some_iff.1 hy).1
  have hlt : decide ((i : Int) < len l) = true := by simp [len]; omega
  unfold zUZ
  simp only [hlt, if_true, uT, hy, zob]
  cases hxy : x == y with
  | true => exact .inr ⟨_, rfl, ⟨fun _ => ⟨y, List.mem_of_getElem? hy, hxy⟩, fun _ => by omega⟩⟩
  | false =>
   refine .inl ⟨(), by simp [vT i (by omega)], fun j z hj hz => ?_⟩
   rcases Nat.lt_succ_iff_lt_or_eq.1 hj with h | rfl
   ·exact hI j z h hz
   ·rw [hy] at hz; cases hz; exact hxy
 ·intro s hI
  unfold zUZ
  refine ⟨-1, by simp [len], ⟨fun h => by omega, fun ⟨y, hy, hxy⟩ => ?_⟩⟩
  obtain ⟨j, hj⟩ := List.mem_iff_getElem?.1 hy
  rw [hI j y (List.getElem?_eq_some_iff.1 hj).1 hj] at hxy
  cases hxy
noncomputable def zXU (y0 : List α) (y1 : List α) (s1 : Int) : Option (Int ⊕ Bool) :=
 if decide (s1 < (len y0)) then
  (zH y0 s1).bind fun x1 =>
  (zH y1 s1).bind fun x2 =>
  if !(x1 == x2) then
   some (.inr false)
  else
   some (.inl (zR (s1 + 1)))
 else
  some (.inr true)
noncomputable def sameM (y0 : List α) (y1 : List α) : Option Bool :=
 if (len y0) != (len y1) then
  some false
 else
  zW (zXU y0 y1) 0
theorem zVD [DecidableEq α] [LawfulBEq α] (l m : List α) (hb : l.length < 9223372036854775807) : sameM l m = some (decide (l = m)) := by
 unfold sameM
 by_cases hl : l.length = m.length
 ·have h0 : (len l != len m) = false := by simp [len, hl]
  simp only [h0, zbf, if_false]
  have h := yJ (B := zXU l m) (fun i (_ : Unit) => (i : Int)) l (fun i _ => ∀ j, j < i → l[j]? = m[j]?) (fun r => r = decide (l = m)) ?_ ?_ () (by simp)
  ·obtain ⟨r, h1, rfl⟩ := h; exact h1
  ·intro i x s hx hI
   have hi := (List.getElem?_eq_some_iff.1 hx).1
   have hy : m[i]? = some m[i] := List.getElem?_eq_getElem (by omega)
   have hlt : decide ((i : Int) < len l) = true := by simp [len]; omega
   unfold zXU
   simp only [hlt, if_true, uT, hx, hy, zob]
   by_cases he : x = m[i]
   ·refine .inl ⟨(), by simp [he, vT i (by omega)], fun j hj => ?_⟩
    rcases Nat.lt_succ_iff_lt_or_eq.1 hj with h | rfl
    ·exact hI j h
    ·rw [hx, hy, he]
   ·refine .inr ⟨false, by simp [he], ?_⟩
    symm
    rw [decide_eq_false_iff_not]
    intro h; subst h
    rw [hx] at hy; cases hy; exact he rfl
  ·intro s hI
   refine ⟨true, by unfold zXU; simp [len], ?_⟩
   symm
   rw [decide_eq_true_iff]
   apply List.ext_getElem?
   intro j
   by_cases hj : j < l.length
   ·exact hI j hj
   ·rw [List.getElem?_eq_none (by omega), List.getElem?_eq_none (by omega)]
 ·have h0 : (len l != len m) = true := by simp [len]; omega
  simp only [h0, if_true]
  congr 1; symm
  rw [decide_eq_false_iff_not]
  intro h; subst h; exact hl rfl
end
end
section
structure Le {α : Type} (a b : Option α) : Prop where
 el : ∀ r, a = some r → b = some r
theorem Le.refl {α : Type} (a : Option α) : Le a a := ⟨fun _ h => h⟩
theorem Le.bind {α β : Type} {a b : Option α} {f g : α → Option β} (h : Le a b) (k : ∀ x, Le (f x) (g x)) : Le (a.bind f) (b.bind g) := ⟨fun r hr => by
 cases a with
 | none => cases hr
 | some x => rw [h.el x rfl]; exact (k x).el r hr⟩
theorem Le.ite {α : Type} {c : Prop} [Decidable c] {a b a' b' : Option α} (h : Le a b) (k : Le a' b') : Le (if c then a else a') (if c then b else b') := by
 split
 ·exact h
 ·exact k
theorem Le.seqE {σ α : Type} {a b : Option (σ ⊕ α)} {f g : σ → Option α} (h : Le a b) (k : ∀ x, Le (f x) (g x)) : Le (wW a f) (wW b g) :=
 Le.bind h fun o => by
  cases o with
  | inl s => exact k s
  | inr r => exact Le.refl _
theorem Le.none {α : Type} (b : Option α) : Le none b := ⟨fun _ h => nomatch h⟩
abbrev lp {σ ρ : Type} (n : Nat) (B : σ → Option (σ ⊕ ρ)) (s : σ) : Option ρ := xY B n s
theorem Le.lp {σ ρ : Type} {B C : σ → Option (σ ⊕ ρ)} (h : ∀ s, Le (B s) (C s)) (n : Nat) (s : σ) : Le (lp n B s) (zW C s) := by
 refine ⟨fun r hr => ?_⟩
 refine zIH (n := n) ?_
 revert s
 induction n with
 | zero => intro s hr; cases hr
 | succ n ih =>
  intro s hr
  simp only [xY] at hr ⊢
  cases hb : B s with
  | none => rw [hb] at hr; cases hr
  | some o =>
   rw [hb] at hr
   rw [(h s).el o hb]
   cases o with
   | inl s' => exact ih s' hr
   | inr r' => exact hr
def ins {α : Type} (lt : α → α → Bool) (x : α) : List α → List α
 | [] => [x]
 | y :: r => if lt y x then y :: ins lt x r else x :: y :: r
def zQo {α : Type} (lt : α → α → Bool) : List α → List α
 | [] => []
 | x :: r => ins lt x (zQo lt r)
end
section
def Tw {α : Type} (m : Option α) : Type := { r : Option α // Le r m }
def Tw.id {α : Type} (m : Option α) : Tw m := ⟨m, Le.refl m⟩
def Tw.bind {α β : Type} {a : Option α} {f : α → Option β} (h : Tw a) (k : ∀ x, Tw (f x)) : Tw (a.bind f) := ⟨h.1.bind fun x => (k x).1, Le.bind h.2 fun x => (k x).2⟩
def Tw.ite {α : Type} {c : Prop} [Decidable c] {a b : Option α} (h : Tw a) (k : Tw b) : Tw (if c then a else b) := ⟨if c then h.1 else k.1, Le.ite h.2 k.2⟩
def Tw.seqE {σ α : Type} {a : Option (σ ⊕ α)} {f : σ → Option α} (h : Tw a) (k : ∀ x, Tw (f x)) : Tw (wW a f) := ⟨Go.GD.wW h.1 fun x => (k x).1, Le.seqE h.2 fun x => (k x).2⟩
def Tw.lp {σ ρ : Type} {C : σ → Option (σ ⊕ ρ)} (n : Nat) (h : ∀ s, Tw (C s)) (s : σ) : Tw (zW C s) := ⟨Go.GD.lp n (fun s => (h s).1) s, Le.lp (fun s => (h s).2) n s⟩
theorem Tw.el {α : Type} {m : Option α} (w : Tw m) {r : α} (h : w.1 = some r) : m = some r := w.2.el r h
end
section
abbrev yD (x y : Int) : Bool := decide (x < y)
abbrev tK (x y : Int) : Int := if x < y then -1 else if y < x then 1 else 0
def orF : List Int → Int
 | [] => 0
 | x :: r => if x != 0 then x else orF r
abbrev zRD {α β : Type} [BEq α] (lt1 : α → α → Bool) (xX : β → β → Bool) (x y : α × β) : Bool := lt1 x.1 y.1 || (x.1 == y.1 && xX x.2 y.2)
theorem uW : tM yD := ⟨fun x => by simp, fun x y z h1 h2 => by simp at *; omega, fun x y => by simp; omega⟩
theorem zQ5 {α β : Type} [BEq α] [LawfulBEq α] {lt1 : α → α → Bool} {xX : β → β → Bool} (O1 : tM lt1) (O2 : tM xX) : tM (zRD lt1 xX) := by
 refine ⟨fun x => by simp [O1.irrefl, O2.irrefl], fun x y z h1 h2 => ?_, fun x y => ?_⟩
 ·simp only [zRD, Bool.or_eq_true, Bool.and_eq_true, beq_iff_eq] at *
  rcases h1 with h1 | ⟨h1, h1'⟩ <;> rcases h2 with h2 | ⟨h2, h2'⟩
  ·exact .inl (O1.trans _ _ _ h1 h2)
  ·exact .inl (h2 ▸ h1)
  ·exact .inl (h1 ▸ h2)
  ·exact .inr ⟨h1.trans h2, O2.trans _ _ _ h1' h2'⟩
 ·obtain ⟨a, b⟩ := x; obtain ⟨c, d⟩ := y
  simp only [zRD, Bool.or_eq_true, Bool.and_eq_true, beq_iff_eq, Prod.mk.injEq]
  rcases O1.tri a c with h | rfl | h
  ·exact .inl (.inl h)
  ·rcases O2.tri b d with h | rfl | h
   ·exact .inl (.inr ⟨rfl, h⟩)
   ·exact .inr (.inl ⟨rfl, rfl⟩)
   ·exact .inr (.inr (.inr ⟨rfl, h⟩))
  ·exact .inr (.inr (.inl h))
theorem OrdF.of {α : Type} {f : α → α → Option Int} {lt : α → α → Bool} (O : tM lt) (ht : ∀ x y, ∃ n, f x y = some n) (h : ∀ x y, yE f x y = lt x y) : OrdF f := by
 refine ⟨ht, fun x => by rw [h, O.irrefl], fun x y z h1 h2 => ?_, fun x y z h1 h2 => ?_, fun x y h1 h2 => ?_⟩
 ·rw [h] at *; exact O.trans _ _ _ h1 h2
 ·rw [h] at *
  cases h3 : lt x z with
  | false => rfl
  | true =>
   rcases O.tri x y with h4 | rfl | h4
   ·rw [h4] at h1; cases h1
   ·rw [h3] at h2; cases h2
   ·have := O.trans _ _ _ h4 h3; rw [this] at h2; cases h2
 ·rw [h] at *
  rcases O.tri x y with h4 | h4 | h4
  ·rw [h4] at h1; cases h1
  ·exact h4
  ·rw [h4] at h2; cases h2
theorem zTj {α : Type} {f : α → α → Option Int} {lt : α → α → Bool} (O : tM lt) (ht : ∀ x y, ∃ n, f x y = some n) (h : ∀ x y, yE f x y = lt x y) {l : List α} (hl : l.length < 4294967296) :
  zS5 f l = some (l.mergeSort fun x y => !lt y x) := by
 unfold zS5
 rw [if_pos ⟨OrdF.of O ht h, hl⟩]
 have : (fun x y => !yE f y x) = fun x y => !lt y x := by funext x y; rw [h]
 rw [this]
noncomputable def orL (y0 : List Int) (s1 : Int) : Option (Int ⊕ Int) :=
 if decide (s1 < (len y0)) then
  (zH y0 s1).bind fun x1 =>
  if x1 != 0 then
   some (.inr x1)
  else
   some (.inl (zR (s1 + 1)))
 else
  some (.inr 0)
theorem zYE (l : List Int) (hb : l.length < 9223372036854775807) : zW (orL l) 0 = some (orF l) := by
 have h := zLk (B := orL l) (fun i (_ : Unit) => (i : Int)) l (fun _ _ x => if x != 0 then some (.inr x) else some (.inl ())) (fun _ => some 0) (fun i x s hx => ?_) (fun s => by simp [orL, len]) ()
 ·have key : ∀ (l : List Int) (i : Nat), zQ8 (fun _ (_ : Unit) (x : Int) => if x != 0 then some (Sum.inr x) else some (.inl ())) (fun _ => some 0) i l () = some (orF l) := by
   intro l
   induction l with
   | nil => intro i; rfl
   | cons x l ih =>
    intro i
    by_cases hx : x = 0
    ·subst hx; exact ih (i + 1)
    ·simp [zQ8, orF, hx]
  rw [key] at h
  exact h
 ·have hi := (List.getElem?_eq_some_iff.1 hx).1
  unfold orL
  have hlt : decide ((i : Int) < len l) = true := by simp [len]; omega
  simp only [hlt, if_true, uT, hx, zob]
  by_cases h0 : x = 0
  ·subst h0; simp [vT i (by omega)]
  ·simp [h0]
section
variable {α : Type} {lt : α → α → Bool}
theorem zQz (x : α) : ∀ l : List α, (ins lt x l).Perm (x :: l)
 | [] => List.Perm.refl _
 | y :: r => by
  unfold ins
  split
  ·exact ((zQz x r).cons y).trans (List.Perm.swap x y r)
  ·exact List.Perm.refl _
theorem zIr : ∀ l : List α, (zQo lt l).Perm l
 | [] => List.Perm.refl _
 | x :: r => (zQz x _).trans ((zIr r).cons x)
theorem zQW (O : tM lt) (x : α) : ∀ l : List α, l.Pairwise (fun x y => lt y x = false) → (ins lt x l).Pairwise (fun x y => lt y x = false)
 | [], _ => by simp [ins]
 | y :: r, h => by
  obtain ⟨h1, h2⟩ := List.pairwise_cons.1 h
  unfold ins
  split
  ·rename_i hlt
   refine List.pairwise_cons.2 ⟨fun z hz => ?_, zQW O x r h2⟩
   rcases List.mem_cons.1 ((zQz x r).mem_iff.1 hz) with rfl | hz
   ·exact O.asymm hlt
   ·exact h1 z hz
  ·rename_i hlt
   have hyx : lt y x = false := by simpa using hlt
   refine List.pairwise_cons.2 ⟨fun z hz => ?_, h⟩
   rcases List.mem_cons.1 hz with rfl | hz
   ·exact hyx
   ·cases hzx : lt z x with
    | false => rfl
    | true =>
     have hzy := h1 z hz
     rcases O.tri x y with h3 | rfl | h3
     ·rw [O.trans _ _ _ hzx h3] at hzy; cases hzy
     ·rw [hzx] at hzy; cases hzy
     ·rw [h3] at hyx; cases hyx
theorem zIP (O : tM lt) : ∀ l : List α, (zQo lt l).Pairwise (fun x y => lt y x = false)
 | [] => List.Pairwise.nil
 | x :: r => zQW O x _ (zIP O r)
theorem zSv (O : tM lt) (l : List α) : (l.mergeSort fun x y => !lt y x) = zQo lt l := by
 refine List.Perm.eq_of_pairwise (le := fun x y => lt y x = false) (fun a b _ _ h1 h2 => ?_) (zJU O l) (zIP O l) ((List.mergeSort_perm _ _).trans (zIr l).symm)
 rcases O.tri a b with h | h | h
 ·rw [h] at h2; cases h2
 ·exact h
 ·rw [h] at h1; cases h1
end
theorem zSh {l : List Int} (h : l.length < 4294967296) : zX8 l = some (zQo yD l) := by
 unfold zX8
 rw [if_pos h, ← zSv uW]
 have : (fun x y : Int => decide (x ≤ y)) = fun x y => !yD y x := by
  funext x y
  rw [Bool.eq_iff_iff]; simp
 rw [this]
end
section
section
variable {α : Type} {l : List α} {i : Nat} {x : α}
theorem vC (h : l[i]? = some x) : i < l.length := (List.getElem?_eq_some_iff.1 h).1
theorem wU (h : l[i]? = some x) : decide ((i : Int) < len l) = true := by have := vC h; simp [len]; omega
theorem yC (l : List α) : decide (((l.length : Nat) : Int) < len l) = false := by simp [len]
theorem wP (h : l[i]? = some x) : zH l (i : Int) = some x := by rw [uT]; exact h
theorem wT (h : l[i]? = some x) (hl : l.length < 4294967296) : zR ((i : Int) + 1) = ((i + 1 : Nat) : Int) := vT i (by have := vC h; omega)
theorem zMM {j : Int} (h : zH l j = some x) : ∃ n : Nat, j = (n : Int) ∧ l[n]? = some x := by
 unfold zH at h
 split at h
 ·rename_i h0; exact ⟨j.toNat, by omega, h⟩
 ·cases h
theorem tH {j : Int} (h0 : 0 ≤ j) (h1 : j < l.length) : ∃ x, zH l j = some x := by obtain ⟨x, h, _⟩ := zO7 h0 h1; exact ⟨x, h⟩
theorem uE (h : l[i]? = some x) : l.take (i + 1) = l.take i ++ [x] := by rw [List.take_add_one, h]; rfl
theorem vV (h : l[i]? = some x) : x ∈ l := List.mem_of_getElem? h
end
section
variable {α σ ρ : Type}
theorem zBK {B : σ × Int → Option ((σ × Int) ⊕ ρ)} (l : List α) (f : σ → α → σ) (fin : σ → ρ) (I : Nat → σ → Prop) (s : σ) (h0 : I 0 s)
  (hB : ∀ (i : Nat) x s, l[i]? = some x → I i s → B (s, (i : Int)) = some (.inl (f s x, ((i + 1 : Nat) : Int))) ∧ I (i + 1) (f s x))
  (he : ∀ s, I l.length s → B (s, (l.length : Int)) = some (.inr (fin s))) : zW B (s, 0) = some (fin (l.foldl f s)) ∧ I l.length (l.foldl f s) := by
 have key : ∀ (n i : Nat) (s : σ), i + n = l.length → I i s → zW B (s, (i : Int)) = some (fin ((l.drop i).foldl f s)) ∧ I l.length ((l.drop i).foldl f s) := by
  intro n
  induction n with
  | zero =>
   intro i s h hI
   rw [Nat.add_zero] at h
   subst h
   rw [yA, he s hI, List.drop_length]
   exact ⟨rfl, hI⟩
  | succ n ih =>
   intro i s h hI
   have hx : l[i]? = some l[i] := List.getElem?_eq_getElem (by omega)
   obtain ⟨h1, h2⟩ := hB i _ s hx hI
   rw [yA, h1, List.drop_eq_getElem_cons (by omega)]
   exact ih (i + 1) _ (by omega) h2
 have := key l.length 0 s (by omega) h0
 simpa using this
theorem zPz {B : σ × Int → Option ((σ × Int) ⊕ ρ)} (l : List α) (f : σ → α → σ) (fin : σ → ρ) (k : Nat) (hk : k ≤ l.length) (s : σ)
  (hB : ∀ (i : Nat) x s, l[i]? = some x → B (s, (i : Int)) = some (.inl (f s x, ((i + 1 : Nat) : Int))))
  (he : ∀ s, B (s, (l.length : Int)) = some (.inr (fin s))) : zW B (s, (k : Int)) = some (fin ((l.drop k).foldl f s)) := by
 have key : ∀ (n i : Nat) (s : σ), i + n = l.length → zW B (s, (i : Int)) = some (fin ((l.drop i).foldl f s)) := by
  intro n
  induction n with
  | zero =>
   intro i s h
   rw [Nat.add_zero] at h
   subst h
   rw [yA, he s, List.drop_length]
   rfl
  | succ n ih =>
   intro i s h
   have hx : l[i]? = some l[i] := List.getElem?_eq_getElem (by omega)
   rw [yA, hB i _ s hx, List.drop_eq_getElem_cons (by omega)]
   exact ih (i + 1) _ (by omega)
 exact key (l.length - k) k s (by omega)
theorem zQT {B : Int × σ → Option ((Int × σ) ⊕ ρ)} (l : List α) (f : σ → α → σ) (fin : σ → ρ) (I : Nat → σ → Prop) (s : σ) (h0 : I 0 s)
  (hB : ∀ (i : Nat) x s, l[i]? = some x → I i s → B ((i : Int), s) = some (.inl (((i + 1 : Nat) : Int), f s x)) ∧ I (i + 1) (f s x))
  (he : ∀ s, I l.length s → B ((l.length : Int), s) = some (.inr (fin s))) : zW B (0, s) = some (fin (l.foldl f s)) ∧ I l.length (l.foldl f s) := by
 have key : ∀ (n i : Nat) (s : σ), i + n = l.length → I i s → zW B ((i : Int), s) = some (fin ((l.drop i).foldl f s)) ∧ I l.length ((l.drop i).foldl f s) := by
  intro n
  induction n with
  | zero =>
   intro i s h hI
   rw [Nat.add_zero] at h
   subst h
   rw [yA, he s hI, List.drop_length]
   exact ⟨rfl, hI⟩
  | succ n ih =>
   intro i s h hI
   have hx : l[i]? = some l[i] := List.getElem?_eq_getElem (by omega)
   obtain ⟨h1, h2⟩ := hB i _ s hx hI
   rw [yA, h1, List.drop_eq_getElem_cons (by omega)]
   exact ih (i + 1) _ (by omega) h2
 have := key l.length 0 s (by omega) h0
 simpa using this
theorem zLL {B : Int → Option (Int ⊕ ρ)} (l : List α) (p : α → Bool) (yes no : ρ)
  (hB : ∀ (i : Nat) x, l[i]? = some x → B (i : Int) = some (if p x then .inr yes else .inl ((i + 1 : Nat) : Int))) (he : B (l.length : Int) = some (.inr no)) :
  zW B 0 = some (if l.any p then yes else no) := by
 have key : ∀ (n i : Nat), i + n = l.length → zW B (i : Int) = some (if (l.drop i).any p then yes else no) := by
  intro n
  induction n with
  | zero =>
   intro i h
   rw [Nat.add_zero] at h
   subst h
   rw [yA, he, List.drop_length]
   rfl
  | succ n ih =>
   intro i h
   have hx : l[i]? = some l[i] := List.getElem?_eq_getElem (by omega)
   rw [yA, hB i _ hx, List.drop_eq_getElem_cons (by omega)]
   cases hp : p l[i] with
   | true => simp only [if_true, List.any_cons, hp, Bool.true_or]
   | false =>
    simp only [zbf, if_false, List.any_cons, hp, Bool.false_or]
    exact ih (i + 1) (by omega)
 have := key l.length 0 (by omega)
 simpa using this
theorem zK2 {B : Int → Option (Int ⊕ Bool)} (l : List α) (p : α → Bool) (hB : ∀ (i : Nat) x, l[i]? = some x → B (i : Int) = some (if p x then .inr true else .inl ((i + 1 : Nat) : Int))) (he : B (l.length : Int) = some (.inr false)) :
  zW B 0 = some (l.any p) := by
 rw [zLL l p true false hB he]
 cases l.any p <;> rfl
end
theorem zBr {α β : Type} (p : α → Bool) (g : α → β) : ∀ (l : List α) (acc : List β), l.foldl (fun s x => if p x then s ++ [g x] else s) acc = acc ++ (l.filter p).map g
 | [], acc => by simp
 | x :: l, acc => by
  simp only [List.foldl_cons, zBr p g l]
  cases hp : p x <;> simp [hp]
theorem zH1 {α β : Type} (g : α → β) : ∀ (l : List α) (acc : List β), l.foldl (fun s x => s ++ [g x]) acc = acc ++ l.map g
 | [], acc => by simp
 | x :: l, acc => by simp only [List.foldl_cons, zH1 g l]; simp
theorem zGP {α β : Type} (g : α → List β) : ∀ (l : List α) (acc : List β), l.foldl (fun s x => s ++ g x) acc = acc ++ l.flatMap g
 | [], acc => by simp
 | x :: l, acc => by simp only [List.foldl_cons, zGP g l]; simp
theorem zVQ {l r : List Int} (h : r.Perm l) (hs : r.Pairwise (fun x y => yD y x = false)) : xV r = xL yD l := by
 obtain ⟨h1, h2⟩ := zRp uW hs
 exact (zQL uW h1 (fun x => by rw [h2]; exact h.mem_iff)).symm
end
section
def wG (n : Nat) : List Int := (List.range n).map Int.ofNat
theorem yO (n : Nat) : (wG n).length = n := by simp [wG]
theorem zHG {n i : Nat} {x : Int} (h : (wG n)[i]? = some x) : x = (i : Int) ∧ i < n := by
 have h1 := vC h
 rw [yO] at h1
 simp only [wG, List.getElem?_map, List.getElem?_range h1, Option.map_some, Option.some.injEq] at h
 exact ⟨h.symm, h1⟩
theorem uA {n : Nat} {x : Int} : x ∈ wG n ↔ 0 ≤ x ∧ x < n := by
 simp only [wG, List.mem_map, List.mem_range]
 exact ⟨fun ⟨a, h1, h2⟩ => by subst h2; simp; omega, fun h => ⟨x.toNat, by omega, by simp; omega⟩⟩
theorem zGt (n : Nat) : vF yD (wG n) := by
 rw [wG, vF, List.pairwise_map]
 exact List.pairwise_lt_range.imp fun {a b} h => by simp; omega
theorem zGV {α β ρ : Type} {B : List β × Int → Option ((List β × Int) ⊕ ρ)} (l : List α) (g : α → List β) (fin : List β → ρ) (c : Nat) (hg : ∀ x ∈ l, (g x).length ≤ c) (acc : List β)
  (hB : ∀ (i : Nat) x s, l[i]? = some x → s.length ≤ acc.length + c * i → B (s, (i : Int)) = some (.inl (s ++ g x, ((i + 1 : Nat) : Int))))
  (he : ∀ s, B (s, (l.length : Int)) = some (.inr (fin s))) : zW B (acc, 0) = some (fin (acc ++ l.flatMap g)) := by
 have h := zBK (B := B) l (fun s x => s ++ g x) fin (fun i s => s.length ≤ acc.length + c * i) acc (by simp) (fun i x s hx hI => ⟨hB i x s hx hI, by
  have := hg x (vV hx)
  rw [List.length_append, Nat.mul_add]; omega⟩) (fun s _ => he s)
 rw [zGP] at h
 exact h.1
theorem zIt {α β : Type} (g : α → List β) (c : Nat) : ∀ (l : List α), (∀ x ∈ l, (g x).length ≤ c) → (l.flatMap g).length ≤ l.length * c
 | [], _ => by simp
 | x :: l, h => by
  have h1 := zIt g c l fun y hy => h y (List.mem_cons_of_mem _ hy)
  have h2 := h x List.mem_cons_self
  simp only [List.flatMap_cons, List.length_append, List.length_cons, Nat.add_mul, Nat.one_mul]
  omega
theorem zOk {α β : Type} (p : α → Bool) (g : α → List β) (l : List α) : (l.filter p).flatMap g = l.flatMap fun x => if p x then g x else [] := by
 induction l with
 | nil => rfl
 | cons x l ih =>
  rw [List.filter_cons, List.flatMap_cons]
  cases hp : p x with
  | true => simp [ih]
  | false => simp [ih]
section
variable {α : Type}
noncomputable def zMc (p : α → Option Bool) (y0 : List α) (s1 : Int) : Option (Int ⊕ Int) :=
 if decide (s1 < (len y0)) then
  (zH y0 s1).bind fun x1 =>
  (p x1).bind fun r1 =>
  if r1 then
   some (.inr s1)
  else
   some (.inl (zR (s1 + 1)))
 else
  some (.inr (-1))
theorem zNu (p : α → Option Bool) (q : α → Bool) (l : List α) (hb : l.length < 4294967296) (hp : ∀ x ∈ l, p x = some (q x)) :
  (l.any q = false ∧ zW (zMc p l) 0 = some (-1)) ∨ ∃ (k : Nat) (x : α), zW (zMc p l) 0 = some (k : Int) ∧ l[k]? = some x ∧ q x = true ∧ ∀ j y, j < k → l[j]? = some y → q y = false := by
 have h := yJ (B := zMc p l) (fun i (_ : Unit) => (i : Int)) l (fun i _ => ∀ j y, j < i → l[j]? = some y → q y = false)
  (fun r => (l.any q = false ∧ r = -1) ∨ ∃ (k : Nat) (x : α), r = (k : Int) ∧ l[k]? = some x ∧ q x = true ∧ ∀ j y, j < k → l[j]? = some y → q y = false) ?_ ?_ () (by omega)
 ·obtain ⟨r, h1, ⟨h2, rfl⟩ | ⟨k, x, rfl, h2⟩⟩ := h
  ·exact .inl ⟨h2, h1⟩
  ·exact .inr ⟨k, x, h1, h2⟩
 ·intro i x s hx hI
  unfold zMc
  simp only [wU hx, if_true, wP hx, zob, hp x (vV hx)]
  cases hq : q x with
  | true => exact .inr ⟨_, by simp only [if_true], .inr ⟨i, x, rfl, hx, hq, hI⟩⟩
  | false =>
   refine .inl ⟨(), by simp only [zbf, if_false, wT hx hb], fun j y hj hy => ?_⟩
   rcases Nat.lt_succ_iff_lt_or_eq.1 hj with h | rfl
   ·exact hI j y h hy
   ·rw [hx] at hy; cases hy; exact hq
 ·intro s hI
  unfold zMc
  refine ⟨-1, by simp only [yC, zbf, if_false], .inl ⟨?_, rfl⟩⟩
  rw [List.any_eq_false]
  intro x hx
  obtain ⟨j, hj⟩ := List.mem_iff_getElem?.1 hx
  simp [hI j x (vC hj) hj]
theorem zVj (p : α → Option Bool) (q : α → Bool) (l : List α) (hb : l.length < 4294967296) (hp : ∀ x ∈ l, p x = some (q x)) : ((zW (zMc p l) 0).bind fun r1 => some (decide (0 ≤ r1))) = some (l.any q) := by
 rcases zNu p q l hb hp with ⟨h1, h2⟩ | ⟨k, x, h1, h2, h3, _⟩
 ·rw [h2, h1]; rfl
 ·rw [h1, List.any_eq_true.2 ⟨x, vV h2, h3⟩]; simp
noncomputable def zO1 (p : α → Option Bool) (y0 : List α) (s2 : (List α) × Int × Int) : Option (((List α) × Int × Int) ⊕ ((List α) × Int)) :=
 if decide (s2.2.2 < (len y0)) then
  (zH s2.1 s2.2.2).bind fun x1 =>
  (p x1).bind fun r2 =>
  if !r2 then
   (zH s2.1 s2.2.1).bind fun _ =>
   some (.inl (List.set s2.1 (Int.toNat s2.2.1) x1, zR (s2.2.1 + 1), zR (s2.2.2 + 1)))
  else
   some (.inl (s2.1, s2.2.1, zR (s2.2.2 + 1)))
 else
  some (.inr (s2.1, s2.2.1))
noncomputable def zQX (p : α → Option Bool) (z : α) (y0 : List α) : Option (List α) :=
 (zW (zMc p y0) 0).bind fun r1 =>
 if r1 == (-1) then
  some y0
 else
  (zW (zO1 p y0) (y0, r1, zR (r1 + 1)) : Option ((List α) × Int)).bind fun s1 =>
  (yX (decide (0 ≤ s1.2) && decide (s1.2 ≤ len s1.1))).bind fun _ =>
  (sub (zBW s1.1 s1.2 z) 0 s1.2).bind fun x3 =>
  some x3
theorem zMu (p : α → Option Bool) (q : α → Bool) (z : α) (l : List α) (hb : l.length < 4294967296) (hp : ∀ x ∈ l, p x = some (q x)) : zQX p z l = some (l.filter fun x => !q x) := by
 unfold zQX
 rcases zNu p q l hb hp with ⟨h1, h2⟩ | ⟨k, x, h1, h2, h3, h4⟩
 ·rw [h2]
  simp only [zob, beq_self_eq_true, if_true]
  congr 1
  symm
  rw [List.filter_eq_self]
  intro y hy
  have := List.any_eq_false.1 h1 y hy
  simpa using this
 ·rw [h1]
  have hne : ((k : Int) == -1) = false := beq_eq_false_iff_ne.2 (by omega)
  have hkl := vC h2
  simp only [zob, hne, zbf, if_false, vT k (by omega)]
  have key : ∀ n i j (c : List α), i + n = l.length → j < i → c.length = l.length → (∀ u, i ≤ u → c[u]? = l[u]?) → c.take j = (l.take i).filter (fun x => !q x) →
    ∃ c' j', zW (zO1 p l) (c, (j : Int), (i : Int)) = some (c', ((j' : Nat) : Int)) ∧ c'.length = l.length ∧ j' ≤ l.length ∧ c'.take j' = l.filter fun x => !q x := by
   intro n
   induction n with
   | zero =>
    intro i j c hn hj hc hs ht
    rw [Nat.add_zero] at hn
    subst hn
    rw [List.take_length] at ht
    refine ⟨c, j, ?_, hc, by omega, ht⟩
    rw [yA]
    unfold zO1
    simp only [yC, zbf, if_false]
   | succ n ih =>
    intro i j c hn hj hc hs ht
    have hx : l[i]? = some l[i] := List.getElem?_eq_getElem (by omega)
    have hcx : zH c (i : Int) = some l[i] := by rw [uT, hs i (Nat.le_refl _)]; exact hx
    rw [yA]
    unfold zO1
    simp only [wU hx, if_true, hcx, zob, hp _ (vV hx)]
    cases hq : q l[i] with
    | true =>
     simp only [Bool.not_true, zbf, if_false, wT hx hb]
     refine ih (i + 1) j c (by omega) (by omega) hc (fun u hu => hs u (by omega)) ?_
     rw [uE hx, List.filter_append, ht]
     simp [hq]
    | false =>
     have hcj : zH c (j : Int) = some c[j] := by rw [uT]; exact List.getElem?_eq_getElem (by omega)
     simp only [Bool.not_false, if_true, hcj, zob, wT hx hb, Int.toNat_natCast]
     rw [vT j (by omega)]
     refine ih (i + 1) (j + 1) (c.set j l[i]) (by omega) (by omega) (by simp [hc]) (fun u hu => ?_) ?_
     ·rw [List.getElem?_set_ne (by omega)]; exact hs u (by omega)
     ·rw [uE hx, List.filter_append, ← ht, List.take_add_one, List.getElem?_set_self (by omega), List.take_set_of_le (Nat.le_refl _)]
      simp [hq]
  obtain ⟨c, j, e1, e2, e3, e4⟩ := key (l.length - (k + 1)) (k + 1) k l (by omega) (by omega) rfl (fun u _ => rfl) (by
   rw [uE h2, List.filter_append]
   have : (l.take k).filter (fun x => !q x) = l.take k := by
    rw [List.filter_eq_self]
    intro y hy
    obtain ⟨u, hu⟩ := List.mem_iff_getElem?.1 hy
    rw [List.getElem?_take] at hu
    split at hu
    ·rename_i huk; simp [h4 u y huk hu]
    ·cases hu
   simp [this, h3])
  rw [e1]
  have hc1 : (decide (0 ≤ ((j : Nat) : Int)) && decide (((j : Nat) : Int) ≤ len c)) = true := by simp [len]; omega
  simp only [zob, hc1, yX, if_true]
  rw [zK9 (by omega) (by rw [zG4, e2]; omega)]
  simp only [zob, Int.toNat_natCast, zBW, e4]
  have hdl : (l.filter fun x => !q x).length = j := by rw [← e4, List.length_take]; omega
  rw [← hdl, List.take_left]
end
end
section
theorem zK0 (x y : Int) : zAR x y = some (tK x y) := by
 unfold zAR tK
 by_cases h1 : x < y
 ·simp [zFn, h1]
 ·by_cases h2 : y < x <;> simp [zFn, h1, h2]
theorem zXJ (l : List Int) (hb : l.length < 9223372036854775807) : zFi l = some (orF l) := zYE l hb
abbrev xX : wI → wI → Bool := zRD yD yD
abbrev lt4 : wB → wB → Bool := zRD yD (zRD yD (zRD yD yD))
theorem zZ2 : tM xX := zQ5 uW uW
theorem ord4 : tM lt4 := zQ5 uW (zQ5 uW (zQ5 uW uW))
theorem zWW (x y : wI) : zCm x y = some (orF [tK x.1 y.1, tK x.2 y.2]) := by
 unfold zCm
 rw [zK0, zK0]
 simp only [zob]
 rw [zXJ _ (by simp)]
 rfl
theorem zRf (x y : wB) : zBe x y = some (orF [tK x.1 y.1, tK x.2.1 y.2.1, tK x.2.2.1 y.2.2.1, tK x.2.2.2 y.2.2.2]) := by
 unfold zBe
 rw [zK0, zK0, zK0, zK0]
 simp only [zob]
 rw [zXJ _ (by simp)]
 rfl
theorem zNy {x y : Int} {r : List Int} {b : Bool} (h : decide (orF r < 0) = b) : decide (orF (tK x y :: r) < 0) = (yD x y || (x == y && b)) := by
 unfold orF tK
 by_cases h1 : x < y
 ·simp [h1]
 ·by_cases h2 : y < x
  ·have h3 : (x == y) = false := by simp; omega
   simp [h1, h2, h3]
  ·have h3 : x = y := by omega
   subst h3
   simp [h]
theorem zU3 (x y : wI) : yE zCm x y = xX x y := by
 simp only [yE, zWW, Option.getD_some]
 exact zNy (by rw [zNy (r := []) (b := false) (by simp [orF])]; simp)
theorem zRY (x y : wB) : yE zBe x y = lt4 x y := by
 simp only [yE, zRf, Option.getD_some]
 exact zNy (zNy (zNy (by rw [zNy (r := []) (b := false) (by simp [orF])]; simp)))
theorem zUs {l : List wI} (hl : l.length < 4294967296) : zAo l = some (l.mergeSort fun x y => !xX y x) :=
 zTj zZ2 (fun x y => ⟨_, zWW x y⟩) zU3 hl
theorem zQa {l : List wI} (hl : l.length < 9223372036854775807) : zFm l = some (xV l) := zKd (0, 0) l hl
theorem zSQ {l : List wB} (hl : l.length < 4294967296) : zA8 l = some (l.mergeSort fun x y => !lt4 y x) :=
 zTj ord4 (fun x y => ⟨_, zRf x y⟩) zRY hl
def xN (n : Int) (a : wB) : Bool := decide (a.1 < 0) || decide (n ≤ a.1) || decide (a.2.1 < 0) || decide (n ≤ a.2.1)
def zFq (l : List wB) : List wI := l.map fun a => (a.1, a.2.1)
def zMl (n : Int) (l : List wB) : wO × Int :=
 if decide (n < 0) || decide (40 < n) then ((0, []), 1) else if l.any (xN n) then ((0, []), 1) else ((n, xL xX (zFq l)), 0)
theorem zVJ (n : Int) (x : wB) : (decide ((if x.2.1 < x.1 then x.2.1 else x.1) < 0) || decide (n ≤ (if x.2.1 > x.1 then x.2.1 else x.1))) = xN n x := by
 rw [Bool.eq_iff_iff]
 simp only [xN, Bool.or_eq_true, decide_eq_true_eq]
 split <;> split <;> omega
theorem zIe {α : Type} {l : List α} {i : Nat} {x : α} (p : α → Bool) (hx : l[i]? = some x) : (l.take (i + 1)).any p = ((l.take i).any p || p x) := by
 rw [List.take_add_one, hx]; simp
theorem zTI (n : Int) (l : List wB) (hl : l.length < 4294967000) :
  zW (zDh l n) (0, []) = some (if l.any (xN n) then .inr ((0, []), 1) else .inl (zFq l)) := by
 have h := yJ (B := zDh l n) (fun i (s : List wI) => ((i : Int), s)) l (fun i s => s = zFq (l.take i) ∧ (l.take i).any (xN n) = false)
  (fun r => r = if l.any (xN n) then .inr ((0, []), 1) else .inl (zFq l)) ?_ ?_ [] (by simp [zFq])
 ·obtain ⟨r, h1, rfl⟩ := h; exact h1
 ·rintro i x s hx ⟨rfl, hI⟩
  have hi := (List.getElem?_eq_some_iff.1 hx).1
  unfold zDh
  have hlt : decide ((i : Int) < len l) = true := by simp [len]; omega
  simp only [hlt, if_true, uT, hx, zob, zVJ]
  cases hb : xN n x with
  | true =>
   refine .inr ⟨_, by simp; rfl, ?_⟩
   have : l.any (xN n) = true := List.any_eq_true.2 ⟨x, List.mem_of_getElem? hx, hb⟩
   simp [this]
  | false =>
   refine .inl ⟨zFq (l.take (i + 1)), ?_, rfl, by rw [zIe _ hx, hI, hb]; rfl⟩
   have hp : zFq (l.take (i + 1)) = zFq (l.take i) ++ [(x.1, x.2.1)] := by unfold zFq; rw [List.take_add_one, hx]; simp
   rw [vN (by simp [zFq]; omega)]
   simp [hp, vT i (by omega)]
 ·rintro s ⟨rfl, hI⟩
  unfold zDh
  rw [List.take_length] at hI
  simp [hI, len]
theorem zNn (n : Int) (l : List wB) (hl : l.length < 4294967000) : zGT n l = some (zMl n l) := by
 unfold zGT zMl
 cases h0 : (decide (n < 0) || decide (40 < n)) with
 | true => simp
 | false =>
  simp only [zbf, if_false]
  rw [zTI n l hl]
  cases hb : l.any (xN n) with
  | true => simp [wW]
  | false =>
   have hlen : (zFq l).length < 4294967296 := by simp [zFq]; omega
   simp only [zbf, if_false, wW, zob]
   rw [zUs hlen]
   simp only [zob]
   rw [zQa (by simp [zFq]; omega)]
   rfl
abbrev zZ1 (l : List wB) (i j : Int) : Bool := l.any fun a => a.1 == i && a.2.1 == j
abbrev zV2 (l : List wB) (N : Nat) (i : Nat) : List wI := ((List.range N).filter fun (j : Nat) => zZ1 l (i : Int) (j : Int)).map fun (j : Nat) => ((i : Int), (j : Int))
abbrev zZN (l : List wB) (N : Nat) (k : Nat) : List wI := (List.range k).flatMap (zV2 l N)
theorem zW7 {n : Int} {l : List wB} (h0 : 0 ≤ n) (hb : l.any (xN n) = false) : xL xX (zFq l) = zZN l n.toNat n.toNat := by
 apply zQL zZ2
 ·refine List.pairwise_flatMap.2 ⟨fun i _ => ?_, ?_⟩
  ·rw [List.pairwise_map]
   refine (List.pairwise_lt_range.filter _).imp fun {a b} h => ?_
   simp; omega
  ·refine List.pairwise_lt_range.imp fun {a b} h x hx y hy => ?_
   obtain ⟨j, _, rfl⟩ := List.mem_map.1 hx
   obtain ⟨k, _, rfl⟩ := List.mem_map.1 hy
   simp; omega
 ·rintro ⟨i, j⟩
  constructor
  ·intro h
   obtain ⟨a, _, hx⟩ := List.mem_flatMap.1 h
   obtain ⟨b, hb2, he⟩ := List.mem_map.1 hx
   obtain ⟨hb3, hb4⟩ := List.mem_filter.1 hb2
   obtain ⟨z, hz, hz2⟩ := List.any_eq_true.1 hb4
   simp only [Bool.and_eq_true, beq_iff_eq] at hz2
   refine List.mem_map.2 ⟨z, hz, ?_⟩
   rw [hz2.1, hz2.2]; exact he
  ·intro h
   obtain ⟨z, hz, he⟩ := List.mem_map.1 h
   have hzb : xN n z = false := by
    cases hq : xN n z with
    | false => rfl
    | true => rw [List.any_eq_true.2 ⟨z, hz, hq⟩] at hb; cases hb
   simp only [xN, Bool.or_eq_false_iff, decide_eq_false_iff_not] at hzb
   obtain ⟨⟨⟨h1, h2⟩, h3⟩, h4⟩ := hzb
   refine List.mem_flatMap.2 ⟨z.1.toNat, List.mem_range.2 (by omega), List.mem_map.2 ⟨z.2.1.toNat, List.mem_filter.2 ⟨List.mem_range.2 (by omega), ?_⟩, ?_⟩⟩
   ·refine List.any_eq_true.2 ⟨z, hz, ?_⟩
    simp; omega
   ·rw [← he]; simp; omega
theorem zTD (n : Int) (l : List wB) (hl : l.length < 4294967000) :
  zW (zEi l n) 0 = some (if l.any (xN n) then .inr ((0, []), 1) else .inl ()) := by
 have h := yJ (B := zEi l n) (fun i (_ : Unit) => (i : Int)) l (fun i _ => (l.take i).any (xN n) = false)
  (fun r => r = if l.any (xN n) then .inr ((0, []), 1) else .inl ()) ?_ ?_ () (by simp)
 ·obtain ⟨r, h1, rfl⟩ := h; exact h1
 ·intro i x s hx hI
  have hi := (List.getElem?_eq_some_iff.1 hx).1
  unfold zEi
  have hlt : decide ((i : Int) < len l) = true := by simp [len]; omega
  simp only [hlt, if_true, uT, hx, zob]
  have hc : (if decide (x.1 < 0) = true then some true else if decide (n ≤ x.1) = true then some true else if decide (x.2.1 < 0) = true then some true else some (decide (n ≤ x.2.1)) : Option Bool) = some (xN n x) := by
   unfold xN
   cases decide (x.1 < 0) <;> cases decide (n ≤ x.1) <;> cases decide (x.2.1 < 0) <;> simp
  rw [hc]
  simp only [zob]
  cases hb : xN n x with
  | true =>
   refine .inr ⟨_, rfl, ?_⟩
   have : l.any (xN n) = true := List.any_eq_true.2 ⟨x, List.mem_of_getElem? hx, hb⟩
   simp [this]
  | false => exact .inl ⟨(), by simp [vT i (by omega)], by rw [zIe _ hx, hI, hb]; rfl⟩
 ·intro s hI
  unfold zEi
  rw [List.take_length] at hI
  simp [hI, len]
theorem zSu (l : List wB) (s5 s6 : Int × List wI) (hl : l.length < 4294967000) : zW (zEl l s5 s6) (false, 0) = some (zZ1 l s5.1 s6.1) := by
 have h := yJ (B := zEl l s5 s6) (fun i (b : Bool) => (b, (i : Int))) l (fun i b => b = (l.take i).any fun a => a.1 == s5.1 && a.2.1 == s6.1) (fun r => r = zZ1 l s5.1 s6.1) ?_ ?_ false (by simp)
 ·obtain ⟨r, h1, rfl⟩ := h; exact h1
 ·rintro i x s hx rfl
  have hi := (List.getElem?_eq_some_iff.1 hx).1
  unfold zEl
  have hlt : decide ((i : Int) < len l) = true := by simp [len]; omega
  simp only [hlt, if_true, uT, hx, zob]
  refine .inl ⟨_, ?_, rfl⟩
  rw [zIe _ hx, vT i (by omega)]
  cases (l.take i).any fun a => a.1 == s5.1 && a.2.1 == s6.1 <;> cases x.1 == s5.1 <;> simp
 ·rintro s rfl
  unfold zEl
  simp [len]
theorem zTa (n : Int) (l : List wB) (k : Nat) (acc : List wI) (h0 : 0 ≤ n) (h1 : n ≤ 40) (hl : l.length < 4294967000) (hk : k < 40) (ha : acc.length ≤ 1600) :
  zW (zE9 n l ((k : Int), acc)) (0, acc) = some (.inl (((k + 1 : Nat) : Int), acc ++ zV2 l n.toNat k)) := by
 have h := yJ (B := zE9 n l ((k : Int), acc)) (fun i (s : List wI) => ((i : Int), s)) (List.range n.toNat) (fun i s => s = acc ++ zV2 l i k) (fun r => r = .inl (((k + 1 : Nat) : Int), acc ++ zV2 l n.toNat k)) ?_ ?_ acc (by simp)
 ·obtain ⟨r, h1, rfl⟩ := h; exact h1
 ·rintro i x s hx rfl
  have hi := (List.getElem?_eq_some_iff.1 hx).1
  rw [List.length_range] at hi
  unfold zE9
  have hlt : decide ((i : Int) < n) = true := by simp; omega
  simp only [hlt, if_true, zSu l _ _ hl, zob]
  have hrow : zV2 l (i + 1) k = zV2 l i k ++ if zZ1 l k i then [((k : Int), (i : Int))] else [] := by
   unfold zV2
   rw [List.range_succ, List.filter_append, List.map_append]
   congr 1
   by_cases hh : zZ1 l k i = true <;> simp [hh]
  have hlen : (zV2 l i k).length ≤ i := by
   unfold zV2
   rw [List.length_map]
   exact Nat.le_trans (List.length_filter_le _ _) (by simp)
  refine .inl ⟨_, ?_, rfl⟩
  rw [hrow, vT i (by omega)]
  cases zZ1 l k i with
  | true => rw [vN (by rw [List.length_append, List.length_singleton]; omega)]; simp
  | false => simp
 ·rintro s rfl
  unfold zE9
  have hlt : decide (((List.range n.toNat).length : Int) < n) = false := by simp; omega
  rw [List.length_range] at *
  simp only [hlt, zbf, if_false]
  exact ⟨_, rfl, by rw [vT k (by omega)]⟩
theorem zTQ (n : Int) (l : List wB) (h0 : 0 ≤ n) (h1 : n ≤ 40) (hl : l.length < 4294967000) : zW (zE4 n l) (0, []) = some (zZN l n.toNat n.toNat) := by
 have h := yJ (B := zE4 n l) (fun i (s : List wI) => ((i : Int), s)) (List.range n.toNat) (fun i s => s = zZN l n.toNat i ∧ s.length ≤ 40 * i) (fun r => r = zZN l n.toNat n.toNat) ?_ ?_ [] (by simp)
 ·obtain ⟨r, h1, rfl⟩ := h; exact h1
 ·rintro i x s hx ⟨rfl, hs⟩
  have hi := (List.getElem?_eq_some_iff.1 hx).1
  rw [List.length_range] at hi
  unfold zE4
  have hlt : decide ((i : Int) < n) = true := by simp; omega
  simp only [hlt, if_true]
  have hlen : (zV2 l n.toNat i).length ≤ 40 := by
   unfold zV2
   rw [List.length_map]
   exact Nat.le_trans (List.length_filter_le _ _) (by simp; omega)
  have hm : zZN l n.toNat (i + 1) = zZN l n.toNat i ++ zV2 l n.toNat i := by
   unfold zZN
   rw [List.range_succ, List.flatMap_append]; simp
  refine .inl ⟨_, zTa n l i _ h0 h1 hl (by omega) (by omega), hm.symm, ?_⟩
  rw [List.length_append]; omega
 ·rintro s ⟨rfl, hs⟩
  unfold zE4
  rw [List.length_range]
  have hlt : decide (((n.toNat : Nat) : Int) < n) = false := by simp; omega
  simp only [hlt, zbf, if_false]
  exact ⟨_, rfl, rfl⟩
theorem zRr (n : Int) (l : List wB) (hl : l.length < 4294967000) : zHB n l = some (zMl n l) := by
 unfold zHB zMl
 cases h0 : (decide (n < 0) || decide (40 < n)) with
 | true => simp
 | false =>
  simp only [Bool.or_eq_false_iff, decide_eq_false_iff_not] at h0
  simp only [zbf, if_false]
  rw [zTD n l hl]
  cases hb : l.any (xN n) with
  | true => simp [wW]
  | false =>
   simp only [zbf, if_false, wW, zob]
   rw [zTQ n l (by omega) (by omega) hl, zW7 (by omega) hb]
   rfl
end
section
theorem zGi : ∀ a : wZ, yP a a = false
 | [] => rfl
 | a :: x => by simp [yP, zGi x, UInt8.lt_irrefl]
theorem zOz : ∀ {a b c : wZ}, yP a b = true → yP b c = true → yP a c = true
 | _, _, [], _, h => by simp [yP] at h
 | _, [], _ :: _, h, _ => by simp [yP] at h
 | [], _ :: _, _ :: _, _, _ => rfl
 | a :: x, b :: y, c :: z, h1, h2 => by
  simp only [yP, Bool.or_eq_true, decide_eq_true_eq, Bool.and_eq_true, beq_iff_eq] at *
  rcases h1 with h1 | ⟨rfl, h1⟩ <;> rcases h2 with h2 | ⟨rfl, h2⟩
  ·exact .inl (UInt8.lt_trans h1 h2)
  ·exact .inl h1
  ·exact .inl h2
  ·exact .inr ⟨rfl, zOz h1 h2⟩
theorem zRy : ∀ a b : wZ, yP a b = true ∨ a = b ∨ yP b a = true
 | [], [] => .inr (.inl rfl)
 | [], _ :: _ => .inl rfl
 | _ :: _, [] => .inr (.inr rfl)
 | a :: x, b :: y => by
  simp only [yP, Bool.or_eq_true, decide_eq_true_eq, Bool.and_eq_true, beq_iff_eq, List.cons.injEq]
  rcases UInt8.lt_or_lt_of_ne (a := a) (b := b) |> fun f => (Classical.em (a = b)).imp id f with rfl | h | h
  ·rcases zRy x y with h | rfl | h
   ·exact .inl (.inr ⟨rfl, h⟩)
   ·exact .inr (.inl ⟨rfl, rfl⟩)
   ·exact .inr (.inr (.inr ⟨rfl, h⟩))
  ·exact .inl (.inl h)
  ·exact .inr (.inr (.inl h))
theorem zVU (a b : wZ) : zD2 a b = some (if yP a b then -1 else if a = b then 0 else 1) := by
 have hn : ∀ x : wZ, zCy x = some false := fun x => by simp [zCy]
 simp only [zD2, hn, zob, zbf, if_false]
 by_cases h1 : yP a b = true
 ·simp [h1]
 ·by_cases h2 : a = b
  ·simp [h2, zGi]
  ·simp [h1, h2]
def loB (b : UInt8) : Bool := decide (97 ≤ (b.toNat : Int)) && decide ((b.toNat : Int) ≤ 122)
def okB (b : UInt8) : Bool := loB b || (if decide (48 ≤ (b.toNat : Int)) then decide ((b.toNat : Int) ≤ 57) || (b.toNat : Int) == 95 else (b.toNat : Int) == 95)
def vName : wZ → Bool
 | [] => false
 | c :: r => decide (r.length + 1 ≤ 12) && loB c && r.all okB
theorem zPL (s : wZ) : zB3 s = some (vName s) := by
 unfold zB3
 cases s with
 | nil => rfl
 | cons c r =>
  have h0 : ((len (c :: r)) == 0) = false := by rw [beq_eq_false_iff_ne]; simp [len]; omega
  by_cases hl : r.length + 1 ≤ 12
  ·have h1 : decide (12 < len (c :: r)) = false := by simp [len]; omega
   rw [h0, h1]
   simp only [Bool.or_self, zbf, if_false]
   have h := zLk (B := zCb (c :: r)) (fun i (_ : Unit) => (i : Int)) (c :: r)
    (fun i _ b => some (if loB b then .inl () else if decide (0 < (i : Int)) && okB b then .inl () else .inr false)) (fun _ => some true) ?_ ?_ ()
   ·rw [show ((0 : Nat) : Int) = 0 from rfl] at h
    rw [h]
    have key : ∀ (l : List UInt8) (i : Nat), 0 < i → zQ8 (fun (i : Nat) (_ : Unit) (b : UInt8) => some (if loB b then .inl () else if decide (0 < (i : Int)) && okB b then .inl () else .inr false)) (fun _ => some true) i l () = some (l.all okB) := by
     intro l
     induction l with
     | nil => intro i _; rfl
     | cons b l ih =>
      intro i hi
      have hd : decide (0 < (i : Int)) = true := by simp; omega
      by_cases hb : okB b = true
      ·by_cases hlo : loB b = true
       ·simp only [zQ8, hlo, if_true]; rw [ih (i + 1) (by omega)]; simp [hb]
       ·simp only [zQ8, hlo, if_false, hd, hb, Bool.and_self, if_true, zbf]; rw [ih (i + 1) (by omega)]; simp [hb]
      ·have hlo : ¬ loB b = true := fun h => hb (by simp [okB, h])
       simp [zQ8, hlo, hb]
    by_cases hlo : loB c = true
    ·simp only [zQ8, hlo, if_true]
     rw [key r 1 (by omega)]
     simp [vName, hlo, hl]
    ·simp [zQ8, hlo, vName]
   ·intro i x s hx
    have hi := (List.getElem?_eq_some_iff.1 hx).1
    have hlt : decide ((i : Int) < len (c :: r)) = true := by simp [len] at hi ⊢; omega
    unfold zCb
    rw [zTv, hx, vT i (by simp at hi; omega)]
    simp only [hlt, if_true, Option.map_some, zob]
    by_cases hlo : loB x = true
    ·have hlo' := hlo
     unfold loB at hlo'
     simp only [hlo', if_true, hlo]
    ·have hlo' := hlo
     unfold loB at hlo'
     simp only [hlo', if_false, hlo, zbf]
     by_cases hc : (decide (0 < (i : Int)) && okB x) = true
     ·have hc' := hc
      unfold okB at hc'
      simp only [hlo, Bool.false_or] at hc'
      simp only [hc', if_true, hc]
     ·have hc' := hc
      unfold okB at hc'
      simp only [hlo, Bool.false_or] at hc'
      simp only [hc', if_false, hc, zbf]
   ·intro s
    unfold zCb
    simp [len]
  ·have h1 : decide (12 < len (c :: r)) = true := by simp [len]; omega
   rw [h1]
   simp [vName, hl]
theorem zK8 (s : wZ) : zBZ s = some (vName s) := by
 unfold zBZ
 cases s with
 | nil => rfl
 | cons c r =>
  have h0 : decide ((len (c :: r)) < 1) = false := by simp [len]; omega
  have hs0 : zRN (c :: r) 0 = some (c.toNat : Int) := rfl
  rw [h0]
  by_cases hl : r.length + 1 ≤ 12
  ·have h1 : decide (12 < len (c :: r)) = false := by simp [len]; omega
   rw [h1]
   simp only [zbf, if_false, hs0, zob]
   by_cases hlo : loB c = true
   ·have ha : decide ((c.toNat : Int) < 97) = false := by simp [loB] at hlo ⊢; omega
    have hb : decide (122 < (c.toNat : Int)) = false := by simp [loB] at hlo ⊢; omega
    simp only [ha, hb, zbf, if_false, zob]
    have h := zLk (B := zD7 (c :: r)) (fun i (_ : Unit) => (i : Int)) (c :: r)
     (fun _ _ b => some (if okB b then .inl () else .inr false)) (fun _ => some true) ?_ ?_ ()
    ·rw [show ((0 : Nat) : Int) = 0 from rfl] at h
     rw [h]
     have key : ∀ (l : List UInt8) (i : Nat), zQ8 (fun (_ : Nat) (_ : Unit) (b : UInt8) => some (if okB b then .inl () else .inr false)) (fun _ => some true) i l () = some (l.all okB) := by
      intro l
      induction l with
      | nil => intro i; rfl
      | cons b l ih =>
       intro i
       by_cases hb : okB b = true
       ·simp only [zQ8, hb, if_true]; rw [ih (i + 1)]; simp [hb]
       ·simp [zQ8, hb]
     rw [key]
     simp [vName, hlo, hl, okB]
    ·intro i x s hx
     have hi := (List.getElem?_eq_some_iff.1 hx).1
     have hlt : decide ((i : Int) < len (c :: r)) = true := by simp [len] at hi ⊢; omega
     unfold zD7
     rw [zTv, hx, vT i (by simp at hi; omega)]
     simp only [hlt, if_true, Option.map_some, zob]
     have hok : okB x = !(if decide ((x.toNat : Int) < 97) then (if decide ((x.toNat : Int) < 48) then ((x.toNat : Int) != 95) else if decide (57 < (x.toNat : Int)) then ((x.toNat : Int) != 95) else false)
       else if decide (122 < (x.toNat : Int)) then (if decide ((x.toNat : Int) < 48) then ((x.toNat : Int) != 95) else if decide (57 < (x.toNat : Int)) then ((x.toNat : Int) != 95) else false) else false) := by
      unfold okB loB
      generalize (x.toNat : Int) = n
      rw [Bool.eq_iff_iff]
      simp
      constructor
      ·intro h
       by_cases h1 : n < 97 <;> by_cases h2 : n < 48 <;> by_cases h3 : 57 < n <;> by_cases h4 : 122 < n <;> simp [h1, h2, h3, h4] <;> (split at h <;> (try simp at h) <;> omega)
      ·intro h
       by_cases h1 : n < 97 <;> by_cases h2 : n < 48 <;> by_cases h3 : 57 < n <;> by_cases h4 : 122 < n <;> simp [h1, h2, h3, h4] at h <;> (split <;> (try simp) <;> omega)
     rw [hok]
     cases decide ((x.toNat : Int) < 97) <;> cases decide ((x.toNat : Int) < 48) <;> cases decide (57 < (x.toNat : Int)) <;> cases decide (122 < (x.toNat : Int)) <;> cases ((x.toNat : Int) != 95) <;> rfl
    ·intro s
     unfold zD7
     simp [len]
   ·have hor : (decide ((c.toNat : Int) < 97) || decide (122 < (c.toNat : Int))) = true := by simp [loB] at hlo ⊢; omega
    have hv : vName (c :: r) = false := by simp [vName, hlo]
    rw [hv]
    cases h1 : decide ((c.toNat : Int) < 97) with
    | true => rfl
    | false => rw [h1] at hor; simp only [Bool.false_or] at hor; simp only [zbf, if_false, hor, zob, if_true]
  ·have h1 : decide (12 < len (c :: r)) = true := by simp [len]; omega
   rw [h1]
   simp [vName, hl]
theorem zKF (x : zO) : zB8 x = some (vName x.2) := by simp [zB8, zPL]
theorem zKG (x : zO) : zCC x = some (vName x.2) := by simp [zCC, zK8]
def vK (a b : zO) : Bool := yP a.2 b.2 || (a.2 == b.2 && (!a.1 && b.1))
def zKp (a b : zO) : Int := if vK a b then -1 else if a = b then 0 else 1
theorem zNs (a : zO) : vK a a = false := by simp [vK, zGi]
theorem zJC {a b c : zO} (h1 : vK a b = true) (h2 : vK b c = true) : vK a c = true := by
 obtain ⟨g, a⟩ := a; obtain ⟨g', b⟩ := b; obtain ⟨g'', c⟩ := c
 simp only [vK, Bool.or_eq_true, Bool.and_eq_true, beq_iff_eq, Bool.not_eq_true'] at *
 rcases h1 with h1 | ⟨rfl, h1, h1'⟩ <;> rcases h2 with h2 | ⟨rfl, h2, h2'⟩
 ·exact .inl (zOz h1 h2)
 ·exact .inl h1
 ·exact .inl h2
 ·rw [h1'] at h2; cases h2
theorem zLI (a b : zO) : vK a b = true ∨ a = b ∨ vK b a = true := by
 obtain ⟨g, a⟩ := a; obtain ⟨g', b⟩ := b
 simp only [vK, Bool.or_eq_true, Bool.and_eq_true, beq_iff_eq, Bool.not_eq_true', Prod.mk.injEq]
 rcases zRy a b with h | rfl | h
 ·exact .inl (.inl h)
 ·cases g <;> cases g' <;> simp
 ·exact .inr (.inr (.inl h))
theorem zKM (a b : zO) : zAn a b = some (zKp a b) := by
 obtain ⟨g, a⟩ := a; obtain ⟨g', b⟩ := b
 unfold zAn zKp vK
 rw [zVU]
 by_cases h1 : yP a b = true
 ·simp [h1]
 ·by_cases h2 : a = b
  ·subst h2
   cases g <;> cases g' <;> simp [zGi]
  ·simp [h1, h2]
theorem zPX (a b : zO) : zF5 a b = some (zKp a b) := by
 obtain ⟨g, a⟩ := a; obtain ⟨g', b⟩ := b
 unfold zF5 zKp vK
 by_cases h1 : yP a b = true
 ·have h2 : a ≠ b := fun e => by subst e; rw [zGi] at h1; cases h1
  simp [h1, h2]
 ·by_cases h2 : a = b
  ·subst h2
   cases g <;> cases g' <;> simp [zGi]
  ·simp [h1, h2]
theorem zXy : OrdF zAn := by
 have hlt : ∀ x y, yE zAn x y = vK x y := fun x y => by
  simp only [yE, zKM, zKp, Option.getD_some]
  cases h : vK x y with
  | true => simp
  | false => by_cases he : x = y <;> simp [he]
 refine ⟨fun x y => ⟨_, zKM x y⟩, fun x => by rw [hlt, zNs], fun x y z h1 h2 => ?_, fun x y z h1 h2 => ?_, fun x y h1 h2 => ?_⟩
 ·rw [hlt] at *; exact zJC h1 h2
 ·rw [hlt] at *
  cases h3 : vK x z with
  | false => rfl
  | true =>
   rcases zLI x y with h | rfl | h
   ·rw [h] at h1; cases h1
   ·rw [h3] at h2; cases h2
   ·have := zJC h h3; rw [this] at h2; cases h2
 ·rw [hlt] at *
  rcases zLI x y with h | h | h
  ·rw [h] at h1; cases h1
  ·exact h
  ·rw [h] at h2; cases h2
theorem zY5 (x y : zO) : yE zAn x y = vK x y := by
 simp only [yE, zKM, zKp, Option.getD_some]
 cases h : vK x y with
 | true => simp
 | false => by_cases he : x = y <;> simp [he]
end
section
theorem zQZ : tM vK := ⟨zNs, fun _ _ _ => zJC, zLI⟩
theorem zSZ {l : List zO} (h : l.length < 4294967296) : zBV l = some l := by
 simp [zBV, vN (l := ([] : List zO)) (m := l) (by simpa using h)]
theorem zXw {l : List zO} (h : l.length < 4294967296) : zAM l = some (l.mergeSort fun x y => !vK y x) := by
 simp only [zAM, zS5]
 rw [if_pos ⟨zXy, h⟩]
 simp only [zY5]
theorem zTC {l : List zO} (h : l.length < 4294967296) : zBj l = some (xV l) :=
 (show zBj l = zQj (false, []) l from rfl).trans (zKd _ l (by omega))
theorem zQD {l : List zO} (h : l.length < 4294967296) : zEp l = some (xL vK l) := by
 simp only [zEp, zSZ h, zXw h, zob]
 rw [zTC (by simpa using h)]
 rfl
theorem zRJ {l : List zO} (x : zO) (h : l.length < 9223372036854775807) : zEQ l x = some (decide (x ∈ l)) := by
 obtain ⟨r, hr, hi⟩ := zPA l x h
 have e : zCa l x = some r := (show zCa l x = zYS l x from rfl).trans hr
 simp only [zEQ, zDJ, e, zob]
 congr 1
 rw [decide_eq_decide, hi]
 simp
def zS7 (x : zO) : zO := (!x.1, x.2)
theorem zPm (x : zO) : zGJ x = some (zS7 x) := rfl
end
section
theorem zUx {l : List zO} (x : zO) (h : l.length < 1073741824) (ha : vF vK l) : ∃ r, zHs l x = some r ∧ vF vK r ∧ (∀ y, y ∈ r ↔ y = x ∨ y ∈ l) ∧ r.length ≤ l.length + 1 := by
 have hloop : ∃ k, zW (zD9 l x) 0 = some k ∧ ∃ n : Nat, k = n ∧ n ≤ l.length ∧ (∀ j y, j < n → l[j]? = some y → vK y x = true) ∧ ∀ y, l[n]? = some y → vK y x = false := by
  refine yJ (B := zD9 l x) (fun i (_ : Unit) => (i : Int)) l (fun i _ => ∀ j y, j < i → l[j]? = some y → vK y x = true) _ ?_ ?_ () (by simp)
  ·intro i y s hy hI
   have hi := (List.getElem?_eq_some_iff.1 hy).1
   have hlt : decide ((i : Int) < len l) = true := by simp [len]; omega
   unfold zD9
   simp only [hlt, if_true, uT, hy, zob, zPX]
   cases hc : vK y x with
   | true =>
    refine .inl ⟨(), by simp [zKp, hc, vT i (by omega)], fun j z hj hz => ?_⟩
    rcases Nat.lt_succ_iff_lt_or_eq.1 hj with h | rfl
    ·exact hI j z h hz
    ·rw [hy] at hz; cases hz; exact hc
   | false =>
    refine .inr ⟨(i : Int), ?_, i, rfl, by omega, hI, fun z hz => by rw [hy] at hz; cases hz; exact hc⟩
    have : decide (zKp y x < 0) = false := by simp [zKp, hc]; split <;> omega
    simp only [this, zbf, if_false]
  ·intro s hI
   refine ⟨(l.length : Int), by unfold zD9; simp [len], l.length, rfl, Nat.le_refl _, hI, fun y hy => by simp at hy⟩
 obtain ⟨_, hk, n, rfl, hn, hlo, hhi⟩ := hloop
 unfold zHs
 rw [hk]
 simp only [zob]
 by_cases hx : l[n]? = some x
 ·have hlt : decide ((n : Int) < len l) = true := by have := (List.getElem?_eq_some_iff.1 hx).1; simp [len]; omega
  refine ⟨l, by simp only [hlt, if_true, uT, hx, zob, beq_self_eq_true], ha, fun y => ⟨.inr, fun h => ?_⟩, by omega⟩
  rcases h with rfl | h
  ·exact List.mem_of_getElem? hx
  ·exact h
 ·have hcond : ((if decide ((n : Int) < len l) = true then (zH l (n : Int)).bind fun x2 => some (x2 == x) else some false : Option Bool)) = some false := by
   by_cases hlt : n < l.length
   ·have hy : l[n]? = some l[n] := List.getElem?_eq_getElem hlt
    have h1 : decide ((n : Int) < len l) = true := by simp [len]; omega
    have h2 : (l[n] == x) = false := beq_eq_false_iff_ne.2 (fun e => hx (by rw [hy, e]))
    simp only [h1, if_true, uT, hy, zob, h2]
   ·have h1 : decide ((n : Int) < len l) = false := by simp [len]; omega
    simp only [h1, zbf, if_false]
  rw [hcond]
  simp only [zob, zbf, if_false]
  rw [zK9 (by omega) (by omega), zWj (by omega) (by omega)]
  simp only [zob, Int.toNat_natCast]
  rw [vN (by simp; omega)]
  simp only [zob, List.nil_append]
  rw [vN (by simp; omega)]
  simp only [zob]
  rw [vN (by simp; omega)]
  refine ⟨_, rfl, ?_, fun y => ?_, by simp; omega⟩
  ·have hsplit := List.take_append_drop n l
   rw [← hsplit] at ha
   obtain ⟨h1, h2, h3⟩ := List.pairwise_append.1 ha
   have hlow : ∀ y ∈ l.take n, vK y x = true := fun y hy => by
    obtain ⟨j, hj⟩ := List.mem_iff_getElem?.1 hy
    rw [List.getElem?_take] at hj
    split at hj
    ·exact hlo j y ‹_› hj
    ·cases hj
   have hhigh : ∀ y ∈ l.drop n, vK x y = true := fun y hy => by
    by_cases hlt : n < l.length
    ·have hfirst : vK x l[n] = true := by
      rcases zLI x l[n] with h | h | h
      ·exact h
      ·exact absurd (by rw [List.getElem?_eq_getElem hlt, ← h]) hx
      ·rw [hhi _ (List.getElem?_eq_getElem hlt)] at h; cases h
     rw [List.drop_eq_getElem_cons hlt] at hy h2
     rcases List.mem_cons.1 hy with rfl | hy
     ·exact hfirst
     ·exact zJC hfirst ((List.pairwise_cons.1 h2).1 y hy)
    ·rw [List.drop_of_length_le (by omega)] at hy; cases hy
   rw [List.append_assoc]
   refine List.pairwise_append.2 ⟨h1, List.pairwise_append.2 ⟨by simp, h2, fun a ha b hb => ?_⟩, fun a ha b hb => ?_⟩
   ·simp at ha; subst ha; exact hhigh b hb
   ·rcases List.mem_append.1 hb with hb | hb
    ·simp at hb; subst hb; exact hlow a ha
    ·exact h3 a ha b hb
  ·rw [List.mem_append, List.mem_append, List.mem_singleton]
   have : y ∈ l ↔ y ∈ l.take n ∨ y ∈ l.drop n := by rw [← List.mem_append, List.take_append_drop]
   rw [this]
   constructor
   ·rintro ((h | h) | h)
    ·exact .inr (.inl h)
    ·exact .inl h
    ·exact .inr (.inr h)
   ·rintro (h | h | h)
    ·exact .inl (.inr h)
    ·exact .inl (.inl h)
    ·exact .inr h
theorem zWG {l : List zO} (x : zO) (h : l.length < 9223372036854775807) : zKO l x = some (decide (x ∈ l)) := by
 have hh := yJ (B := zHv l x) (fun i (_ : Unit) => (i : Int)) l (fun i _ => ∀ j, j < i → l[j]? ≠ some x) (fun r => r = decide (x ∈ l)) ?_ ?_ () (by simp)
 ·obtain ⟨r, h1, rfl⟩ := hh; exact h1
 ·intro i y s hy hI
  have hi := (List.getElem?_eq_some_iff.1 hy).1
  have hlt : decide ((i : Int) < len l) = true := by simp [len]; omega
  unfold zHv
  simp only [hlt, if_true, uT, hy, zob]
  by_cases hxy : y = x
  ·subst hxy
   refine .inr ⟨true, by simp, ?_⟩
   simp [List.mem_of_getElem? hy]
  ·refine .inl ⟨(), by simp [hxy, vT i (by omega)], fun j hj => ?_⟩
   rcases Nat.lt_succ_iff_lt_or_eq.1 hj with h | rfl
   ·exact hI j h
   ·rw [hy]; simpa using hxy
 ·intro s hI
  refine ⟨false, by unfold zHv; simp [len], ?_⟩
  symm
  rw [decide_eq_false_iff_not]
  intro hm
  obtain ⟨j, hj⟩ := List.mem_iff_getElem?.1 hm
  exact hI j (List.getElem?_eq_some_iff.1 hj).1 hj
end
section
theorem zVv (l : List Int) (n : Int) (hl : l.length < 4294967290) : ∃ k : Nat, zW (zDp l n) 0 = some (k : Int) ∧ k ≤ l.length ∧ (∀ j x, j < k → l[j]? = some x → x < n) ∧ ∀ x, l[k]? = some x → n ≤ x := by
 have h := yJ (B := zDp l n) (fun i (_ : Unit) => (i : Int)) l (fun i _ => ∀ j x, j < i → l[j]? = some x → x < n)
  (fun r => ∃ k : Nat, r = (k : Int) ∧ k ≤ l.length ∧ (∀ j x, j < k → l[j]? = some x → x < n) ∧ ∀ x, l[k]? = some x → n ≤ x) ?_ ?_ () (by omega)
 ·obtain ⟨r, h1, k, rfl, h2⟩ := h; exact ⟨k, h1, h2⟩
 ·intro i x s hx hI
  unfold zDp
  simp only [wU hx, if_true, wP hx, zob]
  by_cases hlt : x < n
  ·refine .inl ⟨(), by simp [hlt, wT hx (by omega)], fun j y hj hy => ?_⟩
   rcases Nat.lt_succ_iff_lt_or_eq.1 hj with h | rfl
   ·exact hI j y h hy
   ·rw [hx] at hy; cases hy; exact hlt
  ·exact .inr ⟨i, by simp [hlt], i, rfl, by have := vC hx; omega, hI, fun y hy => by rw [hx] at hy; cases hy; omega⟩
 ·intro s hI
  unfold zDp
  exact ⟨(l.length : Int), by simp [len], l.length, rfl, Nat.le_refl _, hI, fun x hx => by simp at hx⟩
theorem zMZ {l : List Int} (n : Int) (hl : l.length < 4294967000) (ha : vF yD l) : ∃ r, zFE l n = some r ∧ vF yD r ∧ (∀ y, y ∈ r ↔ y = n ∨ y ∈ l) ∧ r.length ≤ l.length + 1 := by
 obtain ⟨k, h1, h2, h3, h4⟩ := zVv l n (by omega)
 have hsplit : l = l.take k ++ l.drop k := (List.take_append_drop k l).symm
 have hlo : ∀ x ∈ l.take k, x < n := fun x hx => by
  obtain ⟨j, hj⟩ := List.mem_iff_getElem?.1 hx
  rw [List.getElem?_take] at hj
  split at hj
  ·rename_i hjk; exact h3 j x hjk hj
  ·cases hj
 have hhi : ∀ x ∈ l.drop k, n ≤ x := fun x hx => by
  obtain ⟨j, hj⟩ := List.mem_iff_getElem?.1 hx
  rw [List.getElem?_drop] at hj
  cases j with
  | zero => exact h4 x hj
  | succ j =>
   have hk : k < l.length := by have := vC hj; omega
   have h5 := h4 l[k] (List.getElem?_eq_getElem hk)
   have h6 := List.pairwise_iff_getElem.1 ha k (k + (j + 1)) hk (vC hj) (by omega)
   rw [List.getElem?_eq_getElem (vC hj)] at hj
   have hj := Option.some.inj hj
   simp at h6; omega
 unfold zFE
 rw [h1]
 simp only [zob]
 by_cases he : ∃ x, l[k]? = some x ∧ x = n
 ·obtain ⟨x, hx, rfl⟩ := he
  refine ⟨l, by simp only [wU hx, if_true, wP hx, zob, beq_self_eq_true], ha, fun y => ⟨.inr, fun h => by rcases h with rfl | h; exact vV hx; exact h⟩, by omega⟩
 ·have hc : (if decide ((k : Int) < len l) = true then (zH l (k : Int)).bind fun x2 => some (x2 == n) else some false) = some false := by
   by_cases hk : k < l.length
   ·have hx : l[k]? = some l[k] := List.getElem?_eq_getElem hk
    simp only [wU hx, if_true, wP hx, zob]
    congr 1
    rw [beq_eq_false_iff_ne]
    exact fun e => he ⟨_, hx, e⟩
   ·have : decide ((k : Int) < len l) = false := by simp [len]; omega
    simp only [this, zbf, if_false]
  rw [hc]
  simp only [zob, zbf, if_false]
  rw [zK9 (by omega) (by omega), zWj (by omega) (by omega)]
  simp only [zob, Int.toNat_natCast]
  have l1 : (l.take k).length = k := by simp; omega
  have l2 : (l.drop k).length = l.length - k := by simp
  rw [vN (by simp; omega)]
  simp only [zob, List.nil_append]
  rw [vN (by simp; omega)]
  simp only [zob]
  rw [vN (by simp; omega)]
  refine ⟨_, rfl, ?_, fun y => ?_, by simp; omega⟩
  ·rw [List.append_assoc]
   refine List.pairwise_append.2 ⟨ha.sublist (List.take_sublist k l), ?_, fun x hx y hy => ?_⟩
   ·refine List.pairwise_append.2 ⟨by simp, ha.sublist (List.drop_sublist k l), fun x hx y hy => ?_⟩
    simp only [List.mem_singleton] at hx
    subst hx
    have h5 := hhi y hy
    have h6 : y ≠ x := fun e => by
     subst e
     obtain ⟨j, hj⟩ := List.mem_iff_getElem?.1 hy
     rw [List.getElem?_drop] at hj
     cases j with
     | zero => exact he ⟨_, hj, rfl⟩
     | succ j =>
      have hk : k < l.length := by have := vC hj; omega
      have h5 := h4 l[k] (List.getElem?_eq_getElem hk)
      have h6 := List.pairwise_iff_getElem.1 ha k (k + (j + 1)) hk (vC hj) (by omega)
      rw [List.getElem?_eq_getElem (vC hj)] at hj
      have hj := Option.some.inj hj
      simp at h6; omega
    simp; omega
   ·have h5 := hlo x hx
    rcases List.mem_append.1 hy with h | h
    ·simp at h; subst h; simpa using h5
    ·have := hhi y h; simp; omega
  ·have hm : y ∈ l ↔ y ∈ l.take k ∨ y ∈ l.drop k := by rw [← List.mem_append, List.take_append_drop]
   rw [hm]
   simp only [List.mem_append, List.mem_singleton]
   constructor
   ·rintro ((h | h) | h)
    ·exact .inr (.inl h)
    ·exact .inl h
    ·exact .inr (.inr h)
   ·rintro (h | h | h)
    ·exact .inl (.inr h)
    ·exact .inl (.inl h)
    ·exact .inr h
theorem zQF {l m : List Int} (hl : l.length + m.length < 4294966000) (ha : vF yD l) : ∃ r, zIk l m = some r ∧ vF yD r ∧ (∀ y, y ∈ r ↔ y ∈ l ∨ y ∈ m) ∧ r.length ≤ l.length + m.length := by
 have h := yJ (B := zGX m) (fun i (s : List Int) => (s, (i : Int))) m (fun i s => vF yD s ∧ (∀ y, y ∈ s ↔ y ∈ l ∨ y ∈ m.take i) ∧ s.length ≤ l.length + i)
  (fun r => vF yD r ∧ (∀ y, y ∈ r ↔ y ∈ l ∨ y ∈ m) ∧ r.length ≤ l.length + m.length) ?_ ?_ l ⟨ha, by simp, by omega⟩
 ·exact h
 ·rintro i x s hx ⟨h1, h2, h3⟩
  have hi := vC hx
  obtain ⟨r, e1, e2, e3, e4⟩ := zMZ x (by omega) h1
  refine .inl ⟨r, ?_, e2, fun y => ?_, by omega⟩
  ·unfold zGX
   simp only [wU hx, if_true, wP hx, zob, e1, wT hx (by omega)]
  ·rw [e3, h2, uE hx]
   simp only [List.mem_append, List.mem_singleton]
   constructor
   ·rintro (h | h | h)
    ·exact .inr (.inr h)
    ·exact .inl h
    ·exact .inr (.inl h)
   ·rintro (h | h | h)
    ·exact .inr (.inl h)
    ·exact .inr (.inr h)
    ·exact .inl h
 ·rintro s ⟨h1, h2, h3⟩
  refine ⟨s, by unfold zGX; simp [len], h1, fun y => by rw [h2, List.take_length], h3⟩
theorem zRQ {l : List Int} (h : l.length < 4294967296) : zBG l = some (zQo yD l) := zSh h
theorem zTB {l : List Int} (h : l.length < 4294967296) : zBO l = some (xV l) := zKd 0 l (by omega)
theorem zQc {β : Type} {l : List Int} (h : l.length < 4294967296) (k : List Int → Option β) : ((zBG l).bind fun r3 => (zBO r3).bind fun r4 => k r4) = k (xL yD l) := by
 rw [zRQ h]
 simp only [zob]
 rw [zTB (by rw [(zIr l).length_eq]; exact h)]
 simp only [zob]
 rw [zVQ (zIr l) (zIP uW l)]
theorem zSl (l : List Int) : vF yD (xL yD l) := (zKc uW l).1
theorem zYs (l : List Int) (x : Int) : x ∈ xL yD l ↔ x ∈ l := (zKc uW l).2 x
inductive tV (l : List zP) : Int → Int → Prop
 | self (i : Int) : tV l i i
 | step {i k j : Int} {a : zP} : zH l i = some a → k ∈ a.2.2.1 → tV l k j → tV l i j
structure FormA (l : List zP) : Prop where
 len : l.length ≤ 100
 nsub : ∀ a ∈ l, a.2.2.1.length ≤ 100
 sub : ∀ (i : Nat) a, l[i]? = some a → ∀ k ∈ a.2.2.1, 0 ≤ k ∧ k < i
theorem FormA.at {l : List zP} (h : FormA l) {i : Int} {a : zP} (hi : zH l i = some a) : a.2.2.1.length ≤ 100 ∧ 0 ≤ i ∧ i < l.length ∧ ∀ k ∈ a.2.2.1, 0 ≤ k ∧ k < i := by
 obtain ⟨n, rfl, hn⟩ := zMM hi
 exact ⟨h.nsub a (vV hn), by omega, by have := vC hn; omega, h.sub n a hn⟩
theorem tV.le {l : List zP} (h : FormA l) {i j : Int} (hs : tV l i j) : 0 ≤ i → 0 ≤ j ∧ j ≤ i := by
 induction hs with
 | self i => intro h0; omega
 | step hi hk _ ih => intro h0; have := (h.at hi).2.2.2 _ hk; have := ih this.1; omega
theorem tV.trans {l : List zP} {i j k : Int} (h : tV l i j) (h2 : tV l j k) : tV l i k := by
 induction h with
 | self i => exact h2
 | step hi hk _ ih => exact .step hi hk (ih h2)
theorem tV.iff {l : List zP} {i j : Int} {a : zP} (hi : zH l i = some a) : tV l i j ↔ j = i ∨ ∃ k ∈ a.2.2.1, tV l k j := by
 constructor
 ·intro h
  cases h with
  | self => exact .inl rfl
  | step h1 h2 h3 => rw [hi] at h1; cases h1; exact .inr ⟨_, h2, h3⟩
 ·rintro (rfl | ⟨k, h1, h2⟩)
  ·exact .self _
  ·exact .step hi h1 h2
open Classical in
noncomputable def vR (l : List zP) (i : Int) : List Int := ((List.range l.length).map Int.ofNat).filter fun j => decide (tV l i j)
theorem zKB (l : List zP) (i : Int) : vF yD (vR l i) := by
 refine List.Pairwise.filter _ ?_
 rw [List.pairwise_map]
 exact List.pairwise_lt_range.imp fun {a b} h => by simp; omega
theorem zEu (l : List zP) (i : Int) : (vR l i).length ≤ l.length := Nat.le_trans (List.length_filter_le _ _) (by simp)
theorem zIO {l : List zP} (h : FormA l) {i : Int} (h0 : 0 ≤ i) (h1 : i < l.length) (j : Int) : j ∈ vR l i ↔ tV l i j := by
 simp only [vR, List.mem_filter, List.mem_map, List.mem_range, decide_eq_true_eq]
 constructor
 ·exact fun h => h.2
 ·intro hs
  have := hs.le h h0
  exact ⟨⟨j.toNat, by omega, by simp; omega⟩, hs⟩
theorem zVW {l : List zP} (h : FormA l) : ∀ (n : Nat) (i : Int), 0 ≤ i → i < l.length → i < n → zCQ n l i = some (vR l i) := by
 intro n
 induction n with
 | zero => intro i h0 _ h2; omega
 | succ n ih =>
  intro i h0 h1 h2
  obtain ⟨a, ha⟩ := tH h0 h1
  obtain ⟨hn, _, _, hsub⟩ := h.at ha
  show zHT (zCQ n) l i = _
  have hL := zBK (B := zFW a (zCQ n) l) a.2.2.1 (fun s k => s ++ vR l k) (fun s => s) (fun q s => s.length ≤ 1 + q * 100) [i] (by simp) (fun q k s hk hI => ?_) (fun s hI => ?_)
  ·obtain ⟨e1, e2⟩ := hL
   rw [zGP] at e1 e2
   unfold zHT zAa
   have hin : (decide (0 ≤ i) && decide (i < len l)) = true := by simp [len]; omega
   simp only [hin, zob, Bool.not_true, zbf, if_false, ha, e1]
   have hlen : ([i] ++ a.2.2.1.flatMap (vR l)).length < 4294967296 := by omega
   refine (zQc hlen some).trans ?_
   congr 1
   refine zQL uW (zKB l i) fun j => ?_
   rw [zIO h h0 h1, tV.iff ha]
   simp only [List.singleton_append, List.mem_cons, List.mem_flatMap]
   refine or_congr Iff.rfl (exists_congr fun k => and_congr_right fun hk => ?_)
   have := hsub k hk
   rw [zIO h this.1 (by omega)]
  ·have hks := hsub k (vV hk)
   have hq := vC hk
   have hsl := zEu l k
   have hl := h.len
   unfold zFW
   simp only [wU hk, if_true, wP hk, zob]
   rw [ih k hks.1 (by omega) (by omega)]
   simp only [zob]
   rw [vN (by omega)]
   refine ⟨by simp only [zob, wT hk (by omega)], by rw [List.length_append]; omega⟩
  ·unfold zFW
   simp [len]
theorem zQ7 {l : List zP} (h : FormA l) {i : Int} (h0 : 0 ≤ i) (h1 : i < l.length) : zFo l i = some (vR l i) :=
 zL7 (i.toNat + 1) fun m hm => zVW h m i h0 h1 (by omega)
theorem zUw {l : List zP} (h : FormA l) : ∀ (n : Nat) (i : Int), 0 ≤ i → i < l.length → i < n → zFd n l i = some (vR l i) := by
 intro n
 induction n with
 | zero => intro i h0 _ h2; omega
 | succ n ih =>
  intro i h0 h1 h2
  obtain ⟨a, ha⟩ := tH h0 h1
  obtain ⟨hn, _, _, hsub⟩ := h.at ha
  have hl := h.len
  show zJ8 (zFd n) l i = _
  have hL := yJ (B := zGv l i (zFd n)) (fun q (s : List Int) => (s, (q : Int))) a.2.2.1 (fun q s => vF yD s ∧ (∀ y, y ∈ s ↔ y = i ∨ ∃ k ∈ a.2.2.1.take q, tV l k y) ∧ s.length ≤ 1 + q * 100)
   (fun r => vF yD r ∧ ∀ y, y ∈ r ↔ tV l i y) (fun q k s hk hI => ?_) (fun s hI => ?_) [i] ⟨by simp, by simp, by simp⟩
  ·obtain ⟨r, e1, e2, e3⟩ := hL
   unfold zJ8
   have hin : (decide (i < 0) || decide (len l ≤ i)) = false := by simp [len]; omega
   simp only [hin, zbf, if_false]
   exact e1.trans (congrArg some (vF.ext uW e2 (zKB l i) fun j => by rw [e3, zIO h h0 h1]))
  ·obtain ⟨g1, g2, g3⟩ := hI
   have hks := hsub k (vV hk)
   have hq := vC hk
   have hsl := zEu l k
   obtain ⟨r, e1, e2, e3, e4⟩ := zQF (l := s) (m := vR l k) (by omega) g1
   refine .inl ⟨r, ?_, e2, fun y => ?_, by omega⟩
   ·unfold zGv
    simp only [ha, zob, wU hk, if_true, wP hk]
    rw [ih k hks.1 (by omega) (by omega)]
    simp only [zob, e1, wT hk (by omega)]
   ·rw [e3, g2, zIO h hks.1 (by omega), uE hk]
    simp only [List.mem_append, List.mem_singleton, or_and_right, exists_or, exists_eq_left, or_assoc]
  ·obtain ⟨g1, g2, g3⟩ := hI
   rw [List.take_length] at g2
   refine ⟨s, by unfold zGv; simp [ha, len], g1, fun y => by rw [g2, tV.iff ha]⟩
theorem zQm {l : List zP} (h : FormA l) {i : Int} (h0 : 0 ≤ i) (h1 : i < l.length) : zIS l i = some (vR l i) :=
 zL7 (i.toNat + 1) fun m hm => zUw h m i h0 h1 (by omega)
structure FormB (b : zT) (l : List zP) : Prop extends FormA l where
 np : b.1.length ≤ 100
 nr : b.2.1.length ≤ 100
 kind : ∀ (i : Nat) a, l[i]? = some a → (a.1 = (i : Int) ∧ i < b.1.length ∧ a.2.1 = -1) ∨ (a.1 = -1 ∧ 0 ≤ a.2.1 ∧ a.2.1 < b.2.1.length)
variable {b : zT} {l : List zP}
theorem FormB.prem (h : FormB b l) {j : Int} {a : zP} (hj : zH l j = some a) : (0 ≤ a.1 → a.1 = j ∧ (∃ p, zH b.1 a.1 = some p) ∧ a.2.1 = -1) ∧ (a.1 < 0 → ∃ r, zH b.2.1 a.2.1 = some r) ∧ (0 ≤ a.2.1 ↔ a.1 < 0) := by
 obtain ⟨n, rfl, hn⟩ := zMM hj
 rcases h.kind n a hn with ⟨h1, h2, h3⟩ | ⟨h1, h2, h3⟩
 ·exact ⟨fun _ => ⟨h1, tH (by omega) (by omega), h3⟩, fun h => by omega, by omega⟩
 ·exact ⟨fun h => by omega, fun _ => tH h2 h3, by omega⟩
noncomputable def tU (l : List zP) (i : Int) : List Int := (vR l i).filter fun j => match zH l j with | some a => decide (0 ≤ a.1) | none => false
theorem zQV (l : List zP) (i : Int) : vF yD (tU l i) := (zKB l i).filter _
theorem zJu (l : List zP) (i : Int) : (tU l i).length ≤ l.length := Nat.le_trans (List.length_filter_le _ _) (zEu l i)
theorem zJ6 (h : FormA l) {i : Int} (h0 : 0 ≤ i) (h1 : i < l.length) {j : Int} (hj : j ∈ vR l i) : ∃ a, zH l j = some a := by
 have := ((zIO h h0 h1 j).1 hj).le h h0
 exact tH this.1 (by omega)
theorem zVb {m : List Int} (h : vF yD m) : zQo yD m = m := by
 refine List.Perm.eq_of_pairwise (le := fun x y => yD y x = false) (fun a c _ _ h1 h2 => ?_) (zIP uW m) (h.imp fun h => by simp at h ⊢; omega) (zIr m)
 simp at h1 h2; omega
theorem zRn (h : FormB b l) {i : Int} (h0 : 0 ≤ i) (h1 : i < l.length) : ∀ (m acc : List Int), (∀ j ∈ m, j ∈ vR l i) →
  m.foldl (fun s j => match zH l j with | some a => if decide (0 ≤ a.1) then s ++ [a.1] else s | none => s) acc = acc ++ m.filter fun j => match zH l j with | some a => decide (0 ≤ a.1) | none => false
 | [], acc, _ => by simp
 | j :: m, acc, hm => by
  obtain ⟨a, ha⟩ := zJ6 h.toFormA h0 h1 (hm j List.mem_cons_self)
  rw [List.foldl_cons, zRn h h0 h1 m _ fun q hq => hm q (List.mem_cons_of_mem _ hq), List.filter_cons]
  simp only [ha]
  by_cases hp : 0 ≤ a.1
  ·have := (((h.prem ha).1 hp).1)
   rw [if_pos (by simpa using hp), if_pos (by simpa using hp), this]
   simp
  ·simp [hp]
theorem zLQ (h : FormB b l) {i : Int} (h0 : 0 ≤ i) (h1 : i < l.length) : zCR l i = some (tU l i) := by
 have hl := h.len
 have hsl := zEu l i
 have hL := zBK (B := zC9 (vR l i) l) (vR l i) (fun s j => match zH l j with | some a => if decide (0 ≤ a.1) then s ++ [a.1] else s | none => s) (fun s => s) (fun q s => s.length ≤ q) [] (by simp) (fun q j s hj hI => ?_) (fun s hI => ?_)
 ·unfold zCR
  rw [zQ7 h.toFormA h0 h1]
  simp only [zob]
  rw [hL.1, zRn h h0 h1 _ _ fun j hj => hj]
  simp only [zob, List.nil_append]
  show (zBG (tU l i)).bind _ = _
  have := zJu l i
  rw [zRQ (by omega)]
  rw [zVb (zQV l i)]
  rfl
 ·obtain ⟨a, ha⟩ := zJ6 h.toFormA h0 h1 (vV hj)
  have hq := vC hj
  unfold zC9
  simp only [wU hj, if_true, wP hj, zob, ha]
  by_cases hp : 0 ≤ a.1
  ·simp only [hp, decide_true, if_true]
   rw [vN (by simp; omega)]
   exact ⟨by simp only [zob, wT hj (by omega)], by simp; omega⟩
  ·simp only [hp, decide_false, zbf, if_false]
   exact ⟨by simp only [wT hj (by omega)], by omega⟩
 ·unfold zC9
  simp [len]
theorem zOB (h : FormB b l) {i : Int} (h0 : 0 ≤ i) (h1 : i < l.length) : zFA l i = some (tU l i) := by
 have hl := h.len
 have hsl := zEu l i
 have hL := yJ (B := zEO (vR l i) l) (fun q (s : List Int) => (s, (q : Int))) (vR l i) (fun q s => vF yD s ∧ (∀ y, y ∈ s ↔ y ∈ (vR l i).take q ∧ ∃ a, zH l y = some a ∧ 0 ≤ a.1) ∧ s.length ≤ q)
  (fun r => r = tU l i) (fun q j s hj hI => ?_) (fun s hI => ?_) [] (by simp)
 ·obtain ⟨r, e1, rfl⟩ := hL
  unfold zFA
  rw [zQm h.toFormA h0 h1]
  exact e1
 ·obtain ⟨g1, g2, g3⟩ := hI
  obtain ⟨a, ha⟩ := zJ6 h.toFormA h0 h1 (vV hj)
  have hq := vC hj
  unfold zEO
  simp only [wU hj, if_true, wP hj, zob, ha]
  by_cases hp : 0 ≤ a.1
  ·have haj := ((h.prem ha).1 hp).1
   obtain ⟨r, e1, e2, e3, e4⟩ := zMZ (l := s) a.1 (by omega) g1
   simp only [hp, decide_true, if_true, e1, zob]
   refine .inl ⟨r, by simp only [wT hj (by omega)], e2, fun y => ?_, by omega⟩
   rw [e3, g2, uE hj, haj]
   simp only [List.mem_append, List.mem_singleton]
   constructor
   ·rintro (rfl | ⟨h1, h2⟩)
    ·exact ⟨.inr rfl, a, ha, hp⟩
    ·exact ⟨.inl h1, h2⟩
   ·rintro ⟨h1 | rfl, h2⟩
    ·exact .inr ⟨h1, h2⟩
    ·exact .inl rfl
  ·simp only [hp, decide_false, zbf, if_false]
   refine .inl ⟨s, by simp only [wT hj (by omega)], g1, fun y => ?_, by omega⟩
   rw [g2, uE hj]
   simp only [List.mem_append, List.mem_singleton]
   constructor
   ·rintro ⟨h1, h2⟩; exact ⟨.inl h1, h2⟩
   ·rintro ⟨h1 | rfl, a', ha', hp'⟩
    ·exact ⟨h1, a', ha', hp'⟩
    ·rw [ha] at ha'; cases ha'; exact absurd hp' hp
 ·obtain ⟨g1, g2, g3⟩ := hI
  rw [List.take_length] at g2
  refine ⟨s, by unfold zEO; simp [len], vF.ext uW g1 (zQV l i) fun y => ?_⟩
  rw [g2]
  simp only [tU, List.mem_filter]
  refine and_congr_right fun hy => ?_
  obtain ⟨a, ha⟩ := zJ6 h.toFormA h0 h1 hy
  simp [ha]
abbrev zOX (b : zT) (a : zP) : Bool := match zH b.2.1 a.2.1 with | some r => !r.2.1 | none => false
noncomputable def uB (b : zT) (l : List zP) (i : Int) : List Int := xL yD (((vR l i).filter fun j => match zH l j with | some a => decide (0 ≤ a.2.1) && zOX b a | none => false).map fun j => match zH l j with | some a => a.2.1 | none => 0)
theorem zMj (h : FormB b l) {i : Int} (h0 : 0 ≤ i) (h1 : i < l.length) (y : Int) : y ∈ uB b l i ↔ ∃ j ∈ vR l i, ∃ a, zH l j = some a ∧ 0 ≤ a.2.1 ∧ zOX b a = true ∧ y = a.2.1 := by
 rw [uB, zYs]
 simp only [List.mem_map, List.mem_filter]
 constructor
 ·rintro ⟨j, ⟨h2, h3⟩, h4⟩
  obtain ⟨a, ha⟩ := zJ6 h.toFormA h0 h1 h2
  simp only [ha, Bool.and_eq_true, decide_eq_true_eq] at h3 h4
  exact ⟨j, h2, a, ha, h3.1, h3.2, h4.symm⟩
 ·rintro ⟨j, h2, a, ha, h3, h4, rfl⟩
  exact ⟨j, ⟨h2, by simp only [ha, Bool.and_eq_true, decide_eq_true_eq]; exact ⟨h3, h4⟩⟩, by simp only [ha]⟩
theorem zIN (b : zT) (l : List zP) (i : Int) : (uB b l i).length ≤ l.length := by
 refine Nat.le_trans (zQ3 yD _) ?_
 rw [List.length_map]
 exact Nat.le_trans (List.length_filter_le _ _) (zEu l i)
theorem zML (h : FormB b l) {i : Int} (h0 : 0 ≤ i) (h1 : i < l.length) : zBa b l i = some (uB b l i) := by
 have hl := h.len
 have hsl := zEu l i
 have hL := yJ (B := zBh (vR l i) l b) (fun q (s : List Int) => (s, (q : Int))) (vR l i) (fun q s => s = (((vR l i).take q).filter fun j => match zH l j with | some a => decide (0 ≤ a.2.1) && zOX b a | none => false).map (fun j => match zH l j with | some a => a.2.1 | none => 0) ∧ s.length ≤ q)
  (fun r => r = ((vR l i).filter fun j => match zH l j with | some a => decide (0 ≤ a.2.1) && zOX b a | none => false).map fun j => match zH l j with | some a => a.2.1 | none => 0) (fun q j s hj hI => ?_) (fun s hI => ?_) [] (by simp)
 ·obtain ⟨r, e1, rfl⟩ := hL
  unfold zBa
  rw [zQ7 h.toFormA h0 h1]
  simp only [zob]
  refine (congrArg (fun o => Option.bind o _) e1).trans ?_
  simp only [zob]
  refine (zQc ?_ some).trans rfl
  rw [List.length_map]
  have := List.length_filter_le (fun j => match zH l j with | some a => decide (0 ≤ a.2.1) && zOX b a | none => false) (vR l i)
  omega
 ·obtain ⟨g1, g3⟩ := hI
  obtain ⟨a, ha⟩ := zJ6 h.toFormA h0 h1 (vV hj)
  have hq := vC hj
  have hc : (if decide (0 ≤ a.2.1) = true then (zH b.2.1 a.2.1).bind fun x3 => some (!x3.2.1) else some false) = some (decide (0 ≤ a.2.1) && zOX b a) := by
   by_cases hr : 0 ≤ a.2.1
   ·obtain ⟨r, hr2⟩ := (h.prem ha).2.1 ((h.prem ha).2.2.1 hr)
    simp [hr, zOX, hr2]
   ·simp [hr]
  unfold zBh
  simp only [wU hj, if_true, wP hj, zob, ha, hc]
  cases hd : (decide (0 ≤ a.2.1) && zOX b a) with
  | true =>
   simp only [if_true]
   rw [vN (by simp; omega)]
   refine .inl ⟨s ++ [a.2.1], by simp only [zob, wT hj (by omega)], ?_, by simp; omega⟩
   rw [uE hj, List.filter_append, List.map_append, ← g1]
   simp [ha, hd]
  | false =>
   simp only [zbf, if_false]
   refine .inl ⟨s, by simp only [wT hj (by omega)], ?_, by omega⟩
   rw [uE hj, List.filter_append, List.map_append, ← g1]
   simp [ha, hd]
 ·obtain ⟨g1, g3⟩ := hI
  rw [List.take_length] at g1
  exact ⟨s, by unfold zBh; simp [len], g1⟩
theorem zMJ (h : FormB b l) {i : Int} (h0 : 0 ≤ i) (h1 : i < l.length) : zBm b l i = some (uB b l i) := by
 have hl := h.len
 have hsl := zEu l i
 have hL := yJ (B := zCz (vR l i) l b) (fun q (s : List Int) => (s, (q : Int))) (vR l i) (fun q s => vF yD s ∧ (∀ y, y ∈ s ↔ ∃ j ∈ (vR l i).take q, ∃ a, zH l j = some a ∧ 0 ≤ a.2.1 ∧ zOX b a = true ∧ y = a.2.1) ∧ s.length ≤ q)
  (fun r => r = uB b l i) (fun q j s hj hI => ?_) (fun s hI => ?_) [] (by simp)
 ·obtain ⟨r, e1, rfl⟩ := hL
  unfold zBm
  rw [zQm h.toFormA h0 h1]
  exact e1
 ·obtain ⟨g1, g2, g3⟩ := hI
  obtain ⟨a, ha⟩ := zJ6 h.toFormA h0 h1 (vV hj)
  have hq := vC hj
  have hc : (if decide (0 ≤ a.2.1) = true then (zH b.2.1 a.2.1).bind fun x3 => some (!x3.2.1) else some false) = some (decide (0 ≤ a.2.1) && zOX b a) := by
   by_cases hr : 0 ≤ a.2.1
   ·obtain ⟨r, hr2⟩ := (h.prem ha).2.1 ((h.prem ha).2.2.1 hr)
    simp [hr, zOX, hr2]
   ·simp [hr]
  unfold zCz
  simp only [wU hj, if_true, wP hj, zob, ha, hc]
  cases hd : (decide (0 ≤ a.2.1) && zOX b a) with
  | true =>
   obtain ⟨r, e1, e2, e3, e4⟩ := zMZ (l := s) a.2.1 (by omega) g1
   simp only [if_true, e1, zob]
   simp only [Bool.and_eq_true, decide_eq_true_eq] at hd
   refine .inl ⟨r, by simp only [wT hj (by omega)], e2, fun y => ?_, by omega⟩
   rw [e3, g2, uE hj]
   simp only [List.mem_append, List.mem_singleton, or_and_right, exists_or, exists_eq_left]
   rw [or_comm]
   refine or_congr Iff.rfl ⟨fun h => ⟨a, ha, hd.1, hd.2, h⟩, fun ⟨a', h1, _, _, h2⟩ => ?_⟩
   rw [ha] at h1; cases h1; exact h2
  | false =>
   simp only [zbf, if_false]
   refine .inl ⟨s, by simp only [wT hj (by omega)], g1, fun y => ?_, by omega⟩
   rw [g2, uE hj]
   simp only [List.mem_append, List.mem_singleton, or_and_right, exists_or, exists_eq_left]
   refine ⟨.inl, fun h => h.elim (fun h => h) fun ⟨a', h1, h2, h3, _⟩ => ?_⟩
   rw [ha] at h1; cases h1
   simp [h2, h3] at hd
 ·obtain ⟨g1, g2, g3⟩ := hI
  rw [List.take_length] at g2
  refine ⟨s, by unfold zCz; simp [len], vF.ext uW g1 (zSl _) fun y => ?_⟩
  rw [g2]
  exact (zMj h h0 h1 y).symm
inductive zLG (b : zT) (l : List zP) : Int → Int → Prop
 | here {i : Int} {a : zP} {r : wD} : zH l i = some a → 0 ≤ a.2.1 → zH b.2.1 a.2.1 = some r → r.2.1 = false → zLG b l i a.2.1
 | step {i k y : Int} {a : zP} {r : wD} : zH l i = some a → 0 ≤ a.2.1 → zH b.2.1 a.2.1 = some r → r.2.1 = true → k ∈ a.2.2.1 → zLG b l k y → zLG b l i y
theorem zLG.rng (_h : FormB b l) {i y : Int} (hs : zLG b l i y) : 0 ≤ y ∧ y < b.2.1.length := by
 induction hs with
 | here h1 h2 h3 h4 => obtain ⟨n, hn, h5⟩ := zMM h3; have := vC h5; omega
 | step _ _ _ _ _ _ ih => exact ih
open Classical in
noncomputable def yQ (b : zT) (l : List zP) (i : Int) : List Int := ((List.range b.2.1.length).map Int.ofNat).filter fun y => decide (zLG b l i y)
theorem zOs (b : zT) (l : List zP) (i : Int) : vF yD (yQ b l i) := by
 refine List.Pairwise.filter _ ?_
 rw [List.pairwise_map]
 exact List.pairwise_lt_range.imp fun {a b} h => by simp; omega
theorem zIJ (b : zT) (l : List zP) (i : Int) : (yQ b l i).length ≤ b.2.1.length := Nat.le_trans (List.length_filter_le _ _) (by simp)
theorem zJt (h : FormB b l) (i y : Int) : y ∈ yQ b l i ↔ zLG b l i y := by
 simp only [yQ, List.mem_filter, List.mem_map, List.mem_range, decide_eq_true_eq]
 exact ⟨fun h => h.2, fun hs => by have := hs.rng h; exact ⟨⟨y.toNat, by omega, by simp; omega⟩, hs⟩⟩
theorem zSD {i : Int} {a : zP} (ha : zH l i = some a) (hr : a.2.1 < 0) : yQ b l i = [] := by
 simp only [yQ, List.filter_eq_nil_iff, decide_eq_true_eq]
 intro y _ hy
 cases hy with
 | here h1 h2 _ _ => rw [ha] at h1; cases h1; omega
 | step h1 h2 _ _ _ _ => rw [ha] at h1; cases h1; omega
theorem zUB (h : FormB b l) {i : Int} {a : zP} {r : wD} (ha : zH l i = some a) (h0 : 0 ≤ a.2.1) (hr : zH b.2.1 a.2.1 = some r) (hs : r.2.1 = false) : yQ b l i = [a.2.1] := by
 refine vF.ext uW (zOs b l i) (by simp) fun y => ?_
 rw [zJt h, List.mem_singleton]
 constructor
 ·intro hy
  cases hy with
  | here h1 _ _ _ => rw [ha] at h1; cases h1; rfl
  | step h1 _ h3 h4 _ _ => rw [ha] at h1; cases h1; rw [hr] at h3; cases h3; rw [hs] at h4; cases h4
 ·rintro rfl; exact .here ha h0 hr hs
theorem zS2 {i y : Int} {a : zP} {r : wD} (ha : zH l i = some a) (h0 : 0 ≤ a.2.1) (hr : zH b.2.1 a.2.1 = some r) (hs : r.2.1 = true) : zLG b l i y ↔ ∃ k ∈ a.2.2.1, zLG b l k y := by
 constructor
 ·intro hy
  cases hy with
  | here h1 _ h3 h4 => rw [ha] at h1; cases h1; rw [hr] at h3; cases h3; rw [hs] at h4; cases h4
  | step h1 _ _ _ h5 h6 => rw [ha] at h1; cases h1; exact ⟨_, h5, h6⟩
 ·rintro ⟨k, h1, h2⟩; exact .step ha h0 hr hs h1 h2
theorem zUk (h : FormB b l) : ∀ (n : Nat) (i : Int), 0 ≤ i → i < l.length → i < n → zC1 n b l i = some (yQ b l i) := by
 intro n
 induction n with
 | zero => intro i h0 _ h2; omega
 | succ n ih =>
  intro i h0 h1 h2
  obtain ⟨a, ha⟩ := tH h0 h1
  obtain ⟨hn, _, _, hsub⟩ := h.toFormA.at ha
  have hin : (decide (0 ≤ i) && decide (i < len l)) = true := by simp [len]; omega
  show zHW (zC1 n) b l i = _
  unfold zHW zAa
  simp only [hin, zob, Bool.not_true, zbf, if_false, ha]
  by_cases hr : a.2.1 < 0
  ·simp only [hr, decide_true, if_true]
   rw [zSD ha hr]
  ·simp only [hr, decide_false, zbf, if_false]
   obtain ⟨r, hr2⟩ := (h.prem ha).2.1 ((h.prem ha).2.2.1 (by omega))
   simp only [hr2, zob]
   cases hs : r.2.1 with
   | false =>
    simp only [Bool.not_false, if_true]
    rw [zUB h ha (by omega) hr2 hs]
   | true =>
    simp only [Bool.not_true, zbf, if_false]
    have hnr := h.nr
    have hL := zBK (B := zFL a (zC1 n) b l) a.2.2.1 (fun s k => s ++ yQ b l k) (fun s => s) (fun q s => s.length ≤ q * 100) [] (by simp) (fun q k s hk hI => ?_) (fun s hI => ?_)
    ·obtain ⟨e1, e2⟩ := hL
     rw [zGP] at e1 e2
     rw [e1]
     simp only [zob]
     refine (zQc (by omega) some).trans ?_
     congr 1
     refine zQL uW (zOs b l i) fun y => ?_
     rw [zJt h, zS2 ha (by omega) hr2 hs]
     simp only [List.nil_append, List.mem_flatMap, zJt h]
    ·have hks := hsub k (vV hk)
     have hq := vC hk
     have hsl := zIJ b l k
     unfold zFL
     simp only [wU hk, if_true, wP hk, zob]
     rw [ih k hks.1 (by omega) (by omega)]
     simp only [zob]
     rw [vN (by omega)]
     refine ⟨by simp only [zob, wT hk (by omega)], by rw [List.length_append]; omega⟩
    ·unfold zFL
     simp [len]
theorem zX3 (h : FormB b l) {i : Int} (h0 : 0 ≤ i) (h1 : i < l.length) : zJM b l i = some (yQ b l i) :=
 zL7 (i.toNat + 1) fun m hm => zUk h m i h0 h1 (by omega)
theorem zUq (h : FormB b l) : ∀ (n : Nat) (i : Int), 0 ≤ i → i < l.length → i < n → zFp n b l i = some (yQ b l i) := by
 intro n
 induction n with
 | zero => intro i h0 _ h2; omega
 | succ n ih =>
  intro i h0 h1 h2
  obtain ⟨a, ha⟩ := tH h0 h1
  obtain ⟨hn, _, _, hsub⟩ := h.toFormA.at ha
  have hi0 : ¬ i < 0 := by omega
  have hi1 : ¬ len l ≤ i := by simp [len]; omega
  show zJc (zFp n) b l i = _
  unfold zJc
  simp only [hi0, hi1, decide_false, zob, zbf, if_false, ha]
  by_cases hr : a.2.1 < 0
  ·simp only [hr, decide_true, if_true]
   rw [zSD ha hr]
  ·simp only [hr, decide_false, zbf, if_false]
   obtain ⟨r, hr2⟩ := (h.prem ha).2.1 ((h.prem ha).2.2.1 (by omega))
   simp only [hr2, zob]
   cases hs : r.2.1 with
   | false =>
    simp only [Bool.not_false, if_true]
    rw [zUB h ha (by omega) hr2 hs]
   | true =>
    simp only [Bool.not_true, zbf, if_false]
    have hnr := h.nr
    have hL := yJ (B := zHF l i (zFp n) b) (fun q (s : List Int) => (s, (q : Int))) a.2.2.1 (fun q s => vF yD s ∧ (∀ y, y ∈ s ↔ ∃ k ∈ a.2.2.1.take q, zLG b l k y) ∧ s.length ≤ q * 100)
     (fun r => vF yD r ∧ ∀ y, y ∈ r ↔ zLG b l i y) (fun q k s hk hI => ?_) (fun s hI => ?_) [] (by simp)
    ·obtain ⟨r', e1, e2, e3⟩ := hL
     exact e1.trans (congrArg some (vF.ext uW e2 (zOs b l i) fun j => by rw [e3, zJt h]))
    ·obtain ⟨g1, g2, g3⟩ := hI
     have hks := hsub k (vV hk)
     have hq := vC hk
     have hsl := zIJ b l k
     obtain ⟨r', e1, e2, e3, e4⟩ := zQF (l := s) (m := yQ b l k) (by omega) g1
     refine .inl ⟨r', ?_, e2, fun y => ?_, by omega⟩
     ·unfold zHF
      simp only [ha, zob, wU hk, if_true, wP hk]
      rw [ih k hks.1 (by omega) (by omega)]
      simp only [zob, e1, wT hk (by omega)]
     ·rw [e3, g2, zJt h, uE hk]
      simp only [List.mem_append, List.mem_singleton, or_and_right, exists_or, exists_eq_left]
    ·obtain ⟨g1, g2, g3⟩ := hI
     rw [List.take_length] at g2
     refine ⟨s, by unfold zHF; simp [ha, len], g1, fun y => by rw [g2, zS2 ha (by omega) hr2 hs]⟩
theorem zYG (h : FormB b l) {i : Int} (h0 : 0 ≤ i) (h1 : i < l.length) : zLX b l i = some (yQ b l i) :=
 zL7 (i.toNat + 1) fun m hm => zUq h m i h0 h1 (by omega)
end
section
def minF : List Int → Int
 | [] => 0
 | x :: r => r.foldl (fun m y => if y < m then y else m) x
def maxF : List Int → Int
 | [] => 0
 | x :: r => r.foldl (fun m y => if y > m then y else m) x
def zGa (x y : List Int) (o : Int) : Bool := (o == 1 || o == 2) && !x.isEmpty && (y.isEmpty || if o == 1 then decide (minF x < minF y) else decide (maxF x < maxF y))
theorem zQE {l : List Int} (h : l ≠ []) (hl : l.length < 4294967296) : zEg l = some (minF l) := by
 match l, h with
 | x :: r, _ =>
  have h1 : decide (len (x :: r) < 1) = false := by simp [len]; omega
  unfold zEg
  simp only [h1, zbf, if_false, zob, show zH (x :: r) 0 = some x from rfl]
  refine zPz (B := zEG (x :: r)) (x :: r) (fun m y => if y < m then y else m) (fun m => m) 1 (by simp) x (fun i y s hy => ?_) (fun s => ?_)
  ·unfold zEG
   simp only [wU hy, if_true, wP hy, zob, wT hy hl]
  ·unfold zEG
   simp only [yC, zbf, if_false]
theorem zQH {l : List Int} (h : l ≠ []) (hl : l.length < 4294967296) : zEj l = some (maxF l) := by
 match l, h with
 | x :: r, _ =>
  have h1 : decide (len (x :: r) < 1) = false := by simp [len]; omega
  unfold zEj
  simp only [h1, zbf, if_false, zob, show zH (x :: r) 0 = some x from rfl]
  refine zPz (B := zEV (x :: r)) (x :: r) (fun m y => if y > m then y else m) (fun m => m) 1 (by simp) x (fun i y s hy => ?_) (fun s => ?_)
  ·unfold zEV
   simp only [wU hy, if_true, wP hy, zob, wT hy hl]
  ·unfold zEV
   simp only [yC, zbf, if_false]
theorem zJa {l : List Int} (h : l ≠ []) (hl : l.length < 4294967296) : zEn l = some (minF l, maxF l) := by
 match l, h with
 | x :: r, _ =>
  unfold zEn
  simp only [zob, show zH (x :: r) 0 = some x from rfl]
  have key : ∀ (n i : Nat) (a b : Int), i + n = (x :: r).length → zW (zEN (x :: r)) (a, b, (i : Int)) = some (((x :: r).drop i).foldl (fun m y => if y < m then y else m) a, ((x :: r).drop i).foldl (fun m y => if y > m then y else m) b) := by
   intro n
   induction n with
   | zero =>
    intro i a b h
    rw [Nat.add_zero] at h
    subst h
    rw [yA]
    unfold zEN
    simp only [yC, zbf, if_false, List.drop_length]
    rfl
   | succ n ih =>
    intro i a b h
    have hx : (x :: r)[i]? = some (x :: r)[i] := List.getElem?_eq_getElem (by omega)
    rw [yA]
    unfold zEN
    simp only [wU hx, if_true, wP hx, zob, wT hx hl]
    rw [List.drop_eq_getElem_cons (by omega)]
    exact ih (i + 1) _ _ (by omega)
  exact key r.length 1 x x (by simp; omega)
theorem zZL {α : Type} (l : List α) : ((len l) == 0) = l.isEmpty := by
 cases l with
 | nil => rfl
 | cons x r => rw [beq_eq_false_iff_ne.2 (by simp [len]; omega)]; rfl
theorem isE {α : Type} {l : List α} (h : l.isEmpty = false) : l ≠ [] := fun e => by subst e; cases h
theorem zLe {x y : List Int} (o : Int) (hx : x.length < 4294967296) (hy : y.length < 4294967296) : zFC x y o = some (zGa x y o) := by
 unfold zFC zGa
 simp only [zZL]
 cases hxe : x.isEmpty with
 | true => simp
 | false =>
  by_cases h1 : o = 1
  ·subst h1
   cases hye : y.isEmpty with
   | true => simp
   | false => simp [zQE (isE hxe) hx, zQE (isE hye) hy]
  ·by_cases h2 : o = 2
   ·subst h2
    cases hye : y.isEmpty with
    | true => simp
    | false => simp [zQH (isE hxe) hx, zQH (isE hye) hy]
   ·simp [h1, h2]
theorem zMT {x y : List Int} (o : Int) (hx : x.length < 4294967296) (hy : y.length < 4294967296) : zDk x y o = some (zGa x y o) := by
 unfold zDk zGa
 simp only [zZL]
 cases hxe : x.isEmpty with
 | true => simp
 | false =>
  by_cases h1 : o = 1
  ·subst h1
   cases hye : y.isEmpty with
   | true => simp
   | false => simp [zJa (isE hxe) hx, zJa (isE hye) hy]
  ·by_cases h2 : o = 2
   ·subst h2
    cases hye : y.isEmpty with
    | true => simp
    | false => simp [zJa (isE hxe) hx, zJa (isE hye) hy]
   ·simp [h1, h2]
variable {b : zT} {l : List zP}
theorem zOb (h : FormB b l) {i : Int} (h0 : 0 ≤ i) (h1 : i < l.length) {p : Int} (hp : p ∈ tU l i) : ∃ q, zH b.1 p = some q := by
 obtain ⟨h2, h3⟩ := List.mem_filter.1 hp
 obtain ⟨a, ha⟩ := zJ6 h.toFormA h0 h1 h2
 simp only [ha, decide_eq_true_eq] at h3
 obtain ⟨e1, ⟨q, e2⟩, _⟩ := (h.prem ha).1 h3
 exact ⟨q, by rw [← e1]; exact e2⟩
theorem zUF (h : FormB b l) {i : Int} (h0 : 0 ≤ i) (h1 : i < l.length) {y : Int} (hy : y ∈ uB b l i) : ∃ q, zH b.2.1 y = some q := by
 obtain ⟨j, _, a, ha, h3, _, rfl⟩ := (zMj h h0 h1 y).1 hy
 exact (h.prem ha).2.1 ((h.prem ha).2.2.1 h3)
theorem zU0 (h : FormB b l) {i y : Int} (hy : y ∈ yQ b l i) : ∃ q, zH b.2.1 y = some q := by
 have := ((zJt h i y).1 hy).rng h
 exact tH this.1 this.2
def zPF (b : zT) (k p : Int) : Bool := match zH b.1 p with | some q => q.2.1 == k | none => false
noncomputable def zIC (b : zT) (l : List zP) (i : Int) : Bool := (tU l i).any (zPF b 3)
def zLm (b : zT) (p : Int) : List Int := match zH b.1 p with | some q => if q.2.1 == 2 then [q.2.2.1] else if q.2.1 == 3 then [-1] else [] | none => []
noncomputable def xR (b : zT) (l : List zP) (i : Int) : List Int := (tU l i).flatMap (zLm b)
def zWE (b : zT) (y : Int) : Int := match zH b.2.1 y with | some q => q.2.2.1 | none => 0
abbrev xC (b : zT) (rs : List Int) : List Int := rs.map (zWE b)
theorem zLj {rs : List Int} (hl : rs.length < 4294967296) (h : ∀ y ∈ rs, ∃ q, zH b.2.1 y = some q) : zJV b rs = some (xC b rs) := by
 have hL := zBK (B := zHV rs b) rs (fun s y => s ++ [zWE b y]) (fun s => s) (fun q s => s.length = q) [] rfl (fun i y s hy hI => ?_) (fun s hI => ?_)
 ·obtain ⟨e1, _⟩ := hL
  rw [zH1] at e1
  exact e1
 ·obtain ⟨q, hq⟩ := h y (vV hy)
  have := vC hy
  unfold zHV
  simp only [wU hy, if_true, wP hy, zob, hq]
  rw [vN (by simp; omega)]
  exact ⟨by simp only [zob, wT hy hl, zWE, hq], by simp; omega⟩
 ·unfold zHV
  simp [len]
theorem zMh (h : FormB b l) {i : Int} (h0 : 0 ≤ i) (h1 : i < l.length) : zDe b l i = some (xC b (yQ b l i)) := by
 have hll := zIJ b l i
 have hnr := h.nr
 unfold zDe
 rw [zYG h h0 h1]
 exact zLj (by omega) fun y hy => zU0 h hy
theorem zIA (h : FormB b l) {i : Int} (h0 : 0 ≤ i) (h1 : i < l.length) : zBt b l i = some (xC b (yQ b l i)) := by
 have hll := zIJ b l i
 have hnr := h.nr
 unfold zBt
 rw [zX3 h h0 h1]
 simp only [zob, zLj (show (yQ b l i).length < 4294967296 by omega) fun y hy => zU0 h hy]
theorem zMm (h : FormB b l) {i : Int} (h0 : 0 ≤ i) (h1 : i < l.length) : zD8 b l i = some (xC b (uB b l i)) := by
 have hll := zIN b l i
 have hnr := h.len
 unfold zD8
 rw [zMJ h h0 h1]
 exact zLj (by omega) fun y hy => zUF h h0 h1 hy
theorem zHy (h : FormB b l) {i : Int} (h0 : 0 ≤ i) (h1 : i < l.length) : zBp b l i = some (xC b (uB b l i)) := by
 have hll := zIN b l i
 have hnr := h.len
 unfold zBp
 rw [zML h h0 h1]
 simp only [zob, zLj (show (uB b l i).length < 4294967296 by omega) fun y hy => zUF h h0 h1 hy]
theorem zOD (b : zT) (p : Int) : (zLm b p).length ≤ 1 := by
 unfold zLm
 split
 ·split
  ·simp
  ·split <;> simp
 ·simp
theorem zDv (h : FormB b l) {i : Int} (h0 : 0 ≤ i) (h1 : i < l.length) : zAl b l i = some (xR b l i) := by
 have hpl := zJu l i
 have hl := h.len
 have hL := zBK (B := zBX (tU l i) b) (tU l i) (fun s p => s ++ zLm b p) (fun s => s) (fun q s => s.length ≤ q) [] (by simp) (fun j p s hp hI => ?_) (fun s hI => ?_)
 ·obtain ⟨e1, _⟩ := hL
  rw [zGP] at e1
  unfold zAl
  rw [zLQ h h0 h1]
  exact e1
 ·obtain ⟨q, hq⟩ := zOb h h0 h1 (vV hp)
  have := vC hp
  have hpr := zOD b p
  unfold zBX
  simp only [wU hp, if_true, wP hp, zob, hq]
  refine ⟨?_, by rw [List.length_append]; omega⟩
  unfold zLm
  simp only [hq]
  cases hk2 : q.2.1 == 2 with
  | true =>
   simp only [if_true]
   rw [vN (by simp; omega)]
   simp only [zob, wT hp (by omega)]
  | false =>
   cases hk3 : q.2.1 == 3 with
   | true =>
    simp only [zbf, if_false, if_true]
    rw [vN (by simp; omega)]
    simp only [zob, wT hp (by omega)]
   | false => simp only [zbf, if_false, List.append_nil, wT hp (by omega)]
 ·unfold zBX
  simp [len]
theorem zKr (h : FormB b l) {i : Int} (h0 : 0 ≤ i) (h1 : i < l.length) : zAt b l i = some (xR b l i) := by
 have e := zDv h h0 h1
 unfold zAl at e
 unfold zAt
 rw [zLQ h h0 h1] at e
 rw [zOB h h0 h1]
 simp only [zob] at e ⊢
 rw [← e]
 congr 1
 funext s
 unfold zHJ zBX
 split
 ·cases h2 : zH (tU l i) s.2 with
  | none => rfl
  | some p =>
   simp only [zob]
   cases h3 : zH b.1 p with
   | none => rfl
   | some q => rfl
 ·rfl
theorem zRT (h : FormB b l) {i : Int} (h0 : 0 ≤ i) (h1 : i < l.length) : zID b l i = some (zIC b l i) := by
 have hpl := zJu l i
 have hl := h.len
 have key : ∃ r, zW (zAF (tU l i) b) 0 = some r ∧ decide (0 ≤ r) = zIC b l i := by
  have hc : ∀ p ∈ tU l i, zGW p b = some (zPF b 3 p) := fun p hp => by
   obtain ⟨q, hq⟩ := zOb h h0 h1 hp
   simp [zGW, zPF, hq]
  have hL := yJ (B := zAF (tU l i) b) (fun q (_ : Unit) => (q : Int)) (tU l i) (fun q _ => ∀ j x, j < q → (tU l i)[j]? = some x → zPF b 3 x = false) (fun r => decide (0 ≤ r) = zIC b l i) ?_ ?_ () (by omega)
  ·exact hL
  ·intro q p s hp hI
   unfold zAF
   simp only [wU hp, if_true, wP hp, zob, hc p (vV hp)]
   cases hk : zPF b 3 p with
   | true =>
    refine .inr ⟨_, by simp only [if_true]; rfl, ?_⟩
    have : zIC b l i = true := List.any_eq_true.2 ⟨p, vV hp, hk⟩
    rw [this]; simp
   | false =>
    refine .inl ⟨(), by simp only [zbf, if_false, wT hp (by omega)], fun j x hj hx => ?_⟩
    rcases Nat.lt_succ_iff_lt_or_eq.1 hj with h | rfl
    ·exact hI j x h hx
    ·rw [hp] at hx; cases hx; exact hk
  ·intro s hI
   unfold zAF
   refine ⟨-1, by simp only [yC, zbf, if_false], ?_⟩
   have : zIC b l i = false := by
    rw [zIC, List.any_eq_false]
    intro p hp
    obtain ⟨j, hj⟩ := List.mem_iff_getElem?.1 hp
    simp [hI j p (vC hj) hj]
   rw [this]; rfl
 obtain ⟨r, h2, h3⟩ := key
 unfold zID zAc zAp
 rw [zLQ h h0 h1]
 simp only [zob, h2, h3]
theorem zTR (h : FormB b l) {i : Int} (h0 : 0 ≤ i) (h1 : i < l.length) : zHS b l i = some (zIC b l i) := by
 have hpl := zJu l i
 have hl := h.len
 unfold zHS
 rw [zOB h h0 h1]
 simp only [zob]
 refine zK2 (B := zF0 (tU l i) b) (tU l i) (zPF b 3) (fun q p hp => ?_) ?_
 ·obtain ⟨r, hr⟩ := zOb h h0 h1 (vV hp)
  unfold zF0
  simp only [wU hp, if_true, wP hp, zob, hr, zPF, wT hp (by omega)]
  split <;> rfl
 ·unfold zF0
  simp only [yC, zbf, if_false]
noncomputable def zOU (b : zT) (l : List zP) (i k : Int) (o : wQ) : Bool :=
 decide (0 ≤ i) && decide (i < l.length) && decide (0 ≤ k) && decide (k < l.length) && !zIC b l k &&
 let pr := zGa (xR b l i) (xR b l k) o.2
 if o.1 == 1 then zGa (xC b (yQ b l i)) (xC b (yQ b l k)) o.2 || ((yQ b l i).isEmpty && (yQ b l k).isEmpty && pr)
 else if o.1 == 2 then
  if (uB b l i).isEmpty && (uB b l k).isEmpty then pr
  else if (xR b l i).isEmpty && (xR b l k).isEmpty then zGa (xC b (uB b l i)) (xC b (uB b l k)) o.2
  else pr && zGa (xC b (uB b l i)) (xC b (uB b l k)) o.2
 else false
theorem zIn (b : zT) (l : List zP) (i : Int) : (xR b l i).length ≤ l.length := by
 have key : ∀ m : List Int, (m.flatMap (zLm b)).length ≤ m.length := by
  intro m
  induction m with
  | nil => simp
  | cons x m ih => have := zOD b x; simp only [List.flatMap_cons, List.length_append, List.length_cons]; omega
 exact Nat.le_trans (key _) (zJu l i)
theorem zMX {α β : Type} (f : α → β) (l : List α) : (l.map f).isEmpty = l.isEmpty := by cases l <;> rfl
theorem zWx (h : FormB b l) (i k : Int) (o : wQ) : zK4 b l i k o = some (zOU b l i k o) := by
 have hl := h.len
 have hnr := h.nr
 unfold zK4
 by_cases hr : 0 ≤ i ∧ i < l.length ∧ 0 ≤ k ∧ k < l.length
 ·obtain ⟨i0, i1, k0, k1⟩ := hr
  have c1 : decide ((if k < i then k else i) < 0) = false := by simp; split <;> omega
  have c2 : decide (len l ≤ (if k > i then k else i)) = false := by simp [len]; split <;> omega
  simp only [c1, c2, zbf, if_false, zRT h k0 k1, zob]
  have f1 := zIn b l i
  have f2 := zIn b l k
  have f3 := zIJ b l i
  have f4 := zIJ b l k
  have f5 := zIN b l i
  have f6 := zIN b l k
  cases ha : zIC b l k with
  | true => simp [zOU, ha]
  | false =>
   have sP : zAI b l i k o = some (zGa (xR b l i) (xR b l k) o.2) := by
    unfold zAI
    simp only [zDv h i0 i1, zDv h k0 k1, zob, zLe o.2 (show (xR b l i).length < 4294967296 by omega) (show (xR b l k).length < 4294967296 by omega)]
   have sL : zBA b l i k o = some (zGa (xC b (yQ b l i)) (xC b (yQ b l k)) o.2) := by
    unfold zBA
    simp only [zIA h i0 i1, zIA h k0 k1, zob, zLe o.2 (show (xC b (yQ b l i)).length < 4294967296 by simp; omega) (show (xC b (yQ b l k)).length < 4294967296 by simp; omega)]
   have sR : zA7 b l i k o = some (zGa (xC b (uB b l i)) (xC b (uB b l k)) o.2) := by
    unfold zA7
    simp only [zHy h i0 i1, zHy h k0 k1, zob, zLe o.2 (show (xC b (uB b l i)).length < 4294967296 by simp; omega) (show (xC b (uB b l k)).length < 4294967296 by simp; omega)]
   have nL : zAz b l i k = some ((yQ b l i).isEmpty && (yQ b l k).isEmpty) := by
    unfold zAz
    simp only [zIA h i0 i1, zIA h k0 k1, zob, zZL, zMX]
    cases (yQ b l i).isEmpty <;> simp
   have nP : zAh b l i k = some ((xR b l i).isEmpty && (xR b l k).isEmpty) := by
    unfold zAh
    simp only [zDv h i0 i1, zDv h k0 k1, zob, zZL]
    cases (xR b l i).isEmpty <;> simp
   have nR : zBB b l i k = some ((uB b l i).isEmpty && (uB b l k).isEmpty) := by
    unfold zBB
    simp only [zHy h i0 i1, zHy h k0 k1, zob, zZL, zMX]
    cases (uB b l i).isEmpty <;> simp
   simp only [zbf, if_false, zCk, zCi, sP, sL, sR, nL, nP, nR, zob, zOU, i0, i1, k0, k1, ha, decide_true, Bool.not_false, Bool.true_and]
   by_cases o1 : o.1 = 1
   ·simp only [o1, beq_self_eq_true, if_true]
    cases zGa (xC b (yQ b l i)) (xC b (yQ b l k)) o.2 <;> cases (yQ b l i).isEmpty <;> cases (yQ b l k).isEmpty <;> simp
   ·have o1' : (o.1 == 1) = false := beq_eq_false_iff_ne.2 o1
    simp only [o1', zbf, if_false]
    cases o.1 == 2
    ·simp
    ·cases (uB b l i).isEmpty <;> cases (uB b l k).isEmpty <;> cases (xR b l i).isEmpty <;> cases (xR b l k).isEmpty <;> cases zGa (xR b l i) (xR b l k) o.2 <;> simp
 ·have hf : zOU b l i k o = false := by
   unfold zOU
   by_cases a1 : 0 ≤ i <;> by_cases a2 : i < l.length <;> by_cases a3 : 0 ≤ k <;> by_cases a4 : k < l.length <;> simp [a1, a2, a3, a4]
   exact absurd ⟨a1, a2, a3, a4⟩ hr
  rw [hf]
  by_cases c1 : (if k < i then k else i) < 0
  ·simp [c1]
  ·have c2 : len l ≤ (if k > i then k else i) := by
    simp only [len]
    split at c1 <;> split <;> omega
   simp only [c1, c2, decide_true, decide_false, zbf, if_true, if_false, zob]
theorem zYN (h : FormB b l) (i k : Int) (o : wQ) : zIK b l i k o = some (zOU b l i k o) := by
 have hl := h.len
 have hnr := h.nr
 unfold zIK
 by_cases hr : 0 ≤ i ∧ i < l.length ∧ 0 ≤ k ∧ k < l.length
 ·obtain ⟨i0, i1, k0, k1⟩ := hr
  have c1 : ¬ i < 0 := by omega
  have c2 : ¬ len l ≤ i := by simp [len]; omega
  have c3 : ¬ k < 0 := by omega
  have c4 : ¬ len l ≤ k := by simp [len]; omega
  simp only [c1, c2, c3, c4, decide_false, zbf, if_false, zTR h k0 k1, zob]
  have f1 := zIn b l i
  have f2 := zIn b l k
  have f3 := zIJ b l i
  have f4 := zIJ b l k
  have f5 := zIN b l i
  have f6 := zIN b l k
  cases ha : zIC b l k with
  | true => simp [zOU, ha]
  | false =>
   simp only [zbf, if_false, zKr h i0 i1, zKr h k0 k1, zMh h i0 i1, zMh h k0 k1, zMm h i0 i1, zMm h k0 k1, zob, zZL, zMX,
    zMT o.2 (show (xR b l i).length < 4294967296 by omega) (show (xR b l k).length < 4294967296 by omega),
    zMT o.2 (show (xC b (yQ b l i)).length < 4294967296 by simp; omega) (show (xC b (yQ b l k)).length < 4294967296 by simp; omega),
    zMT o.2 (show (xC b (uB b l i)).length < 4294967296 by simp; omega) (show (xC b (uB b l k)).length < 4294967296 by simp; omega), zOU, i0, i1, k0, k1, ha, decide_true, Bool.not_false, Bool.true_and]
   by_cases o1 : o.1 = 1
   ·simp only [o1, beq_self_eq_true, if_true]
    cases zGa (xC b (yQ b l i)) (xC b (yQ b l k)) o.2 <;> cases (yQ b l i).isEmpty <;> cases (yQ b l k).isEmpty <;> simp
   ·have o1' : (o.1 == 1) = false := beq_eq_false_iff_ne.2 o1
    simp only [o1', zbf, if_false]
    cases o.1 == 2
    ·simp
    ·cases (uB b l i).isEmpty <;> cases (uB b l k).isEmpty <;> cases (xR b l i).isEmpty <;> cases (xR b l k).isEmpty <;> cases zGa (xR b l i) (xR b l k) o.2 <;> simp
 ·have hf : zOU b l i k o = false := by
   unfold zOU
   by_cases a1 : 0 ≤ i <;> by_cases a2 : i < l.length <;> by_cases a3 : 0 ≤ k <;> by_cases a4 : k < l.length <;> simp [a1, a2, a3, a4]
   exact absurd ⟨a1, a2, a3, a4⟩ hr
  rw [hf]
  by_cases c1 : i < 0
  ·simp [c1]
  ·by_cases c2 : len l ≤ i
   ·simp [c1, c2]
   ·by_cases c3 : k < 0
    ·simp [c1, c2, c3]
    ·have c4 : len l ≤ k := by simp only [len] at c2 ⊢; omega
     simp [c1, c2, c3, c4]
end
section
variable {b : zT} {l : List zP}
def tE (b : zT) (l : List zP) (i c kd : Int) : Bool := match zH l i, zH l c with
 | some x, some a =>
  if decide (a.2.1 < 0) then kd == 1 && x.2.2.2 == zS7 a.2.2.2 && (match zH b.1 a.1 with | some p => p.2.1 != 1 | none => false)
  else match zH b.2.1 a.2.1 with
   | some r => !r.2.1 && ((kd == 2 && x.2.2.2 == zS7 a.2.2.2) || (kd == 3 && x.2.2.2 == (true, r.1)))
   | none => false
 | _, _ => false
theorem zPh (x : zO) : zHZ x = some (zS7 x) := rfl
theorem zSf (h : FormB b l) {i c : Int} (i0 : 0 ≤ i) (i1 : i < l.length) (c0 : 0 ≤ c) (c1 : c < l.length) (kd : Int) : zH3 b l i c kd = some (tE b l i c kd) := by
 obtain ⟨x, hx⟩ := tH i0 i1
 obtain ⟨a, ha⟩ := tH c0 c1
 unfold zH3 tE
 simp only [hx, ha, zob, zPh]
 by_cases hr : a.2.1 < 0
 ·obtain ⟨_, ⟨p, hp⟩, _⟩ := (h.prem ha).1 (by have := (h.prem ha).2.2; omega)
  simp only [hr, decide_true, if_true, hp, zob]
  by_cases k1 : kd = 1
  ·simp only [k1, beq_self_eq_true, if_true, Bool.true_and]
   cases p.2.1 != 1 <;> simp
  ·simp [k1]
 ·obtain ⟨r, hr2⟩ := (h.prem ha).2.1 ((h.prem ha).2.2.1 (by omega))
  simp only [hr, decide_false, zbf, if_false, hr2, zob]
  by_cases k2 : kd = 2
  ·subst k2; simp
  ·by_cases k3 : kd = 3
   ·subst k3
    cases hs : r.2.1 <;> simp
   ·simp [k2, k3]
abbrev zKm (b : zT) (l : List zP) (i c : Int) : List Int := [1, 2, 3].filter (tE b l i c)
theorem zV5 (h : FormB b l) {i c : Int} (i0 : 0 ≤ i) (i1 : i < l.length) (c0 : 0 ≤ c) (c1 : c < l.length) : zHt b l i c = some (zKm b l i c) := by
 obtain ⟨x, hx⟩ := tH i0 i1
 obtain ⟨a, ha⟩ := tH c0 c1
 unfold zHt zKm
 simp only [hx, ha, zob, zPm]
 by_cases hp : 0 ≤ a.1
 ·obtain ⟨_, ⟨p, hp2⟩, hr⟩ := (h.prem ha).1 hp
  have hk : ∀ kd, tE b l i c kd = (kd == 1 && x.2.2.2 == zS7 a.2.2.2 && p.2.1 != 1) := fun kd => by
   simp only [tE, hx, ha, hp2, hr]; rfl
  simp only [hp, decide_true, if_true, hp2, zob]
  rw [List.filter_cons, List.filter_cons, List.filter_cons, List.filter_nil, hk, hk, hk]
  cases x.2.2.2 == zS7 a.2.2.2 <;> cases p.2.1 != 1 <;> simp [wJ]
 ·obtain ⟨r, hr2⟩ := (h.prem ha).2.1 (by omega)
  have hr : ¬ a.2.1 < 0 := by have := (h.prem ha).2.2; omega
  have hk : ∀ kd, tE b l i c kd = (!r.2.1 && ((kd == 2 && x.2.2.2 == zS7 a.2.2.2) || (kd == 3 && x.2.2.2 == (true, r.1)))) := fun kd => by
   simp only [tE, hx, ha, hr2, hr, decide_false, zbf, if_false]
  simp only [hp, decide_false, zbf, if_false, hr2, zob]
  rw [List.filter_cons, List.filter_cons, List.filter_cons, List.filter_nil, hk, hk, hk]
  have hlit : (x.2.2.2 == (true, r.1)) = (x.2.2.2.1 && x.2.2.2.2 == r.1) := by
   obtain ⟨_, _, _, g, nm⟩ := x
   show (g == true && nm == r.1) = (g && nm == r.1)
   cases g <;> rfl
  rw [hlit]
  cases hs : r.2.1
  ·cases x.2.2.2 == zS7 a.2.2.2 <;> cases x.2.2.2.1 <;> cases x.2.2.2.2 == r.1 <;> simp [wJ]
  ·simp
abbrev xD (b : zT) (l : List zP) (i k c : Int) : List wB := (zKm b l i c).map fun kd => (i, k, c, kd)
noncomputable def zM9 (b : zT) (l : List zP) : List wB := (wG l.length).flatMap fun i => (wG l.length).flatMap fun k => (vR l k).flatMap fun c => xD b l i k c
noncomputable def zVS (b : zT) (l : List zP) : List wB := (wG l.length).flatMap fun c => (wG l.length).flatMap fun i => ((wG l.length).filter fun k => decide (c ∈ vR l k)).flatMap fun k => xD b l i k c
theorem zRi (b : zT) (l : List zP) (i c : Int) : vF yD (zKm b l i c) := List.Pairwise.filter _ (by simp)
theorem zSK (b : zT) (l : List zP) (i c : Int) : (zKm b l i c).length ≤ 3 := List.length_filter_le _ _
theorem zS3 (y : wB) : y ∈ zM9 b l ↔ (0 ≤ y.1 ∧ y.1 < l.length) ∧ (0 ≤ y.2.1 ∧ y.2.1 < l.length) ∧ y.2.2.1 ∈ vR l y.2.1 ∧ y.2.2.2 ∈ zKm b l y.1 y.2.2.1 := by
 obtain ⟨i, k, c, kd⟩ := y
 simp only [zM9, List.mem_flatMap, List.mem_map, uA]
 constructor
 ·rintro ⟨i', h1, k', h2, c', h3, kd', h4, e⟩
  cases e
  exact ⟨h1, h2, h3, h4⟩
 ·rintro ⟨h1, h2, h3, h4⟩
  exact ⟨i, h1, k, h2, c, h3, kd, h4, rfl⟩
theorem zUN {k c : Int} (h : c ∈ vR l k) : 0 ≤ c ∧ c < l.length := by
 have := (List.mem_filter.1 h).1
 exact uA.1 this
theorem zWF (y : wB) : y ∈ zVS b l ↔ y ∈ zM9 b l := by
 rw [zS3]
 obtain ⟨i, k, c, kd⟩ := y
 simp only [zVS, List.mem_flatMap, List.mem_map, uA, List.mem_filter, decide_eq_true_eq]
 constructor
 ·rintro ⟨c', _, i', h1, k', ⟨h2, h3⟩, kd', h4, e⟩
  cases e
  exact ⟨h1, h2, h3, h4⟩
 ·rintro ⟨h1, h2, h3, h4⟩
  exact ⟨c, zUN h3, i, h1, k, ⟨h2, h3⟩, kd, h4, rfl⟩
theorem zRW (b : zT) (l : List zP) : vF lt4 (zM9 b l) := by
 refine List.pairwise_flatMap.2 ⟨fun i _ => List.pairwise_flatMap.2 ⟨fun k _ => List.pairwise_flatMap.2 ⟨fun c _ => ?_, ?_⟩, ?_⟩, ?_⟩
 ·rw [List.pairwise_map]
  exact (zRi b l i c).imp fun h => by simpa [lt4] using h
 ·refine (zKB l k).imp fun {c c'} h x hx y hy => ?_
  obtain ⟨_, _, rfl⟩ := List.mem_map.1 hx
  obtain ⟨_, _, rfl⟩ := List.mem_map.1 hy
  simp at h; simp [lt4]; omega
 ·refine (zGt _).imp fun {k k'} h x hx y hy => ?_
  obtain ⟨_, _, hx⟩ := List.mem_flatMap.1 hx
  obtain ⟨_, _, hy⟩ := List.mem_flatMap.1 hy
  obtain ⟨_, _, rfl⟩ := List.mem_map.1 hx
  obtain ⟨_, _, rfl⟩ := List.mem_map.1 hy
  simp at h; simp [lt4]; omega
 ·refine (zGt _).imp fun {i i'} h x hx y hy => ?_
  obtain ⟨_, _, hx⟩ := List.mem_flatMap.1 hx
  obtain ⟨_, _, hy⟩ := List.mem_flatMap.1 hy
  obtain ⟨_, _, hx⟩ := List.mem_flatMap.1 hx
  obtain ⟨_, _, hy⟩ := List.mem_flatMap.1 hy
  obtain ⟨_, _, rfl⟩ := List.mem_map.1 hx
  obtain ⟨_, _, rfl⟩ := List.mem_map.1 hy
  simp at h; simp [lt4]; omega
theorem zSn (b : zT) (l : List zP) : (zVS b l).Nodup := by
 have key : (zVS b l).Pairwise fun x y => x.2.2.1 < y.2.2.1 ∨ (x.2.2.1 = y.2.2.1 ∧ (x.1 < y.1 ∨ (x.1 = y.1 ∧ (x.2.1 < y.2.1 ∨ (x.2.1 = y.2.1 ∧ x.2.2.2 < y.2.2.2))))) := by
  refine List.pairwise_flatMap.2 ⟨fun c _ => List.pairwise_flatMap.2 ⟨fun i _ => List.pairwise_flatMap.2 ⟨fun k _ => ?_, ?_⟩, ?_⟩, ?_⟩
  ·rw [List.pairwise_map]
   exact (zRi b l i c).imp fun h => by simpa using h
  ·refine ((zGt _).filter _).imp fun {k k'} h x hx y hy => ?_
   obtain ⟨_, _, rfl⟩ := List.mem_map.1 hx
   obtain ⟨_, _, rfl⟩ := List.mem_map.1 hy
   simp at h; simp; omega
  ·refine (zGt _).imp fun {i i'} h x hx y hy => ?_
   obtain ⟨_, _, hx⟩ := List.mem_flatMap.1 hx
   obtain ⟨_, _, hy⟩ := List.mem_flatMap.1 hy
   obtain ⟨_, _, rfl⟩ := List.mem_map.1 hx
   obtain ⟨_, _, rfl⟩ := List.mem_map.1 hy
   simp at h; simp; omega
  ·refine (zGt _).imp fun {c c'} h x hx y hy => ?_
   obtain ⟨_, _, hx⟩ := List.mem_flatMap.1 hx
   obtain ⟨_, _, hy⟩ := List.mem_flatMap.1 hy
   obtain ⟨_, _, hx⟩ := List.mem_flatMap.1 hx
   obtain ⟨_, _, hy⟩ := List.mem_flatMap.1 hy
   obtain ⟨_, _, rfl⟩ := List.mem_map.1 hx
   obtain ⟨_, _, rfl⟩ := List.mem_map.1 hy
   simp at h; simp; omega
 exact key.imp fun {x y} h e => by subst e; omega
theorem zPN (b : zT) (l : List zP) (i k c : Int) : (xD b l i k c).length ≤ 3 := by rw [List.length_map]; exact zSK b l i c
theorem zNU (h : l.length ≤ 100) : (zM9 b l).length ≤ 3000000 := by
 have h1 : ∀ i k : Int, ((vR l k).flatMap fun c => xD b l i k c).length ≤ 300 := fun i k => by
  have := zIt (fun c => xD b l i k c) 3 (vR l k) fun c _ => zPN b l i k c
  have := zEu l k
  omega
 have h2 : ∀ i : Int, ((wG l.length).flatMap fun k => (vR l k).flatMap fun c => xD b l i k c).length ≤ 30000 := fun i => by
  have := zIt (fun k => (vR l k).flatMap fun c => xD b l i k c) 300 (wG l.length) fun k _ => h1 i k
  rw [yO] at this
  omega
 have := zIt (fun i => (wG l.length).flatMap fun k => (vR l k).flatMap fun c => xD b l i k c) 30000 (wG l.length) fun i _ => h2 i
 rw [yO] at this
 show ((wG l.length).flatMap _).length ≤ _
 omega
theorem ref_L4 (h : FormB b l) {acc0 : List wB} {i k c : Int} (s3 : (List wB) × Int) (i0 : 0 ≤ i) (i1 : i < l.length) (c0 : 0 ≤ c) (c1 : c < l.length) (acc : List wB) (ha : acc.length < 4294960000) :
  zW (zDB b l (acc0, i) c (acc0, k) s3) (acc, 1) = some (.inl (acc ++ xD b l i k c, zR (s3.2 + 1))) := by
 have step : ∀ (acc : List wB) (kd : Int), acc.length < 4294967000 → 0 ≤ kd → kd ≤ 3 → zDB b l (acc0, i) c (acc0, k) s3 (acc, kd) = some (.inl (acc ++ (if tE b l i c kd then [(i, k, c, kd)] else []), kd + 1)) := fun acc kd h1 h2 h3 => by
  unfold zDB
  have hd : decide (kd ≤ 3) = true := by simpa using h3
  simp only [hd, if_true, zSf h i0 i1 c0 c1 kd, zob]
  rw [uD (by omega) (by omega)]
  cases tE b l i c kd with
  | true =>
   simp only [if_true]
   rw [vN (by simp; omega)]
   rfl
  | false => simp
 have l1 : ∀ (p : Bool) (x : wB), (if p then [x] else []).length ≤ 1 := fun p x => by cases p <;> simp
 rw [yA, step acc 1 (by omega) (by omega) (by omega)]
 simp only
 rw [yA, step _ (1 + 1) (by have := l1 (tE b l i c 1) (i, k, c, 1); rw [List.length_append]; omega) (by omega) (by omega)]
 simp only
 rw [yA, step _ (1 + 1 + 1) (by have := l1 (tE b l i c 1) (i, k, c, 1); have := l1 (tE b l i c (1 + 1)) (i, k, c, 1 + 1); rw [List.length_append, List.length_append]; omega) (by omega) (by omega)]
 simp only
 rw [yA]
 unfold zDB
 have hd : decide ((1 + 1 + 1 + 1 : Int) ≤ 3) = false := by simp
 simp only [hd, zbf, if_false]
 congr 3
 rw [List.append_assoc, List.append_assoc]
 congr 1
 simp only [xD, zKm, List.filter_cons, List.filter_nil]
 show _ = List.map _ (if tE b l i c 1 then 1 :: (if tE b l i c 2 then 2 :: (if tE b l i c 3 then [3] else []) else (if tE b l i c 3 then [3] else [])) else (if tE b l i c 2 then 2 :: (if tE b l i c 3 then [3] else []) else (if tE b l i c 3 then [3] else [])))
 rw [show (1 + 1 : Int) = 2 from rfl, show (2 + 1 : Int) = 3 from rfl]
 cases tE b l i c 1 <;> cases tE b l i c 2 <;> cases tE b l i c 3 <;> rfl
theorem zSs (h : FormB b l) : zHI b l = some (zM9 b l) := by
 have hl := h.len
 have h1 : ∀ i k : Int, ((vR l k).flatMap fun c => xD b l i k c).length ≤ 300 := fun i k => by
  have := zIt (fun c => xD b l i k c) 3 (vR l k) fun c _ => zPN b l i k c
  have := zEu l k
  omega
 have h2 : ∀ i : Int, ((wG l.length).flatMap fun k => (vR l k).flatMap fun c => xD b l i k c).length ≤ 30000 := fun i => by
  have := zIt (fun k => (vR l k).flatMap fun c => xD b l i k c) 300 (wG l.length) fun k _ => h1 i k
  rw [yO] at this
  omega
 unfold zHI
 refine zGV (B := zFS l b) (wG l.length) (fun i => (wG l.length).flatMap fun k => (vR l k).flatMap fun c => xD b l i k c) (fun s => s) 30000 (fun i _ => h2 i) [] (fun q i s hi hs => ?_) (fun s => ?_)
 ·obtain ⟨rfl, hq⟩ := zHG hi
  have hd : decide ((q : Int) < len l) = true := by simp [len]; omega
  unfold zFS
  simp only [hd, if_true]
  refine (zGV (B := zFR l b (s, (q : Int))) (wG l.length) (fun k => (vR l k).flatMap fun c => xD b l (q : Int) k c) (fun r => .inl (r, zR ((q : Int) + 1))) 300 (fun k _ => h1 _ k) s (fun u k s' hk hs' => ?_) (fun s' => ?_)).trans ?_
  ·obtain ⟨rfl, hu⟩ := zHG hk
   have hd : decide ((u : Int) < len l) = true := by simp [len]; omega
   unfold zFR
   simp only [hd, if_true, zQm h.toFormA (show (0 : Int) ≤ u by omega) (by omega), zob]
   simp only [List.length_nil] at hs
   refine (zGV (B := zFY (vR l u) b l (s, (q : Int)) (s', (u : Int))) (vR l u) (fun c => xD b l (q : Int) (u : Int) c) (fun r => .inl (r, zR ((u : Int) + 1))) 3 (fun c _ => zPN b l _ _ c) s' (fun v c s'' hc hs'' => ?_) (fun s'' => ?_)).trans ?_
   ·have hcr := zUN (vV hc)
    have hv := vC hc
    have := zEu l u
    unfold zFY
    simp only [wU hc, if_true, wP hc, zob]
    refine (ref_L4 h (s'', (v : Int)) (by omega) (by omega) hcr.1 hcr.2 s'' (by omega)).trans ?_
    simp only [wT hc (by omega)]
   ·unfold zFY
    simp only [yC, zbf, if_false]
   ·simp only [vT u (by omega)]
  ·unfold zFR
   have hd : decide (((wG l.length).length : Int) < len l) = false := by rw [yO]; exact yC l
   simp only [hd, zbf, if_false]
  ·simp only [vT q (by omega)]
 ·unfold zFS
  have hd : decide (((wG l.length).length : Int) < len l) = false := by rw [yO]; exact yC l
  simp only [hd, zbf, if_false]
theorem zLZ (m : List Int) (x : Int) (hb : m.length < 9223372036854775807) : zBF m x = some (decide (x ∈ m)) := by
 obtain ⟨r, h1, h2⟩ := zPA m x hb
 unfold zBF zHE
 rw [show zW (zIQ m x) 0 = some r from h1]
 simp only [zob]
 congr 1
 rw [decide_eq_decide, h2]
 simp
theorem zT5 (h : FormB b l) : zG2 b l = some (zM9 b l) := by
 have hl := h.len
 have h1 : ∀ i c : Int, (((wG l.length).filter fun k => decide (c ∈ vR l k)).flatMap fun k => xD b l i k c).length ≤ 300 := fun i c => by
  have := zIt (fun k => xD b l i k c) 3 ((wG l.length).filter fun k => decide (c ∈ vR l k)) fun k _ => zPN b l i k c
  have := List.length_filter_le (fun k => decide (c ∈ vR l k)) (wG l.length)
  rw [yO] at this
  omega
 have h2 : ∀ c : Int, ((wG l.length).flatMap fun i => ((wG l.length).filter fun k => decide (c ∈ vR l k)).flatMap fun k => xD b l i k c).length ≤ 30000 := fun c => by
  have := zIt (fun i => ((wG l.length).filter fun k => decide (c ∈ vR l k)).flatMap fun k => xD b l i k c) 300 (wG l.length) fun i _ => h1 i c
  rw [yO] at this
  omega
 have hL : zW (zCN l b) ([], 0) = some (zVS b l) := by
  refine zGV (B := zCN l b) (wG l.length) (fun c => (wG l.length).flatMap fun i => ((wG l.length).filter fun k => decide (c ∈ vR l k)).flatMap fun k => xD b l i k c) (fun s => s) 30000 (fun c _ => h2 c) [] (fun q c s hc hs => ?_) (fun s => ?_)
  ·obtain ⟨rfl, hq⟩ := zHG hc
   have hd : decide ((q : Int) < len l) = true := by simp [len]; omega
   simp only [List.length_nil] at hs
   unfold zCN
   simp only [hd, if_true]
   refine (zGV (B := zEZ l b (s, (q : Int))) (wG l.length) (fun i => ((wG l.length).filter fun k => decide ((q : Int) ∈ vR l k)).flatMap fun k => xD b l i k (q : Int)) (fun r => .inl (r, zR ((q : Int) + 1))) 300 (fun i _ => h1 i _) s (fun u i s' hi hs' => ?_) (fun s' => ?_)).trans ?_
   ·obtain ⟨rfl, hu⟩ := zHG hi
    have hd : decide ((u : Int) < len l) = true := by simp [len]; omega
    unfold zEZ
    simp only [hd, if_true, zV5 h (show (0 : Int) ≤ u by omega) (by omega) (show (0 : Int) ≤ q by omega) (by omega), zob, zZL]
    cases hk : (zKm b l u q).isEmpty with
    | true =>
     have : zKm b l u q = [] := List.isEmpty_iff.1 hk
     have hz : (((wG l.length).filter fun k => decide ((q : Int) ∈ vR l k)).flatMap fun k => xD b l u k (q : Int)) = [] := by
      rw [List.flatMap_eq_nil_iff]
      intro k _
      simp only [xD, this, List.map_nil]
     simp only [if_true, vT u (by omega), hz, List.append_nil]
    | false =>
     simp only [zbf, if_false]
     rw [zOk]
     refine (zGV (B := zEU l (s, (q : Int)) (zKm b l u q) (s', (u : Int))) (wG l.length) (fun k => if decide ((q : Int) ∈ vR l k) then xD b l u k (q : Int) else []) (fun r => .inl (r, zR ((u : Int) + 1))) 3 (fun k _ => by
      split
      ·exact zPN b l _ _ _
      ·simp) s' (fun v k s'' hk2 hs'' => ?_) (fun s'' => ?_)).trans ?_
     ·obtain ⟨rfl, hv⟩ := zHG hk2
      have hd : decide ((v : Int) < len l) = true := by simp [len]; omega
      have hsl := zEu l v
      unfold zEU
      simp only [hd, if_true, zQ7 h.toFormA (show (0 : Int) ≤ v by omega) (by omega), zob, zLZ (vR l v) q (by omega)]
      cases hm : decide ((q : Int) ∈ vR l v) with
      | false => simp only [Bool.not_false, if_true, vT v (by omega), zbf, if_false, List.append_nil]
      | true =>
       simp only [Bool.not_true, zbf, if_false, if_true]
       have hkl := zSK b l u q
       refine (zGV (B := zE2 (zKm b l u q) (s', (u : Int)) (s'', (v : Int)) (s, (q : Int))) (zKm b l u q) (fun kd => [((u : Int), (v : Int), (q : Int), kd)]) (fun r => .inl (r, zR ((v : Int) + 1))) 1 (fun _ _ => by simp) s'' (fun w kd s3 hw hs3 => ?_) (fun s3 => ?_)).trans ?_
       ·have := vC hw
        unfold zE2
        simp only [wU hw, if_true, wP hw, zob]
        rw [vN (by rw [List.length_singleton]; omega)]
        simp only [zob, wT hw (by omega)]
       ·unfold zE2
        simp only [yC, zbf, if_false]
       ·simp only [vT v (by omega), xD, List.map_eq_flatMap]
     ·unfold zEU
      have hd : decide (((wG l.length).length : Int) < len l) = false := by rw [yO]; exact yC l
      simp only [hd, zbf, if_false]
     ·simp only [vT u (by omega)]
   ·unfold zEZ
    have hd : decide (((wG l.length).length : Int) < len l) = false := by rw [yO]; exact yC l
    simp only [hd, zbf, if_false]
   ·simp only [vT q (by omega)]
  ·unfold zCN
   have hd : decide (((wG l.length).length : Int) < len l) = false := by rw [yO]; exact yC l
   simp only [hd, zbf, if_false]
 have hPS : (zVS b l).Perm (zM9 b l) := by
  refine (List.perm_ext_iff_of_nodup (zSn b l) ?_).2 fun y => zWF y
  exact (zRW b l).imp fun {x y} h e => by subst e; rw [ord4.irrefl] at h; cases h
 unfold zG2
 rw [hL]
 simp only [zob]
 have hlen := zNU (b := b) hl
 rw [zSQ (by rw [hPS.length_eq]; omega)]
 simp only [zob]
 congr 1
 refine List.Perm.eq_of_pairwise (le := fun x y => lt4 y x = false) (fun x y _ _ g1 g2 => ?_) (zJU ord4 _) ((zRW b l).imp fun h => ord4.asymm h) ((List.mergeSort_perm _ _).trans hPS)
 rcases ord4.tri x y with h | h | h
 ·rw [h] at g2; cases g2
 ·exact h
 ·rw [h] at g1; cases g1
noncomputable def zKQ (b : zT) (l : List zP) (o : wQ) (y : wB) : Bool := y.2.2.2 == 3 || !zOU b l y.1 y.2.2.1 o
noncomputable def zHz (b : zT) (l : List zP) (o : wQ) : List wB := (zM9 b l).filter (zKQ b l o)
theorem zOg (h : FormB b l) (o : wQ) : zEz b l o = some (zHz b l o) := by
 have hlen := zNU (b := b) h.len
 unfold zEz
 rw [zT5 h]
 simp only [zob]
 have hd := zMu (fun x => zBd x b l o) (fun x => x.2.2.2 != 3 && zOU b l x.1 x.2.2.1 o) (0, 0, 0, 0) (zM9 b l) (by omega) (fun x _ => by
  simp only [zBd]
  cases hx : x.2.2.2 != 3 with
  | true => simp [zWx h]
  | false => simp)
 rw [show zAY (zM9 b l) b l o = zQX (fun x => zBd x b l o) (0, 0, 0, 0) (zM9 b l) from rfl, hd]
 simp only [zob, zHz]
 congr 1
 refine List.filter_congr fun x _ => ?_
 simp only [zKQ]
 cases hx : x.2.2.2 == 3 <;> simp [bne, hx]
theorem zPa (h : FormB b l) (o : wQ) : zFc b l o = some (zHz b l o) := by
 have hlen := zNU (b := b) h.len
 unfold zFc
 rw [zSs h]
 simp only [zob]
 have hL := zBK (B := zF1 (zM9 b l) b l o) (zM9 b l) (fun s x => if zKQ b l o x then s ++ [x] else s) (fun s => s) (fun q s => s.length ≤ q) [] (by simp) (fun i x s hx hI => ?_) (fun s hI => ?_)
 ·have e := zBr (zKQ b l o) (fun x => x) (zM9 b l) []
  rw [hL.1, e]
  simp [zHz]
 ·have hi := vC hx
  unfold zF1
  have hc : (if x.2.2.2 == 3 then some true else (zIK b l x.1 x.2.2.1 o).bind fun r2 => some (!r2)) = some (zKQ b l o x) := by
   simp only [zKQ, zYN h, zob]
   cases x.2.2.2 == 3 <;> simp
  simp only [wU hx, if_true, wP hx, zob]
  rw [hc]
  simp only [zob]
  cases hd : zKQ b l o x with
  | true =>
   simp only [if_true]
   rw [vN (by simp; omega)]
   exact ⟨by simp only [zob, wT hx (by omega)], by simp; omega⟩
  | false => exact ⟨by simp only [zbf, if_false, wT hx (by omega)], by simp only [zbf, if_false]; omega⟩
 ·unfold zF1
  simp [len]
end
section
section
variable {α ρ : Type}
def zUY (q : α → Bool) (l : List α) : Int := if l.any q then (l.findIdx q : Int) else -1
theorem zNG {B : Int → Option (Int ⊕ ρ)} (q : α → Bool) (l : List α) (no : ρ) (yes : Int → ρ) (hB : ∀ (i : Nat) x, l[i]? = some x → B (i : Int) = some (if q x then .inr (yes (i : Int)) else .inl ((i + 1 : Nat) : Int))) (he : B (l.length : Int) = some (.inr no)) :
  zW B 0 = some (if l.any q then yes (zUY q l) else no) := by
 have key : ∀ (n i : Nat), i + n = l.length → zW B (i : Int) = some (if (l.drop i).any q then yes ((i + (l.drop i).findIdx q : Nat) : Int) else no) := by
  intro n
  induction n with
  | zero =>
   intro i h
   rw [Nat.add_zero] at h
   subst h
   rw [yA, he, List.drop_length]
   rfl
  | succ n ih =>
   intro i h
   have hx : l[i]? = some l[i] := List.getElem?_eq_getElem (by omega)
   rw [yA, hB i _ hx, List.drop_eq_getElem_cons (by omega)]
   cases hp : q l[i] with
   | true => simp only [if_true, List.any_cons, hp, Bool.true_or, List.findIdx_cons, cond_true, Nat.add_zero]
   | false =>
    simp only [zbf, if_false, List.any_cons, hp, Bool.false_or, List.findIdx_cons, cond_false]
    rw [ih (i + 1) (by omega)]
    rw [show i + 1 + (l.drop (i + 1)).findIdx q = i + ((l.drop (i + 1)).findIdx q + 1) by omega]
 have h := key l.length 0 (by omega)
 simp only [List.drop_zero, Nat.zero_add] at h
 rw [show zW B 0 = _ from h, zUY]
 cases l.any q <;> rfl
theorem zQ2 {q : α → Bool} {l : List α} {i : Nat} {x : α} (hx : l[i]? = some x) (hq : q x = true) : 0 ≤ zUY q l ∧ zUY q l ≤ i := by
 have ha : l.any q = true := List.any_eq_true.2 ⟨x, vV hx, hq⟩
 rw [zUY, if_pos ha]
 refine ⟨by omega, ?_⟩
 have hi := vC hx
 rw [List.getElem?_eq_getElem hi] at hx
 have hq' : q l[i] = true := by rw [Option.some.inj hx]; exact hq
 have : l.findIdx q ≤ i := by
  refine Nat.le_of_not_lt fun h => ?_
  have := List.not_of_lt_findIdx h
  rw [hq'] at this; simp at this
 omega
theorem zTV {q : α → Bool} {l : List α} (h : 0 ≤ zUY q l) : ∃ (k : Nat) (x : α), zUY q l = (k : Int) ∧ l[k]? = some x ∧ q x = true ∧ ∀ j y, j < k → l[j]? = some y → q y = false := by
 unfold zUY at h ⊢
 split at h
 ·rename_i ha
  rw [if_pos ha]
  obtain ⟨x, hx, hq⟩ := List.any_eq_true.1 ha
  have hlt : l.findIdx q < l.length := List.findIdx_lt_length_of_exists ⟨x, hx, hq⟩
  refine ⟨_, l[l.findIdx q], rfl, List.getElem?_eq_getElem hlt, List.findIdx_getElem, fun j y hj hy => ?_⟩
  have hjl := vC hy
  rw [List.getElem?_eq_getElem hjl] at hy
  have := List.not_of_lt_findIdx hj
  rw [← Option.some.inj hy]
  simpa using this
 ·omega
def tD (e : Nat → α → Int) : Nat → List α → Int
 | _, [] => 0
 | i, x :: r => if e i x != 0 then e i x else tD e (i + 1) r
theorem zJx {B : Int → Option (Int ⊕ ρ)} (l : List α) (e : Nat → α → Int) (yes : Int → ρ) (no : ρ) (hB : ∀ (i : Nat) x, l[i]? = some x → B (i : Int) = some (if e i x != 0 then .inr (yes (e i x)) else .inl ((i + 1 : Nat) : Int))) (he : B (l.length : Int) = some (.inr no)) :
  zW B 0 = some (if tD e 0 l != 0 then yes (tD e 0 l) else no) := by
 have key : ∀ (n i : Nat), i + n = l.length → zW B (i : Int) = some (if tD e i (l.drop i) != 0 then yes (tD e i (l.drop i)) else no) := by
  intro n
  induction n with
  | zero =>
   intro i h
   rw [Nat.add_zero] at h
   subst h
   rw [yA, he, List.drop_length]
   rfl
  | succ n ih =>
   intro i h
   have hx : l[i]? = some l[i] := List.getElem?_eq_getElem (by omega)
   rw [yA, hB i _ hx, List.drop_eq_getElem_cons (by omega)]
   simp only [tD]
   by_cases hp : e i l[i] = 0
   ·simp only [hp, bne_self_eq_false, zbf, if_false]; exact ih (i + 1) (by omega)
   ·have hp' : (e i l[i] != 0) = true := by simpa using hp
    simp only [hp', if_true]
 have h := key l.length 0 (by omega)
 simpa using h
theorem zOr {e : Nat → α → Int} : ∀ {l : List α} {k : Nat}, tD e k l = 0 ↔ ∀ (i : Nat) x, l[i]? = some x → e (k + i) x = 0
 | [], k => by simp [tD]
 | x :: r, k => by
  simp only [tD]
  constructor
  ·intro h
   cases hx : e k x != 0 with
   | true => rw [hx] at h; simp only [if_true] at h; rw [h] at hx; simp at hx
   | false =>
    rw [hx] at h
    simp only [zbf, if_false] at h
    intro i y hy
    cases i with
    | zero => simp at hy; subst hy; simpa using hx
    | succ i => rw [show k + (i + 1) = k + 1 + i by omega]; exact zOr.1 h i y (by simpa using hy)
  ·intro h
   have h0 := h 0 x rfl
   rw [Nat.add_zero] at h0
   rw [h0]
   simp only [bne_self_eq_false, zbf, if_false]
   exact zOr.2 fun i y hy => by rw [show k + 1 + i = k + (i + 1) by omega]; exact h (i + 1) y (by simpa using hy)
end
abbrev tL (n : Int) : Bool := decide (0 ≤ n) && decide (n ≤ 9)
def xS (p : vE) : Int :=
 if p.2.1 == 1 || p.2.1 == 2 || p.2.1 == 3 then
  if vName p.1.2 && tL p.2.2.1 && (p.2.1 == 2 || p.2.2.1 == 0) && (p.2.2.2 == [] || vName p.2.2.2) then 0 else 1
 else 4
def zY1 : List zO → Bool
 | a :: b :: r => vK a b && zY1 (b :: r)
 | _ => true
def xE (r : wD) : Int :=
 if 4 < r.2.2.2.1.length then 2
 else if vName r.1 && vName r.2.2.2.2.2 && tL r.2.2.1 && (!r.2.1 || r.2.2.1 == 0) && r.2.2.2.1.all (fun x => vName x.2) then (if zY1 r.2.2.2.1 then 0 else 8) else 1
def tT (b : zT) (nm : wZ) : Int := zUY (fun r : wD => r.1 == nm) b.2.1
def zOu (b : zT) (x : zO) : Int := zUY (fun p : vE => p.1 == x) b.1
def zOO (b : zT) (p : vQ) : Int :=
 if tL p.2.1 && vName p.2.2.2 then (if tT b p.1 < 0 then 6 else match zH b.2.1 (tT b p.1) with | some r => if r.2.1 then 4 else 0 | none => 0) else 1
def zJB (b : zT) : Int :=
 if 16 < b.1.length || 24 < b.2.1.length || 8 < b.2.2.length then 2
 else
  let e1 := tD (fun i p => if xS p != 0 then xS p else if zOu b p.1 < (i : Int) then 5 else 0) 0 b.1
  if e1 != 0 then e1 else
  let e2 := tD (fun i r => if xE r != 0 then xE r else if tT b r.1 < (i : Int) then 5 else 0) 0 b.2.1
  if e2 != 0 then e2 else tD (fun _ p => zOO b p) 0 b.2.2
theorem zVF (p : vE) : zFQ p = some (xS p) := by
 unfold zFQ zB0 zHM xS
 simp only [zKF, zPL, zob]
 by_cases k1 : p.2.1 = 1
 ·by_cases h0 : p.2.2.1 = 0
  ·cases vName p.1.2 <;> cases p.2.2.2 == [] <;> cases vName p.2.2.2 <;> simp [k1, h0, wW]
  ·simp [k1, h0, wW]
 ·by_cases k3 : p.2.1 = 3
  ·by_cases h0 : p.2.2.1 = 0
   ·cases vName p.1.2 <;> cases p.2.2.2 == [] <;> cases vName p.2.2.2 <;> simp [k3, h0, wW]
   ·simp [k3, h0, wW]
  ·by_cases k2 : p.2.1 = 2
   ·cases hr : tL p.2.2.1 <;> cases vName p.1.2 <;> cases p.2.2.2 == [] <;> cases vName p.2.2.2 <;> simp [k2, wW, hr]
   ·simp [k1, k2, k3, wW]
theorem zT1 (p : vE) : zHR p = some (xS p) := by
 unfold zHR zFb xS
 simp only [zKG, zK8, zob]
 by_cases k1 : p.2.1 = 1
 ·by_cases h0 : p.2.2.1 = 0
  ·cases vName p.1.2 <;> cases p.2.2.2 == [] <;> cases vName p.2.2.2 <;> simp [k1, h0]
  ·cases hr : tL p.2.2.1 <;> cases hv : vName p.1.2 <;> simp [k1, h0, hr]
 ·by_cases k3 : p.2.1 = 3
  ·by_cases h0 : p.2.2.1 = 0
   ·cases vName p.1.2 <;> cases p.2.2.2 == [] <;> cases vName p.2.2.2 <;> simp [k3, h0]
   ·cases hr : tL p.2.2.1 <;> cases hv : vName p.1.2 <;> simp [k3, h0, hr]
  ·by_cases k2 : p.2.1 = 2
   ·cases hr : tL p.2.2.1 <;> cases vName p.1.2 <;> cases p.2.2.2 == [] <;> cases vName p.2.2.2 <;> simp [k2, hr]
   ·have : (decide (p.2.1 < 1) || decide (3 < p.2.1)) = true := by simp; omega
    simp [k1, k2, k3, this]
theorem zS9 {B : Int → Option (Int ⊕ Int)} (l : List zO) (hl : l.length < 4294967296)
  (hB : ∀ (i : Nat) x y, l[i]? = some x → l[i + 1]? = some y → B ((i + 1 : Nat) : Int) = some (if decide (0 ≤ zKp x y) then .inr 8 else .inl ((i + 1 + 1 : Nat) : Int))) (he : ∀ k : Nat, l.length ≤ k → B (k : Int) = some (.inr 0)) :
  zW B 1 = some (if zY1 l then 0 else 8) := by
 have key : ∀ (n i : Nat), i + 1 + n = l.length → zW B ((i + 1 : Nat) : Int) = some (if zY1 (l.drop i) then 0 else 8) := by
  intro n
  induction n with
  | zero =>
   intro i h
   rw [yA, he (i + 1) (by omega), List.drop_eq_getElem_cons (by omega), List.drop_of_length_le (by omega)]
   rfl
  | succ n ih =>
   intro i h
   have hx : l[i]? = some l[i] := List.getElem?_eq_getElem (by omega)
   have hy : l[i + 1]? = some l[i + 1] := List.getElem?_eq_getElem (by omega)
   rw [yA, hB i _ _ hx hy, List.drop_eq_getElem_cons (by omega), List.drop_eq_getElem_cons (by omega)]
   have hc : decide (0 ≤ zKp l[i] l[i + 1]) = !vK l[i] l[i + 1] := by
    unfold zKp
    cases vK l[i] l[i + 1] with
    | true => simp
    | false =>
     simp only [zbf, if_false]
     split <;> simp
   rw [hc]
   cases hlt : vK l[i] l[i + 1] with
   | true =>
    simp only [Bool.not_true, zbf, if_false]
    rw [ih (i + 1) (by omega), List.drop_eq_getElem_cons (show i + 1 < l.length by omega)]
    simp only [zY1, hlt, Bool.true_and]
   | false => simp only [Bool.not_false, if_true, zY1, hlt, Bool.false_and, zbf, if_false]
 match l, hl, hB, he, key with
 | [], _, _, he, _ => rw [yA, show (1 : Int) = ((1 : Nat) : Int) from rfl, he 1 (by simp)]; rfl
 | x :: r, _, _, _, key => exact key r.length 0 (by simp; omega)
theorem zYe (r : wD) : zHK r = some (xE r) := by
 unfold zHK xE
 by_cases h4 : 4 < r.2.2.2.1.length
 ·have : decide (4 < len r.2.2.2.1) = true := by simp [len]; omega
  simp only [this, if_true, h4]
 have hr : r.2.2.2.1.length < 4294967296 := by omega
 have : decide (4 < len r.2.2.2.1) = false := by simp [len]; omega
 simp only [this, zbf, if_false, h4, zPL, zKF, zB0, zob]
 have hc : (if (!vName r.1) = true then some true else if (!vName r.2.2.2.2.2) = true then some true else if (!(decide (0 ≤ r.2.2.1) && decide (r.2.2.1 ≤ 9))) = true then some true else if r.2.1 = true then some (r.2.2.1 != 0) else some false)
   = some (!(vName r.1 && vName r.2.2.2.2.2 && tL r.2.2.1 && (!r.2.1 || r.2.2.1 == 0))) := by
  cases vName r.1 <;> cases vName r.2.2.2.2.2 <;> cases hk : tL r.2.2.1 <;> cases r.2.1 <;> simp [hk, bne]
 rw [hc]
 simp only [zob]
 cases hg : (vName r.1 && vName r.2.2.2.2.2 && tL r.2.2.1 && (!r.2.1 || r.2.2.1 == 0)) with
 | false => simp
 | true =>
  simp only [Bool.not_true, zbf, if_false, Bool.true_and]
  have h1 := zLL (B := zFV r) r.2.2.2.1 (fun x => !vName x.2) (.inr 1 : Unit ⊕ Int) (.inl ()) (fun i x hx => by
   unfold zFV
   simp only [wU hx, if_true, wP hx, zob, zKF, wT hx hr]
   cases vName x.2 <;> rfl) (by unfold zFV; simp only [yC, zbf, if_false])
  rw [h1]
  have hall : r.2.2.2.1.all (fun x => vName x.2) = !r.2.2.2.1.any (fun x => !vName x.2) := by rw [List.all_eq_not_any_not]
  rw [hall]
  cases r.2.2.2.1.any (fun x => !vName x.2) with
  | true => rfl
  | false =>
   simp only [wW, zob, zbf, if_false, Bool.not_false, if_true]
   refine zS9 (B := zFU r) r.2.2.2.1 hr (fun i x y hx hy => ?_) (fun k hk => ?_)
   ·unfold zFU
    have e1 : zR (((i + 1 : Nat) : Int) - 1) = (i : Int) := by have := vC hy; rw [uD (by omega) (by omega)]; omega
    simp only [wU hy, if_true, wP hy, e1, wP hx, zob, zKM, wT hy hr]
    split <;> rfl
   ·unfold zFU
    have : decide ((k : Int) < len r.2.2.2.1) = false := by simp [len]; omega
    simp only [this, zbf, if_false]
theorem zX7 (r : wD) : zJ5 r = some (xE r) := by
 unfold zJ5 xE
 by_cases h4 : 4 < r.2.2.2.1.length
 ·have : decide (4 < len r.2.2.2.1) = true := by simp [len]; omega
  simp only [this, if_true, h4]
 have hr : r.2.2.2.1.length < 4294967296 := by omega
 have : decide (4 < len r.2.2.2.1) = false := by simp [len]; omega
 simp only [this, zbf, if_false, h4, zK8, zKG, zFb, zob]
 have hc : (if vName r.1 = true then if (decide (0 ≤ r.2.2.1) && decide (r.2.2.1 ≤ 9)) = true then if (!r.2.1) = true then some (vName r.2.2.2.2.2) else if (r.2.2.1 == 0) = true then some (vName r.2.2.2.2.2) else some false else some false else some false)
   = some (vName r.1 && vName r.2.2.2.2.2 && tL r.2.2.1 && (!r.2.1 || r.2.2.1 == 0)) := by
  cases vName r.1 <;> cases vName r.2.2.2.2.2 <;> cases hk : tL r.2.2.1 <;> cases r.2.1 <;> cases hz : r.2.2.1 == 0 <;> simp [hk]
 rw [hc]
 simp only [zob]
 have h1 := zBK (B := zHP r) r.2.2.2.1 (fun s x => s && vName x.2) (fun s => s) (fun _ _ => True) (vName r.1 && vName r.2.2.2.2.2 && tL r.2.2.1 && (!r.2.1 || r.2.2.1 == 0)) trivial (fun i x s hx _ => ⟨by
  unfold zHP
  simp only [wU hx, if_true, wP hx, zob, zKG]
  cases s <;> simp only [zbf, if_false, if_true, zob, wT hx hr, Bool.false_and, Bool.true_and], trivial⟩) (fun s _ => by unfold zHP; simp only [yC, zbf, if_false])
 rw [h1.1]
 have hf : ∀ (l : List zO) (g : Bool), l.foldl (fun s x => s && vName x.2) g = (g && l.all (fun x => vName x.2)) := by
  intro l
  induction l with
  | nil => intro g; simp
  | cons x l ih => intro g; rw [List.foldl_cons, ih, List.all_cons, Bool.and_assoc]
 rw [hf]
 simp only [zob]
 cases hg : (vName r.1 && vName r.2.2.2.2.2 && tL r.2.2.1 && (!r.2.1 || r.2.2.1 == 0) && r.2.2.2.1.all (fun x => vName x.2)) with
 | false => rfl
 | true =>
  simp only [Bool.not_true, zbf, if_false, if_true]
  refine zS9 (B := zGs r) r.2.2.2.1 hr (fun i x y hx hy => ?_) (fun k hk => ?_)
  ·unfold zGs
   have e1 : zR (((i + 1 : Nat) : Int) - 1) = (i : Int) := by have := vC hy; rw [uD (by omega) (by omega)]; omega
   simp only [wU hy, if_true, wP hy, e1, wP hx, zob, zPX, wT hy hr]
   split <;> rfl
  ·unfold zGs
   have : decide ((k : Int) < len r.2.2.2.1) = false := by simp [len]; omega
   simp only [this, zbf, if_false]
theorem zQq {α : Type} (q : α → Bool) (l : List α) : (if l.any q then zUY q l else -1) = zUY q l := by unfold zUY; split <;> rfl
theorem zU1 (b : zT) (nm : wZ) (h : b.2.1.length < 4294967296) : zJd b nm = some (tT b nm) := by
 have := zNG (B := zHU b nm) (fun r : wD => r.1 == nm) b.2.1 (-1 : Int) (fun i => i) (fun i x hx => by
  unfold zHU
  simp only [wU hx, if_true, wP hx, zob, wT hx h]
  split <;> rfl) (by unfold zHU; simp only [yC, zbf, if_false])
 rw [zQq] at this
 exact this
theorem zTJ (b : zT) (x : zO) (h : b.1.length < 4294967296) : zJG b x = some (zOu b x) := by
 have := zNG (B := zF3 b x) (fun r : vE => r.1 == x) b.1 (-1 : Int) (fun i => i) (fun i x hx => by
  unfold zF3
  simp only [wU hx, if_true, wP hx, zob, wT hx h]
  split <;> rfl) (by unfold zF3; simp only [yC, zbf, if_false])
 rw [zQq] at this
 exact this
theorem zVd (b : zT) (nm : wZ) (h : b.2.1.length < 4294967296) : zF9 b nm = some (tT b nm) := by
 have := zNG (B := zAK b.2.1 nm) (fun r : wD => r.1 == nm) b.2.1 (-1 : Int) (fun i => i) (fun i x hx => by
  unfold zAK zHi
  simp only [wU hx, if_true, wP hx, zob, wT hx h]
  split <;> rfl) (by unfold zAK; simp only [yC, zbf, if_false])
 rw [zQq] at this
 unfold zF9 zAg
 rw [this]
 rfl
theorem zUe (b : zT) (x : zO) (h : b.1.length < 4294967296) : zFT b x = some (zOu b x) := by
 have := zNG (B := zAE b.1 x) (fun r : vE => r.1 == x) b.1 (-1 : Int) (fun i => i) (fun i x hx => by
  unfold zAE zGM
  simp only [wU hx, if_true, wP hx, zob, wT hx h]
  split <;> rfl) (by unfold zAE; simp only [yC, zbf, if_false])
 rw [zQq] at this
 unfold zFT zAV
 rw [this]
 rfl
theorem zSW {b : zT} {nm : wZ} (h : ¬ tT b nm < 0) : ∃ r, zH b.2.1 (tT b nm) = some r := by
 obtain ⟨k, x, h1, h2, _⟩ := zTV (q := fun r : wD => r.1 == nm) (l := b.2.1) (by unfold tT at h; omega)
 exact ⟨x, by rw [tT, h1]; exact wP h2⟩
theorem zR3 (b : zT) (p : vQ) (h : b.2.1.length < 4294967296) : zDZ b p = some (zOO b p) := by
 unfold zDZ zOO zB0
 simp only [zKF, zVd b p.1 h, zob, tL]
 by_cases hr : (decide (0 ≤ p.2.1) && decide (p.2.1 ≤ 9)) = true
 ·simp only [hr, Bool.true_and, Bool.not_true, zbf, if_false]
  cases hv : vName p.2.2.2 with
  | false => rfl
  | true =>
   simp only [Bool.not_true, zbf, if_false, zob, if_true]
   by_cases hn : tT b p.1 < 0
   ·simp [hn]
   ·obtain ⟨r, hr2⟩ := zSW hn
    simp only [hn, decide_false, zbf, if_false, hr2, zob]
    split <;> rfl
 ·rw [Bool.not_eq_true] at hr
  simp only [hr, Bool.false_and, Bool.not_false, if_true, zob, zbf, if_false]
structure Cnt (b : zT) : Prop where
 p : b.1.length < 4294967296
 r : b.2.1.length < 4294967296
 m : b.2.2.length < 4294967296
 q : ∀ r ∈ b.2.1, r.2.2.2.1.length < 4294967296
structure zTl (b : zT) : Prop where
 p : b.1.length < 4294967296
 r : b.2.1.length < 4294967296
 m : b.2.2.length < 4294967296
theorem Cnt.c3 {b : zT} (h : Cnt b) : zTl b := ⟨h.p, h.r, h.m⟩
theorem zNK {b : zT} (h : zTl b) : zEo b = some (zJB b) := by
 unfold zEo zJB
 have h0 : (decide (16 < len b.1) || (decide (24 < len b.2.1) || decide (8 < len b.2.2))) = (decide (16 < b.1.length) || decide (24 < b.2.1.length) || decide (8 < b.2.2.length)) := by
  rw [Bool.eq_iff_iff]; simp [len]; omega
 rw [h0]
 cases hc : (decide (16 < b.1.length) || decide (24 < b.2.1.length) || decide (8 < b.2.2.length)) with
 | true => simp
 | false =>
  simp only [zbf, if_false]
  rw [zJx (B := zET b) b.1 (fun i p => if xS p != 0 then xS p else if zOu b p.1 < (i : Int) then 5 else 0) (fun e => (.inr e : Unit ⊕ Int)) (.inl ()) (fun i x hx => by
   unfold zET
   simp only [wU hx, if_true, wP hx, zob, zT1, zTJ b x.1 h.p, wT hx h.p]
   cases hp : xS x != 0 with
   | true => simp only [if_true, hp]
   | false =>
    by_cases hq : zOu b x.1 < (i : Int)
    ·simp [hq]
    ·simp [hq]) (by unfold zET; simp only [yC, zbf, if_false])]
  cases he : tD (fun i p => if xS p != 0 then xS p else if zOu b p.1 < (i : Int) then 5 else 0) 0 b.1 != 0 with
  | true => simp [wW]
  | false =>
   simp only [zbf, if_false, wW, zob]
   rw [zJx (B := zEJ b) b.2.1 (fun i r => if xE r != 0 then xE r else if tT b r.1 < (i : Int) then 5 else 0) (fun e => (.inr e : Unit ⊕ Int)) (.inl ()) (fun i x hx => by
    unfold zEJ
    simp only [wU hx, if_true, wP hx, zob, zX7 x, zU1 b x.1 h.r, wT hx h.r]
    cases hp : xE x != 0 with
    | true => simp only [if_true, hp]
    | false =>
     by_cases hq : tT b x.1 < (i : Int)
     ·simp [hq]
     ·simp [hq]) (by unfold zEJ; simp only [yC, zbf, if_false])]
   cases he2 : tD (fun i r => if xE r != 0 then xE r else if tT b r.1 < (i : Int) then 5 else 0) 0 b.2.1 != 0 with
   | true => simp
   | false =>
    simp only [zbf, if_false, zob]
    rw [zJx (B := zEF b) b.2.2 (fun _ p => zOO b p) (fun e => e) 0 (fun i x hx => by
     unfold zEF zOO zFb
     simp only [wU hx, if_true, wP hx, zob, zKG, zU1 b x.1 h.r, wT hx h.m, tL]
     by_cases hr : (decide (0 ≤ x.2.1) && decide (x.2.1 ≤ 9)) = true
     ·simp only [hr, Bool.true_and, Bool.not_true, zbf, if_false]
      cases hv : vName x.2.2.2 with
      | false => rfl
      | true =>
       simp only [Bool.not_true, zbf, if_false, zob, if_true]
       by_cases hn : tT b x.1 < 0
       ·simp [hn]
       ·obtain ⟨r, hr2⟩ := zSW hn
        simp only [hn, decide_false, zbf, if_false, hr2, zob]
        cases r.2.1 <;> simp
     ·rw [Bool.not_eq_true] at hr
      simp only [hr, Bool.false_and, Bool.not_false, if_true, zob, zbf, if_false]
      rfl) (by unfold zEF; simp only [yC, zbf, if_false])]
    cases hz : tD (fun _ p => zOO b p) 0 b.2.2 != 0 with
    | true => simp
    | false => simp only [zbf, if_false]; congr 1; exact (by simpa using hz : _ = (0 : Int)).symm
theorem zNp {b : zT} (h : zTl b) : zC2 b = some (zJB b) := by
 unfold zC2 zJB
 have h0 : (decide (16 < len b.1) || (decide (24 < len b.2.1) || decide (8 < len b.2.2))) = (decide (16 < b.1.length) || decide (24 < b.2.1.length) || decide (8 < b.2.2.length)) := by
  rw [Bool.eq_iff_iff]; simp [len]; omega
 rw [h0]
 cases hc : (decide (16 < b.1.length) || decide (24 < b.2.1.length) || decide (8 < b.2.2.length)) with
 | true => simp
 | false =>
  simp only [zbf, if_false]
  rw [zJx (B := zC5 b) b.1 (fun i p => if xS p != 0 then xS p else if zOu b p.1 < (i : Int) then 5 else 0) (fun e => (.inr e : Unit ⊕ Int)) (.inl ()) (fun i x hx => by
   unfold zC5
   simp only [wU hx, if_true, wP hx, zob, zVF, zUe b x.1 h.p, wT hx h.p]
   cases hp : xS x != 0 with
   | true => simp only [if_true, hp]
   | false =>
    by_cases hq : zOu b x.1 < (i : Int)
    ·simp [hq]
    ·simp [hq]) (by unfold zC5; simp only [yC, zbf, if_false])]
  cases he : tD (fun i p => if xS p != 0 then xS p else if zOu b p.1 < (i : Int) then 5 else 0) 0 b.1 != 0 with
  | true => simp [wW]
  | false =>
   simp only [zbf, if_false, wW, zob]
   rw [zJx (B := zC6 b) b.2.1 (fun i r => if xE r != 0 then xE r else if tT b r.1 < (i : Int) then 5 else 0) (fun e => (.inr e : Unit ⊕ Int)) (.inl ()) (fun i x hx => by
    unfold zC6
    simp only [wU hx, if_true, wP hx, zob, zYe x, zVd b x.1 h.r, wT hx h.r]
    cases hp : xE x != 0 with
    | true => simp only [if_true, hp]
    | false =>
     by_cases hq : tT b x.1 < (i : Int)
     ·simp [hq]
     ·simp [hq]) (by unfold zC6; simp only [yC, zbf, if_false])]
   cases he2 : tD (fun i r => if xE r != 0 then xE r else if tT b r.1 < (i : Int) then 5 else 0) 0 b.2.1 != 0 with
   | true => simp
   | false =>
    simp only [zbf, if_false, zob]
    rw [zJx (B := zCc b) b.2.2 (fun _ p => zOO b p) (fun e => e) 0 (fun i x hx => by
     unfold zCc
     simp only [wU hx, if_true, wP hx, zob, zR3 b x h.r, wT hx h.m]
     split <;> rfl) (by unfold zCc; simp only [yC, zbf, if_false])]
    cases hz : tD (fun _ p => zOO b p) 0 b.2.2 != 0 with
    | true => simp
    | false => simp only [zbf, if_false]; congr 1; exact (by simpa using hz : _ = (0 : Int)).symm
theorem zRz {b : zT} (h : Cnt b) : zEo b = some (zJB b) := zNK h.c3
theorem zT0 {b : zT} (h : Cnt b) : zC2 b = some (zJB b) := zNp h.c3
structure zIM (b : zT) : Prop where
 np : b.1.length ≤ 16
 nr : b.2.1.length ≤ 24
 nm : b.2.2.length ≤ 8
 prem : ∀ p ∈ b.1, xS p = 0
 rule : ∀ r ∈ b.2.1, xE r = 0
 dp : ∀ (i j : Nat) p q, b.1[i]? = some p → b.1[j]? = some q → p.1 = q.1 → i = j
 dr : ∀ (i j : Nat) p q, b.2.1[i]? = some p → b.2.1[j]? = some q → p.1 = q.1 → i = j
 prom : ∀ p ∈ b.2.2, zOO b p = 0
theorem zQS {α β : Type} [BEq β] [LawfulBEq β] (g : α → β) (l : List α) : (∀ (i : Nat) p, l[i]? = some p → ¬ zUY (fun x => g x == g p) l < (i : Int)) ↔ ∀ (i j : Nat) p q, l[i]? = some p → l[j]? = some q → g p = g q → i = j := by
 constructor
 ·intro h i j p q hp hq e
  have h1 := h i p hp
  have h2 := h j q hq
  have h3 := (zQ2 (q := fun x => g x == g p) hq (by simp [e])).2
  have h4 := (zQ2 (q := fun x => g x == g q) hp (by simp [e])).2
  rw [e] at h1 h3
  omega
 ·intro h i p hp hlt
  have h1 := zQ2 (q := fun x => g x == g p) hp (by simp)
  obtain ⟨k, x, e1, e2, e3, _⟩ := zTV h1.1
  have := h k i x p e2 hp (by simpa using e3)
  omega
theorem zHm {b : zT} : zJB b = 0 ↔ zIM b := by
 have hcnd : ∀ (a c : Int) (p : Prop) [Decidable p], (if a != 0 then a else if p then 5 else 0) = (0 : Int) ↔ a = 0 ∧ ¬ p := fun a c p _ => by
  by_cases ha : a = 0
  ·by_cases hp : p <;> simp [ha, hp]
  ·simp [ha]
 have h1 : tD (fun i p => if xS p != 0 then xS p else if zOu b p.1 < (i : Int) then 5 else 0) 0 b.1 = 0 ↔ (∀ p ∈ b.1, xS p = 0) ∧ ∀ (i j : Nat) p q, b.1[i]? = some p → b.1[j]? = some q → p.1 = q.1 → i = j := by
  rw [zOr, ← zQS (fun p : vE => p.1)]
  simp only [Nat.zero_add, hcnd _ 0]
  exact ⟨fun h => ⟨fun p hp => by obtain ⟨i, hi⟩ := List.mem_iff_getElem?.1 hp; exact (h i p hi).1, fun i p hp => (h i p hp).2⟩, fun h i p hp => ⟨h.1 p (vV hp), h.2 i p hp⟩⟩
 have h2 : tD (fun i r => if xE r != 0 then xE r else if tT b r.1 < (i : Int) then 5 else 0) 0 b.2.1 = 0 ↔ (∀ p ∈ b.2.1, xE p = 0) ∧ ∀ (i j : Nat) p q, b.2.1[i]? = some p → b.2.1[j]? = some q → p.1 = q.1 → i = j := by
  rw [zOr, ← zQS (fun p : wD => p.1)]
  simp only [Nat.zero_add, hcnd _ 0]
  exact ⟨fun h => ⟨fun p hp => by obtain ⟨i, hi⟩ := List.mem_iff_getElem?.1 hp; exact (h i p hi).1, fun i p hp => (h i p hp).2⟩, fun h i p hp => ⟨h.1 p (vV hp), h.2 i p hp⟩⟩
 have h3 : tD (fun _ p => zOO b p) 0 b.2.2 = 0 ↔ ∀ p ∈ b.2.2, zOO b p = 0 := by
  rw [zOr]
  exact ⟨fun h p hp => by obtain ⟨i, hi⟩ := List.mem_iff_getElem?.1 hp; exact h i p hi, fun h i p hp => h p (vV hp)⟩
 unfold zJB
 cases hc : (decide (16 < b.1.length) || decide (24 < b.2.1.length) || decide (8 < b.2.2.length)) with
 | true =>
  simp only [if_true]
  refine ⟨fun h => (by cases h), fun h => ?_⟩
  simp at hc
  have := h.np; have := h.nr; have := h.nm
  omega
 | false =>
  simp at hc
  simp only [zbf, if_false]
  constructor
  ·intro h
   have e1 : tD (fun i p => if xS p != 0 then xS p else if zOu b p.1 < (i : Int) then 5 else 0) 0 b.1 = 0 := by
    refine Decidable.byContradiction fun hn => ?_
    rw [if_pos (by simpa using hn)] at h
    exact hn h
   rw [if_neg (by rw [e1]; simp)] at h
   have e2 : tD (fun i r => if xE r != 0 then xE r else if tT b r.1 < (i : Int) then 5 else 0) 0 b.2.1 = 0 := by
    refine Decidable.byContradiction fun hn => ?_
    rw [if_pos (by simpa using hn)] at h
    exact hn h
   rw [if_neg (by rw [e2]; simp)] at h
   exact ⟨by omega, by omega, by omega, (h1.1 e1).1, (h2.1 e2).1, (h1.1 e1).2, (h2.1 e2).2, h3.1 h⟩
  ·intro h
   rw [if_neg (by rw [h1.2 ⟨h.prem, h.dp⟩]; simp), if_neg (by rw [h2.2 ⟨h.rule, h.dr⟩]; simp)]
   exact h3.2 h.prom
end
section
variable {b : zT} {l m : List zP}
structure FormC (b : zT) (l : List zP) : Prop extends FormB b l where
 l41 : l.length ≤ 41
 pr : ∀ (i : Nat) a p, l[i]? = some a → 0 ≤ a.1 → zH b.1 a.1 = some p → a.2.2.2 = p.1 ∧ a.2.2.1 = []
 ru : ∀ (i : Nat) a r, l[i]? = some a → 0 ≤ a.2.1 → zH b.2.1 a.2.1 = some r → a.2.2.2 = r.2.2.2.2 ∧ a.2.2.1.length = r.2.2.2.1.length ∧ ∀ (j : Nat) k y, a.2.2.1[j]? = some k → r.2.2.2.1[j]? = some y → ∃ a', zH l k = some a' ∧ a'.2.2.2 = y
structure zYP (b : zT) (l : List zP) (a : zP) : Prop where
 p : a.1 = -1
 r : ∃ q, zH b.2.1 a.2.1 = some q ∧ a.2.2.2 = q.2.2.2.2 ∧ a.2.2.1.length = q.2.2.2.1.length ∧ a.2.2.1.length ≤ 100 ∧ ∀ (j : Nat) k y, a.2.2.1[j]? = some k → q.2.2.2.1[j]? = some y → ∃ a', zH l k = some a' ∧ a'.2.2.2 = y
theorem zUH {α : Type} {l : List α} {i : Int} {x : α} (h : zH l i = some x) : 0 ≤ i ∧ i < l.length := by
 obtain ⟨n, rfl, hn⟩ := zMM h
 exact ⟨by omega, by have := vC hn; omega⟩
theorem zNb {α : Type} {l m : List α} {i : Int} {x : α} (h : zH l i = some x) : zH (l ++ m) i = some x := by
 obtain ⟨n, rfl, hn⟩ := zMM h
 rw [uT, List.getElem?_append_left (vC hn)]
 exact hn
theorem zIo {α : Type} {l m : List α} {i : Int} (h1 : i < l.length) : zH (l ++ m) i = zH l i := by
 unfold zH
 split
 ·rw [List.getElem?_append_left (by omega)]
 ·rfl
theorem zYP.sub {a : zP} (h : zYP b l a) : ∀ k ∈ a.2.2.1, 0 ≤ k ∧ k < l.length := by
 intro k hk
 obtain ⟨q, _, _, h3, _, h5⟩ := h.r
 obtain ⟨j, hj⟩ := List.mem_iff_getElem?.1 hk
 have hjl := vC hj
 obtain ⟨a', h6, _⟩ := h5 j k _ hj (List.getElem?_eq_getElem (by omega))
 exact zUH h6
theorem zYP.more {a : zP} (h : zYP b l a) : zYP b (l ++ m) a := by
 obtain ⟨q, h1, h2, h3, h4, h5⟩ := h.r
 exact ⟨h.p, q, h1, h2, h3, h4, fun j k y hk hy => by obtain ⟨a', h6, h7⟩ := h5 j k y hk hy; exact ⟨a', zNb h6, h7⟩⟩
theorem FormC.app (h : FormC b l) (hm : ∀ a ∈ m, zYP b l a) (hl : l.length + m.length ≤ 41) : FormC b (l ++ m) := by
 have hlen : (l ++ m).length ≤ 41 := by rw [List.length_append]; exact hl
 have key : ∀ (i : Nat) a, (l ++ m)[i]? = some a → (l[i]? = some a ∧ i < l.length) ∨ (l.length ≤ i ∧ a ∈ m) := fun i a ha => by
  by_cases hi : i < l.length
  ·rw [List.getElem?_append_left hi] at ha; exact .inl ⟨ha, hi⟩
  ·rw [List.getElem?_append_right (by omega)] at ha; exact .inr ⟨by omega, vV ha⟩
 refine ⟨⟨⟨by omega, fun a ha => ?_, fun i a ha k hk => ?_⟩, h.np, h.nr, fun i a ha => ?_⟩, hlen, fun i a p ha h0 hp => ?_, fun i a r ha h0 hr => ?_⟩
 ·rcases List.mem_append.1 ha with ha | ha
  ·exact h.nsub a ha
  ·obtain ⟨q, _, _, _, h4, _⟩ := (hm a ha).r; exact h4
 ·rcases key i a ha with ⟨h1, _⟩ | ⟨h1, h2⟩
  ·exact h.sub i a h1 k hk
  ·have := (hm a h2).sub k hk; omega
 ·rcases key i a ha with ⟨h1, _⟩ | ⟨h1, h2⟩
  ·exact h.kind i a h1
  ·obtain ⟨q, h3, _⟩ := (hm a h2).r
   have := zUH h3
   exact .inr ⟨(hm a h2).p, this⟩
 ·rcases key i a ha with ⟨h1, _⟩ | ⟨h1, h2⟩
  ·exact h.pr i a p h1 h0 hp
  ·rw [(hm a h2).p] at h0; omega
 ·rcases key i a ha with ⟨h1, _⟩ | ⟨h1, h2⟩
  ·obtain ⟨g1, g2, g3⟩ := h.ru i a r h1 h0 hr
   exact ⟨g1, g2, fun j k y hk hy => by obtain ⟨a', h6, h7⟩ := g3 j k y hk hy; exact ⟨a', zNb h6, h7⟩⟩
  ·obtain ⟨q, g1, g2, g3, _, g5⟩ := (hm a h2).r
   rw [hr] at g1
   cases g1
   exact ⟨g2, g3, fun j k y hk hy => by obtain ⟨a', h6, h7⟩ := g5 j k y hk hy; exact ⟨a', zNb h6, h7⟩⟩
theorem zZQ (h : FormA l) {i j : Int} (h0 : 0 ≤ i) (h1 : i < l.length) : tV (l ++ m) i j ↔ tV l i j := by
 constructor
 ·intro hs
  induction hs with
  | self i => exact .self i
  | step hi hk _ ih =>
   rw [zIo h1] at hi
   have := (h.at hi).2.2.2 _ hk
   exact .step hi hk (ih this.1 (by omega))
 ·intro hs
  clear h0 h1
  induction hs with
  | self i => exact .self i
  | step hi hk _ ih => exact .step (zNb hi) hk ih
theorem zX2 (h : FormA l) (h' : FormA (l ++ m)) {i : Int} (h0 : 0 ≤ i) (h1 : i < l.length) : vR (l ++ m) i = vR l i := by
 refine vF.ext uW (zKB _ i) (zKB _ i) fun j => ?_
 rw [zIO h h0 h1, zIO h' h0 (by rw [List.length_append]; omega), zZQ h h0 h1]
theorem zYK (h : FormC b l) (h' : FormC b (l ++ m)) {i : Int} (h0 : 0 ≤ i) (h1 : i < l.length) : uB b (l ++ m) i = uB b l i := by
 refine vF.ext uW (zSl _) (zSl _) fun y => ?_
 rw [zMj h.toFormB h0 h1, zMj h'.toFormB h0 (by rw [List.length_append]; omega), zX2 h.toFormA h'.toFormA h0 h1]
 refine exists_congr fun j => and_congr_right fun hj => ?_
 have := ((zIO h.toFormA h0 h1 j).1 hj).le h.toFormA h0
 rw [zIo (by omega)]
inductive zKv (b : zT) (l : List zP) : Int → zO → Prop
 | here {i : Int} {a : zP} : zH l i = some a → zKv b l i a.2.2.2
 | step {i k : Int} {a : zP} {r : wD} {y : zO} : zH l i = some a → 0 ≤ a.2.1 → zH b.2.1 a.2.1 = some r → r.2.1 = true → k ∈ a.2.2.1 → zKv b l k y → zKv b l i y
theorem zZF (h : FormA l) {i : Int} {y : zO} (h0 : 0 ≤ i) (h1 : i < l.length) : zKv b (l ++ m) i y ↔ zKv b l i y := by
 constructor
 ·intro hs
  induction hs with
  | here hi => rw [zIo h1] at hi; exact .here hi
  | step hi hr hq hs hk _ ih =>
   rw [zIo h1] at hi
   have := (h.at hi).2.2.2 _ hk
   exact .step hi hr hq hs hk (ih this.1 (by omega))
 ·intro hs
  clear h0 h1
  induction hs with
  | here hi => exact .here (zNb hi)
  | step hi hr hq hs hk _ ih => exact .step (zNb hi) hr hq hs hk ih
structure zYn (b : zT) (l : List zP) : Prop where
 ref : ∀ i : Int, 0 ≤ i → i < l.length → ∃ r, zHo b l i = some r ∧ r.length < 4294967296 ∧ ∀ y, y ∈ r ↔ zKv b l i y
structure zZS (b : zT) (l : List zP) : Prop where
 arg : ∀ i : Int, 0 ≤ i → i < l.length → ∃ r, zGR b l i = some r ∧ r.length < 4294967296 ∧ ∀ y, y ∈ r ↔ zKv b l i y
structure zWT (b : zT) (l : List zP) (sz : Int → Nat) : Prop where
 one : ∀ i, 1 ≤ sz i
 big : ∀ i : Int, 0 ≤ i → i < l.length → sz i < 4294967296
 step : ∀ i a r, zH l i = some a → 0 ≤ a.2.1 → zH b.2.1 a.2.1 = some r → r.2.1 = true → 1 + (a.2.2.1.map sz).sum ≤ sz i
theorem zTN (f : Int → Nat) (l : List Int) (q : Nat) : ((l.take q).map f).sum ≤ (l.map f).sum := by
 have h := congrArg (fun x => (x.map f).sum) (List.take_append_drop q l)
 simp only [List.map_append, List.sum_append] at h
 omega
theorem zWf {sz : Int → Nat} (h : FormB b l) (hz : zWT b l sz) : ∀ (n : Nat) (i : Int), 0 ≤ i → i < l.length → i < n → ∃ r, zAb n b l i = some r ∧ r.length ≤ sz i ∧ ∀ y, y ∈ r ↔ zKv b l i y := by
 intro n
 induction n with
 | zero => intro i h0 _ h2; omega
 | succ n ih =>
  intro i h0 h1 h2
  obtain ⟨a, ha⟩ := tH h0 h1
  obtain ⟨hn, _, _, hsub⟩ := h.toFormA.at ha
  have h1z := hz.one i
  show ∃ r, zEK (zAb n) b l i = some r ∧ _
  unfold zEK
  simp only [ha, zob]
  have hone : ∀ (hno : ∀ r, 0 ≤ a.2.1 → zH b.2.1 a.2.1 = some r → r.2.1 = false) y, y ∈ [a.2.2.2] ↔ zKv b l i y := fun hno y => by
   rw [List.mem_singleton]
   constructor
   ·rintro rfl; exact .here ha
   ·intro hr
    cases hr with
    | here h1 => rw [ha] at h1; cases h1; rfl
    | step h1 h2 h3 h4 _ _ => rw [ha] at h1; cases h1; rw [hno _ h2 h3] at h4; cases h4
  by_cases hr : 0 ≤ a.2.1
  ·obtain ⟨r, hr2⟩ := (h.prem ha).2.1 ((h.prem ha).2.2.1 hr)
   simp only [hr, decide_true, if_true, hr2, zob]
   cases hs : r.2.1 with
   | false =>
    exact ⟨_, rfl, by simpa using h1z, hone fun r' _ h3 => by rw [hr2] at h3; cases h3; exact hs⟩
   | true =>
    simp only [if_true]
    have hst := hz.step i a r ha hr hr2 hs
    have hbig := hz.big i h0 h1
    refine (yJ (B := zDO l i (zAb n) b) (fun q (s : List zO) => (s, (q : Int))) a.2.2.1 (fun q s => s.length ≤ 1 + ((a.2.2.1.take q).map sz).sum ∧ ∀ y, y ∈ s ↔ y = a.2.2.2 ∨ ∃ k ∈ a.2.2.1.take q, zKv b l k y)
     (fun r => r.length ≤ sz i ∧ ∀ y, y ∈ r ↔ zKv b l i y) (fun q k s hk hI => ?_) (fun s hI => ?_) [a.2.2.2] (by simp))
    ·obtain ⟨g1, g2⟩ := hI
     have hks := hsub k (vV hk)
     obtain ⟨r1, e1, e2, e3⟩ := ih k hks.1 (by omega) (by omega)
     have hq := zTN sz a.2.2.1 (q + 1)
     rw [uE hk, List.map_append, List.sum_append] at hq
     simp only [List.map_cons, List.map_nil, List.sum_cons, List.sum_nil] at hq
     refine .inl ⟨s ++ r1, ?_, ?_, fun y => ?_⟩
     ·unfold zDO
      simp only [ha, zob, wU hk, if_true, wP hk, e1]
      rw [vN (by omega)]
      simp only [zob, wT hk (show a.2.2.1.length < 4294967296 by omega)]
     ·rw [uE hk, List.map_append, List.sum_append, List.length_append]
      simp only [List.map_cons, List.map_nil, List.sum_cons, List.sum_nil]
      omega
     ·rw [List.mem_append, g2, e3, uE hk]
      simp only [List.mem_append, List.mem_singleton, or_and_right, exists_or, exists_eq_left, or_assoc]
    ·obtain ⟨g1, g2⟩ := hI
     rw [List.take_length] at g1 g2
     refine ⟨s, by unfold zDO; simp only [ha, zob, yC, zbf, if_false], by omega, fun y => ?_⟩
     rw [g2]
     constructor
     ·rintro (rfl | ⟨k, h1, h2⟩)
      ·exact .here ha
      ·exact .step ha hr hr2 hs h1 h2
     ·intro hrun
      cases hrun with
      | here h1 => rw [ha] at h1; cases h1; exact .inl rfl
      | step h1 _ _ _ h5 h6 => rw [ha] at h1; cases h1; exact .inr ⟨_, h5, h6⟩
  ·simp only [hr, decide_false, zbf, if_false, zob]
   exact ⟨_, rfl, by simpa using h1z, hone fun r' h2 _ => absurd h2 hr⟩
theorem zRj {n n' : Nat} (b : zT) (l : List zP) : n ≤ n' → ∀ i r, zAb n b l i = some r → zAb n' b l i = some r := by
 intro hn i r h
 have key : ∀ n n', n ≤ n' → ∀ i r, zAb n b l i = some r → zAb n' b l i = some r := by
  intro n
  induction n with
  | zero => intro n' _ i r h; cases h
  | succ n ih =>
   intro n' hn i r h
   obtain ⟨n', rfl⟩ : ∃ q, n' = q + 1 := ⟨n' - 1, by omega⟩
   have hle : Le (zEK (zAb n) b l i) (zEK (zAb n') b l i) := by
    have hrec : ∀ x, Le (zAb n b l x) (zAb n' b l x) := fun x => ⟨fun r hr => ih n' (by omega) x r hr⟩
    unfold zEK
    refine Le.bind (Le.refl _) fun x1 => Le.bind (Le.refl _) fun s1 => ?_
    refine Le.ite ?_ (Le.refl _)
    refine ⟨fun r hr => ?_⟩
    obtain ⟨q, hq⟩ := zGm hr
    refine (Le.lp (B := zDO l i (zAb n) b) (fun s => ?_) q _).el r hq
    unfold zDO
    refine Le.bind (Le.refl _) fun x5 => ?_
    refine Le.ite ?_ (Le.refl _)
    refine Le.bind (Le.refl _) fun x6 => Le.bind (Le.refl _) fun x7 => Le.bind (hrec _) fun r1 => Le.refl _
   exact hle.el r h
 exact key n n' hn i r h
theorem zV6 {sz : Int → Nat} (h : FormB b l) (hz : zWT b l sz) {i : Int} (h0 : 0 ≤ i) (h1 : i < l.length) : ∃ r, zHo b l i = some r ∧ r.length < 4294967296 ∧ ∀ y, y ∈ r ↔ zKv b l i y := by
 obtain ⟨r, e1, e2, e3⟩ := zWf h hz (i.toNat + 1) i h0 h1 (by omega)
 have := hz.big i h0 h1
 exact ⟨r, zL7 (i.toNat + 1) fun m hm => zRj b l hm i r e1, by omega, e3⟩
theorem zRc (b : zT) (l : List zP) (_h : FormB b l) : ∀ (n : Nat) (i : Int), zCG n b l i = zAb n b l i := by
 intro n
 induction n with
 | zero => intro i; rfl
 | succ n ih =>
  intro i
  have hrec : zCG n = zCG n := rfl
  show zHx (zCG n) b l i = zEK (zAb n) b l i
  unfold zHx zEK
  cases ha : zH l i with
  | none => rfl
  | some a =>
   simp only [zob]
   congr 1
   funext s1
   split
   ·congr 1
    funext s
    unfold zJn zDO
    simp only [ha, zob, ih]
   ·rfl
theorem zZO (h : FormB b l) (i : Int) : zGR b l i = zHo b l i := by
 unfold zGR zHo
 congr 1
 funext k
 exact zRc b l h k i
theorem runsB {sz : Int → Nat} (h : FormB b l) (hz : zWT b l sz) : zYn b l :=
 ⟨fun _ h0 h1 => zV6 h hz h0 h1⟩
theorem zZD {sz : Int → Nat} (h : FormB b l) (hz : zWT b l sz) : zZS b l :=
 ⟨fun _ h0 h1 => by rw [zZO h]; exact zV6 h hz h0 h1⟩
open Classical in
noncomputable def zXR (b : zT) (l : List zP) (q : Int) (r : wD) (k : Int) : Bool := if r.2.1 then decide (zKv b l k r.2.2.2.2) else decide (q ∈ uB b l k)
noncomputable def xP (b : zT) (l : List zP) (q : Int) (r : wD) (subs : List Int) : Bool := !subs.any (zXR b l q r)
theorem zKD (h : FormC b l) (h' : FormC b (l ++ m)) {q : Int} {r : wD} {subs : List Int} (hs : ∀ k ∈ subs, 0 ≤ k ∧ k < l.length) : xP b (l ++ m) q r subs = xP b l q r subs := by
 unfold xP
 congr 1
 rw [Bool.eq_iff_iff, List.any_eq_true, List.any_eq_true]
 refine exists_congr fun k => and_congr_right fun hk => ?_
 have := hs k hk
 unfold zXR
 rw [zYK h h' this.1 this.2]
 split
 ·simp only [decide_eq_true_eq]; exact zZF h.toFormA this.1 this.2
 ·exact Iff.rfl
theorem ref_in (m : List Int) (x : Int) (hb : m.length < 4294967296) : zLo m x = some (decide (x ∈ m)) := by
 have h := zK2 (B := zId m x) m (fun y => y == x) (fun i y hy => by
  unfold zId
  simp only [wU hy, if_true, wP hy, zob, wT hy hb]
  split <;> rfl) (by unfold zId; simp only [yC, zbf, if_false])
 refine h.trans ?_
 congr 1
 rw [Bool.eq_iff_iff]
 simp
theorem zVV (h : FormC b l) (hr : zYn b l) {q : Int} {r : wD} {subs : List Int} (hq : zH b.2.1 q = some r) (hs : ∀ k ∈ subs, 0 ≤ k ∧ k < l.length) (hn : subs.length < 4294967296) : zFD b l q subs = some (xP b l q r subs) := by
 have hl := h.len
 unfold zFD
 simp only [hq, zob]
 have hL := zLL (B := zFu subs r b l q) subs (zXR b l q r) false true (fun i k hk => ?_) (by unfold zFu; simp only [yC, zbf, if_false])
 ·rw [hL]
  unfold xP
  cases subs.any (zXR b l q r) <;> rfl
 ·have hks := hs k (vV hk)
  unfold zFu
  simp only [wU hk, if_true, wP hk, zob, wT hk hn]
  unfold zXR
  cases hst : r.2.1 with
  | true =>
   obtain ⟨ru, e1, e2, e3⟩ := hr.ref k hks.1 hks.2
   simp only [if_true, e1, zob, zWG r.2.2.2.2 (show ru.length < 9223372036854775807 by omega), Bool.not_true, zbf, if_false]
   by_cases hm : zKv b l k r.2.2.2.2
   ·simp [(e3 _).2 hm, hm]
   ·have : ¬ r.2.2.2.2 ∈ ru := fun hc => hm ((e3 _).1 hc)
    simp [this, hm]
  | false =>
   have hd := zIN b l k
   simp only [zbf, if_false, Bool.not_false, if_true, zMJ h.toFormB hks.1 hks.2, zob, ref_in (uB b l k) q (by omega)]
   by_cases hm : q ∈ uB b l k <;> simp [hm]
theorem zVT (h : FormC b l) (hr : zZS b l) {q : Int} {r : wD} {subs : List Int} (hq : zH b.2.1 q = some r) (hs : ∀ k ∈ subs, 0 ≤ k ∧ k < l.length) (hn : subs.length < 4294967296) : zFt b l q subs = some (xP b l q r subs) := by
 have hl := h.len
 unfold zFt
 have hL := zLL (B := zD1 subs b q l) subs (zXR b l q r) false true (fun i k hk => ?_) (by unfold zD1; simp only [yC, zbf, if_false])
 ·rw [hL]
  unfold xP
  cases subs.any (zXR b l q r) <;> rfl
 ·have hks := hs k (vV hk)
  unfold zD1
  simp only [wU hk, if_true, wP hk, zob, wT hk hn, hq]
  unfold zXR
  cases hst : r.2.1 with
  | true =>
   obtain ⟨ru, e1, e2, e3⟩ := hr.arg k hks.1 hks.2
   simp only [if_true, e1, zob, zRJ r.2.2.2.2 (show ru.length < 9223372036854775807 by omega)]
   by_cases hm : zKv b l k r.2.2.2.2
   ·simp [(e3 _).2 hm, hm]
   ·have : ¬ r.2.2.2.2 ∈ ru := fun hc => hm ((e3 _).1 hc)
    simp [this, hm]
  | false =>
   have hd := zIN b l k
   simp only [zbf, if_false, zML h.toFormB hks.1 hks.2, zob, zLZ (uB b l k) q (by omega)]
   by_cases hm : q ∈ uB b l k <;> simp [hm]
def xH (l : List zP) (n : Nat) : List zO → List Int → List (List Int)
 | [], sofar => [sofar]
 | y :: ys, sofar => (wG n).flatMap fun i => match zH l i with
  | some a => if a.2.2.2 == y then xH l n ys (sofar ++ [i]) else []
  | none => []
theorem zQr (l : List zP) (n : Nat) : ∀ (ys : List zO) (sofar : List Int), (xH l n ys sofar).length ≤ n ^ ys.length
 | [], sofar => by simp [xH]
 | y :: ys, sofar => by
  have := zIt (fun i => match zH l i with | some a => if a.2.2.2 == y then xH l n ys (sofar ++ [i]) else [] | none => []) (n ^ ys.length) (wG n) (fun i _ => by
   split
   ·split
    ·exact zQr l n ys _
    ·simp
   ·simp)
  rw [yO] at this
  simp only [xH, List.length_cons, Nat.pow_succ]
  rw [Nat.mul_comm]; exact this
theorem zMY (l : List zP) (n : Nat) : ∀ (ys : List zO) (sofar s : List Int), s ∈ xH l n ys sofar ↔ ∃ t, s = sofar ++ t ∧ t.length = ys.length ∧ ∀ (j : Nat) k y, t[j]? = some k → ys[j]? = some y → 0 ≤ k ∧ k < n ∧ ∃ a, zH l k = some a ∧ a.2.2.2 = y
 | [], sofar, s => by
  simp only [xH, List.mem_singleton]
  constructor
  ·rintro rfl; exact ⟨[], by simp, rfl, fun j k y h _ => by simp at h⟩
  ·rintro ⟨t, rfl, h2, _⟩; have := List.eq_nil_of_length_eq_zero h2; subst this; simp
 | y :: ys, sofar, s => by
  simp only [xH, List.mem_flatMap, uA]
  constructor
  ·rintro ⟨i, hi, hs⟩
   split at hs
   ·rename_i a ha
    split at hs
    ·rename_i hc
     obtain ⟨t, h1, h2, h3⟩ := (zMY l n ys _ s).1 hs
     refine ⟨i :: t, by rw [h1]; simp, by simp [h2], fun j k z hk hz => ?_⟩
     cases j with
     | zero =>
      simp at hk hz
      subst hk hz
      exact ⟨hi.1, hi.2, a, ha, by simpa using hc⟩
     | succ j => exact h3 j k z (by simpa using hk) (by simpa using hz)
    ·cases hs
   ·cases hs
  ·rintro ⟨t, h1, h2, h3⟩
   cases t with
   | nil => simp at h2
   | cons i t =>
    obtain ⟨i0, i1, a, ha, hay⟩ := h3 0 i y rfl rfl
    refine ⟨i, ⟨i0, i1⟩, ?_⟩
    simp only [ha]
    rw [if_pos (by simp [hay])]
    exact (zMY l n ys _ s).2 ⟨t, by rw [h1]; simp, by simpa using h2, fun j k z hk hz => h3 (j + 1) k z (by simpa using hk) (by simpa using hz)⟩
theorem zQY {k : Nat} (hl : l.length ≤ 100) {n : Nat} (hn : n ≤ l.length) (body : List zO) (hb : body.length ≤ 4) : ∀ (ys : List zO) (sofar : List Int), ys = body.drop sofar.length → sofar.length ≤ body.length → ys.length < k → zB4 k l (n : Int) body sofar = some (xH l n ys sofar) := by
 induction k with
 | zero => intro ys _ _ _ h; omega
 | succ k ih =>
  intro ys sofar hys hle hk
  show zFy (zB4 k) l n body sofar = _
  unfold zFy
  have hyl : ys.length = body.length - sofar.length := by rw [hys, List.length_drop]
  cases ys with
  | nil =>
   have : (len sofar == len body) = true := by simp [len] at hyl ⊢; omega
   simp only [this, if_true]
   rw [vN (by simp; omega)]
   rfl
  | cons y ys =>
   have hlt : sofar.length < body.length := by simp at hyl; omega
   have : (len sofar == len body) = false := by rw [beq_eq_false_iff_ne]; simp [len]; omega
   simp only [this, zbf, if_false]
   have hy : body[sofar.length]? = some y := by
    have := congrArg (·[0]?) hys
    simp only [List.getElem?_cons_zero, List.getElem?_drop, Nat.add_zero] at this
    exact this.symm
   have hys2 : ys = body.drop (sofar.length + 1) := by
    have := congrArg List.tail hys
    simpa [List.tail_drop] using this
   have hpow : n ^ ys.length ≤ 1000000 := by
    have h1 : ys.length ≤ 3 := by simp at hyl; omega
    calc n ^ ys.length ≤ 100 ^ ys.length := Nat.pow_le_pow_left (by omega) _
     _ ≤ 100 ^ 3 := Nat.pow_le_pow_right (by omega) h1
   refine (zGV (B := zDY n l body sofar (zB4 k)) (wG n) (fun i => match zH l i with | some a => if a.2.2.2 == y then xH l n ys (sofar ++ [i]) else [] | none => []) (fun s => s) 1000000 (fun i _ => by
    split
    ·split
     ·exact Nat.le_trans (zQr l n ys _) hpow
     ·simp
    ·simp) [] (fun q i s hi hs => ?_) (fun s => ?_))
   ·obtain ⟨rfl, hq⟩ := zHG hi
    obtain ⟨a, ha⟩ := tH (l := l) (show (0 : Int) ≤ q by omega) (by omega)
    have hd : decide ((q : Int) < (n : Int)) = true := by simp; omega
    have hw : zR ((q : Int) + 1) = ((q + 1 : Nat) : Int) := vT q (by omega)
    unfold zDY
    simp only [hd, if_true, ha, zob, show zH body (len sofar) = some y from by rw [show len sofar = ((sofar.length : Nat) : Int) from rfl, uT]; exact hy]
    cases hc : a.2.2.2 == y with
    | false => simp only [zbf, if_false, List.append_nil, hw]
    | true =>
     simp only [if_true]
     rw [zK9 (by simp [len]) (by simp [len])]
     simp only [zob, len, Int.toNat_natCast, List.take_length]
     rw [vN (by simp; omega)]
     simp only [zob]
     have hcl := Nat.le_trans (zQr l n ys (sofar ++ [(q : Int)])) hpow
     rw [ih ys (sofar ++ [(q : Int)]) (by simpa using hys2) (by simp; omega) (by simp at hk; omega)]
     simp only [zob]
     simp only [List.length_nil] at hs
     rw [vN (by omega)]
     simp only [zob, hw]
   ·unfold zDY
    have hd : decide (((wG n).length : Int) < (n : Int)) = false := by rw [yO]; simp
    simp only [hd, zbf, if_false]
theorem zTA (hl : l.length ≤ 100) {n : Nat} (hn : n ≤ l.length) (body : List zO) (hb : body.length ≤ 4) : zHn l (n : Int) body [] = some (xH l n body []) :=
 zL7 5 fun k hk => zQY hl hn body hb body [] (by simp) (by simp) (by omega)
theorem zWm {n : Nat} (hn : n ≤ l.length) : ∀ (ys : List zO) (sofar : List Int), xH (l ++ m) n ys sofar = xH l n ys sofar
 | [], _ => rfl
 | y :: ys, sofar => by
  simp only [xH]
  have key : ∀ is : List Int, (∀ i ∈ is, 0 ≤ i ∧ i < n) → is.flatMap (fun i => match zH (l ++ m) i with | some a => if a.2.2.2 == y then xH (l ++ m) n ys (sofar ++ [i]) else [] | none => []) = is.flatMap (fun i => match zH l i with | some a => if a.2.2.2 == y then xH l n ys (sofar ++ [i]) else [] | none => []) := by
   intro is
   induction is with
   | nil => intro _; rfl
   | cons i is ih =>
    intro h
    have h1 := h i List.mem_cons_self
    rw [List.flatMap_cons, List.flatMap_cons, ih fun j hj => h j (List.mem_cons_of_mem _ hj), zIo (by omega)]
    congr 1
    split
    ·split
     ·exact zWm hn ys _
     ·rfl
    ·rfl
  exact key _ fun i hi => uA.1 hi
theorem zVN (subs : List Int) (f : Int) (h : subs.length < 4294967296) : zJj subs f = some (subs.any fun k => decide (f ≤ k)) :=
 zK2 (B := zGB subs f) subs (fun k => decide (f ≤ k)) (fun i k hk => by
  unfold zGB
  simp only [wU hk, if_true, wP hk, zob, wT hk h]
  split <;> rfl) (by unfold zGB; simp only [yC, zbf, if_false])
end
section
variable {b : zT} {l m : List zP}
structure uF (b : zT) (l : List zP) : Prop extends FormC b l where
 cut : ∀ (i : Nat) a r, l[i]? = some a → 0 ≤ a.2.1 → zH b.2.1 a.2.1 = some r → xP b l a.2.1 r a.2.2.1 = true
structure zKa (b : zT) (D : List zO) (c : Nat) : Prop where
 valid : zIM b
 rule : ∀ r ∈ b.2.1, r.2.2.2.2 ∈ D ∧ r.2.2.2.1.length ≤ c
 sz : (c + 1) ^ D.length < 4294967296
theorem zMf {r : wD} (h : xE r = 0) : r.2.2.2.1.length ≤ 4 := by
 unfold xE at h
 split at h
 ·cases h
 ·omega
theorem zKa.body {D : List zO} {c : Nat} (h : zKa b D c) {q : Int} {r : wD} (hq : zH b.2.1 q = some r) : r.2.2.2.1.length ≤ 4 := by
 obtain ⟨n, rfl, hn⟩ := zMM hq
 exact zMf (h.valid.rule r (vV hn))
theorem FormC.ruI (h : FormC b l) {i : Int} {a : zP} (ha : zH l i = some a) {r : wD} (h0 : 0 ≤ a.2.1) (hr : zH b.2.1 a.2.1 = some r) : a.2.2.2 = r.2.2.2.2 ∧ a.2.2.1.length = r.2.2.2.1.length ∧ ∀ (j : Nat) k y, a.2.2.1[j]? = some k → r.2.2.2.1[j]? = some y → ∃ a', zH l k = some a' ∧ a'.2.2.2 = y := by
 obtain ⟨n, rfl, hn⟩ := zMM ha
 exact h.ru n a r hn h0 hr
theorem uF.cutI (h : uF b l) {i : Int} {a : zP} (ha : zH l i = some a) {r : wD} (h0 : 0 ≤ a.2.1) (hr : zH b.2.1 a.2.1 = some r) : xP b l a.2.1 r a.2.2.1 = true := by
 obtain ⟨n, rfl, hn⟩ := zMM ha
 exact h.cut n a r hn h0 hr
theorem zTm {α : Type} {p q : α → Bool} : ∀ (D : List α), (∀ x, p x = true → q x = true) → ∀ x ∈ D, q x = true → p x = false → (D.filter p).length < (D.filter q).length
 | [], _, x, hx, _, _ => by cases hx
 | d :: D, h, x, hx, h1, h2 => by
  have hle : (D.filter p).length ≤ (D.filter q).length := by
   rw [← List.countP_eq_length_filter, ← List.countP_eq_length_filter]
   exact List.countP_mono_left fun y _ => h y
  rcases List.mem_cons.1 hx with rfl | hx
  ·rw [List.filter_cons_of_neg (by simp [h2]), List.filter_cons_of_pos h1, List.length_cons]
   omega
  ·have ih := zTm D h x hx h1 h2
   rw [List.filter_cons, List.filter_cons]
   cases hp : p d with
   | true => simp [h d hp]; omega
   | false => cases hq : q d <;> simp <;> omega
theorem zSR (f : Int → Nat) (c : Nat) : ∀ (l : List Int), (∀ k ∈ l, f k ≤ c) → (l.map f).sum ≤ l.length * c
 | [], _ => by simp
 | k :: l, h => by
  have h1 := h k List.mem_cons_self
  have h2 := zSR f c l fun j hj => h j (List.mem_cons_of_mem _ hj)
  simp only [List.map_cons, List.sum_cons, List.length_cons, Nat.add_mul, Nat.one_mul]
  omega
open Classical in
noncomputable def zYQ (b : zT) (l : List zP) (D : List zO) (i : Int) : Nat := (D.filter fun y => decide (zKv b l i y)).length
open Classical in
theorem runSz {D : List zO} {c : Nat} (hs : zKa b D c) (h : uF b l) : zWT b l fun i => (c + 1) ^ zYQ b l D i := by
 refine ⟨fun i => Nat.pow_pos (by omega), fun i _ _ => ?_, fun i a r ha h0 hr hst => ?_⟩
 ·refine Nat.lt_of_le_of_lt (Nat.pow_le_pow_right (by omega) ?_) hs.sz
  exact List.length_filter_le _ _
 ·have hcut := h.cutI ha h0 hr
  obtain ⟨g1, g2, _⟩ := h.toFormC.ruI ha h0 hr
  obtain ⟨n, hn1, hn2⟩ := zMM hr
  obtain ⟨hD, hc⟩ := hs.rule r (vV hn2)
  have hlt : ∀ k ∈ a.2.2.1, zYQ b l D k < zYQ b l D i := fun k hk => by
   refine zTm D (fun y hy => ?_) r.2.2.2.2 hD ?_ ?_
   ·exact decide_eq_true (zKv.step ha h0 hr hst hk (of_decide_eq_true hy))
   ·exact decide_eq_true (by have := zKv.here (b := b) ha; rwa [g1] at this)
   ·unfold xP at hcut
    have hc2 : (a.2.2.1.any (zXR b l a.2.1 r)) = false := by simpa using hcut
    have := List.any_eq_false.1 hc2 k hk
    simpa [zXR, hst] using this
  cases hv : a.2.2.1 with
  | nil =>
   have := Nat.pow_pos (n := zYQ b l D i) (show 0 < c + 1 by omega)
   simp only [List.map_nil, List.sum_nil]
   omega
  | cons k ks =>
   rw [← hv]
   have hpos : 0 < zYQ b l D i := by have := hlt k (by rw [hv]; exact List.mem_cons_self); omega
   obtain ⟨u, hu⟩ : ∃ u, zYQ b l D i = u + 1 := ⟨zYQ b l D i - 1, by omega⟩
   have hsum := zSR (fun k => (c + 1) ^ zYQ b l D k) ((c + 1) ^ u) a.2.2.1 fun k hk => Nat.pow_le_pow_right (by omega) (by have := hlt k hk; omega)
   have h3 : a.2.2.1.length * (c + 1) ^ u ≤ c * (c + 1) ^ u := Nat.mul_le_mul_right _ (by rw [g2]; exact hc)
   have h4 : 0 < (c + 1) ^ u := Nat.pow_pos (by omega)
   rw [hu, Nat.pow_succ, Nat.mul_add, Nat.mul_one, Nat.mul_comm ((c + 1) ^ u) c]
   omega
theorem uF.runs {D : List zO} {c : Nat} (h : uF b l) (hs : zKa b D c) : zYn b l := runsB h.toFormB (runSz hs h)
theorem uF.app (h : uF b l) (hm : ∀ a ∈ m, zYP b l a ∧ ∀ r, zH b.2.1 a.2.1 = some r → xP b l a.2.1 r a.2.2.1 = true) (hl : l.length + m.length ≤ 41) : uF b (l ++ m) := by
 have h' := h.toFormC.app (fun a ha => (hm a ha).1) hl
 refine ⟨h', fun i a r ha h0 hr => ?_⟩
 by_cases hi : i < l.length
 ·rw [List.getElem?_append_left hi] at ha
  rw [zKD h.toFormC h' fun k hk => by have := h.sub i a ha k hk; omega]
  exact h.cut i a r ha h0 hr
 ·rw [List.getElem?_append_right (by omega)] at ha
  obtain ⟨g1, g2⟩ := hm a (vV ha)
  rw [zKD h.toFormC h' g1.sub]
  exact g2 r hr
def zNW (f : Int) (first : Bool) (s : List Int) : Bool := s.any (fun k => decide (f ≤ k)) || (first && s.isEmpty)
noncomputable def tR (b : zT) (l : List zP) (f : Int) (first : Bool) (q : Int) : List zP :=
 match zH b.2.1 q with
 | some r => ((xH l l.length r.2.2.2.1 []).filter fun s => zNW f first s && xP b l q r s).map fun s => (-1, q, s, r.2.2.2.2)
 | none => []
noncomputable def uQ (b : zT) (l : List zP) (f : Int) (first : Bool) : List zP := (wG b.2.1.length).flatMap (tR b l f first)
noncomputable def zMw (b : zT) : Nat → List zP → Int → Bool → Option (List zP)
 | 0, _, _, _ => none
 | k + 1, l, f, first =>
  if 40 < (l ++ uQ b l f first).length then none
  else if uQ b l f first = [] then some l
  else zMw b k (l ++ uQ b l f first) l.length false
def zM1 (b : zT) : List zP := b.1.mapIdx fun i p => ((i : Int), -1, [], p.1)
theorem zUz {f : Int} {first : Bool} {a : zP} : a ∈ uQ b l f first ↔ a.1 = -1 ∧ ∃ r, zH b.2.1 a.2.1 = some r ∧ a.2.2.2 = r.2.2.2.2 ∧ zNW f first a.2.2.1 = true ∧ xP b l a.2.1 r a.2.2.1 = true ∧ a.2.2.1.length = r.2.2.2.1.length ∧ ∀ (j : Nat) k y, a.2.2.1[j]? = some k → r.2.2.2.1[j]? = some y → ∃ a', zH l k = some a' ∧ a'.2.2.2 = y := by
 unfold uQ tR
 simp only [List.mem_flatMap, uA]
 constructor
 ·rintro ⟨q, hq, ha⟩
  cases hr : zH b.2.1 q with
  | none => rw [hr] at ha; cases ha
  | some r =>
   rw [hr] at ha
   obtain ⟨s, hs, rfl⟩ := List.mem_map.1 ha
   obtain ⟨hs1, hs2⟩ := List.mem_filter.1 hs
   rw [Bool.and_eq_true] at hs2
   obtain ⟨t, rfl, ht1, ht2⟩ := (zMY l l.length r.2.2.2.1 [] s).1 hs1
   exact ⟨rfl, r, hr, rfl, hs2.1, hs2.2, ht1, fun j k y hk hy => (ht2 j k y hk hy).2.2⟩
 ·rintro ⟨h1, r, hr, h2, h3, h4, h5, h6⟩
  refine ⟨a.2.1, by have := zUH hr; omega, ?_⟩
  rw [hr]
  refine List.mem_map.2 ⟨a.2.2.1, List.mem_filter.2 ⟨(zMY l l.length r.2.2.2.1 [] _).2 ⟨a.2.2.1, rfl, h5, fun j k y hk hy => ?_⟩, by rw [h3, h4]; rfl⟩, ?_⟩
  ·obtain ⟨a', e1, e2⟩ := h6 j k y hk hy
   have := zUH e1
   exact ⟨this.1, this.2, a', e1, e2⟩
  ·rw [← h1, ← h2]
theorem zQP {D : List zO} {c : Nat} (hs : zKa b D c) {f : Int} {first : Bool} : ∀ a ∈ uQ b l f first, zYP b l a ∧ ∀ r, zH b.2.1 a.2.1 = some r → xP b l a.2.1 r a.2.2.1 = true := fun a ha => by
 obtain ⟨h1, r, hr, h2, h3, h4, h5, h6⟩ := zUz.1 ha
 refine ⟨⟨h1, r, hr, h2, h5, ?_, h6⟩, fun r' hr' => ?_⟩
 ·have := hs.body hr; omega
 ·rw [hr] at hr'; cases hr'; exact h4
theorem uF.round {D : List zO} {c : Nat} (h : uF b l) (hs : zKa b D c) {f : Int} {first : Bool} (hl : (l ++ uQ b l f first).length ≤ 41) : uF b (l ++ uQ b l f first) :=
 h.app (zQP hs) (by rw [List.length_append] at hl; exact hl)
theorem zJp (b : zT) : (zM1 b).length = b.1.length := by simp [zM1]
theorem zJ0 {i : Nat} {a : zP} (h : (zM1 b)[i]? = some a) : ∃ p, b.1[i]? = some p ∧ a = ((i : Int), -1, [], p.1) := by
 unfold zM1 at h
 rw [List.getElem?_mapIdx] at h
 cases hp : b.1[i]? with
 | none => rw [hp] at h; cases h
 | some p => rw [hp] at h; exact ⟨p, rfl, by cases h; rfl⟩
theorem zNl (h : zIM b) : uF b (zM1 b) := by
 have hl := zJp b
 have hn := h.np
 have hr := h.nr
 refine ⟨⟨⟨⟨by omega, fun a ha => ?_, fun i a ha => ?_⟩, by omega, by omega, fun i a ha => ?_⟩, by omega, fun i a p ha h0 hp => ?_, fun i a r ha h0 hr => ?_⟩, fun i a r ha h0 hr => ?_⟩
 ·obtain ⟨i, hi⟩ := List.mem_iff_getElem?.1 ha
  obtain ⟨p, _, rfl⟩ := zJ0 hi
  simp
 ·obtain ⟨p, _, rfl⟩ := zJ0 ha
  intro k hk
  cases hk
 ·obtain ⟨p, h1, rfl⟩ := zJ0 ha
  exact .inl ⟨rfl, vC h1, rfl⟩
 ·obtain ⟨p', h1, rfl⟩ := zJ0 ha
  rw [uT, h1] at hp
  cases hp
  exact ⟨rfl, rfl⟩
 ·obtain ⟨p', h1, rfl⟩ := zJ0 ha
  exact absurd h0 (by simp)
 ·obtain ⟨p', h1, rfl⟩ := zJ0 ha
  exact absurd h0 (by simp)
theorem zP0 {D : List zO} {c : Nat} (hs : zKa b D c) : ∀ (k : Nat) (l : List zP) (f : Int) (first : Bool) (x : List zP), uF b l → l.length ≤ 40 → zMw b k l f first = some x → uF b x ∧ x.length ≤ 40
 | 0, _, _, _, _, _, _, h => by cases h
 | k + 1, l, f, first, x, h, hl, hx => by
  unfold zMw at hx
  split at hx
  ·cases hx
  ·rename_i hlim
   split at hx
   ·cases hx
    exact ⟨h, hl⟩
   ·exact zP0 hs k _ _ _ x (h.round hs (by omega)) (by omega) hx
theorem zUJ {α β σ ρ : Type} {B : σ → Option (σ ⊕ ρ)} (xs : List α) (h : α → List β) (st : List β → Int → σ) (e : ρ) (fin : List β → ρ) (N : Nat) (acc : List β) (h0 : acc.length ≤ N)
  (hB : ∀ (q : Nat) x n, xs[q]? = some x → n = (xs.take q).flatMap h → (acc ++ n).length ≤ N → B (st (acc ++ n) q) = some (if N < (acc ++ (n ++ h x)).length then .inr e else .inl (st (acc ++ (n ++ h x)) ((q + 1 : Nat) : Int))))
  (hE : (acc ++ xs.flatMap h).length ≤ N → B (st (acc ++ xs.flatMap h) (xs.length : Int)) = some (.inr (fin (acc ++ xs.flatMap h)))) :
  zW B (st acc 0) = some (if N < (acc ++ xs.flatMap h).length then e else fin (acc ++ xs.flatMap h)) := by
 have key : ∀ (n i : Nat), i + n = xs.length → (acc ++ (xs.take i).flatMap h).length ≤ N → zW B (st (acc ++ (xs.take i).flatMap h) (i : Int)) = some (if N < (acc ++ xs.flatMap h).length then e else fin (acc ++ xs.flatMap h)) := by
  intro n
  induction n with
  | zero =>
   intro i hi hn
   rw [Nat.add_zero] at hi
   subst hi
   rw [List.take_length] at hn ⊢
   rw [yA, hE hn, if_neg (by omega)]
  | succ n ih =>
   intro i hi hn
   have hx : xs[i]? = some xs[i] := List.getElem?_eq_getElem (by omega)
   have ht : (xs.take (i + 1)).flatMap h = (xs.take i).flatMap h ++ h xs[i] := by rw [uE hx, List.flatMap_append, List.flatMap_singleton]
   rw [yA, hB i _ _ hx rfl hn, ← ht]
   by_cases hN : N < (acc ++ (xs.take (i + 1)).flatMap h).length
   ·rw [if_pos hN]
    have : (acc ++ (xs.take (i + 1)).flatMap h).length ≤ (acc ++ xs.flatMap h).length := by
     conv => rhs; rw [← List.take_append_drop (i + 1) xs, List.flatMap_append]
     simp only [List.length_append]
     omega
    rw [if_pos (by omega)]
   ·rw [if_neg hN]
    exact ih (i + 1) (by omega) (by omega)
 have := key xs.length 0 (by omega) (by simpa using h0)
 simpa using this
end
section
variable {b : zT} {l : List zP} {D : List zO} {c : Nat}
def ansB : Option (List zP) → List zP × Int
 | some x => (x, 0)
 | none => ([], 2)
theorem zRe (h : zIM b) : zW (zEa b) (([] : List zP), 0) = some (zM1 b) := by
 have hn := h.np
 have := zGV (B := zEa b) (zM1 b) (fun a => [a]) (fun s => s) 1 (fun _ _ => by simp) [] (fun i a s hi hs => by
  obtain ⟨p, hp, rfl⟩ := zJ0 hi
  have hlt := vC hp
  unfold zEa
  simp only [wU hp, if_true, wP hp, zob]
  rw [vN (by simp at hs ⊢; omega)]
  simp only [zob, wT hp (by omega)]) (fun s => by
  unfold zEa
  rw [zJp]
  simp only [yC, zbf, if_false])
 rw [this]
 simp
theorem zSV (hs : zKa b D c) (h : uF b l) (hl : l.length ≤ 40) {f : Int} {r : Nat} {q : Nat} (hq : q < b.2.1.length) (n : List zP) (hn : (l ++ n).length ≤ 40) (hf : uF b (l ++ n))
  {ru : wD} (hr : zH b.2.1 (q : Int) = some ru) :
  zW (zE6 (xH l l.length ru.2.2.2.1 []) (l, f, (r : Int)) b (l ++ n, (q : Int))) (l ++ n, 0) =
   some (if 40 < (l ++ (n ++ tR b l f (decide (r ≤ 1)) q)).length then .inr (.inr (([] : List zP), 2)) else .inl (l ++ (n ++ tR b l f (decide (r ≤ 1)) q), ((q + 1 : Nat) : Int))) := by
 have hb := hs.body hr
 have hcl : (xH l l.length ru.2.2.2.1 []).length < 4294967296 := by
  have h1 := zQr l l.length ru.2.2.2.1 []
  have h2 : l.length ^ ru.2.2.2.1.length ≤ 100 ^ 4 := Nat.le_trans (Nat.pow_le_pow_left (by omega) _) (Nat.pow_le_pow_right (by omega) hb)
  have h3 : (100 : Nat) ^ 4 = 100000000 := rfl
  omega
 have hnr := hs.valid.nr
 have key := zUJ (B := zE6 (xH l l.length ru.2.2.2.1 []) (l, f, (r : Int)) b (l ++ n, (q : Int))) (xH l l.length ru.2.2.2.1 [])
  (fun s => if zNW f (decide (r ≤ 1)) s && xP b l q ru s then [((-1 : Int), (q : Int), s, ru.2.2.2.2)] else []) (fun s i => (s, i))
  (.inr (.inr (([] : List zP), 2))) (fun s => .inl (s, ((q + 1 : Nat) : Int))) 40 (l ++ n) hn (fun i s acc hi hacc hlen => ?_) (fun _ => ?_)
 ·rw [key]
  have : (xH l l.length ru.2.2.2.1 []).flatMap (fun s => if zNW f (decide (r ≤ 1)) s && xP b l q ru s then [((-1 : Int), (q : Int), s, ru.2.2.2.2)] else []) = tR b l f (decide (r ≤ 1)) q := by
   unfold tR
   rw [hr]
   rw [← zOk]
   rw [← List.map_eq_flatMap]
  rw [this, List.append_assoc]
 ·have hs1 := (zMY l l.length ru.2.2.2.1 [] s).1 (vV hi)
  obtain ⟨t, ht, htl, htm⟩ := hs1
  rw [List.nil_append] at ht
  subst ht
  have hsub : ∀ k ∈ s, 0 ≤ k ∧ k < l.length := fun k hk => by
   obtain ⟨j, hj⟩ := List.mem_iff_getElem?.1 hk
   have := vC hj
   have := htm j k _ hj (List.getElem?_eq_getElem (by omega))
   omega
  have hnow : uF b (l ++ n ++ acc) := by
   refine hf.app (fun a ha => ?_) (by rw [List.length_append] at hlen; omega)
   rw [hacc] at ha
   obtain ⟨s', hs', ha⟩ := List.mem_flatMap.1 ha
   split at ha
   ·rename_i hc
    rw [Bool.and_eq_true] at hc
    simp only [List.mem_singleton] at ha
    subst ha
    obtain ⟨t, ht, htl, htm⟩ := (zMY l l.length ru.2.2.2.1 [] s').1 (List.mem_of_mem_take hs')
    rw [List.nil_append] at ht
    subst ht
    have hg : zYP b l ((-1 : Int), (q : Int), s', ru.2.2.2.2) := ⟨rfl, ru, hr, rfl, htl, by simp only; omega, fun j k y hk hy => (htm j k y hk hy).2.2⟩
    refine ⟨hg.more, fun r' hr' => ?_⟩
    rw [hr] at hr'
    cases hr'
    rw [zKD h.toFormC hf.toFormC hg.sub]
    exact hc.2
   ·cases ha
  have hw : zFD b (l ++ n ++ acc) q s = some (xP b l q ru s) := by
   rw [zVV hnow.toFormC (hnow.runs hs) hr (fun k hk => by have := hsub k hk; simp only [List.length_append]; omega) (by omega)]
   rw [List.append_assoc, zKD h.toFormC (by rw [← List.append_assoc]; exact hnow.toFormC) hsub]
  unfold zE6
  simp only [wU hi, if_true, wP hi, zob, wT hi hcl]
  rw [zVN s f (by omega)]
  simp only [zob, hw, hr]
  have hdec : (if (!s.any fun k => decide (f ≤ k)) = true then (if decide (1 < (r : Int)) = true then some true else if decide (0 < len s) = true then some true else some (!xP b l q ru s)) else some (!xP b l q ru s)) = some (!(zNW f (decide (r ≤ 1)) s && xP b l q ru s)) := by
   unfold zNW
   cases ha : s.any fun k => decide (f ≤ k) with
   | true => simp
   | false =>
    by_cases h1 : r ≤ 1
    ·have : ¬ (1 < (r : Int)) := by omega
     cases s with
     | nil => simp [this, h1, len]
     | cons k s => simp [this, h1, len]
    ·have : 1 < (r : Int) := by omega
     simp [this, h1]
  rw [hdec]
  simp only [zob]
  cases hc : zNW f (decide (r ≤ 1)) s && xP b l q ru s with
  | false =>
   simp only [Bool.not_false, if_true, zbf, if_false, List.append_nil]
   rw [if_neg (by omega)]
  | true =>
   simp only [Bool.not_true, zbf, if_false, if_true]
   rw [vN (by simp only [List.length_singleton]; omega)]
   simp only [zob, List.append_assoc, len]
   by_cases h40 : 40 < (l ++ (n ++ (acc ++ [((-1 : Int), (q : Int), s, ru.2.2.2.2)]))).length
   ·rw [if_pos (by simpa using (by omega : (40 : Int) < ((l ++ (n ++ (acc ++ [((-1 : Int), (q : Int), s, ru.2.2.2.2)]))).length : Int))), if_pos h40]
   ·rw [if_neg (by simpa using (by omega : ¬ (40 : Int) < ((l ++ (n ++ (acc ++ [((-1 : Int), (q : Int), s, ru.2.2.2.2)]))).length : Int))), if_neg h40]
 ·unfold zE6
  simp only [yC, zbf, if_false, vT q (by omega)]
theorem zRu (hs : zKa b D c) (h : uF b l) (hl : l.length ≤ 40) {f : Int} {r : Nat} (hr : r < 1000) :
  zW (zFB b (l, f, (r : Int))) (l, 0) =
   some (if 40 < (l ++ uQ b l f (decide (r ≤ 1))).length then .inr (([] : List zP), 2) else .inl (l ++ uQ b l f (decide (r ≤ 1)), (l.length : Int), ((r + 1 : Nat) : Int))) := by
 have hnr := hs.valid.nr
 refine zUJ (B := zFB b (l, f, (r : Int))) (wG b.2.1.length) (tR b l f (decide (r ≤ 1))) (fun s i => (s, i)) (.inr (([] : List zP), 2)) (fun s => .inl (s, (l.length : Int), ((r + 1 : Nat) : Int))) 40 l hl (fun q x n hq hn hlen => ?_) (fun _ => ?_)
 ·obtain ⟨rfl, hqn⟩ := zHG hq
  obtain ⟨ru, hru⟩ := tH (l := b.2.1) (j := (q : Int)) (by omega) (by omega)
  have hd : decide ((q : Int) < len b.2.1) = true := by simp [len]; omega
  have hf : uF b (l ++ n) := by
   refine h.app (fun a ha => zQP hs a ?_ (f := f) (first := decide (r ≤ 1))) (by rw [List.length_append] at hlen; omega)
   rw [hn] at ha
   obtain ⟨q', hq', ha⟩ := List.mem_flatMap.1 ha
   exact List.mem_flatMap.2 ⟨q', List.mem_of_mem_take hq', ha⟩
  unfold zFB
  simp only [hd, if_true, hru, zob]
  have hch := zTA (l := l ++ n) (n := l.length) (by omega) (by simp) ru.2.2.2.1 (hs.body hru)
  rw [show len l = ((l.length : Nat) : Int) from rfl, hch]
  simp only [zob]
  rw [zWm (Nat.le_refl _), zSV hs h hl hqn n hlen hf hru]
 ·unfold zFB
  have hd : decide (((wG b.2.1.length).length : Int) < len b.2.1) = false := by rw [yO]; simp [len]
  simp only [hd, zbf, if_false, vT r (by omega)]
theorem zRV (hs : zKa b D c) : ∀ (k : Nat) (l : List zP) (f : Int) (r : Nat), uF b l → l.length ≤ 40 → 41 ≤ l.length + k → r + k ≤ 900 → 1 ≤ r → (r = 1 ∨ f < l.length) →
  zW (zCn b) (l, f, (r : Int)) = some (ansB (zMw b k l f (decide (r ≤ 1)))) := by
 intro k
 induction k with
 | zero => intros; omega
 | succ k ih =>
  intro l f r h hl hk hr h1 hgo
  have hc : (((r : Int) == 1) || decide (f < len l)) = true := by
   rw [Bool.or_eq_true]
   rcases hgo with rfl | hgo
   ·exact .inl rfl
   ·exact .inr (by simpa [len] using hgo)
  have hstep : zCn b (l, f, (r : Int)) = some (if 40 < (l ++ uQ b l f (decide (r ≤ 1))).length then .inr (([] : List zP), 2) else .inl (l ++ uQ b l f (decide (r ≤ 1)), (l.length : Int), ((r + 1 : Nat) : Int))) := by
   unfold zCn
   simp only [hc, if_true]
   exact zRu hs h hl (by omega)
  rw [yA, hstep]
  unfold zMw
  by_cases hlim : 40 < (l ++ uQ b l f (decide (r ≤ 1))).length
  ·simp only [if_pos hlim]
   rfl
  ·simp only [if_neg hlim]
   by_cases hn : uQ b l f (decide (r ≤ 1)) = []
   ·rw [if_pos hn, hn, List.append_nil]
    have hstep2 : zCn b (l, (l.length : Int), ((r + 1 : Nat) : Int)) = some (.inr (l, 0)) := by
     unfold zCn
     have hc2 : ((((r + 1 : Nat) : Int) == 1) || decide ((l.length : Int) < len l)) = false := by
      rw [Bool.or_eq_false_iff]
      exact ⟨by simp only [beq_eq_false_iff_ne]; omega, by simp [len]⟩
     simp only [hc2, zbf, if_false]
    rw [yA, hstep2]
    rfl
   ·rw [if_neg hn]
    have hpos : 0 < (uQ b l f (decide (r ≤ 1))).length := List.length_pos_iff.2 hn
    have := ih (l ++ uQ b l f (decide (r ≤ 1))) l.length (r + 1) (h.round hs (by omega)) (by omega) (by rw [List.length_append]; omega) (by omega) (by omega) (.inr (by rw [List.length_append]; omega))
    rw [show decide (r + 1 ≤ 1) = false from by simp; omega] at this
    exact this
theorem zIW (h : zIM b) : Cnt b := by
 have h1 := h.np
 have h2 := h.nr
 have h3 := h.nm
 exact ⟨by omega, by omega, by omega, fun r hr => by have := zMf (h.rule r hr); omega⟩
noncomputable def zMz (b : zT) : Option (List zP) := zMw b 50 (zM1 b) 0 true
theorem zWB (hs : zKa b D c) : zFw b = some (ansB (zMz b)) := by
 unfold zFw
 rw [zRz (zIW hs.valid), zHm.2 hs.valid]
 simp only [zob, bne_self_eq_false, zbf, if_false]
 rw [zRe hs.valid]
 have hn := hs.valid.np
 exact zRV hs 50 (zM1 b) 0 1 (zNl hs.valid) (by rw [zJp]; omega) (by omega) (by omega) (by omega) (.inl rfl)
theorem zPq (hc : zTl b) (h : ¬ zIM b) : zFw b = some ([], zJB b) := by
 unfold zFw
 rw [zNK hc]
 have : (zJB b != 0) = true := by
  rw [bne_iff_ne]
  exact fun h' => h (zHm.1 h')
 simp only [zob, this, if_true]
end
section
theorem zXF {s : uC} {m n : Int} (h : yV s) (h0 : 0 ≤ m) (hm : m ≤ 1000000) (h1 : 1 ≤ n) (h2 : n ≤ 26) : ∃ (l : List zO) (k : Int), zEY s m n = some (l, k) ∧ (l.length : Int) ≤ m ∧ (∀ x ∈ l, ∃ j : Nat, (j : Int) < n ∧ x.2 = tB j) ∧ yV (s.1, k) := by
 obtain ⟨v, k, hr, hv0, hv1, hk⟩ := zIR (n := m + 1) h (by omega) (by omega)
 unfold zEY
 rw [uD (x := m + 1) (by omega) (by omega), hr]
 simp only [zob]
 obtain ⟨r, h3, h4⟩ := zLf (B := zFH s n) (fun t => 0 ≤ t.2.1 ∧ (t.1.length : Int) + t.2.1 = v ∧ (∀ x ∈ t.1, ∃ j : Nat, (j : Int) < n ∧ x.2 = tB j) ∧ yV (s.1, t.2.2)) (fun t => t.2.1.toNat)
  (fun r => (r.1.length : Int) ≤ m ∧ (∀ x ∈ r.1, ∃ j : Nat, (j : Int) < n ∧ x.2 = tB j) ∧ yV (s.1, r.2)) (fun t ht => by
   obtain ⟨l, q, k⟩ := t
   obtain ⟨t1, t2, t3, t4⟩ := ht
   dsimp only at t1 t2 t3 t4
   unfold zFH
   by_cases hq : 0 < q
   ·obtain ⟨g, j, k', h5, hj, hk'⟩ := zIF t4 h1 h2
    refine .inl ⟨(l ++ [(g, tB j)], q - 1, k'), ?_, ⟨by show 0 ≤ q - 1; omega, by simp; omega, fun x hx => ?_, hk'⟩, by show (q - 1).toNat < q.toNat; omega⟩
    ·simp only [hq, decide_true, if_true, h5, zob]
     rw [vN (by simp; omega), uD (by omega) (by omega)]
     rfl
    ·rcases List.mem_append.1 hx with hx | hx
     ·exact t3 x hx
     ·simp at hx; subst hx; exact ⟨j, hj, rfl⟩
   ·refine .inr ⟨(l, k), by simp [hq], by dsimp only; omega, t3, t4⟩) (([] : List zO), v, k) ⟨hv0, by simp, by simp, hk⟩
 obtain ⟨l, k'⟩ := r
 exact ⟨l, k', h3, h4.1, h4.2.1, h4.2.2⟩
theorem zVm (s : List zO) (hs : s.length < 1000000) (x : zO) (n : Int) : ∃ k : Nat, zW (zE7 (s, n) x) 0 = some (k : Int) ∧ k ≤ s.length ∧ (∀ j y, j < k → s[j]? = some y → vK y x = true) ∧ ∀ y, s[k]? = some y → vK y x = false := by
 obtain ⟨r, h1, k, h2, h3⟩ := yJ (B := zE7 (s, n) x) (fun i (_ : Unit) => (i : Int)) s (fun i _ => ∀ j y, j < i → s[j]? = some y → vK y x = true)
  (fun r => ∃ k : Nat, r = (k : Int) ∧ k ≤ s.length ∧ (∀ j y, j < k → s[j]? = some y → vK y x = true) ∧ ∀ y, s[k]? = some y → vK y x = false) (fun i y _ hi hI => by
  have hlt := vC hi
  unfold zE7
  simp only [wU hi, if_true, wP hi, zob, wT hi (show s.length < 4294967296 by omega)]
  have hcond : (if yP y.2 x.2 = true then some true else if (y.2 == x.2) = true then if (!y.1) = true then some x.1 else some false else some false) = some (vK y x) := by
   unfold vK
   cases yP y.2 x.2 <;> cases y.2 == x.2 <;> cases y.1 <;> cases x.1 <;> rfl
  rw [hcond]
  simp only [zob]
  cases hc : vK y x with
  | true =>
   simp only [if_true]
   exact .inl ⟨(), by trivial, fun j z hj hz => by
    by_cases hji : j = i
    ·subst hji; rw [hi] at hz; cases hz; exact hc
    ·exact hI j z (by omega) hz⟩
  | false =>
   simp only [zbf, if_false]
   exact .inr ⟨_, rfl, i, rfl, by omega, hI, fun z hz => by rw [hi] at hz; cases hz; exact hc⟩) (fun _ hI => ⟨_, by
  unfold zE7
  simp only [yC, zbf, if_false, zob], s.length, rfl, Nat.le_refl _, hI, fun y hy => by have := vC hy; omega⟩) () (fun j y hj => by omega)
 rw [show ((0 : Nat) : Int) = 0 from rfl] at h1
 subst h2
 exact ⟨k, h1, h3⟩
theorem zZM {s : List zO} (hs : vF vK s) {k : Nat} {x : zO} (h1 : ∀ j y, j < k → s[j]? = some y → vK y x = true) (h2 : ∀ y, s[k]? = some y → vK x y = true) : vF vK (s.take k ++ x :: s.drop k) := by
 have hsplit := List.take_append_drop k s
 rw [← hsplit] at hs
 obtain ⟨p1, p2, p3⟩ := List.pairwise_append.1 hs
 refine List.pairwise_append.2 ⟨p1, List.pairwise_cons.2 ⟨fun y hy => ?_, p2⟩, fun y hy z hz => ?_⟩
 ·cases hd : s.drop k with
  | nil => rw [hd] at hy; cases hy
  | cons z r =>
   have hz : s[k]? = some z := by
    have := congrArg (fun l => l[0]?) hd
    simpa using this
   rw [hd] at hy p2
   rcases List.mem_cons.1 hy with rfl | hy
   ·exact h2 _ hz
   ·exact zJC (h2 _ hz) ((List.pairwise_cons.1 p2).1 y hy)
 ·have hyx : vK y x = true := by
   obtain ⟨j, hj⟩ := List.mem_iff_getElem?.1 hy
   rw [List.getElem?_take] at hj
   split at hj
   ·rename_i hjk; exact h1 j y hjk hj
   ·cases hj
  rcases List.mem_cons.1 hz with rfl | hz
  ·exact hyx
  ·exact p3 y hy z hz
theorem zXV {α : Type} (s : List α) (z x : α) (k : Nat) (hk : k ≤ s.length) : (tX (s ++ [z]) (((k + 1 : Nat)) : Int) ((s ++ [z]).drop k)).set k x = s.take k ++ x :: s.drop k := by
 have h1 : (s ++ [z]).drop k = s.drop k ++ [z] := List.drop_append_of_le_length hk
 unfold tX
 rw [h1, Int.toNat_natCast]
 have h2 : (s.drop k ++ [z]).take ((s ++ [z]).length - (k + 1)) = s.drop k := by
  rw [show (s ++ [z]).length - (k + 1) = (s.drop k).length by simp, List.take_left']
  rfl
 have h3 : (s ++ [z]).drop (k + 1 + (s.drop k ++ [z]).length) = [] := List.drop_eq_nil_of_le (by simp; omega)
 rw [h2, h3, List.append_nil]
 cases hd : s.drop k with
 | nil =>
  have : k = s.length := by
   have := congrArg List.length hd
   simp at this
   omega
  subst this
  rw [List.take_of_length_le (l := s ++ [z]) (by simp), List.append_nil, List.set_append_right _ _ (by simp)]
  simp
 | cons y r =>
  have hk2 : k < s.length := by
   have := congrArg List.length hd
   simp at this
   omega
  have h4 : (s ++ [z]).take (k + 1) = s.take k ++ [s[k]] := by
   rw [List.take_append_of_le_length (by omega), List.take_add_one, List.getElem?_eq_getElem hk2]
   rfl
  rw [h4, List.append_assoc, List.set_append_right _ _ (by rw [List.length_take]; omega)]
  simp [Nat.min_eq_left (Nat.le_of_lt hk2)]
theorem zPw (l : List zO) (hl : l.length ≤ 1000) : ∃ r, zIm l = some r ∧ r.length ≤ l.length ∧ vF vK r ∧ ∀ y ∈ r, y ∈ l := by
 unfold zIm
 refine yJ (B := zGY l) (fun i s => (s, (i : Int))) l (fun i s => s.length ≤ i ∧ vF vK s ∧ ∀ y ∈ s, y ∈ l) (fun r => r.length ≤ l.length ∧ vF vK r ∧ ∀ y ∈ r, y ∈ l) (fun i x s hi hs => .inl ?_) (fun s hs => ⟨s, ?_, hs⟩) [] ⟨by simp, List.Pairwise.nil, by simp⟩
 ·have hlt := vC hi
  obtain ⟨hs1, hs2, hs3⟩ := hs
  unfold zGY
  obtain ⟨k, h1, h2, h3, h4⟩ := zVm s (by omega) x i
  simp only [wU hi, if_true, wP hi, zob, h1, wT hi (show l.length < 4294967296 by omega)]
  by_cases hex : s[k]? = some x
  ·simp only [wU hex, if_true, wP hex, zob, beq_self_eq_true]
   exact ⟨s, rfl, by omega, hs2, hs3⟩
  ·have hc : (if decide ((k : Int) < len s) = true then (zH s (k : Int)).bind fun x5 => some (x5 == x) else some false) = some false := by
    by_cases hk : k < s.length
    ·have hx : s[k]? = some s[k] := List.getElem?_eq_getElem hk
     simp only [wU hx, if_true, wP hx, zob]
     congr 1
     rw [beq_eq_false_iff_ne]
     intro e
     rw [e] at hx
     exact hex hx
    ·have : decide ((k : Int) < len s) = false := by simp [len]; omega
     simp only [this, zbf, if_false]
   rw [hc]
   simp only [zob, zbf, if_false]
   rw [vN (by simp; omega)]
   have hr1 : zR ((k : Int) + 1) = ((k + 1 : Nat) : Int) := vT k (by omega)
   have hc1 : (decide (0 ≤ ((k + 1 : Nat) : Int)) && decide (((k + 1 : Nat) : Int) ≤ len (s ++ [((false, []) : zO)]))) = true := by simp [len]; omega
   have hc2 : (decide (0 ≤ (k : Int)) && decide ((k : Int) ≤ len (s ++ [((false, []) : zO)]))) = true := by simp [len]; omega
   obtain ⟨z, hz⟩ := tH (l := tX (s ++ [((false, []) : zO)]) ((k + 1 : Nat) : Int) (List.drop k (s ++ [((false, []) : zO)]))) (j := (k : Int)) (by omega) (by rw [zKX]; simp; omega)
   simp only [zob, hr1, yX, hc1, hc2, if_true, Int.toNat_natCast, hz, zXV s _ x k h2]
   refine ⟨_, rfl, ?_, zZM hs2 h3 fun y hy => ?_, fun y hy => ?_⟩
   ·simp; omega
   ·rcases zLI y x with h | h | h
    ·rw [h4 y hy] at h; cases h
    ·subst h; exact absurd hy hex
    ·exact h
   ·rcases List.mem_append.1 hy with hy | hy
    ·exact hs3 y (List.mem_of_mem_take hy)
    ·rcases List.mem_cons.1 hy with rfl | hy
     ·exact vV hi
     ·exact hs3 y (List.mem_of_mem_drop hy)
 ·unfold zGY
  simp only [yC, zbf, if_false]
theorem zWi : ∀ {l : List zO}, vF vK l → zY1 l = true
 | [], _ => rfl
 | [_], _ => rfl
 | x :: y :: r, h => by
  obtain ⟨h1, h2⟩ := List.pairwise_cons.1 h
  unfold zY1
  rw [h1 y List.mem_cons_self, zWi h2]
  rfl
theorem zU9 {s : uC} {l : List Int} (h : yV s) (h0 : l ≠ []) (h1 : l.length ≤ 1000) : ∃ x k, zHN s l = some (x, k) ∧ x ∈ l ∧ yV (s.1, k) := by
 have hp := List.length_pos_iff.2 h0
 obtain ⟨v, k, hr, h2, h3, hk⟩ := zIR (n := len l) h (by simp [len]; omega) (by simp [len]; omega)
 obtain ⟨x, hx, hx2⟩ := zO7 h2 h3
 exact ⟨x, k, by simp [zHN, hr, hx], List.mem_of_getElem? hx2, hk⟩
theorem zLr {j : Nat} (h : j < 26) : vName (tB j) = true := by
 have : ∀ j, j < 26 → vName (tB j) = true := by decide
 exact this j h
def zPZ (n : Nat) : wZ := [114, UInt8.ofNat (97 + n)]
theorem zOw {n : Nat} (h : n < 26) : vName (zPZ n) = true := by
 have : ∀ n, n < 26 → vName (zPZ n) = true := by decide
 exact this n h
theorem zXN {n m : Nat} (h : n < 26) (h' : m < 26) (he : zPZ n = zPZ m) : n = m := by
 have : ∀ n, n < 26 → ∀ m, m < 26 → zPZ n = zPZ m → n = m := by decide
 exact this n h m h' he
theorem zNP {n : Nat} (h : n < 26) : zDi (n : Int) = some (zPZ n) := by
 have : ∀ n : Nat, n < 26 → zDi (n : Int) = some (zPZ n) := by decide
 exact this n h
theorem zYw {α β : Type} (g : α → β) {l : List α} {y : α} (h : ∀ (i j : Nat) p q, l[i]? = some p → l[j]? = some q → g p = g q → i = j) (hy : ∀ x ∈ l, g x ≠ g y) : ∀ (i j : Nat) p q, (l ++ [y])[i]? = some p → (l ++ [y])[j]? = some q → g p = g q → i = j := by
 intro i j p q hp hq he
 have key : ∀ (i : Nat) p, (l ++ [y])[i]? = some p → (l[i]? = some p) ∨ (i = l.length ∧ p = y) := fun i p hp => by
  by_cases hi : i < l.length
  ·rw [List.getElem?_append_left hi] at hp; exact .inl hp
  ·rw [List.getElem?_append_right (by omega)] at hp
   have hi2 := vC hp
   simp at hi2
   have : i = l.length := by omega
   subst this
   simp at hp
   exact .inr ⟨rfl, hp.symm⟩
 rcases key i p hp with h1 | ⟨h1, h2⟩ <;> rcases key j q hq with h3 | ⟨h3, h4⟩
 ·exact h i j p q h1 h3 he
 ·subst h4; exact absurd he (hy p (vV h1))
 ·subst h2; exact absurd he.symm (hy q (vV h3))
 ·omega
structure zWz (n : Int) (l : List vE) : Prop where
 ok : ∀ p ∈ l, xS p = 0
 at_ : ∀ p ∈ l, ∃ j : Nat, (j : Int) < n ∧ p.1.2 = tB j
 inj : ∀ (i j : Nat) p q, l[i]? = some p → l[j]? = some q → p.1 = q.1 → i = j
theorem zZI {s : uC} {n : Int} (h1 : 1 ≤ n) (h2 : n ≤ 26) {v k : Int} (hv0 : 0 ≤ v) (hv1 : v ≤ 100) (hk : yV (s.1, k)) : ∃ r, zW (zFM s n) (v, k, []) = some r ∧ yV (s.1, r.1) ∧ (r.2.length : Int) ≤ v ∧ zWz n r.2 := by
 refine zLf (B := zFM s n) (fun t => 0 ≤ t.1 ∧ (t.2.2.length : Int) + t.1 ≤ v ∧ yV (s.1, t.2.1) ∧ zWz n t.2.2) (fun t => t.1.toNat) (fun r => yV (s.1, r.1) ∧ (r.2.length : Int) ≤ v ∧ zWz n r.2) (fun t ht => ?_) _ ⟨hv0, by simp, hk, by simp, by simp, by simp⟩
 obtain ⟨q, k, l⟩ := t
 obtain ⟨t1, t2, t3, t4⟩ := ht
 dsimp only at t1 t2 t3 t4
 unfold zFM
 by_cases hq : 0 < q
 ·obtain ⟨g, j, k1, e1, hj, hk1⟩ := zIF t3 h1 h2
  obtain ⟨p, k2, e2, hp, hk2⟩ := zU9 (l := [1, 2, 2, 2, 3]) hk1 (by simp) (by simp)
  obtain ⟨x, k3, e3, hx, hk3⟩ := zXM (l := [[], [], [97, 110, 110], [98, 111, 98]]) hk2 (by simp) (by simp)
  obtain ⟨u, k4, e4, hu0, hu1, hk4⟩ := zIR (n := 4) hk3 (by omega) (by omega)
  have hr : zW (zDG (q, k, l) ((g, tB j), k1)) (false, 0) = some (l.any fun p => p.1 == (g, tB j)) := by
   obtain ⟨r, hr, hr2⟩ := yJ (B := zDG (q, k, l) ((g, tB j), k1)) (fun i s => (s, (i : Int))) l (fun i s => s = (l.take i).any fun p => p.1 == (g, tB j)) (fun r => r = l.any fun p => p.1 == (g, tB j)) (fun i x s hi hs => .inl (by
    unfold zDG
    simp only [wU hi, if_true, wP hi, zob, wT hi (show l.length < 4294967296 by omega)]
    exact ⟨_, rfl, by rw [uE hi, List.any_append, ← hs]; simp⟩)) (fun s hs => by
    unfold zDG
    simp only [yC, zbf, if_false]
    exact ⟨_, rfl, by rw [hs, List.take_length]⟩) false (by simp)
   rw [← hr2]
   exact hr
  dsimp only at e2 e3 e4 hk2 hk3 hk4
  have hq1 : zR (q - 1) = q - 1 := uD (by omega) (by omega)
  have hmid : ∃ w z, (if (p == 2) = true then (xF (s.1, k3) 4).bind fun r5 => some (r5.2, r5.1) else some (k3, 0) : Option (Int × Int)) = some (w, z) ∧ yV (s.1, w) ∧ tL z = true ∧ (p == 2 || z == 0) = true := by
   split
   ·rename_i hp2
    exact ⟨k4, u, by rw [e4]; rfl, hk4, by simp; omega, by simp [hp2]⟩
   ·exact ⟨k3, 0, rfl, hk3, by simp, by simp⟩
  obtain ⟨w, z, hm, hw, hz1, hz2⟩ := hmid
  simp only [hq, decide_true, if_true, e1, zob, e2, e3, hm, hr, hq1]
  cases hany : l.any fun p => p.1 == (g, tB j) with
  | true => exact .inl ⟨_, rfl, ⟨by show 0 ≤ q - 1; omega, by show (l.length : Int) + (q - 1) ≤ v; omega, hw, t4⟩, by show (q - 1).toNat < q.toNat; omega⟩
  | false =>
   simp only [Bool.not_false, if_true]
   rw [vN (by simp; omega)]
   refine .inl ⟨_, rfl, ⟨by show 0 ≤ q - 1; omega, by show ((l ++ [((g, tB j), p, z, x)]).length : Int) + (q - 1) ≤ v; simp; omega, hw, fun p' hp' => ?_, fun p' hp' => ?_, zYw _ t4.inj fun p' hp' he => ?_⟩, by show (q - 1).toNat < q.toNat; omega⟩
   ·rcases List.mem_append.1 hp' with hp' | hp'
    ·exact t4.ok p' hp'
    ·simp only [List.mem_singleton] at hp'
     subst hp'
     have hpk : (p == 1 || p == 2 || p == 3) = true := by
      simp only [List.mem_cons, List.not_mem_nil, or_false] at hp
      rcases hp with rfl | rfl | rfl | rfl | rfl <;> rfl
     have hsx : (x == ([] : wZ) || vName x) = true := by
      simp only [List.mem_cons, List.not_mem_nil, or_false] at hx
      rcases hx with rfl | rfl | rfl | rfl <;> decide
     unfold xS
     dsimp only
     rw [if_pos hpk, zLr (by omega), hz1, hz2, hsx]
     rfl
   ·rcases List.mem_append.1 hp' with hp' | hp'
    ·exact t4.at_ p' hp'
    ·simp only [List.mem_singleton] at hp'
     subst hp'
     exact ⟨j, hj, rfl⟩
   ·rw [List.any_eq_false] at hany
    exact hany p' hp' (by rw [beq_iff_eq]; exact he)
 ·simp only [hq, decide_false, zbf, if_false]
  exact .inr ⟨_, rfl, t3, by show (l.length : Int) ≤ v; omega, t4⟩
structure zWs (l : List wD) : Prop where
 bd : ∀ r ∈ l, r.2.2.2.1.length ≤ 2
 ok : ∀ r ∈ l, xE r = 0
 nm : ∀ (i : Nat) r, l[i]? = some r → r.1 = zPZ i
theorem zZP {s : uC} {n m : Int} (h1 : 1 ≤ n) (h2 : n ≤ 26) (hm : 1 ≤ m) (hm2 : m ≤ 26) {v k : Int} (hv0 : 0 ≤ v) (hv1 : v ≤ 24) (hk : yV (s.1, k)) : ∃ r, zW (zF2 s n m) (v, k, []) = some r ∧ yV (s.1, r.1) ∧ (r.2.length : Int) ≤ v ∧ zWs r.2 := by
 refine zLf (B := zF2 s n m) (fun t => 0 ≤ t.1 ∧ (t.2.2.length : Int) + t.1 ≤ v ∧ yV (s.1, t.2.1) ∧ zWs t.2.2) (fun t => t.1.toNat) (fun r => yV (s.1, r.1) ∧ (r.2.length : Int) ≤ v ∧ zWs r.2) (fun t ht => ?_) _ ⟨hv0, by simp, hk, by simp, by simp, by simp⟩
 obtain ⟨q, k, l⟩ := t
 obtain ⟨t1, t2, t3, t4⟩ := ht
 dsimp only at t1 t2 t3 t4
 unfold zF2
 by_cases hq : 0 < q
 ·have e0 := zNP (n := l.length) (by omega)
  obtain ⟨u, k1, e1, _, _, hk1⟩ := zIR (n := 3) t3 (by omega) (by omega)
  obtain ⟨bd, k2, e2, hb2, hbn, hk2⟩ := zXF (m := 2) hk1 (by omega) (by omega) h1 h2
  obtain ⟨bs, e3, hb3, hb4, hb5⟩ := zPw bd (by omega)
  obtain ⟨g, j, k3, e4, hj, hk3⟩ := zIF hk2 h1 h2
  obtain ⟨u5, k5, e5, hu5, hu5', hk5⟩ := zIR (n := 4) hk3 (by omega) (by omega)
  dsimp only at e1 e2 e3 e4 e5 hk1 hk2 hk3 hk5
  have hmid : ∃ w z, (if (!(u == 0)) = true then (xF (s.1, k3) 4).bind fun r12 => some (r12.2, r12.1) else some (k3, 0) : Option (Int × Int)) = some (w, z) ∧ yV (s.1, w) ∧ tL z = true ∧ (!(u == 0) || z == 0) = true := by
   split
   ·rename_i hu
    exact ⟨k5, u5, by rw [e5]; rfl, hk5, by simp; omega, by rw [hu]; rfl⟩
   ·exact ⟨k3, 0, rfl, hk3, by simp, by simp⟩
  obtain ⟨w, z, hmm, hw, hz1, hz2⟩ := hmid
  obtain ⟨u6, k6, e6, _, _, hk6⟩ := zIR (n := 6) hw (by omega) (by omega)
  obtain ⟨u7, k7, e7, _, _, hk7⟩ := zIR (n := 4) hk6 (by omega) (by omega)
  obtain ⟨u8, k8, e8, hu8, hu8', hk8⟩ := zIR (n := m) hk7 (by omega) (by omega)
  obtain ⟨n8, rfl⟩ := Int.eq_ofNat_of_zero_le hu8
  have e9 := zNP (n := n8) (by omega)
  dsimp only at e6 e7 e8 hk6 hk7 hk8
  have hend : ∃ w2 z2 y2, ((xF (s.1, w) 6).bind fun r13 => if (r13.1 == 5) = true then (xF (s.1, r13.2) 4).bind fun r14 => (xF (s.1, r14.2) m).bind fun r15 => (zDi r15.1).bind fun r16 => some (r15.2, decide (0 < r14.1), r16) else some (r13.2, g, tB j) : Option (Int × Bool × wZ)) = some (w2, z2, y2) ∧ yV (s.1, w2) ∧ vName y2 = true := by
   rw [e6]
   simp only [zob]
   split
   ·exact ⟨k8, decide (0 < u7), zPZ n8, by rw [e7]; simp only [zob, e8, e9], hk8, zOw (by omega)⟩
   ·exact ⟨k6, g, tB j, rfl, hk6, zLr (by omega)⟩
  obtain ⟨w2, z2, y2, he, hw2, hy2⟩ := hend
  have hq1 : zR (q - 1) = q - 1 := uD (by omega) (by omega)
  rw [show len l = ((l.length : Nat) : Int) from rfl]
  simp only [hq, decide_true, if_true, e0, e1, zob, e2, e3, e4, hmm, he, hq1]
  rw [vN (by simp; omega)]
  refine .inl ⟨_, rfl, ⟨by show 0 ≤ q - 1; omega, by show ((l ++ [_]).length : Int) + (q - 1) ≤ v; simp; omega, hw2, fun r hr => ?_, fun r hr => ?_, fun i r hr => ?_⟩, by show (q - 1).toNat < q.toNat; omega⟩
  ·rcases List.mem_append.1 hr with hr | hr
   ·exact t4.bd r hr
   ·simp only [List.mem_singleton] at hr
    subst hr
    show bs.length ≤ 2
    omega
  ·rcases List.mem_append.1 hr with hr | hr
   ·exact t4.ok r hr
   ·simp only [List.mem_singleton] at hr
    subst hr
    unfold xE
    dsimp only
    have hall : (bs.all fun x => vName x.2) = true := List.all_eq_true.2 fun x hx => by
     obtain ⟨j, hj, hx2⟩ := hbn x (hb5 x hx)
     rw [hx2]
     exact zLr (by omega)
    rw [if_neg (by omega), zOw (by omega), hy2, hz1, hz2, hall, zWi hb4]
    rfl
  ·by_cases hi : i < l.length
   ·rw [List.getElem?_append_left hi] at hr
    exact t4.nm i r hr
   ·rw [List.getElem?_append_right (by omega)] at hr
    have := vC hr
    simp at this
    have hi2 : i = l.length := by omega
    subst hi2
    simp at hr
    rw [← hr]
 ·simp only [hq, decide_false, zbf, if_false]
  exact .inr ⟨_, rfl, t3, by show (l.length : Int) ≤ v; omega, t4⟩
theorem zYd {s : uC} {n : Int} (h1 : 1 ≤ n) (h2 : n ≤ 26) (o : Int) (rs : List wD) (hrs : rs.length ≤ 100) {v k : Int} (hv0 : 0 ≤ v) (hv1 : v ≤ 100) (hk : yV (s.1, k)) : ∃ r, zW (zFN (o, rs) s n) (v, k, []) = some r ∧ yV (s.1, r.1) ∧ (r.2.length : Int) ≤ v ∧ ∀ p ∈ r.2, tL p.2.1 = true ∧ vName p.2.2.2 = true ∧ ∃ q ∈ rs, q.1 = p.1 ∧ q.2.1 = false := by
 refine zLf (B := zFN (o, rs) s n) (fun t => 0 ≤ t.1 ∧ (t.2.2.length : Int) + t.1 ≤ v ∧ yV (s.1, t.2.1) ∧ ∀ p ∈ t.2.2, tL p.2.1 = true ∧ vName p.2.2.2 = true ∧ ∃ q ∈ rs, q.1 = p.1 ∧ q.2.1 = false) (fun t => t.1.toNat) (fun r => yV (s.1, r.1) ∧ (r.2.length : Int) ≤ v ∧ ∀ p ∈ r.2, tL p.2.1 = true ∧ vName p.2.2.2 = true ∧ ∃ q ∈ rs, q.1 = p.1 ∧ q.2.1 = false) (fun t ht => ?_) _ ⟨hv0, by simp, hk, by simp⟩
 obtain ⟨q, k, l⟩ := t
 obtain ⟨t1, t2, t3, t4⟩ := ht
 dsimp only at t1 t2 t3 t4
 unfold zFN
 by_cases hq : 0 < q ∧ 0 < rs.length
 ·have hc : (decide (0 < q) && decide (0 < len rs)) = true := by simp [len]; omega
  obtain ⟨u, k1, e1, hu0, hu1, hk1⟩ := zIR (n := len rs) t3 (by simp [len]; omega) (by simp [len]; omega)
  obtain ⟨r, hr⟩ := tH (l := rs) hu0 hu1
  obtain ⟨u2, k2, e2, hu2, hu2', hk2⟩ := zIR (n := 10) hk1 (by omega) (by omega)
  obtain ⟨g, j, k3, e3, hj, hk3⟩ := zIF hk2 h1 h2
  dsimp only at e1 e2 e3 hk1 hk2 hk3
  have hq1 : zR (q - 1) = q - 1 := uD (by omega) (by omega)
  simp only [hc, if_true, e1, zob, hr, hq1]
  cases hst : r.2.1 with
  | true =>
   simp only [Bool.not_true, zbf, if_false]
   exact .inl ⟨_, rfl, ⟨by show 0 ≤ q - 1; omega, by show (l.length : Int) + (q - 1) ≤ v; omega, hk1, t4⟩, by show (q - 1).toNat < q.toNat; omega⟩
  | false =>
   simp only [Bool.not_false, if_true, e2, e3, zob]
   rw [vN (by simp; omega)]
   refine .inl ⟨_, rfl, ⟨by show 0 ≤ q - 1; omega, by show ((l ++ [_]).length : Int) + (q - 1) ≤ v; simp; omega, hk3, fun p hp => ?_⟩, by show (q - 1).toNat < q.toNat; omega⟩
   rcases List.mem_append.1 hp with hp | hp
   ·exact t4 p hp
   ·simp only [List.mem_singleton] at hp
    subst hp
    obtain ⟨i, _, hi⟩ := zMM hr
    exact ⟨by simp; omega, zLr (by omega), r, vV hi, rfl, hst⟩
 ·have hc : (decide (0 < q) && decide (0 < len rs)) = false := by
   rw [Bool.and_eq_false_iff]
   by_cases h : 0 < q
   ·have h0 : ¬ 0 < rs.length := fun h3 => hq ⟨h, h3⟩
    exact .inr (decide_eq_false (by show ¬ (0 : Int) < (rs.length : Int); omega))
   ·exact .inl (by simpa using h)
  simp only [hc, zbf, if_false]
  exact .inr ⟨_, rfl, t3, by show (l.length : Int) ≤ v; omega, t4⟩
structure Drawn (b : zT) (n p q : Int) : Prop where
 np : (b.1.length : Int) ≤ p
 nr : (b.2.1.length : Int) ≤ q
 nm : b.2.2.length ≤ 2
 bd : ∀ r ∈ b.2.1, r.2.2.2.1.length ≤ 2
 valid : zIM b
 names : ∀ (i : Nat) r, b.2.1[i]? = some r → r.1 = zPZ i
 at_ : ∀ p ∈ b.1, ∃ j : Nat, (j : Int) < n ∧ p.1.2 = tB j
theorem zWr {s : uC} (h : yV s) {n p q : Int} (h1 : 1 ≤ n) (h2 : n ≤ 26) (hp : 0 ≤ p) (hp2 : p ≤ 16) (hq : 1 ≤ q) (hq2 : q ≤ 24) : ∃ b k, zHC s n p q = some (b, k) ∧ yV (s.1, k) ∧ Drawn b n p q := by
 unfold zHC
 obtain ⟨u1, k1, e1, a1, b1, hk1⟩ := zIR (n := p + 1) h (by omega) (by omega)
 obtain ⟨⟨o1, ps⟩, e2, hk2, hl2, hp2'⟩ := zZI (s := s) h1 h2 a1 (by omega) hk1
 obtain ⟨u3, k3, e3, a3, b3, hk3⟩ := zIR (n := q + 1) hk2 (by omega) (by omega)
 obtain ⟨⟨o4, rs⟩, e4, hk4, hl4, hb4⟩ := zZP (s := s) h1 h2 hq (by omega) a3 (by omega) hk3
 obtain ⟨u5, k5, e5, a5, b5, hk5⟩ := zIR (n := 3) hk4 (by omega) (by omega)
 dsimp only at hl2 hl4 hb4 hp2'
 obtain ⟨⟨o6, ms⟩, e6, hk6, hl6, hm6⟩ := zYd (s := s) h1 h2 o4 rs (by omega) a5 (by omega) hk5
 dsimp only at e3 e5 hl6 hm6
 rw [uD (x := p + 1) (by omega) (by omega), uD (x := q + 1) (by omega) (by omega)]
 have hinj : ∀ (i j : Nat) p q, rs[i]? = some p → rs[j]? = some q → p.1 = q.1 → i = j := fun i j p q hp hq he => by
  have := vC hp
  have := vC hq
  rw [hb4.nm i p hp, hb4.nm j q hq] at he
  exact zXN (by omega) (by omega) he
 refine ⟨(ps, rs, ms), o6, ?_, hk6, by show (ps.length : Int) ≤ p; omega, by show (rs.length : Int) ≤ q; omega, by show ms.length ≤ 2; omega, hb4.bd, ⟨by show ps.length ≤ 16; omega, by show rs.length ≤ 24; omega, by show ms.length ≤ 8; omega, hp2'.ok, hb4.ok, hp2'.inj, hinj, fun m hm => ?_⟩, hb4.nm, hp2'.at_⟩
 ·simp only [e1, zob, e2, e3, e4, e5, e6]
 ·obtain ⟨g1, g2, r, g3, g4, g5⟩ := hm6 m hm
  obtain ⟨i, hi⟩ := List.mem_iff_getElem?.1 g3
  have hf := zQ2 (q := fun r : wD => r.1 == m.1) hi (by simp [g4])
  obtain ⟨k, r', f1, f2, f3, _⟩ := zTV hf.1
  have hki := hinj k i r' r f2 hi (by rw [g4]; simpa using f3)
  subst hki
  rw [f2] at hi
  cases hi
  unfold zOO tT
  dsimp only
  rw [g1, g2, f1]
  have : ¬ ((k : Int) < 0) := by omega
  simp [this, uT, f2, g5]
end
section
def Ok {α : Type} (x : Option α) (Q : α → Prop) : Prop := ∃ a, x = some a ∧ Q a
section
variable {α β : Type}
theorem Ok.ret {a : α} {Q : α → Prop} (h : Q a) : Ok (some a) Q := ⟨a, rfl, h⟩
theorem Ok.bind {x : Option α} {f : α → Option β} {I : α → Prop} {Q : β → Prop} (h : Ok x I) (k : ∀ a, I a → Ok (f a) Q) : Ok (x.bind f) Q := by
 obtain ⟨a, rfl, ha⟩ := h; exact k a ha
theorem Ok.ite {c : Bool} {x y : Option α} {Q : α → Prop} (hx : c = true → Ok x Q) (hy : c = false → Ok y Q) : Ok (if c = true then x else y) Q := by
 cases c with
 | true => exact hx rfl
 | false => exact hy rfl
theorem Ok.imp {x : Option α} {I Q : α → Prop} (h : Ok x I) (k : ∀ a, I a → Q a) : Ok x Q := by
 obtain ⟨a, h1, h2⟩ := h; exact ⟨a, h1, k a h2⟩
theorem Ok.of {x : Option α} {a : α} (h : x = some a) : Ok x fun b => b = a := ⟨a, h, rfl⟩
theorem Ok.app {l m : List α} (h : l.length + m.length < 4294967296) : Ok (wJ l m) fun z => z = l ++ m := ⟨_, vN h, rfl⟩
end
section
variable {s : uC}
theorem Ok.N {n : Int} (h : yV s) (h0 : 0 ≤ n) (h1 : n ≤ 4611686018427387904) : Ok (xF s n) fun r => 0 ≤ r.1 ∧ (1 ≤ n → r.1 < n) ∧ yV (s.1, r.2) := by
 by_cases hn : 1 ≤ n
 ·obtain ⟨v, k, e, a, b, c⟩ := zIR h hn h1
  exact ⟨_, e, a, fun _ => b, c⟩
 ·obtain ⟨v, k, hr, hk⟩ := zTz h
  have hn1 : n < 1 := by omega
  refine ⟨(0, k), ?_, Int.le_refl _, fun h => absurd h hn, hk⟩
  simp [xF, hr, zIq, hn1]
end
section
variable {α β σ τ ρ : Type}
def Nx (mk : Nat → σ → τ) (I : Nat → σ → Prop) (Q : ρ → Prop) (i : Nat) : τ ⊕ ρ → Prop
 | .inl t => ∃ s, t = mk i s ∧ I i s
 | .inr r => Q r
def Fin (Q : ρ → Prop) : τ ⊕ ρ → Prop
 | .inl _ => False
 | .inr r => Q r
theorem Ok.forI {B : τ → Option (τ ⊕ ρ)} (mk : Nat → σ → τ) (l : List α) (I : Nat → σ → Prop) (Q : ρ → Prop) (hB : ∀ i x s, l[i]? = some x → I i s → Ok (B (mk i s)) (Nx mk I Q (i + 1)))
  (he : ∀ s, I l.length s → Ok (B (mk l.length s)) (Fin Q)) (s : σ) (h : I 0 s) : Ok (zW B (mk 0 s)) Q := by
 refine yJ mk l I Q (fun i x s hx hI => ?_) (fun s hI => ?_) s h
 ·obtain ⟨o, h1, h2⟩ := hB i x s hx hI
  cases o with
  | inl t => obtain ⟨s', rfl, h3⟩ := h2; exact .inl ⟨s', h1, h3⟩
  | inr r => exact .inr ⟨r, h1, h2⟩
 ·obtain ⟨o, h1, h2⟩ := he s hI
  cases o with
  | inl t => exact h2.elim
  | inr r => exact ⟨r, h1, h2⟩
theorem Ok.seqE {x : Option (σ ⊕ α)} {f : σ → Option α} {I : σ ⊕ α → Prop} {Q : α → Prop} (h : Ok x I) (k : ∀ a, I (.inl a) → Ok (f a) Q) (k2 : ∀ r, I (.inr r) → Q r) : Ok (wW x f) Q := by
 obtain ⟨a, rfl, ha⟩ := h
 cases a with
 | inl a => exact k a ha
 | inr r => exact ⟨r, rfl, k2 r ha⟩
end
theorem zSB {α : Type} {l : List α} {i : Nat} {x : α} (h : l[i]? = some x) : decide ((i : Int) < len l) = true := decide_eq_true (show (i : Int) < (l.length : Int) by have := (List.getElem?_eq_some_iff.1 h).1; omega)
theorem zRI {α : Type} {l : List α} : decide ((l.length : Int) < len l) = false := decide_eq_false (show ¬ (l.length : Int) < (l.length : Int) by omega)
theorem zX1 {α : Type} {l : List α} {i : Nat} {x : α} (h : l[i]? = some x) : l.set i x = l := by
 apply List.ext_getElem?
 intro j
 by_cases hj : i = j
 ·subst hj; rw [List.getElem?_set_self (List.getElem?_eq_some_iff.1 h).1, h]
 ·rw [List.getElem?_set_ne hj]
theorem zIp {α : Type} {l : List α} (h : l.length < 4294967296) : wJ ([] : List α) l = some l := by rw [vN (by simpa using h), List.nil_append]
theorem zQN {α : Type} : ∀ (l m : List α), l.foldl (fun s x => s ++ [x]) m = m ++ l
 | [], m => by simp
 | x :: l, m => by rw [List.foldl_cons, zQN l]; simp
end
end Go.GD
