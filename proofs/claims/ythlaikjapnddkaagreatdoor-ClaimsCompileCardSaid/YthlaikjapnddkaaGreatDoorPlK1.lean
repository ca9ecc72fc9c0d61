/- Part of the proof. Conditions: none. -/
import Derived.Test.YthlaikjapnddkaaGreatDoorLib
import Derived.Test.YthlaikjapnddkaaGreatDoorModels
import Derived.Lib.TrailingZeros
import Derived.Shelf.Strings.FieldsAny
import Derived.Test.YthlaikjapnddkaaGreatDoorJoin
namespace Go.GD
set_option autoImplicit false
set_option linter.unusedVariables false
section
theorem xJ {x : Int} (h1 : -9223372036854775808 ≤ x) (h2 : x < 9223372036854775808) : zW x = x := by
 simp only [zW, IntKind.wrap, IntKind.signed, IntKind.bits]
 simp; omega
theorem z0G (n : Nat) (h : n < 9223372036854775808) : zW (n : Int) = n := xJ (by omega) (by omega)
theorem yA (n : Nat) (h : n + 1 < 9223372036854775808) : zW ((n : Int) + 1) = ((n + 1 : Nat) : Int) := by rw [xJ (by omega) (by omega)]; omega
theorem uC {α : Type} (l : List α) (i : Nat) : zF l (i : Int) = l[i]? := by simp [zF]
theorem zVM (l : qC) (i : Nat) : tM l (i : Int) = (l[i]?).map (fun b => (b.toNat : Int)) := by simp [tM]
theorem zOQ {α : Type} {l : List α} {i : Int} (h0 : 0 ≤ i) (h1 : i < l.length) : ∃ x, zF l i = some x ∧ l[i.toNat]? = some x := by
 have : l[i.toNat]? = some l[i.toNat] := List.getElem?_eq_getElem (by omega)
 exact ⟨_, by simp [zF, h0, this], this⟩
theorem yJ {α : Type} {l m : List α} (h : l.length + m.length < 4294967296) : wI l m = some (l ++ m) := by simp [wI, h]
theorem zLl {α : Type} {l : List α} {j : Int} (h1 : 0 ≤ j) (h2 : j ≤ l.length) : sub l 0 j = some (l.take j.toNat) := by simp [sub, h1, h2]
theorem zX8 {α : Type} {l : List α} {i : Int} (h1 : 0 ≤ i) (h2 : i ≤ l.length) : sub l i (len l) = some (l.drop i.toNat) := by simp [sub, h1, h2]
def zSS {σ ρ α : Type} (step : Nat → σ → α → Option (σ ⊕ ρ)) (fin : σ → Option ρ) : Nat → List α → σ → Option ρ
 | _, [], s => fin s
 | i, x :: l, s => match step i s x with
  | none => none
  | some (.inl s') => zSS step fin (i + 1) l s'
  | some (.inr r) => some r
theorem zX3 {σ ρ α τ : Type} {B : τ → Option (τ ⊕ ρ)} (mk : Nat → σ → τ) (l : List α) (step : Nat → σ → α → Option (σ ⊕ ρ)) (fin : σ → Option ρ)
  (hB : ∀ i x s, l[i]? = some x → B (mk i s) = (step i s x).map fun o => match o with | .inl s' => .inl (mk (i + 1) s') | .inr r => .inr r)
  (he : ∀ s, B (mk l.length s) = (fin s).map .inr) : ∀ (n i : Nat) (s : σ), i + n = l.length → zZ B (mk i s) = zSS step fin i (l.drop i) s := by
 intro n
 induction n with
 | zero =>
  intro i s h
  rw [Nat.add_zero] at h
  subst h
  rw [yM, he, List.drop_length]
  cases hf : fin s <;> simp [zSS, hf]
 | succ n ih =>
  intro i s h
  have hx : l[i]? = some l[i] := List.getElem?_eq_getElem (by omega)
  rw [yM, hB i _ s hx, List.drop_eq_getElem_cons (by omega)]
  cases hs : step i s l[i] with
  | none => simp [zSS, hs]
  | some o =>
   cases o with
   | inl s' => simp only [Option.map_some, zSS, hs]; exact ih (i + 1) s' (by omega)
   | inr r => simp [zSS, hs]
theorem zM6 {σ ρ α τ : Type} {B : τ → Option (τ ⊕ ρ)} (mk : Nat → σ → τ) (l : List α) (step : Nat → σ → α → Option (σ ⊕ ρ)) (fin : σ → Option ρ)
  (hB : ∀ i x s, l[i]? = some x → B (mk i s) = (step i s x).map fun o => match o with | .inl s' => .inl (mk (i + 1) s') | .inr r => .inr r)
  (he : ∀ s, B (mk l.length s) = (fin s).map .inr) (s : σ) : zZ B (mk 0 s) = zSS step fin 0 l s := by
 have := zX3 mk l step fin hB he l.length 0 s (by omega)
 simpa using this
theorem zOK {ρ α : Type} {B : Int → Option (Int ⊕ ρ)} {l : List α} {r : ρ} (hB : ∀ (i : Nat) (x : α), l[i]? = some x → B (i : Int) = some (.inl ((i + 1 : Nat) : Int)))
  (he : B (l.length : Int) = some (.inr r)) : zZ B 0 = some r := by
 have h := zM6 (B := B) (fun i (_ : Unit) => (i : Int)) l (fun _ _ _ => some (.inl ())) (fun _ => some r) (fun i x s hx => by simp [hB i x hx]) (fun s => by simp [he]) ()
 have key : ∀ (l : List α) (i : Nat), zSS (fun _ (_ : Unit) (_ : α) => some (.inl ())) (fun _ => some r) i l () = some r := by
  intro l
  induction l with
  | nil => intro i; rfl
  | cons x l ih => intro i; exact ih (i + 1)
 rw [key] at h
 exact h
theorem yW {ρ α σ τ : Type} {B : τ → Option (τ ⊕ ρ)} (mk : Nat → σ → τ) (l : List α) (I : Nat → σ → Prop) (Q : ρ → Prop)
  (hB : ∀ i x s, l[i]? = some x → I i s → (∃ s', B (mk i s) = some (.inl (mk (i + 1) s')) ∧ I (i + 1) s') ∨ ∃ r, B (mk i s) = some (.inr r) ∧ Q r)
  (he : ∀ s, I l.length s → ∃ r, B (mk l.length s) = some (.inr r) ∧ Q r) : ∀ s, I 0 s → ∃ r, zZ B (mk 0 s) = some r ∧ Q r := by
 have key : ∀ n i s, i + n = l.length → I i s → ∃ r, zZ B (mk i s) = some r ∧ Q r := by
  intro n
  induction n with
  | zero =>
   intro i s h hI
   rw [Nat.add_zero] at h
   subst h
   obtain ⟨r, h1, h2⟩ := he s hI
   exact ⟨r, by rw [yM, h1], h2⟩
  | succ n ih =>
   intro i s h hI
   have hx : l[i]? = some l[i] := List.getElem?_eq_getElem (by omega)
   rcases hB i _ s hx hI with ⟨s', h1, h2⟩ | ⟨r, h1, h2⟩
   ·obtain ⟨r, h3, h4⟩ := ih (i + 1) s' (by omega) h2
    exact ⟨r, by rw [yM, h1]; exact h3, h4⟩
   ·exact ⟨r, by rw [yM, h1], h2⟩
 exact fun s hI => key l.length 0 s (by omega) hI
theorem zUy {ρ τ : Type} {B : τ → Option (τ ⊕ ρ)} (μ : τ → Nat) (I : τ → Prop) (Q : ρ → Prop)
  (step : ∀ s, I s → (∃ s', B s = some (.inl s') ∧ I s' ∧ μ s' < μ s) ∨ (∃ r, B s = some (.inr r) ∧ Q r)) (s : τ) (h : I s) : ∃ r, zZ B s = some r ∧ Q r := zLz I μ Q step s h
end
section
structure yG (s : uD) : Prop where
 lo : 0 ≤ s.2
 hi : s.2 ≤ s.1.length
 small : s.1.length ≤ 2000
theorem zZG (l : List Int) : zM9 l = some (l.take 2000, 0) := by
 unfold zM9
 by_cases h : 2000 < len l
 ·rw [if_pos h, zLl (by omega) (by simp [len] at h; omega)]; rfl
 ·rw [if_neg h, zLl (by simp [len]) (by simp [len])]
  simp only [zob]
  rw [List.take_of_length_le (by simp), List.take_of_length_le (by simp [len] at h; omega)]
theorem zYD (l : List Int) : yG (l.take 2000, 0) := ⟨Int.le_refl _, by simp, by simp; omega⟩
theorem zUr {s : uD} (h : yG s) : ∃ v k, zHn s = some (v, k) ∧ yG (s.1, k) := by
 obtain ⟨h1, h2, h3⟩ := h
 unfold zHn
 by_cases hk : len s.1 ≤ s.2
 ·exact ⟨0, s.2, by simp [hk], h1, h2, h3⟩
 ·have hk' : s.2 < s.1.length := by simpa [len] using hk
  obtain ⟨x, hx, _⟩ := zOQ h1 hk'
  refine ⟨x, s.2 + 1, ?_, by show (0 : Int) ≤ s.2 + 1; omega, by show s.2 + 1 ≤ (s.1.length : Int); omega, h3⟩
  simp only [hk, decide_false, zbf, if_false]
  rw [xJ (x := s.2 + 1) (by omega) (by omega), show s.2 + 1 - 1 = s.2 by omega, xJ (by omega) (by omega), hx]; rfl
theorem zZA {x n : Int} (h0 : 1 ≤ n) (h1 : n ≤ 4611686018427387904) : ∃ v, zIm x n = some v ∧ 0 ≤ v ∧ v < n := by
 unfold zIm
 have hn : ¬ n < 1 := by omega
 have hn0 : n ≠ 0 := by omega
 simp only [hn, decide_false, zbf, if_false, remK, hn0, zob]
 have ha := Int.tmod_lt_of_pos x (show 0 < n by omega)
 have hb : -n < x.tmod n := by
  have := Int.lt_tmod_of_pos x (show 0 < n by omega)
  exact this
 by_cases hx : x.tmod n < 0
 ·exact ⟨x.tmod n + n, by simp [hx, xJ (x := x.tmod n + n) (by omega) (by omega)], by omega, by omega⟩
 ·exact ⟨x.tmod n, by simp [hx], by omega, ha⟩
theorem zIM {s : uD} {n : Int} (h : yG s) (h0 : 1 ≤ n) (h1 : n ≤ 4611686018427387904) : ∃ v k, uM s n = some (v, k) ∧ 0 ≤ v ∧ v < n ∧ yG (s.1, k) := by
 obtain ⟨v, k, hr, hk⟩ := zUr h
 obtain ⟨u, hu, h2, h3⟩ := zZA (x := v) h0 h1
 exact ⟨u, k, by simp [uM, hr, hu], h2, h3, hk⟩
theorem zQ6 {s : uD} {l : List qC} (h : yG s) (h0 : l ≠ []) (h1 : l.length ≤ 1000) : ∃ x k, zB8 s l = some (x, k) ∧ x ∈ l ∧ yG (s.1, k) := by
 have hp := List.length_pos_iff.2 h0
 obtain ⟨v, k, hr, h2, h3, hk⟩ := zIM (n := len l) h (by simp [len]; omega) (by simp [len]; omega)
 obtain ⟨x, hx, hx2⟩ := zOQ h2 h3
 exact ⟨x, k, by simp [zB8, hr, hx], List.mem_of_getElem? hx2, hk⟩
def tW (k : Nat) : qC := [UInt8.ofNat (97 + k)]
theorem zII {s : uD} {n : Int} (h : yG s) (h0 : 1 ≤ n) (h1 : n ≤ 26) : ∃ (g : Bool) (j : Nat) (k : Int), zAf s n = some ((g, tW j), k) ∧ (j : Int) < n ∧ yG (s.1, k) := by
 obtain ⟨v, k, hr, h2, h3, hk⟩ := zIM (n := 2 * n) h (by omega) (by omega)
 obtain ⟨m, rfl⟩ := Int.eq_ofNat_of_zero_le h2
 refine ⟨xA .i64 m 1 == 1, m / 2, k, ?_, by omega, hk⟩
 unfold zAf
 rw [xJ (x := 2 * n) (by omega) (by omega), hr]
 have hq : quoK .i64 (m : Int) 2 = some ((m / 2 : Nat) : Int) := by
  simp only [quoK]
  rw [if_neg (by omega)]
  show some (zW _) = _
  have : (m : Int).tdiv 2 = ((m / 2 : Nat) : Int) := by
   rw [Int.tdiv_eq_ediv_of_nonneg (by omega)]; omega
  rw [this, xJ (by omega) (by omega)]
 simp only [zob, hq]
 have hw : IntKind.u8.wrap (zW (97 + ((m / 2 : Nat) : Int))) = ((97 + m / 2 : Nat) : Int) := by
  rw [xJ (by omega) (by omega)]
  simp only [IntKind.wrap, IntKind.signed, IntKind.bits]
  simp; omega
 rw [hw]
 rfl
end
section
theorem zYh {α : Type} (l : List α) (i k : Nat) : tT l (i : Int) (k : Int) = l[i + k]? := by
 simp only [tT]
 rw [if_pos (by omega), show ((i : Int) + (k : Int)) = ((i + k : Nat) : Int) by omega, uC]
section
variable {α : Type} [BEq α]
noncomputable def zMN (y0 : List α) (s1 : Int) (s3 : (List α) × Int × Int) : Option (((List α) × Int × Int) ⊕ ((List α) × Int)) :=
 if decide (s3.2.2 < ((Int.toNat (((List.length y0 : Nat) : Int) - s1) : Nat) : Int)) then
  (tT s3.1 s1 s3.2.2).bind fun x3 =>
  (tT s3.1 s1 (zW (s3.2.2 - 1))).bind fun x4 =>
  if !(x3 == x4) then
   (tT s3.1 s1 s3.2.2).bind fun x5 =>
   (zF s3.1 s3.2.1).bind fun _ =>
   some (.inl (List.set s3.1 (Int.toNat s3.2.1) x5, zW (s3.2.1 + 1), zW (s3.2.2 + 1)))
  else
   some (.inl (s3.1, s3.2.1, zW (s3.2.2 + 1)))
 else
  some (.inr (s3.1, s3.2.1))
noncomputable def zNu (z : α) (y0 : List α) (s1 : Int) : Option (Int ⊕ (List α)) :=
 if decide (s1 < (len y0)) then
  (zF y0 s1).bind fun x1 =>
  (zF y0 (zW (s1 - 1))).bind fun x2 =>
  if x1 == x2 then
   (uI (decide (0 ≤ s1) && decide (s1 ≤ len y0))).bind fun _ =>
   (zZ (zMN y0 s1) (y0, s1, 1) : Option ((List α) × Int)).bind fun s2 =>
   (uI (decide (0 ≤ s2.2) && decide (s2.2 ≤ len s2.1))).bind fun _ =>
   (sub (zBv s2.1 s2.2 z) 0 s2.2).bind fun x7 =>
   some (.inr x7)
  else
   some (.inl (zW (s1 + 1)))
 else
  some (.inr y0)
noncomputable def zRt (z : α) (y0 : List α) : Option (List α) :=
 if decide ((len y0) < 2) then
  some y0
 else
  zZ (zNu z y0) 1
def dd (a : α) : List α → List α
 | [] => []
 | b :: r => if a == b then dd b r else b :: dd b r
def xZ : List α → List α
 | [] => []
 | a :: r => a :: dd a r
theorem zT4 : ∀ (r s : List α) (a : α), dd a (r ++ s) = dd a r ++ dd (r.getLastD a) s
 | [], s, a => rfl
 | b :: r, s, a => by
  simp only [List.cons_append, dd, zT4 r s b, List.getLastD_cons]
  split <;> simp
theorem zR8 {l : List α} {j : Nat} {y x : α} (h1 : l[j]? = some y) (h2 : l[j + 1]? = some x) : xZ (l.take (j + 2)) = xZ (l.take (j + 1)) ++ if y == x then [] else [x] := by
 have e1 : l.take (j + 2) = l.take (j + 1) ++ [x] := by
  rw [List.take_add_one (i := j + 1), h2]; rfl
 have e2 : l.take (j + 1) = l.take j ++ [y] := by rw [List.take_add_one, h1]; rfl
 rw [e1]
 cases hl : l.take (j + 1) with
 | nil => rw [hl] at e2; cases h3 : l.take j <;> simp [h3] at e2
 | cons a r =>
  have hlast : r.getLastD a = y := by
   have : (a :: r).getLast? = some y := by rw [← hl, e2]; simp
   rw [← List.getLastD_cons (a := a) (b := a) (l := r), List.getLastD_eq_getLast?, this]; rfl
  simp only [List.cons_append, xZ, zT4, hlast, dd]
theorem zZ0 : ∀ (r : List α) (a : α), (dd a r).length ≤ r.length
 | [], _ => Nat.le_refl _
 | b :: r, a => by
  simp only [dd]
  have := zZ0 r b
  split <;> simp <;> omega
theorem zWz (l : List α) : (xZ l).length ≤ l.length := by
 cases l with
 | nil => simp [xZ]
 | cons a r => have := zZ0 r a; simp [xZ]; omega
theorem zQy [LawfulBEq α] (l : List α) (i0 : Nat) (h0 : 1 ≤ i0) (hi : i0 < l.length) (hbig : l.length < 9223372036854775807) (hd : xZ (l.take (i0 + 1)) = xZ (l.take i0)) (hk : xZ (l.take i0) = l.take i0) :
  ∃ c k, zZ (zMN l (i0 : Int)) (l, (i0 : Int), 1) = some (c, ((k : Nat) : Int)) ∧ c.length = l.length ∧ k ≤ l.length ∧ c.take k = xZ l := by
 have key : ∀ n k2 (c : List α) (k : Nat), i0 + k2 + n = l.length → 1 ≤ k2 → c.length = l.length → k + 1 ≤ i0 + k2 → (∀ j, i0 + k2 ≤ j + 1 → c[j]? = l[j]?) → c.take k = xZ (l.take (i0 + k2)) →
   ∃ c' k', zZ (zMN l (i0 : Int)) (c, (k : Int), (k2 : Int)) = some (c', ((k' : Nat) : Int)) ∧ c'.length = l.length ∧ k' ≤ l.length ∧ c'.take k' = xZ l := by
  intro n
  induction n with
  | zero =>
   intro k2 c k hn h1 hc hk1 hsame htake
   refine ⟨c, k, ?_, hc, by omega, ?_⟩
   ·rw [yM]
    unfold zMN
    have : decide ((k2 : Int) < ((Int.toNat (((List.length l : Nat) : Int) - (i0 : Int)) : Nat) : Int)) = false := by simp; omega
    simp only [this, zbf, if_false]
   ·rw [htake, List.take_of_length_le (by omega)]
  | succ n ih =>
   intro k2 c k hn h1 hc hk1 hsame htake
   have hx : l[i0 + k2]? = some l[i0 + k2] := List.getElem?_eq_getElem (by omega)
   have hy : l[i0 + k2 - 1]? = some l[i0 + k2 - 1] := List.getElem?_eq_getElem (by omega)
   have hcx : c[i0 + k2]? = some l[i0 + k2] := by rw [hsame _ (by omega)]; exact hx
   have hcy : c[i0 + (k2 - 1)]? = some l[i0 + k2 - 1] := by rw [hsame _ (by omega), ← hy]; congr 1; omega
   have hlt : decide ((k2 : Int) < ((Int.toNat (((List.length l : Nat) : Int) - (i0 : Int)) : Nat) : Int)) = true := by simp; omega
   have hw1 : zW ((k2 : Int) - 1) = ((k2 - 1 : Nat) : Int) := by rw [xJ (by omega) (by omega)]; omega
   have hdt := zR8 (l := l) (j := i0 + k2 - 1) (y := l[i0 + k2 - 1]) (x := l[i0 + k2]) hy (by rw [show i0 + k2 - 1 + 1 = i0 + k2 by omega]; exact hx)
   rw [show i0 + k2 - 1 + 2 = i0 + (k2 + 1) by omega, show i0 + k2 - 1 + 1 = i0 + k2 by omega] at hdt
   have hklt : k < c.length := by omega
   rw [yM]
   unfold zMN
   simp only [hlt, if_true, zYh, hcx, zob, hw1, hcy]
   rw [BEq.comm]
   have hklt' : zF c (k : Int) = some c[k] := by rw [uC]; exact List.getElem?_eq_getElem hklt
   cases hb : l[i0 + k2 - 1] == l[i0 + k2] with
   | true =>
    simp only [Bool.not_true, zbf, if_false]
    rw [yA k2 (by omega)]
    have := ih (k2 + 1) c k (by omega) (by omega) hc (by omega) (fun j hj => hsame j (by omega)) (by rw [hdt, hb]; simpa using htake)
    exact this
   | false =>
    simp only [Bool.not_false, if_true, hklt', zob]
    rw [yA k2 (by omega), yA k (by omega), Int.toNat_natCast]
    refine ih (k2 + 1) (c.set k l[i0 + k2]) (k + 1) (by omega) (by omega) (by simp [hc]) (by omega) (fun j hj => ?_) ?_
    ·rw [List.getElem?_set_ne (by omega)]; exact hsame j (by omega)
    ·rw [hdt, hb, ← htake]
     rw [List.take_add_one, List.getElem?_set_self hklt, List.take_set_of_le (Nat.le_refl _)]
     rfl
 have hsome : l[i0]? = some l[i0] := List.getElem?_eq_getElem hi
 refine key (l.length - (i0 + 1)) 1 l i0 (by omega) (Nat.le_refl _) rfl (by omega) (fun j _ => rfl) ?_
 rw [hd, hk]
theorem zKs [LawfulBEq α] (z : α) (l : List α) (hbig : l.length < 9223372036854775807) : zRt z l = some (xZ l) := by
 unfold zRt
 by_cases h2 : l.length < 2
 ·have : decide (len l < 2) = true := by simp [len]; omega
  simp only [this, if_true]
  match l, h2 with
  | [], _ => rfl
  | [a], _ => rfl
 ·have : decide (len l < 2) = false := by simp [len]; omega
  simp only [this, zbf, if_false]
  have key : ∀ n k, k + n = l.length → 1 ≤ k → xZ (l.take k) = l.take k → zZ (zNu z l) (k : Int) = some (xZ l) := by
   intro n
   induction n with
   | zero =>
    intro k hn h1 hp
    rw [yM]
    unfold zNu
    have : decide ((k : Int) < len l) = false := by simp [len]; omega
    simp only [this, zbf, if_false]
    rw [List.take_of_length_le (by omega)] at hp
    rw [hp]
   | succ n ih =>
    intro k hn h1 hp
    have hx : l[k]? = some l[k] := List.getElem?_eq_getElem (by omega)
    have hy : l[k - 1]? = some l[k - 1] := List.getElem?_eq_getElem (by omega)
    have hlt : decide ((k : Int) < len l) = true := by simp [len]; omega
    have hw1 : zW ((k : Int) - 1) = ((k - 1 : Nat) : Int) := by rw [xJ (by omega) (by omega)]; omega
    have hdt := zR8 (l := l) (j := k - 1) (y := l[k - 1]) (x := l[k]) hy (by rw [show k - 1 + 1 = k by omega]; exact hx)
    rw [show k - 1 + 2 = k + 1 by omega, show k - 1 + 1 = k by omega, hp] at hdt
    rw [yM]
    unfold zNu
    simp only [hlt, if_true, uC, hx, hw1, hy, zob]
    rw [BEq.comm]
    cases hb : l[k - 1] == l[k] with
    | true =>
     have hc1 : (decide (0 ≤ (k : Int)) && decide ((k : Int) ≤ len l)) = true := by simp [len]; omega
     obtain ⟨c, q, hl, hcl, hq, htk⟩ := zQy l k h1 (by omega) hbig (by rw [hdt, hb, hp]; simp) hp
     have hc2 : (decide (0 ≤ ((q : Nat) : Int)) && decide (((q : Nat) : Int) ≤ len c)) = true := by simp [len]; omega
     simp only [if_true, hc1, uI, zob, hl, hc2]
     rw [zLl (by omega) (by rw [zGW, hcl]; omega)]
     simp only [zob, Int.toNat_natCast, zBv, htk]
     have hdl : (xZ l).length = q := by rw [← htk, List.length_take]; omega
     rw [← hdl, List.take_left]
    | false =>
     simp only [zbf, if_false]
     rw [yA k (by omega)]
     refine ih (k + 1) (by omega) (by omega) ?_
     rw [hdt, hb, List.take_add_one, hx]; rfl
  exact key (l.length - 1) 1 (by omega) (Nat.le_refl _) (by match l, h2 with | a :: r, _ => rfl)
end
section
variable {α : Type} {lt : α → α → Bool}
structure tV (lt : α → α → Bool) : Prop where
 irrefl : ∀ x, lt x x = false
 trans : ∀ x y z, lt x y = true → lt y z = true → lt x z = true
 tri : ∀ x y, lt x y = true ∨ x = y ∨ lt y x = true
abbrev yB (lt : α → α → Bool) (l : List α) : Prop := l.Pairwise fun x y => lt x y = true
theorem tV.asymm (O : tV lt) {x y : α} (h : lt x y = true) : lt y x = false := by
 cases hb : lt y x with
 | false => rfl
 | true => have := O.trans _ _ _ h hb; rw [O.irrefl] at this; cases this
theorem yB.ext (O : tV lt) : ∀ {l m : List α}, yB lt l → yB lt m → (∀ x, x ∈ l ↔ x ∈ m) → l = m
 | [], [], _, _, _ => rfl
 | [], y :: m, _, _, h => by have := (h y).2 (List.mem_cons_self); cases this
 | x :: l, [], _, _, h => by have := (h x).1 (List.mem_cons_self); cases this
 | x :: l, y :: m, hl, hm, h => by
  obtain ⟨h1, h2⟩ := List.pairwise_cons.1 hl
  obtain ⟨h3, h4⟩ := List.pairwise_cons.1 hm
  have hxy : x = y := by
   rcases List.mem_cons.1 ((h x).1 (List.mem_cons_self)) with h5 | h5
   ·exact h5
   ·rcases List.mem_cons.1 ((h y).2 (List.mem_cons_self)) with h6 | h6
    ·exact h6.symm
    ·have := O.asymm (h3 x h5); rw [h1 y h6] at this; cases this
  subst hxy
  congr 1
  refine yB.ext O h2 h4 fun z => ⟨fun hz => ?_, fun hz => ?_⟩
  ·rcases List.mem_cons.1 ((h z).1 (List.mem_cons_of_mem _ hz)) with rfl | h5
   ·have := h1 z hz; rw [O.irrefl] at this; cases this
   ·exact h5
  ·rcases List.mem_cons.1 ((h z).2 (List.mem_cons_of_mem _ hz)) with rfl | h5
   ·have := h3 z hz; rw [O.irrefl] at this; cases this
   ·exact h5
theorem zS2 [BEq α] [LawfulBEq α] (O : tV lt) : ∀ {l : List α}, l.Pairwise (fun x y => lt y x = false) → yB lt (xZ l) ∧ ∀ x, x ∈ xZ l ↔ x ∈ l := by
 have key : ∀ (r : List α) (a : α), (a :: r).Pairwise (fun x y => lt y x = false) → yB lt (a :: dd a r) ∧ ∀ x, x ∈ a :: dd a r ↔ x ∈ a :: r := by
  intro r
  induction r with
  | nil => intro a _; simp [dd]
  | cons b r ih =>
   intro a h
   obtain ⟨h1, h2⟩ := List.pairwise_cons.1 h
   obtain ⟨i1, i2⟩ := ih b h2
   by_cases hab : a = b
   ·subst hab
    simp only [dd, beq_self_eq_true, if_true]
    refine ⟨i1, fun x => ?_⟩
    rw [i2]; simp
   ·have hb : (a == b) = false := beq_eq_false_iff_ne.2 hab
    simp only [dd, hb, zbf, if_false]
    have hlt : lt a b = true := by
     rcases O.tri a b with h | h | h
     ·exact h
     ·exact absurd h hab
     ·rw [h1 b (List.mem_cons_self)] at h; cases h
    refine ⟨List.pairwise_cons.2 ⟨fun y hy => ?_, i1⟩, fun x => ?_⟩
    ·rcases List.mem_cons.1 hy with rfl | hy
     ·exact hlt
     ·exact O.trans _ _ _ hlt ((List.pairwise_cons.1 i1).1 y hy)
    ·rw [List.mem_cons, i2]; simp
 intro l h
 cases l with
 | nil => simp [xZ]
 | cons a r => exact key r a h
theorem zMA (O : tV lt) (l : List α) : (l.mergeSort fun x y => !lt y x).Pairwise (fun x y => lt y x = false) := by
 have h := List.pairwise_mergeSort (le := fun x y => !lt y x) (fun a b c h1 h2 => ?_) (fun a b => ?_) l
 ·exact h.imp fun h => by simpa using h
 ·simp only [Bool.not_eq_true'] at *
  cases h3 : lt c a with
  | false => rfl
  | true =>
   rcases O.tri a b with h | rfl | h
   ·have := O.trans _ _ _ h3 h; rw [this] at h2; cases h2
   ·rw [h3] at h2; cases h2
   ·rw [h] at h1; cases h1
 ·cases h : lt b a with
  | false => simp
  | true => simp [O.asymm h]
def tL [BEq α] (lt : α → α → Bool) (l : List α) : List α := xZ (l.mergeSort fun x y => !lt y x)
theorem zO0 [BEq α] [LawfulBEq α] (O : tV lt) (l : List α) : yB lt (tL lt l) ∧ ∀ x, x ∈ tL lt l ↔ x ∈ l := by
 obtain ⟨h1, h2⟩ := zS2 O (zMA O l)
 exact ⟨h1, fun x => by rw [tL, h2, List.mem_mergeSort]⟩
theorem zTs [BEq α] [LawfulBEq α] (O : tV lt) {l m : List α} (h1 : yB lt m) (h2 : ∀ x, x ∈ m ↔ x ∈ l) : tL lt l = m := by
 obtain ⟨h3, h4⟩ := zO0 O l
 exact yB.ext O h3 h1 fun x => by rw [h4, h2]
theorem zWv [BEq α] (lt : α → α → Bool) (l : List α) : (tL lt l).length ≤ l.length := by
 have := zWz (l.mergeSort fun x y => !lt y x)
 simpa [tL] using this
end
section
variable {α : Type} [BEq α]
noncomputable def zUt (y0 : List α) (y1 : α) (s1 : Int) : Option (Int ⊕ Int) :=
 if decide (s1 < (len y0)) then
  (zF y0 s1).bind fun x1 =>
  if y1 == x1 then
   some (.inr s1)
  else
   some (.inl (zW (s1 + 1)))
 else
  some (.inr (-1))
noncomputable def zZ3 (y0 : List α) (y1 : α) : Option Int := zZ (zUt y0 y1) 0
theorem zQX (l : List α) (x : α) (hb : l.length < 9223372036854775807) : ∃ r, zZ3 l x = some r ∧ (0 ≤ r ↔ ∃ y ∈ l, x == y) := by
 have h := yW (B := zUt l x) (fun i (_ : Unit) => (i : Int)) l (fun i _ => ∀ j y, j < i → l[j]? = some y → (x == y) = false) (fun r => (0 ≤ r ↔ ∃ y ∈ l, x == y)) ?_ ?_ () (by simp)
 ·exact h
 ·intro i y s hy hI
  have hi := (List.getElem?_eq_some_iff.1 hy).1
  have hlt : decide ((i : Int) < len l) = true := by simp [len]; omega
  unfold zUt
  simp only [hlt, if_true, uC, hy, zob]
  cases hxy : x == y with
  | true => exact .inr ⟨_, rfl, ⟨fun _ => ⟨y, List.mem_of_getElem? hy, hxy⟩, fun _ => by omega⟩⟩
  | false =>
   refine .inl ⟨(), by simp [yA i (by omega)], fun j z hj hz => ?_⟩
   rcases Nat.lt_succ_iff_lt_or_eq.1 hj with h | rfl
   ·exact hI j z h hz
   ·rw [hy] at hz; cases hz; exact hxy
 ·intro s hI
  unfold zUt
  refine ⟨-1, by simp [len], ⟨fun h => by omega, fun ⟨y, hy, hxy⟩ => ?_⟩⟩
  obtain ⟨j, hj⟩ := List.mem_iff_getElem?.1 hy
  rw [hI j y (List.getElem?_eq_some_iff.1 hj).1 hj] at hxy
  cases hxy
noncomputable def zYa (y0 : List α) (y1 : List α) (s1 : Int) : Option (Int ⊕ Bool) :=
 if decide (s1 < (len y0)) then
  (zF y0 s1).bind fun x1 =>
  (zF y1 s1).bind fun x2 =>
  if !(x1 == x2) then
   some (.inr false)
  else
   some (.inl (zW (s1 + 1)))
 else
  some (.inr true)
noncomputable def zZ8 (y0 : List α) (y1 : List α) : Option Bool :=
 if (len y0) != (len y1) then
  some false
 else
  zZ (zYa y0 y1) 0
theorem zWQ [DecidableEq α] [LawfulBEq α] (l m : List α) (hb : l.length < 9223372036854775807) : zZ8 l m = some (decide (l = m)) := by
 unfold zZ8
 by_cases hl : l.length = m.length
 ·have h0 : (len l != len m) = false := by simp [len, hl]
  simp only [h0, zbf, if_false]
  have h := yW (B := zYa l m) (fun i (_ : Unit) => (i : Int)) l (fun i _ => ∀ j, j < i → l[j]? = m[j]?) (fun r => r = decide (l = m)) ?_ ?_ () (by simp)
  ·obtain ⟨r, h1, rfl⟩ := h; exact h1
  ·intro i x s hx hI
   have hi := (List.getElem?_eq_some_iff.1 hx).1
   have hy : m[i]? = some m[i] := List.getElem?_eq_getElem (by omega)
   have hlt : decide ((i : Int) < len l) = true := by simp [len]; omega
   unfold zYa
   simp only [hlt, if_true, uC, hx, hy, zob]
   by_cases he : x = m[i]
   ·refine .inl ⟨(), by simp [he, yA i (by omega)], fun j hj => ?_⟩
    rcases Nat.lt_succ_iff_lt_or_eq.1 hj with h | rfl
    ·exact hI j h
    ·rw [hx, hy, he]
   ·refine .inr ⟨false, by simp [he], ?_⟩
    symm
    rw [decide_eq_false_iff_not]
    intro h; subst h
    rw [hx] at hy; cases hy; exact he rfl
  ·intro s hI
   refine ⟨true, by unfold zYa; simp [len], ?_⟩
   symm
   rw [decide_eq_true_iff]
   apply List.ext_getElem?
   intro j
   by_cases hj : j < l.length
   ·exact hI j hj
   ·rw [List.getElem?_eq_none (by omega), List.getElem?_eq_none (by omega)]
 ·have h0 : (len l != len m) = true := by simp [len]; omega
  simp only [h0, if_true]
  congr 1; symm
  rw [decide_eq_false_iff_not]
  intro h; subst h; exact hl rfl
end
end
section
structure Le {α : Type} (a b : Option α) : Prop where
 el : ∀ r, a = some r → b = some r
theorem Le.refl {α : Type} (a : Option α) : Le a a := ⟨fun _ h => h⟩
theorem Le.bind {α β : Type} {a b : Option α} {f g : α → Option β} (h : Le a b) (k : ∀ x, Le (f x) (g x)) : Le (a.bind f) (b.bind g) := ⟨fun r hr => by
 cases a with
 | none => cases hr
 | some x => rw [h.el x rfl]; exact (k x).el r hr⟩
theorem Le.ite {α : Type} {c : Prop} [Decidable c] {a b a' b' : Option α} (h : Le a b) (k : Le a' b') : Le (if c then a else a') (if c then b else b') := by
 split
 ·exact h
 ·exact k
theorem Le.seqE {σ α : Type} {a b : Option (σ ⊕ α)} {f g : σ → Option α} (h : Le a b) (k : ∀ x, Le (f x) (g x)) : Le (yC a f) (yC b g) :=
 Le.bind h fun o => by
  cases o with
  | inl s => exact k s
  | inr r => exact Le.refl _
theorem Le.none {α : Type} (b : Option α) : Le none b := ⟨fun _ h => nomatch h⟩
abbrev lp {σ ρ : Type} (n : Nat) (B : σ → Option (σ ⊕ ρ)) (s : σ) : Option ρ := tA B n s
theorem Le.lp {σ ρ : Type} {B C : σ → Option (σ ⊕ ρ)} (h : ∀ s, Le (B s) (C s)) (n : Nat) (s : σ) : Le (lp n B s) (zZ C s) := by
 refine ⟨fun r hr => ?_⟩
 refine zIN (n := n) ?_
 revert s
 induction n with
 | zero => intro s hr; cases hr
 | succ n ih =>
  intro s hr
  simp only [tA] at hr ⊢
  cases hb : B s with
  | none => rw [hb] at hr; cases hr
  | some o =>
   rw [hb] at hr
   rw [(h s).el o hb]
   cases o with
   | inl s' => exact ih s' hr
   | inr r' => exact hr
theorem Le.lim {α : Type} {a : Option α} {f : Nat → Option α} (n : Nat) (h : ∀ m, n ≤ m → Le a (f m)) : Le a (zVZ f) := ⟨fun r hr => zM0 n fun m hm => (h m hm).el r hr⟩
def ins {α : Type} (lt : α → α → Bool) (x : α) : List α → List α
 | [] => [x]
 | y :: r => if lt y x then y :: ins lt x r else x :: y :: r
def zQR {α : Type} (lt : α → α → Bool) : List α → List α
 | [] => []
 | x :: r => ins lt x (zQR lt r)
end
section
def Tw {α : Type} (m : Option α) : Type := { r : Option α // Le r m }
def td {α : Type} (m : Option α) : Tw m := ⟨m, Le.refl m⟩
def tb {α β : Type} {a : Option α} {f : α → Option β} (h : Tw a) (k : ∀ x, Tw (f x)) : Tw (a.bind f) := ⟨h.1.bind fun x => (k x).1, Le.bind h.2 fun x => (k x).2⟩
def ti {α : Type} {c : Prop} [Decidable c] {a b : Option α} (h : Tw a) (k : Tw b) : Tw (if c then a else b) := ⟨if c then h.1 else k.1, Le.ite h.2 k.2⟩
def ts {σ α : Type} {a : Option (σ ⊕ α)} {f : σ → Option α} (h : Tw a) (k : ∀ x, Tw (f x)) : Tw (yC a f) := ⟨Go.GD.yC h.1 fun x => (k x).1, Le.seqE h.2 fun x => (k x).2⟩
def tl {σ ρ : Type} {C : σ → Option (σ ⊕ ρ)} (n : Nat) (h : ∀ s, Tw (C s)) (s : σ) : Tw (zZ C s) := ⟨Go.GD.lp n (fun s => (h s).1) s, Le.lp (fun s => (h s).2) n s⟩
theorem Tw.el {α : Type} {m : Option α} (w : Tw m) {r : α} (h : w.1 = some r) : m = some r := w.2.el r h
end
section
abbrev yR (x y : Int) : Bool := decide (x < y)
abbrev zTv (x y : Int) : Int := if x < y then -1 else if y < x then 1 else 0
def orF : List Int → Int
 | [] => 0
 | x :: r => if x != 0 then x else orF r
abbrev zSI {α β : Type} [BEq α] (lt1 : α → α → Bool) (xT : β → β → Bool) (x y : α × β) : Bool := lt1 x.1 y.1 || (x.1 == y.1 && xT x.2 y.2)
theorem xI : tV yR := ⟨fun x => by simp, fun x y z h1 h2 => by simp at *; omega, fun x y => by simp; omega⟩
theorem zRi {α β : Type} [BEq α] [LawfulBEq α] {lt1 : α → α → Bool} {xT : β → β → Bool} (O1 : tV lt1) (O2 : tV xT) : tV (zSI lt1 xT) := by
 refine ⟨fun x => by simp [O1.irrefl, O2.irrefl], fun x y z h1 h2 => ?_, fun x y => ?_⟩
 ·simp only [zSI, Bool.or_eq_true, Bool.and_eq_true, beq_iff_eq] at *
  rcases h1 with h1 | ⟨h1, h1'⟩ <;> rcases h2 with h2 | ⟨h2, h2'⟩
  ·exact .inl (O1.trans _ _ _ h1 h2)
  ·exact .inl (h2 ▸ h1)
  ·exact .inl (h1 ▸ h2)
  ·exact .inr ⟨h1.trans h2, O2.trans _ _ _ h1' h2'⟩
 ·obtain ⟨a, b⟩ := x; obtain ⟨c, d⟩ := y
  simp only [zSI, Bool.or_eq_true, Bool.and_eq_true, beq_iff_eq, Prod.mk.injEq]
  rcases O1.tri a c with h | rfl | h
  ·exact .inl (.inl h)
  ·rcases O2.tri b d with h | rfl | h
   ·exact .inl (.inr ⟨rfl, h⟩)
   ·exact .inr (.inl ⟨rfl, rfl⟩)
   ·exact .inr (.inr (.inr ⟨rfl, h⟩))
  ·exact .inr (.inr (.inl h))
theorem OrdF.of {α : Type} {f : α → α → Option Int} {lt : α → α → Bool} (O : tV lt) (ht : ∀ x y, ∃ n, f x y = some n) (h : ∀ x y, yZ f x y = lt x y) : OrdF f := by
 refine ⟨ht, fun x => by rw [h, O.irrefl], fun x y z h1 h2 => ?_, fun x y z h1 h2 => ?_, fun x y h1 h2 => ?_⟩
 ·rw [h] at *; exact O.trans _ _ _ h1 h2
 ·rw [h] at *
  cases h3 : lt x z with
  | false => rfl
  | true =>
   rcases O.tri x y with h4 | rfl | h4
   ·rw [h4] at h1; cases h1
   ·rw [h3] at h2; cases h2
   ·have := O.trans _ _ _ h4 h3; rw [this] at h2; cases h2
 ·rw [h] at *
  rcases O.tri x y with h4 | h4 | h4
  ·rw [h4] at h1; cases h1
  ·exact h4
  ·rw [h4] at h2; cases h2
theorem zVQ {α : Type} {f : α → α → Option Int} {lt : α → α → Bool} (O : tV lt) (ht : ∀ x y, ∃ n, f x y = some n) (h : ∀ x y, yZ f x y = lt x y) {l : List α} (hl : l.length < 4294967296) :
  zSa f l = some (l.mergeSort fun x y => !lt y x) := by
 unfold zSa
 rw [if_pos ⟨OrdF.of O ht h, hl⟩]
 have : (fun x y => !yZ f y x) = fun x y => !lt y x := by funext x y; rw [h]
 rw [this]
noncomputable def orL (y0 : List Int) (s1 : Int) : Option (Int ⊕ Int) :=
 if decide (s1 < (len y0)) then
  (zF y0 s1).bind fun x1 =>
  if x1 != 0 then
   some (.inr x1)
  else
   some (.inl (zW (s1 + 1)))
 else
  some (.inr 0)
theorem zYg (l : List Int) (hb : l.length < 9223372036854775807) : zZ (orL l) 0 = some (orF l) := by
 have h := zM6 (B := orL l) (fun i (_ : Unit) => (i : Int)) l (fun _ _ x => if x != 0 then some (.inr x) else some (.inl ())) (fun _ => some 0) (fun i x s hx => ?_) (fun s => by simp [orL, len]) ()
 ·have key : ∀ (l : List Int) (i : Nat), zSS (fun _ (_ : Unit) (x : Int) => if x != 0 then some (Sum.inr x) else some (.inl ())) (fun _ => some 0) i l () = some (orF l) := by
   intro l
   induction l with
   | nil => intro i; rfl
   | cons x l ih =>
    intro i
    by_cases hx : x = 0
    ·subst hx; exact ih (i + 1)
    ·simp [zSS, orF, hx]
  rw [key] at h
  exact h
 ·have hi := (List.getElem?_eq_some_iff.1 hx).1
  unfold orL
  have hlt : decide ((i : Int) < len l) = true := by simp [len]; omega
  simp only [hlt, if_true, uC, hx, zob]
  by_cases h0 : x = 0
  ·subst h0; simp [yA i (by omega)]
  ·simp [h0]
section
variable {α : Type} {lt : α → α → Bool}
theorem zSY (x : α) : ∀ l : List α, (ins lt x l).Perm (x :: l)
 | [] => List.Perm.refl _
 | y :: r => by
  unfold ins
  split
  ·exact ((zSY x r).cons y).trans (List.Perm.swap x y r)
  ·exact List.Perm.refl _
theorem zKM : ∀ l : List α, (zQR lt l).Perm l
 | [] => List.Perm.refl _
 | x :: r => (zSY x _).trans ((zKM r).cons x)
theorem zRe (O : tV lt) (x : α) : ∀ l : List α, l.Pairwise (fun x y => lt y x = false) → (ins lt x l).Pairwise (fun x y => lt y x = false)
 | [], _ => by simp [ins]
 | y :: r, h => by
  obtain ⟨h1, h2⟩ := List.pairwise_cons.1 h
  unfold ins
  split
  ·rename_i hlt
   refine List.pairwise_cons.2 ⟨fun z hz => ?_, zRe O x r h2⟩
   rcases List.mem_cons.1 ((zSY x r).mem_iff.1 hz) with rfl | hz
   ·exact O.asymm hlt
   ·exact h1 z hz
  ·rename_i hlt
   have hyx : lt y x = false := by simpa using hlt
   refine List.pairwise_cons.2 ⟨fun z hz => ?_, h⟩
   rcases List.mem_cons.1 hz with rfl | hz
   ·exact hyx
   ·cases hzx : lt z x with
    | false => rfl
    | true =>
     have hzy := h1 z hz
     rcases O.tri x y with h3 | rfl | h3
     ·rw [O.trans _ _ _ hzx h3] at hzy; cases hzy
     ·rw [hzx] at hzy; cases hzy
     ·rw [h3] at hyx; cases hyx
theorem zJg (O : tV lt) : ∀ l : List α, (zQR lt l).Pairwise (fun x y => lt y x = false)
 | [] => List.Pairwise.nil
 | x :: r => zRe O x _ (zJg O r)
theorem zLB (O : tV lt) (l : List α) : (l.mergeSort fun x y => !lt y x) = zQR lt l := by
 refine List.Perm.eq_of_pairwise (le := fun x y => lt y x = false) (fun a b _ _ h1 h2 => ?_) (zMA O l) (zJg O l) ((List.mergeSort_perm _ _).trans (zKM l).symm)
 rcases O.tri a b with h | h | h
 ·rw [h] at h2; cases h2
 ·exact h
 ·rw [h] at h1; cases h1
end
theorem zQ4 {l : List Int} (h : l.length < 4294967296) : zYm l = some (zQR yR l) := by
 unfold zYm
 rw [if_pos h, ← zLB xI]
 have : (fun x y : Int => decide (x ≤ y)) = fun x y => !yR y x := by
  funext x y
  rw [Bool.eq_iff_iff]; simp
 rw [this]
end
section
section
variable {α : Type} {l : List α} {i : Nat} {x : α}
theorem vT (h : l[i]? = some x) : i < l.length := (List.getElem?_eq_some_iff.1 h).1
theorem vK (h : l[i]? = some x) : decide ((i : Int) < len l) = true := by have := vT h; simp [len]; omega
theorem yL (l : List α) : decide (((l.length : Nat) : Int) < len l) = false := by simp [len]
theorem vF (h : l[i]? = some x) : zF l (i : Int) = some x := by rw [uC]; exact h
theorem vG (h : l[i]? = some x) (hl : l.length < 4294967296) : zW ((i : Int) + 1) = ((i + 1 : Nat) : Int) := yA i (by have := vT h; omega)
theorem zMu {j : Int} (h : zF l j = some x) : ∃ n : Nat, j = (n : Int) ∧ l[n]? = some x := by
 unfold zF at h
 split at h
 ·rename_i h0; exact ⟨j.toNat, by omega, h⟩
 ·cases h
theorem tQ {j : Int} (h0 : 0 ≤ j) (h1 : j < l.length) : ∃ x, zF l j = some x := by obtain ⟨x, h, _⟩ := zOQ h0 h1; exact ⟨x, h⟩
theorem uX (h : l[i]? = some x) : l.take (i + 1) = l.take i ++ [x] := by rw [List.take_add_one, h]; rfl
theorem yT (h : l[i]? = some x) : x ∈ l := List.mem_of_getElem? h
end
section
variable {α σ ρ : Type}
theorem zEz {B : σ × Int → Option ((σ × Int) ⊕ ρ)} (l : List α) (f : σ → α → σ) (fin : σ → ρ) (I : Nat → σ → Prop) (s : σ) (h0 : I 0 s)
  (hB : ∀ (i : Nat) x s, l[i]? = some x → I i s → B (s, (i : Int)) = some (.inl (f s x, ((i + 1 : Nat) : Int))) ∧ I (i + 1) (f s x))
  (he : ∀ s, I l.length s → B (s, (l.length : Int)) = some (.inr (fin s))) : zZ B (s, 0) = some (fin (l.foldl f s)) ∧ I l.length (l.foldl f s) := by
 have key : ∀ (n i : Nat) (s : σ), i + n = l.length → I i s → zZ B (s, (i : Int)) = some (fin ((l.drop i).foldl f s)) ∧ I l.length ((l.drop i).foldl f s) := by
  intro n
  induction n with
  | zero =>
   intro i s h hI
   rw [Nat.add_zero] at h
   subst h
   rw [yM, he s hI, List.drop_length]
   exact ⟨rfl, hI⟩
  | succ n ih =>
   intro i s h hI
   have hx : l[i]? = some l[i] := List.getElem?_eq_getElem (by omega)
   obtain ⟨h1, h2⟩ := hB i _ s hx hI
   rw [yM, h1, List.drop_eq_getElem_cons (by omega)]
   exact ih (i + 1) _ (by omega) h2
 have := key l.length 0 s (by omega) h0
 simpa using this
theorem zR6 {B : σ × Int → Option ((σ × Int) ⊕ ρ)} (l : List α) (f : σ → α → σ) (fin : σ → ρ) (k : Nat) (hk : k ≤ l.length) (s : σ)
  (hB : ∀ (i : Nat) x s, l[i]? = some x → B (s, (i : Int)) = some (.inl (f s x, ((i + 1 : Nat) : Int))))
  (he : ∀ s, B (s, (l.length : Int)) = some (.inr (fin s))) : zZ B (s, (k : Int)) = some (fin ((l.drop k).foldl f s)) := by
 have key : ∀ (n i : Nat) (s : σ), i + n = l.length → zZ B (s, (i : Int)) = some (fin ((l.drop i).foldl f s)) := by
  intro n
  induction n with
  | zero =>
   intro i s h
   rw [Nat.add_zero] at h
   subst h
   rw [yM, he s, List.drop_length]
   rfl
  | succ n ih =>
   intro i s h
   have hx : l[i]? = some l[i] := List.getElem?_eq_getElem (by omega)
   rw [yM, hB i _ s hx, List.drop_eq_getElem_cons (by omega)]
   exact ih (i + 1) _ (by omega)
 exact key (l.length - k) k s (by omega)
theorem zO5 {B : Int × σ → Option ((Int × σ) ⊕ ρ)} (l : List α) (f : σ → α → σ) (fin : σ → ρ) (I : Nat → σ → Prop) (s : σ) (h0 : I 0 s)
  (hB : ∀ (i : Nat) x s, l[i]? = some x → I i s → B ((i : Int), s) = some (.inl (((i + 1 : Nat) : Int), f s x)) ∧ I (i + 1) (f s x))
  (he : ∀ s, I l.length s → B ((l.length : Int), s) = some (.inr (fin s))) : zZ B (0, s) = some (fin (l.foldl f s)) ∧ I l.length (l.foldl f s) := by
 have key : ∀ (n i : Nat) (s : σ), i + n = l.length → I i s → zZ B ((i : Int), s) = some (fin ((l.drop i).foldl f s)) ∧ I l.length ((l.drop i).foldl f s) := by
  intro n
  induction n with
  | zero =>
   intro i s h hI
   rw [Nat.add_zero] at h
   subst h
   rw [yM, he s hI, List.drop_length]
   exact ⟨rfl, hI⟩
  | succ n ih =>
   intro i s h hI
   have hx : l[i]? = some l[i] := List.getElem?_eq_getElem (by omega)
   obtain ⟨h1, h2⟩ := hB i _ s hx hI
   rw [yM, h1, List.drop_eq_getElem_cons (by omega)]
   exact ih (i + 1) _ (by omega) h2
 have := key l.length 0 s (by omega) h0
 simpa using this
theorem zNh {B : Int → Option (Int ⊕ ρ)} (l : List α) (p : α → Bool) (yes no : ρ)
  (hB : ∀ (i : Nat) x, l[i]? = some x → B (i : Int) = some (if p x then .inr yes else .inl ((i + 1 : Nat) : Int))) (he : B (l.length : Int) = some (.inr no)) :
  zZ B 0 = some (if l.any p then yes else no) := by
 have key : ∀ (n i : Nat), i + n = l.length → zZ B (i : Int) = some (if (l.drop i).any p then yes else no) := by
  intro n
  induction n with
  | zero =>
   intro i h
   rw [Nat.add_zero] at h
   subst h
   rw [yM, he, List.drop_length]
   rfl
  | succ n ih =>
   intro i h
   have hx : l[i]? = some l[i] := List.getElem?_eq_getElem (by omega)
   rw [yM, hB i _ hx, List.drop_eq_getElem_cons (by omega)]
   cases hp : p l[i] with
   | true => simp only [if_true, List.any_cons, hp, Bool.true_or]
   | false =>
    simp only [zbf, if_false, List.any_cons, hp, Bool.false_or]
    exact ih (i + 1) (by omega)
 have := key l.length 0 (by omega)
 simpa using this
theorem zSK {B : Int → Option (Int ⊕ Bool)} (l : List α) (p : α → Bool) (hB : ∀ (i : Nat) x, l[i]? = some x → B (i : Int) = some (if p x then .inr true else .inl ((i + 1 : Nat) : Int))) (he : B (l.length : Int) = some (.inr false)) :
  zZ B 0 = some (l.any p) := by
 rw [zNh l p true false hB he]
 cases l.any p <;> rfl
end
theorem zFB {α β : Type} (p : α → Bool) (g : α → β) : ∀ (l : List α) (acc : List β), l.foldl (fun s x => if p x then s ++ [g x] else s) acc = acc ++ (l.filter p).map g
 | [], acc => by simp
 | x :: l, acc => by
  simp only [List.foldl_cons, zFB p g l]
  cases hp : p x <;> simp [hp]
theorem zKz {α β : Type} (g : α → β) : ∀ (l : List α) (acc : List β), l.foldl (fun s x => s ++ [g x]) acc = acc ++ l.map g
 | [], acc => by simp
 | x :: l, acc => by simp only [List.foldl_cons, zKz g l]; simp
theorem zGO {α β : Type} (g : α → List β) : ∀ (l : List α) (acc : List β), l.foldl (fun s x => s ++ g x) acc = acc ++ l.flatMap g
 | [], acc => by simp
 | x :: l, acc => by simp only [List.foldl_cons, zGO g l]; simp
theorem zVu {l r : List Int} (h : r.Perm l) (hs : r.Pairwise (fun x y => yR y x = false)) : xZ r = tL yR l := by
 obtain ⟨h1, h2⟩ := zS2 xI hs
 exact (zTs xI h1 (fun x => by rw [h2]; exact h.mem_iff)).symm
end
section
def vA (n : Nat) : List Int := (List.range n).map Int.ofNat
theorem xF (n : Nat) : (vA n).length = n := by simp [vA]
theorem zJv {n i : Nat} {x : Int} (h : (vA n)[i]? = some x) : x = (i : Int) ∧ i < n := by
 have h1 := vT h
 rw [xF] at h1
 simp only [vA, List.getElem?_map, List.getElem?_range h1, Option.map_some, Option.some.injEq] at h
 exact ⟨h.symm, h1⟩
theorem xH {n : Nat} {x : Int} : x ∈ vA n ↔ 0 ≤ x ∧ x < n := by
 simp only [vA, List.mem_map, List.mem_range]
 exact ⟨fun ⟨a, h1, h2⟩ => by subst h2; simp; omega, fun h => ⟨x.toNat, by omega, by simp; omega⟩⟩
theorem zIV (n : Nat) : yB yR (vA n) := by
 rw [vA, yB, List.pairwise_map]
 exact List.pairwise_lt_range.imp fun {a b} h => by simp; omega
theorem zGN {α β ρ : Type} {B : List β × Int → Option ((List β × Int) ⊕ ρ)} (l : List α) (g : α → List β) (fin : List β → ρ) (c : Nat) (hg : ∀ x ∈ l, (g x).length ≤ c) (acc : List β)
  (hB : ∀ (i : Nat) x s, l[i]? = some x → s.length ≤ acc.length + c * i → B (s, (i : Int)) = some (.inl (s ++ g x, ((i + 1 : Nat) : Int))))
  (he : ∀ s, B (s, (l.length : Int)) = some (.inr (fin s))) : zZ B (acc, 0) = some (fin (acc ++ l.flatMap g)) := by
 have h := zEz (B := B) l (fun s x => s ++ g x) fin (fun i s => s.length ≤ acc.length + c * i) acc (by simp) (fun i x s hx hI => ⟨hB i x s hx hI, by
  have := hg x (yT hx)
  rw [List.length_append, Nat.mul_add]; omega⟩) (fun s _ => he s)
 rw [zGO] at h
 exact h.1
theorem zIv {α β : Type} (g : α → List β) (c : Nat) : ∀ (l : List α), (∀ x ∈ l, (g x).length ≤ c) → (l.flatMap g).length ≤ l.length * c
 | [], _ => by simp
 | x :: l, h => by
  have h1 := zIv g c l fun y hy => h y (List.mem_cons_of_mem _ hy)
  have h2 := h x List.mem_cons_self
  simp only [List.flatMap_cons, List.length_append, List.length_cons, Nat.add_mul, Nat.one_mul]
  omega
theorem zPs {α β : Type} (p : α → Bool) (g : α → List β) (l : List α) : (l.filter p).flatMap g = l.flatMap fun x => if p x then g x else [] := by
 induction l with
 | nil => rfl
 | cons x l ih =>
  rw [List.filter_cons, List.flatMap_cons]
  cases hp : p x with
  | true => simp [ih]
  | false => simp [ih]
section
variable {α : Type}
noncomputable def zOr (p : α → Option Bool) (y0 : List α) (s1 : Int) : Option (Int ⊕ Int) :=
 if decide (s1 < (len y0)) then
  (zF y0 s1).bind fun x1 =>
  (p x1).bind fun r1 =>
  if r1 then
   some (.inr s1)
  else
   some (.inl (zW (s1 + 1)))
 else
  some (.inr (-1))
theorem zTU (p : α → Option Bool) (q : α → Bool) (l : List α) (hb : l.length < 4294967296) (hp : ∀ x ∈ l, p x = some (q x)) :
  (l.any q = false ∧ zZ (zOr p l) 0 = some (-1)) ∨ ∃ (k : Nat) (x : α), zZ (zOr p l) 0 = some (k : Int) ∧ l[k]? = some x ∧ q x = true ∧ ∀ j y, j < k → l[j]? = some y → q y = false := by
 have h := yW (B := zOr p l) (fun i (_ : Unit) => (i : Int)) l (fun i _ => ∀ j y, j < i → l[j]? = some y → q y = false)
  (fun r => (l.any q = false ∧ r = -1) ∨ ∃ (k : Nat) (x : α), r = (k : Int) ∧ l[k]? = some x ∧ q x = true ∧ ∀ j y, j < k → l[j]? = some y → q y = false) ?_ ?_ () (by omega)
 ·obtain ⟨r, h1, ⟨h2, rfl⟩ | ⟨k, x, rfl, h2⟩⟩ := h
  ·exact .inl ⟨h2, h1⟩
  ·exact .inr ⟨k, x, h1, h2⟩
 ·intro i x s hx hI
  unfold zOr
  simp only [vK hx, if_true, vF hx, zob, hp x (yT hx)]
  cases hq : q x with
  | true => exact .inr ⟨_, by simp only [if_true], .inr ⟨i, x, rfl, hx, hq, hI⟩⟩
  | false =>
   refine .inl ⟨(), by simp only [zbf, if_false, vG hx hb], fun j y hj hy => ?_⟩
   rcases Nat.lt_succ_iff_lt_or_eq.1 hj with h | rfl
   ·exact hI j y h hy
   ·rw [hx] at hy; cases hy; exact hq
 ·intro s hI
  unfold zOr
  refine ⟨-1, by simp only [yL, zbf, if_false], .inl ⟨?_, rfl⟩⟩
  rw [List.any_eq_false]
  intro x hx
  obtain ⟨j, hj⟩ := List.mem_iff_getElem?.1 hx
  simp [hI j x (vT hj) hj]
noncomputable def zPe (p : α → Option Bool) (y0 : List α) (s2 : (List α) × Int × Int) : Option (((List α) × Int × Int) ⊕ ((List α) × Int)) :=
 if decide (s2.2.2 < (len y0)) then
  (zF s2.1 s2.2.2).bind fun x1 =>
  (p x1).bind fun r2 =>
  if !r2 then
   (zF s2.1 s2.2.1).bind fun _ =>
   some (.inl (List.set s2.1 (Int.toNat s2.2.1) x1, zW (s2.2.1 + 1), zW (s2.2.2 + 1)))
  else
   some (.inl (s2.1, s2.2.1, zW (s2.2.2 + 1)))
 else
  some (.inr (s2.1, s2.2.1))
noncomputable def zSU (p : α → Option Bool) (z : α) (y0 : List α) : Option (List α) :=
 (zZ (zOr p y0) 0).bind fun r1 =>
 if r1 == (-1) then
  some y0
 else
  (zZ (zPe p y0) (y0, r1, zW (r1 + 1)) : Option ((List α) × Int)).bind fun s1 =>
  (uI (decide (0 ≤ s1.2) && decide (s1.2 ≤ len s1.1))).bind fun _ =>
  (sub (zBv s1.1 s1.2 z) 0 s1.2).bind fun x3 =>
  some x3
theorem zRv (p : α → Option Bool) (q : α → Bool) (z : α) (l : List α) (hb : l.length < 4294967296) (hp : ∀ x ∈ l, p x = some (q x)) : zSU p z l = some (l.filter fun x => !q x) := by
 unfold zSU
 rcases zTU p q l hb hp with ⟨h1, h2⟩ | ⟨k, x, h1, h2, h3, h4⟩
 ·rw [h2]
  simp only [zob, beq_self_eq_true, if_true]
  congr 1
  symm
  rw [List.filter_eq_self]
  intro y hy
  have := List.any_eq_false.1 h1 y hy
  simpa using this
 ·rw [h1]
  have hne : ((k : Int) == -1) = false := beq_eq_false_iff_ne.2 (by omega)
  have hkl := vT h2
  simp only [zob, hne, zbf, if_false, yA k (by omega)]
  have key : ∀ n i j (c : List α), i + n = l.length → j < i → c.length = l.length → (∀ u, i ≤ u → c[u]? = l[u]?) → c.take j = (l.take i).filter (fun x => !q x) →
    ∃ c' j', zZ (zPe p l) (c, (j : Int), (i : Int)) = some (c', ((j' : Nat) : Int)) ∧ c'.length = l.length ∧ j' ≤ l.length ∧ c'.take j' = l.filter fun x => !q x := by
   intro n
   induction n with
   | zero =>
    intro i j c hn hj hc hs ht
    rw [Nat.add_zero] at hn
    subst hn
    rw [List.take_length] at ht
    refine ⟨c, j, ?_, hc, by omega, ht⟩
    rw [yM]
    unfold zPe
    simp only [yL, zbf, if_false]
   | succ n ih =>
    intro i j c hn hj hc hs ht
    have hx : l[i]? = some l[i] := List.getElem?_eq_getElem (by omega)
    have hcx : zF c (i : Int) = some l[i] := by rw [uC, hs i (Nat.le_refl _)]; exact hx
    rw [yM]
    unfold zPe
    simp only [vK hx, if_true, hcx, zob, hp _ (yT hx)]
    cases hq : q l[i] with
    | true =>
     simp only [Bool.not_true, zbf, if_false, vG hx hb]
     refine ih (i + 1) j c (by omega) (by omega) hc (fun u hu => hs u (by omega)) ?_
     rw [uX hx, List.filter_append, ht]
     simp [hq]
    | false =>
     have hcj : zF c (j : Int) = some c[j] := by rw [uC]; exact List.getElem?_eq_getElem (by omega)
     simp only [Bool.not_false, if_true, hcj, zob, vG hx hb, Int.toNat_natCast]
     rw [yA j (by omega)]
     refine ih (i + 1) (j + 1) (c.set j l[i]) (by omega) (by omega) (by simp [hc]) (fun u hu => ?_) ?_
     ·rw [List.getElem?_set_ne (by omega)]; exact hs u (by omega)
     ·rw [uX hx, List.filter_append, ← ht, List.take_add_one, List.getElem?_set_self (by omega), List.take_set_of_le (Nat.le_refl _)]
      simp [hq]
  obtain ⟨c, j, e1, e2, e3, e4⟩ := key (l.length - (k + 1)) (k + 1) k l (by omega) (by omega) rfl (fun u _ => rfl) (by
   rw [uX h2, List.filter_append]
   have : (l.take k).filter (fun x => !q x) = l.take k := by
    rw [List.filter_eq_self]
    intro y hy
    obtain ⟨u, hu⟩ := List.mem_iff_getElem?.1 hy
    rw [List.getElem?_take] at hu
    split at hu
    ·rename_i huk; simp [h4 u y huk hu]
    ·cases hu
   simp [this, h3])
  rw [e1]
  have hc1 : (decide (0 ≤ ((j : Nat) : Int)) && decide (((j : Nat) : Int) ≤ len c)) = true := by simp [len]; omega
  simp only [zob, hc1, uI, if_true]
  rw [zLl (by omega) (by rw [zGW, e2]; omega)]
  simp only [zob, Int.toNat_natCast, zBv, e4]
  have hdl : (l.filter fun x => !q x).length = j := by rw [← e4, List.length_take]; omega
  rw [← hdl, List.take_left]
end
end
section
theorem zMV (x y : Int) : zAe x y = some (zTv x y) := by
 unfold zAe zTv
 by_cases h1 : x < y
 ·simp [zF8, h1]
 ·by_cases h2 : y < x <;> simp [zF8, h1, h2]
theorem zWr (l : List Int) (hb : l.length < 9223372036854775807) : zFd l = some (orF l) := zYg l hb
abbrev xT : wQ → wQ → Bool := zSI yR yR
abbrev lt4 : qU → qU → Bool := zSI yR (zSI yR (zSI yR yR))
theorem zZq : tV xT := zRi xI xI
theorem z02 : tV lt4 := zRi xI (zRi xI (zRi xI xI))
theorem zXc (x y : wQ) : zCz x y = some (orF [zTv x.1 y.1, zTv x.2 y.2]) := by
 unfold zCz
 rw [zMV, zMV]
 simp only [zob]
 rw [zWr _ (by simp)]
 rfl
theorem zTi (x y : qU) : zCG x y = some (orF [zTv x.1 y.1, zTv x.2.1 y.2.1, zTv x.2.2.1 y.2.2.1, zTv x.2.2.2 y.2.2.2]) := by
 unfold zCG
 rw [zMV, zMV, zMV, zMV]
 simp only [zob]
 rw [zWr _ (by simp)]
 rfl
theorem zOv {x y : Int} {r : List Int} {b : Bool} (h : decide (orF r < 0) = b) : decide (orF (zTv x y :: r) < 0) = (yR x y || (x == y && b)) := by
 unfold orF zTv
 by_cases h1 : x < y
 ·simp [h1]
 ·by_cases h2 : y < x
  ·have h3 : (x == y) = false := by simp; omega
   simp [h1, h2, h3]
  ·have h3 : x = y := by omega
   subst h3
   simp [h]
theorem zWH (x y : wQ) : yZ zCz x y = xT x y := by
 simp only [yZ, zXc, Option.getD_some]
 exact zOv (by rw [zOv (r := []) (b := false) (by simp [orF])]; simp)
theorem zTQ (x y : qU) : yZ zCG x y = lt4 x y := by
 simp only [yZ, zTi, Option.getD_some]
 exact zOv (zOv (zOv (by rw [zOv (r := []) (b := false) (by simp [orF])]; simp)))
theorem zRd {l : List wQ} (hl : l.length < 4294967296) : zAR l = some (l.mergeSort fun x y => !xT y x) :=
 zVQ zZq (fun x y => ⟨_, zXc x y⟩) zWH hl
theorem zSO {l : List wQ} (hl : l.length < 9223372036854775807) : zBw l = some (xZ l) := zKs (0, 0) l hl
theorem zOx {l : List qU} (hl : l.length < 4294967296) : zAI l = some (l.mergeSort fun x y => !lt4 y x) :=
 zVQ z02 (fun x y => ⟨_, zTi x y⟩) zTQ hl
def xV (n : Int) (a : qU) : Bool := decide (a.1 < 0) || decide (n ≤ a.1) || decide (a.2.1 < 0) || decide (n ≤ a.2.1)
def zF6 (l : List qU) : List wQ := l.map fun a => (a.1, a.2.1)
def zOV (n : Int) (l : List qU) : wY × Int :=
 if decide (n < 0) || decide (40 < n) then ((0, []), 1) else if l.any (xV n) then ((0, []), 1) else ((n, tL xT (zF6 l)), 0)
theorem zWU (n : Int) (x : qU) : (decide ((if x.2.1 < x.1 then x.2.1 else x.1) < 0) || decide (n ≤ (if x.2.1 > x.1 then x.2.1 else x.1))) = xV n x := by
 rw [Bool.eq_iff_iff]
 simp only [xV, Bool.or_eq_true, decide_eq_true_eq]
 split <;> split <;> omega
theorem zIf {α : Type} {l : List α} {i : Nat} {x : α} (p : α → Bool) (hx : l[i]? = some x) : (l.take (i + 1)).any p = ((l.take i).any p || p x) := by
 rw [List.take_add_one, hx]; simp
theorem zU7 (n : Int) (l : List qU) (hl : l.length < 4294967000) :
  zZ (zDl l n) (0, []) = some (if l.any (xV n) then .inr ((0, []), 1) else .inl (zF6 l)) := by
 have h := yW (B := zDl l n) (fun i (s : List wQ) => ((i : Int), s)) l (fun i s => s = zF6 (l.take i) ∧ (l.take i).any (xV n) = false)
  (fun r => r = if l.any (xV n) then .inr ((0, []), 1) else .inl (zF6 l)) ?_ ?_ [] (by simp [zF6])
 ·obtain ⟨r, h1, rfl⟩ := h; exact h1
 ·rintro i x s hx ⟨rfl, hI⟩
  have hi := (List.getElem?_eq_some_iff.1 hx).1
  unfold zDl
  have hlt : decide ((i : Int) < len l) = true := by simp [len]; omega
  simp only [hlt, if_true, uC, hx, zob, zWU]
  cases hb : xV n x with
  | true =>
   refine .inr ⟨_, by simp; rfl, ?_⟩
   have : l.any (xV n) = true := List.any_eq_true.2 ⟨x, List.mem_of_getElem? hx, hb⟩
   simp [this]
  | false =>
   refine .inl ⟨zF6 (l.take (i + 1)), ?_, rfl, by rw [zIf _ hx, hI, hb]; rfl⟩
   have hp : zF6 (l.take (i + 1)) = zF6 (l.take i) ++ [(x.1, x.2.1)] := by unfold zF6; rw [List.take_add_one, hx]; simp
   rw [yJ (by simp [zF6]; omega)]
   simp [hp, yA i (by omega)]
 ·rintro s ⟨rfl, hI⟩
  unfold zDl
  rw [List.take_length] at hI
  simp [hI, len]
theorem zPA (n : Int) (l : List qU) (hl : l.length < 4294967000) : zDY n l = some (zOV n l) := by
 unfold zDY zOV
 cases h0 : (decide (n < 0) || decide (40 < n)) with
 | true => simp
 | false =>
  simp only [zbf, if_false]
  rw [zU7 n l hl]
  cases hb : l.any (xV n) with
  | true => simp [yC]
  | false =>
   have hlen : (zF6 l).length < 4294967296 := by simp [zF6]; omega
   simp only [zbf, if_false, yC, zob]
   rw [zRd hlen]
   simp only [zob]
   rw [zSO (by simp [zF6]; omega)]
   rfl
abbrev z05 (l : List qU) (i j : Int) : Bool := l.any fun a => a.1 == i && a.2.1 == j
abbrev zW5 (l : List qU) (N : Nat) (i : Nat) : List wQ := ((List.range N).filter fun (j : Nat) => z05 l (i : Int) (j : Int)).map fun (j : Nat) => ((i : Int), (j : Int))
abbrev z0I (l : List qU) (N : Nat) (k : Nat) : List wQ := (List.range k).flatMap (zW5 l N)
theorem zYF {n : Int} {l : List qU} (h0 : 0 ≤ n) (hb : l.any (xV n) = false) : tL xT (zF6 l) = z0I l n.toNat n.toNat := by
 apply zTs zZq
 ·refine List.pairwise_flatMap.2 ⟨fun i _ => ?_, ?_⟩
  ·rw [List.pairwise_map]
   refine (List.pairwise_lt_range.filter _).imp fun {a b} h => ?_
   simp; omega
  ·refine List.pairwise_lt_range.imp fun {a b} h x hx y hy => ?_
   obtain ⟨j, _, rfl⟩ := List.mem_map.1 hx
   obtain ⟨k, _, rfl⟩ := List.mem_map.1 hy
   simp; omega
 ·rintro ⟨i, j⟩
  constructor
  ·intro h
   obtain ⟨a, _, hx⟩ := List.mem_flatMap.1 h
   obtain ⟨b, hb2, he⟩ := List.mem_map.1 hx
   obtain ⟨hb3, hb4⟩ := List.mem_filter.1 hb2
   obtain ⟨z, hz, hz2⟩ := List.any_eq_true.1 hb4
   simp only [Bool.and_eq_true, beq_iff_eq] at hz2
   refine List.mem_map.2 ⟨z, hz, ?_⟩
   rw [hz2.1, hz2.2]; exact he
  ·intro h
   obtain ⟨z, hz, he⟩ := List.mem_map.1 h
   have hzb : xV n z = false := by
    cases hq : xV n z with
    | false => rfl
    | true => rw [List.any_eq_true.2 ⟨z, hz, hq⟩] at hb; cases hb
   simp only [xV, Bool.or_eq_false_iff, decide_eq_false_iff_not] at hzb
   obtain ⟨⟨⟨h1, h2⟩, h3⟩, h4⟩ := hzb
   refine List.mem_flatMap.2 ⟨z.1.toNat, List.mem_range.2 (by omega), List.mem_map.2 ⟨z.2.1.toNat, List.mem_filter.2 ⟨List.mem_range.2 (by omega), ?_⟩, ?_⟩⟩
   ·refine List.any_eq_true.2 ⟨z, hz, ?_⟩
    simp; omega
   ·rw [← he]; simp; omega
theorem zUG (n : Int) (l : List qU) (hl : l.length < 4294967000) :
  zZ (zEo l n) 0 = some (if l.any (xV n) then .inr ((0, []), 1) else .inl ()) := by
 have h := yW (B := zEo l n) (fun i (_ : Unit) => (i : Int)) l (fun i _ => (l.take i).any (xV n) = false)
  (fun r => r = if l.any (xV n) then .inr ((0, []), 1) else .inl ()) ?_ ?_ () (by simp)
 ·obtain ⟨r, h1, rfl⟩ := h; exact h1
 ·intro i x s hx hI
  have hi := (List.getElem?_eq_some_iff.1 hx).1
  unfold zEo
  have hlt : decide ((i : Int) < len l) = true := by simp [len]; omega
  simp only [hlt, if_true, uC, hx, zob]
  have hc : (if decide (x.1 < 0) = true then some true else if decide (n ≤ x.1) = true then some true else if decide (x.2.1 < 0) = true then some true else some (decide (n ≤ x.2.1)) : Option Bool) = some (xV n x) := by
   unfold xV
   cases decide (x.1 < 0) <;> cases decide (n ≤ x.1) <;> cases decide (x.2.1 < 0) <;> simp
  rw [hc]
  simp only [zob]
  cases hb : xV n x with
  | true =>
   refine .inr ⟨_, rfl, ?_⟩
   have : l.any (xV n) = true := List.any_eq_true.2 ⟨x, List.mem_of_getElem? hx, hb⟩
   simp [this]
  | false => exact .inl ⟨(), by simp [yA i (by omega)], by rw [zIf _ hx, hI, hb]; rfl⟩
 ·intro s hI
  unfold zEo
  rw [List.take_length] at hI
  simp [hI, len]
theorem zUY (l : List qU) (s5 s6 : Int × List wQ) (hl : l.length < 4294967000) : zZ (zFD l s5 s6) (false, 0) = some (z05 l s5.1 s6.1) := by
 have h := yW (B := zFD l s5 s6) (fun i (b : Bool) => (b, (i : Int))) l (fun i b => b = (l.take i).any fun a => a.1 == s5.1 && a.2.1 == s6.1) (fun r => r = z05 l s5.1 s6.1) ?_ ?_ false (by simp)
 ·obtain ⟨r, h1, rfl⟩ := h; exact h1
 ·rintro i x s hx rfl
  have hi := (List.getElem?_eq_some_iff.1 hx).1
  unfold zFD
  have hlt : decide ((i : Int) < len l) = true := by simp [len]; omega
  simp only [hlt, if_true, uC, hx, zob]
  refine .inl ⟨_, ?_, rfl⟩
  rw [zIf _ hx, yA i (by omega)]
  cases (l.take i).any fun a => a.1 == s5.1 && a.2.1 == s6.1 <;> cases x.1 == s5.1 <;> simp
 ·rintro s rfl
  unfold zFD
  simp [len]
theorem zUB (n : Int) (l : List qU) (k : Nat) (acc : List wQ) (h0 : 0 ≤ n) (h1 : n ≤ 40) (hl : l.length < 4294967000) (hk : k < 40) (ha : acc.length ≤ 1600) :
  zZ (zEw n l ((k : Int), acc)) (0, acc) = some (.inl (((k + 1 : Nat) : Int), acc ++ zW5 l n.toNat k)) := by
 have h := yW (B := zEw n l ((k : Int), acc)) (fun i (s : List wQ) => ((i : Int), s)) (List.range n.toNat) (fun i s => s = acc ++ zW5 l i k) (fun r => r = .inl (((k + 1 : Nat) : Int), acc ++ zW5 l n.toNat k)) ?_ ?_ acc (by simp)
 ·obtain ⟨r, h1, rfl⟩ := h; exact h1
 ·rintro i x s hx rfl
  have hi := (List.getElem?_eq_some_iff.1 hx).1
  rw [List.length_range] at hi
  unfold zEw
  have hlt : decide ((i : Int) < n) = true := by simp; omega
  simp only [hlt, if_true, zUY l _ _ hl, zob]
  have hrow : zW5 l (i + 1) k = zW5 l i k ++ if z05 l k i then [((k : Int), (i : Int))] else [] := by
   unfold zW5
   rw [List.range_succ, List.filter_append, List.map_append]
   congr 1
   by_cases hh : z05 l k i = true <;> simp [hh]
  have hlen : (zW5 l i k).length ≤ i := by
   unfold zW5
   rw [List.length_map]
   exact Nat.le_trans (List.length_filter_le _ _) (by simp)
  refine .inl ⟨_, ?_, rfl⟩
  rw [hrow, yA i (by omega)]
  cases z05 l k i with
  | true => rw [yJ (by rw [List.length_append, List.length_singleton]; omega)]; simp
  | false => simp
 ·rintro s rfl
  unfold zEw
  have hlt : decide (((List.range n.toNat).length : Int) < n) = false := by simp; omega
  rw [List.length_range] at *
  simp only [hlt, zbf, if_false]
  exact ⟨_, rfl, by rw [yA k (by omega)]⟩
theorem zU9 (n : Int) (l : List qU) (h0 : 0 ≤ n) (h1 : n ≤ 40) (hl : l.length < 4294967000) : zZ (zFC n l) (0, []) = some (z0I l n.toNat n.toNat) := by
 have h := yW (B := zFC n l) (fun i (s : List wQ) => ((i : Int), s)) (List.range n.toNat) (fun i s => s = z0I l n.toNat i ∧ s.length ≤ 40 * i) (fun r => r = z0I l n.toNat n.toNat) ?_ ?_ [] (by simp)
 ·obtain ⟨r, h1, rfl⟩ := h; exact h1
 ·rintro i x s hx ⟨rfl, hs⟩
  have hi := (List.getElem?_eq_some_iff.1 hx).1
  rw [List.length_range] at hi
  unfold zFC
  have hlt : decide ((i : Int) < n) = true := by simp; omega
  simp only [hlt, if_true]
  have hlen : (zW5 l n.toNat i).length ≤ 40 := by
   unfold zW5
   rw [List.length_map]
   exact Nat.le_trans (List.length_filter_le _ _) (by simp; omega)
  have hm : z0I l n.toNat (i + 1) = z0I l n.toNat i ++ zW5 l n.toNat i := by
   unfold z0I
   rw [List.range_succ, List.flatMap_append]; simp
  refine .inl ⟨_, zUB n l i _ h0 h1 hl (by omega) (by omega), hm.symm, ?_⟩
  rw [List.length_append]; omega
 ·rintro s ⟨rfl, hs⟩
  unfold zFC
  rw [List.length_range]
  have hlt : decide (((n.toNat : Nat) : Int) < n) = false := by simp; omega
  simp only [hlt, zbf, if_false]
  exact ⟨_, rfl, rfl⟩
theorem zS5 (n : Int) (l : List qU) (hl : l.length < 4294967000) : zGx n l = some (zOV n l) := by
 unfold zGx zOV
 cases h0 : (decide (n < 0) || decide (40 < n)) with
 | true => simp
 | false =>
  simp only [Bool.or_eq_false_iff, decide_eq_false_iff_not] at h0
  simp only [zbf, if_false]
  rw [zUG n l hl]
  cases hb : l.any (xV n) with
  | true => simp [yC]
  | false =>
   simp only [zbf, if_false, yC, zob]
   rw [zU9 n l (by omega) (by omega) hl, zYF (by omega) hb]
   rfl
end
section
theorem zGp : ∀ a : qC, yY a a = false
 | [] => rfl
 | a :: x => by simp [yY, zGp x, UInt8.lt_irrefl]
theorem zQ7 : ∀ {a b c : qC}, yY a b = true → yY b c = true → yY a c = true
 | _, _, [], _, h => by simp [yY] at h
 | _, [], _ :: _, h, _ => by simp [yY] at h
 | [], _ :: _, _ :: _, _, _ => rfl
 | a :: x, b :: y, c :: z, h1, h2 => by
  simp only [yY, Bool.or_eq_true, decide_eq_true_eq, Bool.and_eq_true, beq_iff_eq] at *
  rcases h1 with h1 | ⟨rfl, h1⟩ <;> rcases h2 with h2 | ⟨rfl, h2⟩
  ·exact .inl (UInt8.lt_trans h1 h2)
  ·exact .inl h1
  ·exact .inl h2
  ·exact .inr ⟨rfl, zQ7 h1 h2⟩
theorem zSe : ∀ a b : qC, yY a b = true ∨ a = b ∨ yY b a = true
 | [], [] => .inr (.inl rfl)
 | [], _ :: _ => .inl rfl
 | _ :: _, [] => .inr (.inr rfl)
 | a :: x, b :: y => by
  simp only [yY, Bool.or_eq_true, decide_eq_true_eq, Bool.and_eq_true, beq_iff_eq, List.cons.injEq]
  rcases UInt8.lt_or_lt_of_ne (a := a) (b := b) |> fun f => (Classical.em (a = b)).imp id f with rfl | h | h
  ·rcases zSe x y with h | rfl | h
   ·exact .inl (.inr ⟨rfl, h⟩)
   ·exact .inr (.inl ⟨rfl, rfl⟩)
   ·exact .inr (.inr (.inr ⟨rfl, h⟩))
  ·exact .inl (.inl h)
  ·exact .inr (.inr (.inl h))
theorem zVn (a b : qC) : zDg a b = some (if yY a b then -1 else if a = b then 0 else 1) := by
 have hn : ∀ x : qC, zDS x = some false := fun x => by simp [zDS]
 simp only [zDg, hn, zob, zbf, if_false]
 by_cases h1 : yY a b = true
 ·simp [h1]
 ·by_cases h2 : a = b
  ·simp [h2, zGp]
  ·simp [h1, h2]
def loB (b : UInt8) : Bool := decide (97 ≤ (b.toNat : Int)) && decide ((b.toNat : Int) ≤ 122)
def okB (b : UInt8) : Bool := loB b || (if decide (48 ≤ (b.toNat : Int)) then decide ((b.toNat : Int) ≤ 57) || (b.toNat : Int) == 95 else (b.toNat : Int) == 95)
def vName : qC → Bool
 | [] => false
 | c :: r => decide (r.length + 1 ≤ 12) && loB c && r.all okB
theorem zQZ (s : qC) : zAl s = some (vName s) := by
 unfold zAl
 cases s with
 | nil => rfl
 | cons c r =>
  have h0 : ((len (c :: r)) == 0) = false := by rw [beq_eq_false_iff_ne]; simp [len]; omega
  by_cases hl : r.length + 1 ≤ 12
  ·have h1 : decide (12 < len (c :: r)) = false := by simp [len]; omega
   rw [h0, h1]
   simp only [Bool.or_self, zbf, if_false]
   have h := zM6 (B := zCn (c :: r)) (fun i (_ : Unit) => (i : Int)) (c :: r)
    (fun i _ b => some (if loB b then .inl () else if decide (0 < (i : Int)) && okB b then .inl () else .inr false)) (fun _ => some true) ?_ ?_ ()
   ·rw [show ((0 : Nat) : Int) = 0 from rfl] at h
    rw [h]
    have key : ∀ (l : List UInt8) (i : Nat), 0 < i → zSS (fun (i : Nat) (_ : Unit) (b : UInt8) => some (if loB b then .inl () else if decide (0 < (i : Int)) && okB b then .inl () else .inr false)) (fun _ => some true) i l () = some (l.all okB) := by
     intro l
     induction l with
     | nil => intro i _; rfl
     | cons b l ih =>
      intro i hi
      have hd : decide (0 < (i : Int)) = true := by simp; omega
      by_cases hb : okB b = true
      ·by_cases hlo : loB b = true
       ·simp only [zSS, hlo, if_true]; rw [ih (i + 1) (by omega)]; simp [hb]
       ·simp only [zSS, hlo, if_false, hd, hb, Bool.and_self, if_true, zbf]; rw [ih (i + 1) (by omega)]; simp [hb]
      ·have hlo : ¬ loB b = true := fun h => hb (by simp [okB, h])
       simp [zSS, hlo, hb]
    by_cases hlo : loB c = true
    ·simp only [zSS, hlo, if_true]
     rw [key r 1 (by omega)]
     simp [vName, hlo, hl]
    ·simp [zSS, hlo, vName]
   ·intro i x s hx
    have hi := (List.getElem?_eq_some_iff.1 hx).1
    have hlt : decide ((i : Int) < len (c :: r)) = true := by simp [len] at hi ⊢; omega
    unfold zCn
    rw [zVM, hx, yA i (by simp at hi; omega)]
    simp only [hlt, if_true, Option.map_some, zob]
    by_cases hlo : loB x = true
    ·have hlo' := hlo
     unfold loB at hlo'
     simp only [hlo', if_true, hlo]
    ·have hlo' := hlo
     unfold loB at hlo'
     simp only [hlo', if_false, hlo, zbf]
     by_cases hc : (decide (0 < (i : Int)) && okB x) = true
     ·have hc' := hc
      unfold okB at hc'
      simp only [hlo, Bool.false_or] at hc'
      simp only [hc', if_true, hc]
     ·have hc' := hc
      unfold okB at hc'
      simp only [hlo, Bool.false_or] at hc'
      simp only [hc', if_false, hc, zbf]
   ·intro s
    unfold zCn
    simp [len]
  ·have h1 : decide (12 < len (c :: r)) = true := by simp [len]; omega
   rw [h1]
   simp [vName, hl]
theorem zKg (s : qC) : zBl s = some (vName s) := by
 unfold zBl
 cases s with
 | nil => rfl
 | cons c r =>
  have h0 : decide ((len (c :: r)) < 1) = false := by simp [len]; omega
  have hs0 : tM (c :: r) 0 = some (c.toNat : Int) := rfl
  rw [h0]
  by_cases hl : r.length + 1 ≤ 12
  ·have h1 : decide (12 < len (c :: r)) = false := by simp [len]; omega
   rw [h1]
   simp only [zbf, if_false, hs0, zob]
   by_cases hlo : loB c = true
   ·have ha : decide ((c.toNat : Int) < 97) = false := by simp [loB] at hlo ⊢; omega
    have hb : decide (122 < (c.toNat : Int)) = false := by simp [loB] at hlo ⊢; omega
    simp only [ha, hb, zbf, if_false, zob]
    have h := zM6 (B := zDb (c :: r)) (fun i (_ : Unit) => (i : Int)) (c :: r)
     (fun _ _ b => some (if okB b then .inl () else .inr false)) (fun _ => some true) ?_ ?_ ()
    ·rw [show ((0 : Nat) : Int) = 0 from rfl] at h
     rw [h]
     have key : ∀ (l : List UInt8) (i : Nat), zSS (fun (_ : Nat) (_ : Unit) (b : UInt8) => some (if okB b then .inl () else .inr false)) (fun _ => some true) i l () = some (l.all okB) := by
      intro l
      induction l with
      | nil => intro i; rfl
      | cons b l ih =>
       intro i
       by_cases hb : okB b = true
       ·simp only [zSS, hb, if_true]; rw [ih (i + 1)]; simp [hb]
       ·simp [zSS, hb]
     rw [key]
     simp [vName, hlo, hl, okB]
    ·intro i x s hx
     have hi := (List.getElem?_eq_some_iff.1 hx).1
     have hlt : decide ((i : Int) < len (c :: r)) = true := by simp [len] at hi ⊢; omega
     unfold zDb
     rw [zVM, hx, yA i (by simp at hi; omega)]
     simp only [hlt, if_true, Option.map_some, zob]
     have hok : okB x = !(if decide ((x.toNat : Int) < 97) then (if decide ((x.toNat : Int) < 48) then ((x.toNat : Int) != 95) else if decide (57 < (x.toNat : Int)) then ((x.toNat : Int) != 95) else false)
       else if decide (122 < (x.toNat : Int)) then (if decide ((x.toNat : Int) < 48) then ((x.toNat : Int) != 95) else if decide (57 < (x.toNat : Int)) then ((x.toNat : Int) != 95) else false) else false) := by
      unfold okB loB
      generalize (x.toNat : Int) = n
      rw [Bool.eq_iff_iff]
      simp
      constructor
      ·intro h
       by_cases h1 : n < 97 <;> by_cases h2 : n < 48 <;> by_cases h3 : 57 < n <;> by_cases h4 : 122 < n <;> simp [h1, h2, h3, h4] <;> (split at h <;> (try simp at h) <;> omega)
      ·intro h
       by_cases h1 : n < 97 <;> by_cases h2 : n < 48 <;> by_cases h3 : 57 < n <;> by_cases h4 : 122 < n <;> simp [h1, h2, h3, h4] at h <;> (split <;> (try simp) <;> omega)
     rw [hok]
     cases decide ((x.toNat : Int) < 97) <;> cases decide ((x.toNat : Int) < 48) <;> cases decide (57 < (x.toNat : Int)) <;> cases decide (122 < (x.toNat : Int)) <;> cases ((x.toNat : Int) != 95) <;> rfl
    ·intro s
     unfold zDb
     simp [len]
   ·have hor : (decide ((c.toNat : Int) < 97) || decide (122 < (c.toNat : Int))) = true := by simp [loB] at hlo ⊢; omega
    have hv : vName (c :: r) = false := by simp [vName, hlo]
    rw [hv]
    cases h1 : decide ((c.toNat : Int) < 97) with
    | true => rfl
    | false => rw [h1] at hor; simp only [Bool.false_or] at hor; simp only [zbf, if_false, hor, zob, if_true]
  ·have h1 : decide (12 < len (c :: r)) = true := by simp [len]; omega
   rw [h1]
   simp [vName, hl]
theorem zO1 (x : zN) : zAy x = some (vName x.2) := by simp [zAy, zQZ]
theorem zNp (x : zN) : zDF x = some (vName x.2) := by simp [zDF, zKg]
def vZ (a b : zN) : Bool := yY a.2 b.2 || (a.2 == b.2 && (!a.1 && b.1))
def zLH (a b : zN) : Int := if vZ a b then -1 else if a = b then 0 else 1
theorem zOy (a : zN) : vZ a a = false := by simp [vZ, zGp]
theorem zIr {a b c : zN} (h1 : vZ a b = true) (h2 : vZ b c = true) : vZ a c = true := by
 obtain ⟨g, a⟩ := a; obtain ⟨g', b⟩ := b; obtain ⟨g'', c⟩ := c
 simp only [vZ, Bool.or_eq_true, Bool.and_eq_true, beq_iff_eq, Bool.not_eq_true'] at *
 rcases h1 with h1 | ⟨rfl, h1, h1'⟩ <;> rcases h2 with h2 | ⟨rfl, h2, h2'⟩
 ·exact .inl (zQ7 h1 h2)
 ·exact .inl h1
 ·exact .inl h2
 ·rw [h1'] at h2; cases h2
theorem zMB (a b : zN) : vZ a b = true ∨ a = b ∨ vZ b a = true := by
 obtain ⟨g, a⟩ := a; obtain ⟨g', b⟩ := b
 simp only [vZ, Bool.or_eq_true, Bool.and_eq_true, beq_iff_eq, Bool.not_eq_true', Prod.mk.injEq]
 rcases zSe a b with h | rfl | h
 ·exact .inl (.inl h)
 ·cases g <;> cases g' <;> simp
 ·exact .inr (.inr (.inl h))
theorem zKw (a b : zN) : zBH a b = some (zLH a b) := by
 obtain ⟨g, a⟩ := a; obtain ⟨g', b⟩ := b
 unfold zBH zLH vZ
 rw [zVn]
 by_cases h1 : yY a b = true
 ·simp [h1]
 ·by_cases h2 : a = b
  ·subst h2
   cases g <;> cases g' <;> simp [zGp]
  ·simp [h1, h2]
theorem zQm (a b : zN) : zFe a b = some (zLH a b) := by
 obtain ⟨g, a⟩ := a; obtain ⟨g', b⟩ := b
 unfold zFe zLH vZ
 by_cases h1 : yY a b = true
 ·have h2 : a ≠ b := fun e => by subst e; rw [zGp] at h1; cases h1
  simp [h1, h2]
 ·by_cases h2 : a = b
  ·subst h2
   cases g <;> cases g' <;> simp [zGp]
  ·simp [h1, h2]
theorem zYb : OrdF zBH := by
 have hlt : ∀ x y, yZ zBH x y = vZ x y := fun x y => by
  simp only [yZ, zKw, zLH, Option.getD_some]
  cases h : vZ x y with
  | true => simp
  | false => by_cases he : x = y <;> simp [he]
 refine ⟨fun x y => ⟨_, zKw x y⟩, fun x => by rw [hlt, zOy], fun x y z h1 h2 => ?_, fun x y z h1 h2 => ?_, fun x y h1 h2 => ?_⟩
 ·rw [hlt] at *; exact zIr h1 h2
 ·rw [hlt] at *
  cases h3 : vZ x z with
  | false => rfl
  | true =>
   rcases zMB x y with h | rfl | h
   ·rw [h] at h1; cases h1
   ·rw [h3] at h2; cases h2
   ·have := zIr h h3; rw [this] at h2; cases h2
 ·rw [hlt] at *
  rcases zMB x y with h | h | h
  ·rw [h] at h1; cases h1
  ·exact h
  ·rw [h] at h2; cases h2
theorem z0Q (x y : zN) : yZ zBH x y = vZ x y := by
 simp only [yZ, zKw, zLH, Option.getD_some]
 cases h : vZ x y with
 | true => simp
 | false => by_cases he : x = y <;> simp [he]
end
section
theorem zXb : tV vZ := ⟨zOy, fun _ _ _ => zIr, zMB⟩
theorem zTV {l : List zN} (h : l.length < 4294967296) : zBj l = some l := by
 simp [zBj, yJ (l := ([] : List zN)) (m := l) (by simpa using h)]
theorem zVO {l : List zN} (h : l.length < 4294967296) : zAB l = some (l.mergeSort fun x y => !vZ y x) := by
 simp only [zAB, zSa]
 rw [if_pos ⟨zYb, h⟩]
 simp only [z0Q]
theorem zU5 {l : List zN} (h : l.length < 4294967296) : zAw l = some (xZ l) :=
 (show zAw l = zRt (false, []) l from rfl).trans (zKs _ l (by omega))
theorem zVp {l : List zN} (h : l.length < 4294967296) : zCY l = some (tL vZ l) := by
 simp only [zCY, zTV h, zVO h, zob]
 rw [zU5 (by simpa using h)]
 rfl
theorem zXx {l : List zN} (x : zN) (h : l.length < 9223372036854775807) : zDG l x = some (decide (x ∈ l)) := by
 obtain ⟨r, hr, hi⟩ := zQX l x h
 have e : zBQ l x = some r := (show zBQ l x = zZ3 l x from rfl).trans hr
 simp only [zDG, zBV, e, zob]
 congr 1
 rw [decide_eq_decide, hi]
 simp
def zTk (x : zN) : zN := (!x.1, x.2)
theorem zQs (x : zN) : zGK x = some (zTk x) := rfl
end
section
theorem zWS {l : List zN} (x : zN) (h : l.length < 1073741824) (ha : yB vZ l) : ∃ r, zHp l x = some r ∧ yB vZ r ∧ (∀ y, y ∈ r ↔ y = x ∨ y ∈ l) ∧ r.length ≤ l.length + 1 := by
 have hloop : ∃ k, zZ (zEI l x) 0 = some k ∧ ∃ n : Nat, k = n ∧ n ≤ l.length ∧ (∀ j y, j < n → l[j]? = some y → vZ y x = true) ∧ ∀ y, l[n]? = some y → vZ y x = false := by
  refine yW (B := zEI l x) (fun i (_ : Unit) => (i : Int)) l (fun i _ => ∀ j y, j < i → l[j]? = some y → vZ y x = true) _ ?_ ?_ () (by simp)
  ·intro i y s hy hI
   have hi := (List.getElem?_eq_some_iff.1 hy).1
   have hlt : decide ((i : Int) < len l) = true := by simp [len]; omega
   unfold zEI
   simp only [hlt, if_true, uC, hy, zob, zQm]
   cases hc : vZ y x with
   | true =>
    refine .inl ⟨(), by simp [zLH, hc, yA i (by omega)], fun j z hj hz => ?_⟩
    rcases Nat.lt_succ_iff_lt_or_eq.1 hj with h | rfl
    ·exact hI j z h hz
    ·rw [hy] at hz; cases hz; exact hc
   | false =>
    refine .inr ⟨(i : Int), ?_, i, rfl, by omega, hI, fun z hz => by rw [hy] at hz; cases hz; exact hc⟩
    have : decide (zLH y x < 0) = false := by simp [zLH, hc]; split <;> omega
    simp only [this, zbf, if_false]
  ·intro s hI
   refine ⟨(l.length : Int), by unfold zEI; simp [len], l.length, rfl, Nat.le_refl _, hI, fun y hy => by simp at hy⟩
 obtain ⟨_, hk, n, rfl, hn, hlo, hhi⟩ := hloop
 unfold zHp
 rw [hk]
 simp only [zob]
 by_cases hx : l[n]? = some x
 ·have hlt : decide ((n : Int) < len l) = true := by have := (List.getElem?_eq_some_iff.1 hx).1; simp [len]; omega
  refine ⟨l, by simp only [hlt, if_true, uC, hx, zob, beq_self_eq_true], ha, fun y => ⟨.inr, fun h => ?_⟩, by omega⟩
  rcases h with rfl | h
  ·exact List.mem_of_getElem? hx
  ·exact h
 ·have hcond : ((if decide ((n : Int) < len l) = true then (zF l (n : Int)).bind fun x2 => some (x2 == x) else some false : Option Bool)) = some false := by
   by_cases hlt : n < l.length
   ·have hy : l[n]? = some l[n] := List.getElem?_eq_getElem hlt
    have h1 : decide ((n : Int) < len l) = true := by simp [len]; omega
    have h2 : (l[n] == x) = false := beq_eq_false_iff_ne.2 (fun e => hx (by rw [hy, e]))
    simp only [h1, if_true, uC, hy, zob, h2]
   ·have h1 : decide ((n : Int) < len l) = false := by simp [len]; omega
    simp only [h1, zbf, if_false]
  rw [hcond]
  simp only [zob, zbf, if_false]
  rw [zLl (by omega) (by omega), zX8 (by omega) (by omega)]
  simp only [zob, Int.toNat_natCast]
  rw [yJ (by simp; omega)]
  simp only [zob, List.nil_append]
  rw [yJ (by simp; omega)]
  simp only [zob]
  rw [yJ (by simp; omega)]
  refine ⟨_, rfl, ?_, fun y => ?_, by simp; omega⟩
  ·have hsplit := List.take_append_drop n l
   rw [← hsplit] at ha
   obtain ⟨h1, h2, h3⟩ := List.pairwise_append.1 ha
   have hlow : ∀ y ∈ l.take n, vZ y x = true := fun y hy => by
    obtain ⟨j, hj⟩ := List.mem_iff_getElem?.1 hy
    rw [List.getElem?_take] at hj
    split at hj
    ·exact hlo j y ‹_› hj
    ·cases hj
   have hhigh : ∀ y ∈ l.drop n, vZ x y = true := fun y hy => by
    by_cases hlt : n < l.length
    ·have hfirst : vZ x l[n] = true := by
      rcases zMB x l[n] with h | h | h
      ·exact h
      ·exact absurd (by rw [List.getElem?_eq_getElem hlt, ← h]) hx
      ·rw [hhi _ (List.getElem?_eq_getElem hlt)] at h; cases h
     rw [List.drop_eq_getElem_cons hlt] at hy h2
     rcases List.mem_cons.1 hy with rfl | hy
     ·exact hfirst
     ·exact zIr hfirst ((List.pairwise_cons.1 h2).1 y hy)
    ·rw [List.drop_of_length_le (by omega)] at hy; cases hy
   rw [List.append_assoc]
   refine List.pairwise_append.2 ⟨h1, List.pairwise_append.2 ⟨by simp, h2, fun a ha b hb => ?_⟩, fun a ha b hb => ?_⟩
   ·simp at ha; subst ha; exact hhigh b hb
   ·rcases List.mem_append.1 hb with hb | hb
    ·simp at hb; subst hb; exact hlow a ha
    ·exact h3 a ha b hb
  ·rw [List.mem_append, List.mem_append, List.mem_singleton]
   have : y ∈ l ↔ y ∈ l.take n ∨ y ∈ l.drop n := by rw [← List.mem_append, List.take_append_drop]
   rw [this]
   constructor
   ·rintro ((h | h) | h)
    ·exact .inr (.inl h)
    ·exact .inl h
    ·exact .inr (.inr h)
   ·rintro (h | h | h)
    ·exact .inl (.inr h)
    ·exact .inl (.inl h)
    ·exact .inr h
theorem zXz {l : List zN} (x : zN) (h : l.length < 9223372036854775807) : zKx l x = some (decide (x ∈ l)) := by
 have hh := yW (B := zHt l x) (fun i (_ : Unit) => (i : Int)) l (fun i _ => ∀ j, j < i → l[j]? ≠ some x) (fun r => r = decide (x ∈ l)) ?_ ?_ () (by simp)
 ·obtain ⟨r, h1, rfl⟩ := hh; exact h1
 ·intro i y s hy hI
  have hi := (List.getElem?_eq_some_iff.1 hy).1
  have hlt : decide ((i : Int) < len l) = true := by simp [len]; omega
  unfold zHt
  simp only [hlt, if_true, uC, hy, zob]
  by_cases hxy : y = x
  ·subst hxy
   refine .inr ⟨true, by simp, ?_⟩
   simp [List.mem_of_getElem? hy]
  ·refine .inl ⟨(), by simp [hxy, yA i (by omega)], fun j hj => ?_⟩
   rcases Nat.lt_succ_iff_lt_or_eq.1 hj with h | rfl
   ·exact hI j h
   ·rw [hy]; simpa using hxy
 ·intro s hI
  refine ⟨false, by unfold zHt; simp [len], ?_⟩
  symm
  rw [decide_eq_false_iff_not]
  intro hm
  obtain ⟨j, hj⟩ := List.mem_iff_getElem?.1 hm
  exact hI j (List.getElem?_eq_some_iff.1 hj).1 hj
theorem zYc (l m : List zN) (h : l.length < 9223372036854775807) : zJz l m = some (decide (l = m)) :=
 (show zJz l m = zZ8 l m from rfl).trans (zWQ l m h)
end
section
theorem zYL (l : List Int) (n : Int) (hl : l.length < 4294967290) : ∃ k : Nat, zZ (zEF l n) 0 = some (k : Int) ∧ k ≤ l.length ∧ (∀ j x, j < k → l[j]? = some x → x < n) ∧ ∀ x, l[k]? = some x → n ≤ x := by
 have h := yW (B := zEF l n) (fun i (_ : Unit) => (i : Int)) l (fun i _ => ∀ j x, j < i → l[j]? = some x → x < n)
  (fun r => ∃ k : Nat, r = (k : Int) ∧ k ≤ l.length ∧ (∀ j x, j < k → l[j]? = some x → x < n) ∧ ∀ x, l[k]? = some x → n ≤ x) ?_ ?_ () (by omega)
 ·obtain ⟨r, h1, k, rfl, h2⟩ := h; exact ⟨k, h1, h2⟩
 ·intro i x s hx hI
  unfold zEF
  simp only [vK hx, if_true, vF hx, zob]
  by_cases hlt : x < n
  ·refine .inl ⟨(), by simp [hlt, vG hx (by omega)], fun j y hj hy => ?_⟩
   rcases Nat.lt_succ_iff_lt_or_eq.1 hj with h | rfl
   ·exact hI j y h hy
   ·rw [hx] at hy; cases hy; exact hlt
  ·exact .inr ⟨i, by simp [hlt], i, rfl, by have := vT hx; omega, hI, fun y hy => by rw [hx] at hy; cases hy; omega⟩
 ·intro s hI
  unfold zEF
  exact ⟨(l.length : Int), by simp [len], l.length, rfl, Nat.le_refl _, hI, fun x hx => by simp at hx⟩
theorem zNZ {l : List Int} (n : Int) (hl : l.length < 4294967000) (ha : yB yR l) : ∃ r, zFE l n = some r ∧ yB yR r ∧ (∀ y, y ∈ r ↔ y = n ∨ y ∈ l) ∧ r.length ≤ l.length + 1 := by
 obtain ⟨k, h1, h2, h3, h4⟩ := zYL l n (by omega)
 have hsplit : l = l.take k ++ l.drop k := (List.take_append_drop k l).symm
 have hlo : ∀ x ∈ l.take k, x < n := fun x hx => by
  obtain ⟨j, hj⟩ := List.mem_iff_getElem?.1 hx
  rw [List.getElem?_take] at hj
  split at hj
  ·rename_i hjk; exact h3 j x hjk hj
  ·cases hj
 have hhi : ∀ x ∈ l.drop k, n ≤ x := fun x hx => by
  obtain ⟨j, hj⟩ := List.mem_iff_getElem?.1 hx
  rw [List.getElem?_drop] at hj
  cases j with
  | zero => exact h4 x hj
  | succ j =>
   have hk : k < l.length := by have := vT hj; omega
   have h5 := h4 l[k] (List.getElem?_eq_getElem hk)
   have h6 := List.pairwise_iff_getElem.1 ha k (k + (j + 1)) hk (vT hj) (by omega)
   rw [List.getElem?_eq_getElem (vT hj)] at hj
   have hj := Option.some.inj hj
   simp at h6; omega
 unfold zFE
 rw [h1]
 simp only [zob]
 by_cases he : ∃ x, l[k]? = some x ∧ x = n
 ·obtain ⟨x, hx, rfl⟩ := he
  refine ⟨l, by simp only [vK hx, if_true, vF hx, zob, beq_self_eq_true], ha, fun y => ⟨.inr, fun h => by rcases h with rfl | h; exact yT hx; exact h⟩, by omega⟩
 ·have hc : (if decide ((k : Int) < len l) = true then (zF l (k : Int)).bind fun x2 => some (x2 == n) else some false) = some false := by
   by_cases hk : k < l.length
   ·have hx : l[k]? = some l[k] := List.getElem?_eq_getElem hk
    simp only [vK hx, if_true, vF hx, zob]
    congr 1
    rw [beq_eq_false_iff_ne]
    exact fun e => he ⟨_, hx, e⟩
   ·have : decide ((k : Int) < len l) = false := by simp [len]; omega
    simp only [this, zbf, if_false]
  rw [hc]
  simp only [zob, zbf, if_false]
  rw [zLl (by omega) (by omega), zX8 (by omega) (by omega)]
  simp only [zob, Int.toNat_natCast]
  have l1 : (l.take k).length = k := by simp; omega
  have l2 : (l.drop k).length = l.length - k := by simp
  rw [yJ (by simp; omega)]
  simp only [zob, List.nil_append]
  rw [yJ (by simp; omega)]
  simp only [zob]
  rw [yJ (by simp; omega)]
  refine ⟨_, rfl, ?_, fun y => ?_, by simp; omega⟩
  ·rw [List.append_assoc]
   refine List.pairwise_append.2 ⟨ha.sublist (List.take_sublist k l), ?_, fun x hx y hy => ?_⟩
   ·refine List.pairwise_append.2 ⟨by simp, ha.sublist (List.drop_sublist k l), fun x hx y hy => ?_⟩
    simp only [List.mem_singleton] at hx
    subst hx
    have h5 := hhi y hy
    have h6 : y ≠ x := fun e => by
     subst e
     obtain ⟨j, hj⟩ := List.mem_iff_getElem?.1 hy
     rw [List.getElem?_drop] at hj
     cases j with
     | zero => exact he ⟨_, hj, rfl⟩
     | succ j =>
      have hk : k < l.length := by have := vT hj; omega
      have h5 := h4 l[k] (List.getElem?_eq_getElem hk)
      have h6 := List.pairwise_iff_getElem.1 ha k (k + (j + 1)) hk (vT hj) (by omega)
      rw [List.getElem?_eq_getElem (vT hj)] at hj
      have hj := Option.some.inj hj
      simp at h6; omega
    simp; omega
   ·have h5 := hlo x hx
    rcases List.mem_append.1 hy with h | h
    ·simp at h; subst h; simpa using h5
    ·have := hhi y h; simp; omega
  ·have hm : y ∈ l ↔ y ∈ l.take k ∨ y ∈ l.drop k := by rw [← List.mem_append, List.take_append_drop]
   rw [hm]
   simp only [List.mem_append, List.mem_singleton]
   constructor
   ·rintro ((h | h) | h)
    ·exact .inr (.inl h)
    ·exact .inl h
    ·exact .inr (.inr h)
   ·rintro (h | h | h)
    ·exact .inl (.inr h)
    ·exact .inl (.inl h)
    ·exact .inr h
theorem zRc {l m : List Int} (hl : l.length + m.length < 4294966000) (ha : yB yR l) : ∃ r, zIk l m = some r ∧ yB yR r ∧ (∀ y, y ∈ r ↔ y ∈ l ∨ y ∈ m) ∧ r.length ≤ l.length + m.length := by
 have h := yW (B := zG3 m) (fun i (s : List Int) => (s, (i : Int))) m (fun i s => yB yR s ∧ (∀ y, y ∈ s ↔ y ∈ l ∨ y ∈ m.take i) ∧ s.length ≤ l.length + i)
  (fun r => yB yR r ∧ (∀ y, y ∈ r ↔ y ∈ l ∨ y ∈ m) ∧ r.length ≤ l.length + m.length) ?_ ?_ l ⟨ha, by simp, by omega⟩
 ·exact h
 ·rintro i x s hx ⟨h1, h2, h3⟩
  have hi := vT hx
  obtain ⟨r, e1, e2, e3, e4⟩ := zNZ x (by omega) h1
  refine .inl ⟨r, ?_, e2, fun y => ?_, by omega⟩
  ·unfold zG3
   simp only [vK hx, if_true, vF hx, zob, e1, vG hx (by omega)]
  ·rw [e3, h2, uX hx]
   simp only [List.mem_append, List.mem_singleton]
   constructor
   ·rintro (h | h | h)
    ·exact .inr (.inr h)
    ·exact .inl h
    ·exact .inr (.inl h)
   ·rintro (h | h | h)
    ·exact .inr (.inl h)
    ·exact .inr (.inr h)
    ·exact .inl h
 ·rintro s ⟨h1, h2, h3⟩
  refine ⟨s, by unfold zG3; simp [len], h1, fun y => by rw [h2, List.take_length], h3⟩
theorem zTn {l : List Int} (h : l.length < 4294967296) : zAd l = some (zQR yR l) := zQ4 h
theorem zTz {l : List Int} (h : l.length < 4294967296) : zAb l = some (xZ l) := zKs 0 l (by omega)
theorem zSJ {β : Type} {l : List Int} (h : l.length < 4294967296) (k : List Int → Option β) : ((zAd l).bind fun r3 => (zAb r3).bind fun r4 => k r4) = k (tL yR l) := by
 rw [zTn h]
 simp only [zob]
 rw [zTz (by rw [(zKM l).length_eq]; exact h)]
 simp only [zob]
 rw [zVu (zKM l) (zJg xI l)]
theorem zUi (l : List Int) : yB yR (tL yR l) := (zO0 xI l).1
theorem z0T (l : List Int) (x : Int) : x ∈ tL yR l ↔ x ∈ l := (zO0 xI l).2 x
inductive zKe (l : List zI) : Int → Int → Prop
 | self (i : Int) : zKe l i i
 | step {i k j : Int} {a : zI} : zF l i = some a → k ∈ a.2.2.1 → zKe l k j → zKe l i j
structure FormA (l : List zI) : Prop where
 len : l.length ≤ 100
 nsub : ∀ a ∈ l, a.2.2.1.length ≤ 100
 sub : ∀ (i : Nat) a, l[i]? = some a → ∀ k ∈ a.2.2.1, 0 ≤ k ∧ k < i
theorem FormA.at {l : List zI} (h : FormA l) {i : Int} {a : zI} (hi : zF l i = some a) : a.2.2.1.length ≤ 100 ∧ 0 ≤ i ∧ i < l.length ∧ ∀ k ∈ a.2.2.1, 0 ≤ k ∧ k < i := by
 obtain ⟨n, rfl, hn⟩ := zMu hi
 exact ⟨h.nsub a (yT hn), by omega, by have := vT hn; omega, h.sub n a hn⟩
theorem zKe.le {l : List zI} (h : FormA l) {i j : Int} (hs : zKe l i j) : 0 ≤ i → 0 ≤ j ∧ j ≤ i := by
 induction hs with
 | self i => intro h0; omega
 | step hi hk _ ih => intro h0; have := (h.at hi).2.2.2 _ hk; have := ih this.1; omega
theorem zKe.trans {l : List zI} {i j k : Int} (h : zKe l i j) (h2 : zKe l j k) : zKe l i k := by
 induction h with
 | self i => exact h2
 | step hi hk _ ih => exact .step hi hk (ih h2)
theorem zKe.iff {l : List zI} {i j : Int} {a : zI} (hi : zF l i = some a) : zKe l i j ↔ j = i ∨ ∃ k ∈ a.2.2.1, zKe l k j := by
 constructor
 ·intro h
  cases h with
  | self => exact .inl rfl
  | step h1 h2 h3 => rw [hi] at h1; cases h1; exact .inr ⟨_, h2, h3⟩
 ·rintro (rfl | ⟨k, h1, h2⟩)
  ·exact .self _
  ·exact .step hi h1 h2
open Classical in
noncomputable def vW (l : List zI) (i : Int) : List Int := ((List.range l.length).map Int.ofNat).filter fun j => decide (zKe l i j)
theorem zK5 (l : List zI) (i : Int) : yB yR (vW l i) := by
 refine List.Pairwise.filter _ ?_
 rw [List.pairwise_map]
 exact List.pairwise_lt_range.imp fun {a b} h => by simp; omega
theorem zEe (l : List zI) (i : Int) : (vW l i).length ≤ l.length := Nat.le_trans (List.length_filter_le _ _) (by simp)
theorem zIR {l : List zI} (h : FormA l) {i : Int} (h0 : 0 ≤ i) (h1 : i < l.length) (j : Int) : j ∈ vW l i ↔ zKe l i j := by
 simp only [vW, List.mem_filter, List.mem_map, List.mem_range, decide_eq_true_eq]
 constructor
 ·exact fun h => h.2
 ·intro hs
  have := hs.le h h0
  exact ⟨⟨j.toNat, by omega, by simp; omega⟩, hs⟩
theorem zV9 {l : List zI} (h : FormA l) : ∀ (n : Nat) (i : Int), 0 ≤ i → i < l.length → i < n → zCA n l i = some (vW l i) := by
 intro n
 induction n with
 | zero => intro i h0 _ h2; omega
 | succ n ih =>
  intro i h0 h1 h2
  obtain ⟨a, ha⟩ := tQ h0 h1
  obtain ⟨hn, _, _, hsub⟩ := h.at ha
  show zDp (zCA n) l i = _
  have hL := zEz (B := zCQ a (zCA n) l) a.2.2.1 (fun s k => s ++ vW l k) (fun s => s) (fun q s => s.length ≤ 1 + q * 100) [i] (by simp) (fun q k s hk hI => ?_) (fun s hI => ?_)
  ·obtain ⟨e1, e2⟩ := hL
   rw [zGO] at e1 e2
   unfold zDp zA2
   have hin : (decide (0 ≤ i) && decide (i < len l)) = true := by simp [len]; omega
   simp only [hin, zob, Bool.not_true, zbf, if_false, ha, e1]
   have hlen : ([i] ++ a.2.2.1.flatMap (vW l)).length < 4294967296 := by omega
   refine (zSJ hlen some).trans ?_
   congr 1
   refine zTs xI (zK5 l i) fun j => ?_
   rw [zIR h h0 h1, zKe.iff ha]
   simp only [List.singleton_append, List.mem_cons, List.mem_flatMap]
   refine or_congr Iff.rfl (exists_congr fun k => and_congr_right fun hk => ?_)
   have := hsub k hk
   rw [zIR h this.1 (by omega)]
  ·have hks := hsub k (yT hk)
   have hq := vT hk
   have hsl := zEe l k
   have hl := h.len
   unfold zCQ
   simp only [vK hk, if_true, vF hk, zob]
   rw [ih k hks.1 (by omega) (by omega)]
   simp only [zob]
   rw [yJ (by omega)]
   refine ⟨by simp only [zob, vG hk (by omega)], by rw [List.length_append]; omega⟩
  ·unfold zCQ
   simp [len]
theorem zRj {l : List zI} (h : FormA l) {i : Int} (h0 : 0 ≤ i) (h1 : i < l.length) : zC6 l i = some (vW l i) :=
 zM0 (i.toNat + 1) fun m hm => zV9 h m i h0 h1 (by omega)
theorem zWD {l : List zI} (h : FormA l) : ∀ (n : Nat) (i : Int), 0 ≤ i → i < l.length → i < n → zF7 n l i = some (vW l i) := by
 intro n
 induction n with
 | zero => intro i h0 _ h2; omega
 | succ n ih =>
  intro i h0 h1 h2
  obtain ⟨a, ha⟩ := tQ h0 h1
  obtain ⟨hn, _, _, hsub⟩ := h.at ha
  have hl := h.len
  show zJx (zF7 n) l i = _
  have hL := yW (B := zHK l i (zF7 n)) (fun q (s : List Int) => (s, (q : Int))) a.2.2.1 (fun q s => yB yR s ∧ (∀ y, y ∈ s ↔ y = i ∨ ∃ k ∈ a.2.2.1.take q, zKe l k y) ∧ s.length ≤ 1 + q * 100)
   (fun r => yB yR r ∧ ∀ y, y ∈ r ↔ zKe l i y) (fun q k s hk hI => ?_) (fun s hI => ?_) [i] ⟨by simp, by simp, by simp⟩
  ·obtain ⟨r, e1, e2, e3⟩ := hL
   unfold zJx
   have hin : (decide (i < 0) || decide (len l ≤ i)) = false := by simp [len]; omega
   simp only [hin, zbf, if_false]
   exact e1.trans (congrArg some (yB.ext xI e2 (zK5 l i) fun j => by rw [e3, zIR h h0 h1]))
  ·obtain ⟨g1, g2, g3⟩ := hI
   have hks := hsub k (yT hk)
   have hq := vT hk
   have hsl := zEe l k
   obtain ⟨r, e1, e2, e3, e4⟩ := zRc (l := s) (m := vW l k) (by omega) g1
   refine .inl ⟨r, ?_, e2, fun y => ?_, by omega⟩
   ·unfold zHK
    simp only [ha, zob, vK hk, if_true, vF hk]
    rw [ih k hks.1 (by omega) (by omega)]
    simp only [zob, e1, vG hk (by omega)]
   ·rw [e3, g2, zIR h hks.1 (by omega), uX hk]
    simp only [List.mem_append, List.mem_singleton, or_and_right, exists_or, exists_eq_left, or_assoc]
  ·obtain ⟨g1, g2, g3⟩ := hI
   rw [List.take_length] at g2
   refine ⟨s, by unfold zHK; simp [ha, len], g1, fun y => by rw [g2, zKe.iff ha]⟩
theorem zRw {l : List zI} (h : FormA l) {i : Int} (h0 : 0 ≤ i) (h1 : i < l.length) : zIB l i = some (vW l i) :=
 zM0 (i.toNat + 1) fun m hm => zWD h m i h0 h1 (by omega)
structure FormB (b : zM) (l : List zI) : Prop extends FormA l where
 np : b.1.length ≤ 100
 nr : b.2.1.length ≤ 100
 kind : ∀ (i : Nat) a, l[i]? = some a → (a.1 = (i : Int) ∧ i < b.1.length ∧ a.2.1 = -1) ∨ (a.1 = -1 ∧ 0 ≤ a.2.1 ∧ a.2.1 < b.2.1.length)
variable {b : zM} {l : List zI}
theorem FormB.prem (h : FormB b l) {j : Int} {a : zI} (hj : zF l j = some a) : (0 ≤ a.1 → a.1 = j ∧ (∃ p, zF b.1 a.1 = some p) ∧ a.2.1 = -1) ∧ (a.1 < 0 → ∃ r, zF b.2.1 a.2.1 = some r) ∧ (0 ≤ a.2.1 ↔ a.1 < 0) := by
 obtain ⟨n, rfl, hn⟩ := zMu hj
 rcases h.kind n a hn with ⟨h1, h2, h3⟩ | ⟨h1, h2, h3⟩
 ·exact ⟨fun _ => ⟨h1, tQ (by omega) (by omega), h3⟩, fun h => by omega, by omega⟩
 ·exact ⟨fun h => by omega, fun _ => tQ h2 h3, by omega⟩
noncomputable def zGl (l : List zI) (i : Int) : List Int := (vW l i).filter fun j => match zF l j with | some a => decide (0 ≤ a.1) | none => false
theorem zR1 (l : List zI) (i : Int) : yB yR (zGl l i) := (zK5 l i).filter _
theorem zKd (l : List zI) (i : Int) : (zGl l i).length ≤ l.length := Nat.le_trans (List.length_filter_le _ _) (zEe l i)
theorem zJu (h : FormA l) {i : Int} (h0 : 0 ≤ i) (h1 : i < l.length) {j : Int} (hj : j ∈ vW l i) : ∃ a, zF l j = some a := by
 have := ((zIR h h0 h1 j).1 hj).le h h0
 exact tQ this.1 (by omega)
theorem zX4 {m : List Int} (h : yB yR m) : zQR yR m = m := by
 refine List.Perm.eq_of_pairwise (le := fun x y => yR y x = false) (fun a c _ _ h1 h2 => ?_) (zJg xI m) (h.imp fun h => by simp at h ⊢; omega) (zKM m)
 simp at h1 h2; omega
theorem zTR (h : FormB b l) {i : Int} (h0 : 0 ≤ i) (h1 : i < l.length) : ∀ (m acc : List Int), (∀ j ∈ m, j ∈ vW l i) →
  m.foldl (fun s j => match zF l j with | some a => if decide (0 ≤ a.1) then s ++ [a.1] else s | none => s) acc = acc ++ m.filter fun j => match zF l j with | some a => decide (0 ≤ a.1) | none => false
 | [], acc, _ => by simp
 | j :: m, acc, hm => by
  obtain ⟨a, ha⟩ := zJu h.toFormA h0 h1 (hm j List.mem_cons_self)
  rw [List.foldl_cons, zTR h h0 h1 m _ fun q hq => hm q (List.mem_cons_of_mem _ hq), List.filter_cons]
  simp only [ha]
  by_cases hp : 0 ≤ a.1
  ·have := (((h.prem ha).1 hp).1)
   rw [if_pos (by simpa using hp), if_pos (by simpa using hp), this]
   simp
  ·simp [hp]
theorem zMO (h : FormB b l) {i : Int} (h0 : 0 ≤ i) (h1 : i < l.length) : zB3 l i = some (zGl l i) := by
 have hl := h.len
 have hsl := zEe l i
 have hL := zEz (B := zCl (vW l i) l) (vW l i) (fun s j => match zF l j with | some a => if decide (0 ≤ a.1) then s ++ [a.1] else s | none => s) (fun s => s) (fun q s => s.length ≤ q) [] (by simp) (fun q j s hj hI => ?_) (fun s hI => ?_)
 ·unfold zB3
  rw [zRj h.toFormA h0 h1]
  simp only [zob]
  rw [hL.1, zTR h h0 h1 _ _ fun j hj => hj]
  simp only [zob, List.nil_append]
  show (zAd (zGl l i)).bind _ = _
  have := zKd l i
  rw [zTn (by omega)]
  rw [zX4 (zR1 l i)]
  rfl
 ·obtain ⟨a, ha⟩ := zJu h.toFormA h0 h1 (yT hj)
  have hq := vT hj
  unfold zCl
  simp only [vK hj, if_true, vF hj, zob, ha]
  by_cases hp : 0 ≤ a.1
  ·simp only [hp, decide_true, if_true]
   rw [yJ (by simp; omega)]
   exact ⟨by simp only [zob, vG hj (by omega)], by simp; omega⟩
  ·simp only [hp, decide_false, zbf, if_false]
   exact ⟨by simp only [vG hj (by omega)], by omega⟩
 ·unfold zCl
  simp [len]
theorem zPE (h : FormB b l) {i : Int} (h0 : 0 ≤ i) (h1 : i < l.length) : zEk l i = some (zGl l i) := by
 have hl := h.len
 have hsl := zEe l i
 have hL := yW (B := zET (vW l i) l) (fun q (s : List Int) => (s, (q : Int))) (vW l i) (fun q s => yB yR s ∧ (∀ y, y ∈ s ↔ y ∈ (vW l i).take q ∧ ∃ a, zF l y = some a ∧ 0 ≤ a.1) ∧ s.length ≤ q)
  (fun r => r = zGl l i) (fun q j s hj hI => ?_) (fun s hI => ?_) [] (by simp)
 ·obtain ⟨r, e1, rfl⟩ := hL
  unfold zEk
  rw [zRw h.toFormA h0 h1]
  exact e1
 ·obtain ⟨g1, g2, g3⟩ := hI
  obtain ⟨a, ha⟩ := zJu h.toFormA h0 h1 (yT hj)
  have hq := vT hj
  unfold zET
  simp only [vK hj, if_true, vF hj, zob, ha]
  by_cases hp : 0 ≤ a.1
  ·have haj := ((h.prem ha).1 hp).1
   obtain ⟨r, e1, e2, e3, e4⟩ := zNZ (l := s) a.1 (by omega) g1
   simp only [hp, decide_true, if_true, e1, zob]
   refine .inl ⟨r, by simp only [vG hj (by omega)], e2, fun y => ?_, by omega⟩
   rw [e3, g2, uX hj, haj]
   simp only [List.mem_append, List.mem_singleton]
   constructor
   ·rintro (rfl | ⟨h1, h2⟩)
    ·exact ⟨.inr rfl, a, ha, hp⟩
    ·exact ⟨.inl h1, h2⟩
   ·rintro ⟨h1 | rfl, h2⟩
    ·exact .inr ⟨h1, h2⟩
    ·exact .inl rfl
  ·simp only [hp, decide_false, zbf, if_false]
   refine .inl ⟨s, by simp only [vG hj (by omega)], g1, fun y => ?_, by omega⟩
   rw [g2, uX hj]
   simp only [List.mem_append, List.mem_singleton]
   constructor
   ·rintro ⟨h1, h2⟩; exact ⟨.inl h1, h2⟩
   ·rintro ⟨h1 | rfl, a', ha', hp'⟩
    ·exact ⟨h1, a', ha', hp'⟩
    ·rw [ha] at ha'; cases ha'; exact absurd hp' hp
 ·obtain ⟨g1, g2, g3⟩ := hI
  rw [List.take_length] at g2
  refine ⟨s, by unfold zET; simp [len], yB.ext xI g1 (zR1 l i) fun y => ?_⟩
  rw [g2]
  simp only [zGl, List.mem_filter]
  refine and_congr_right fun hy => ?_
  obtain ⟨a, ha⟩ := zJu h.toFormA h0 h1 hy
  simp [ha]
abbrev zPM (b : zM) (a : zI) : Bool := match zF b.2.1 a.2.1 with | some r => !r.2.1 | none => false
noncomputable def uG (b : zM) (l : List zI) (i : Int) : List Int := tL yR (((vW l i).filter fun j => match zF l j with | some a => decide (0 ≤ a.2.1) && zPM b a | none => false).map fun j => match zF l j with | some a => a.2.1 | none => 0)
theorem zNy (h : FormB b l) {i : Int} (h0 : 0 ≤ i) (h1 : i < l.length) (y : Int) : y ∈ uG b l i ↔ ∃ j ∈ vW l i, ∃ a, zF l j = some a ∧ 0 ≤ a.2.1 ∧ zPM b a = true ∧ y = a.2.1 := by
 rw [uG, z0T]
 simp only [List.mem_map, List.mem_filter]
 constructor
 ·rintro ⟨j, ⟨h2, h3⟩, h4⟩
  obtain ⟨a, ha⟩ := zJu h.toFormA h0 h1 h2
  simp only [ha, Bool.and_eq_true, decide_eq_true_eq] at h3 h4
  exact ⟨j, h2, a, ha, h3.1, h3.2, h4.symm⟩
 ·rintro ⟨j, h2, a, ha, h3, h4, rfl⟩
  exact ⟨j, ⟨h2, by simp only [ha, Bool.and_eq_true, decide_eq_true_eq]; exact ⟨h3, h4⟩⟩, by simp only [ha]⟩
theorem zIO (b : zM) (l : List zI) (i : Int) : (uG b l i).length ≤ l.length := by
 refine Nat.le_trans (zWv yR _) ?_
 rw [List.length_map]
 exact Nat.le_trans (List.length_filter_le _ _) (zEe l i)
theorem zMv (h : FormB b l) {i : Int} (h0 : 0 ≤ i) (h1 : i < l.length) : zBB b l i = some (uG b l i) := by
 have hl := h.len
 have hsl := zEe l i
 have hL := yW (B := zCP (vW l i) l b) (fun q (s : List Int) => (s, (q : Int))) (vW l i) (fun q s => s = (((vW l i).take q).filter fun j => match zF l j with | some a => decide (0 ≤ a.2.1) && zPM b a | none => false).map (fun j => match zF l j with | some a => a.2.1 | none => 0) ∧ s.length ≤ q)
  (fun r => r = ((vW l i).filter fun j => match zF l j with | some a => decide (0 ≤ a.2.1) && zPM b a | none => false).map fun j => match zF l j with | some a => a.2.1 | none => 0) (fun q j s hj hI => ?_) (fun s hI => ?_) [] (by simp)
 ·obtain ⟨r, e1, rfl⟩ := hL
  unfold zBB
  rw [zRj h.toFormA h0 h1]
  simp only [zob]
  refine (congrArg (fun o => Option.bind o _) e1).trans ?_
  simp only [zob]
  refine (zSJ ?_ some).trans rfl
  rw [List.length_map]
  have := List.length_filter_le (fun j => match zF l j with | some a => decide (0 ≤ a.2.1) && zPM b a | none => false) (vW l i)
  omega
 ·obtain ⟨g1, g3⟩ := hI
  obtain ⟨a, ha⟩ := zJu h.toFormA h0 h1 (yT hj)
  have hq := vT hj
  have hc : (if decide (0 ≤ a.2.1) = true then (zF b.2.1 a.2.1).bind fun x3 => some (!x3.2.1) else some false) = some (decide (0 ≤ a.2.1) && zPM b a) := by
   by_cases hr : 0 ≤ a.2.1
   ·obtain ⟨r, hr2⟩ := (h.prem ha).2.1 ((h.prem ha).2.2.1 hr)
    simp [hr, zPM, hr2]
   ·simp [hr]
  unfold zCP
  simp only [vK hj, if_true, vF hj, zob, ha, hc]
  cases hd : (decide (0 ≤ a.2.1) && zPM b a) with
  | true =>
   simp only [if_true]
   rw [yJ (by simp; omega)]
   refine .inl ⟨s ++ [a.2.1], by simp only [zob, vG hj (by omega)], ?_, by simp; omega⟩
   rw [uX hj, List.filter_append, List.map_append, ← g1]
   simp [ha, hd]
  | false =>
   simp only [zbf, if_false]
   refine .inl ⟨s, by simp only [vG hj (by omega)], ?_, by omega⟩
   rw [uX hj, List.filter_append, List.map_append, ← g1]
   simp [ha, hd]
 ·obtain ⟨g1, g3⟩ := hI
  rw [List.take_length] at g1
  exact ⟨s, by unfold zCP; simp [len], g1⟩
theorem zMt (h : FormB b l) {i : Int} (h0 : 0 ≤ i) (h1 : i < l.length) : zCC b l i = some (uG b l i) := by
 have hl := h.len
 have hsl := zEe l i
 have hL := yW (B := zDL (vW l i) l b) (fun q (s : List Int) => (s, (q : Int))) (vW l i) (fun q s => yB yR s ∧ (∀ y, y ∈ s ↔ ∃ j ∈ (vW l i).take q, ∃ a, zF l j = some a ∧ 0 ≤ a.2.1 ∧ zPM b a = true ∧ y = a.2.1) ∧ s.length ≤ q)
  (fun r => r = uG b l i) (fun q j s hj hI => ?_) (fun s hI => ?_) [] (by simp)
 ·obtain ⟨r, e1, rfl⟩ := hL
  unfold zCC
  rw [zRw h.toFormA h0 h1]
  exact e1
 ·obtain ⟨g1, g2, g3⟩ := hI
  obtain ⟨a, ha⟩ := zJu h.toFormA h0 h1 (yT hj)
  have hq := vT hj
  have hc : (if decide (0 ≤ a.2.1) = true then (zF b.2.1 a.2.1).bind fun x3 => some (!x3.2.1) else some false) = some (decide (0 ≤ a.2.1) && zPM b a) := by
   by_cases hr : 0 ≤ a.2.1
   ·obtain ⟨r, hr2⟩ := (h.prem ha).2.1 ((h.prem ha).2.2.1 hr)
    simp [hr, zPM, hr2]
   ·simp [hr]
  unfold zDL
  simp only [vK hj, if_true, vF hj, zob, ha, hc]
  cases hd : (decide (0 ≤ a.2.1) && zPM b a) with
  | true =>
   obtain ⟨r, e1, e2, e3, e4⟩ := zNZ (l := s) a.2.1 (by omega) g1
   simp only [if_true, e1, zob]
   simp only [Bool.and_eq_true, decide_eq_true_eq] at hd
   refine .inl ⟨r, by simp only [vG hj (by omega)], e2, fun y => ?_, by omega⟩
   rw [e3, g2, uX hj]
   simp only [List.mem_append, List.mem_singleton, or_and_right, exists_or, exists_eq_left]
   rw [or_comm]
   refine or_congr Iff.rfl ⟨fun h => ⟨a, ha, hd.1, hd.2, h⟩, fun ⟨a', h1, _, _, h2⟩ => ?_⟩
   rw [ha] at h1; cases h1; exact h2
  | false =>
   simp only [zbf, if_false]
   refine .inl ⟨s, by simp only [vG hj (by omega)], g1, fun y => ?_, by omega⟩
   rw [g2, uX hj]
   simp only [List.mem_append, List.mem_singleton, or_and_right, exists_or, exists_eq_left]
   refine ⟨.inl, fun h => h.elim (fun h => h) fun ⟨a', h1, h2, h3, _⟩ => ?_⟩
   rw [ha] at h1; cases h1
   simp [h2, h3] at hd
 ·obtain ⟨g1, g2, g3⟩ := hI
  rw [List.take_length] at g2
  refine ⟨s, by unfold zDL; simp [len], yB.ext xI g1 (zUi _) fun y => ?_⟩
  rw [g2]
  exact (zNy h h0 h1 y).symm
inductive zLx (b : zM) (l : List zI) : Int → Int → Prop
 | here {i : Int} {a : zI} {r : qR} : zF l i = some a → 0 ≤ a.2.1 → zF b.2.1 a.2.1 = some r → r.2.1 = false → zLx b l i a.2.1
 | step {i k y : Int} {a : zI} {r : qR} : zF l i = some a → 0 ≤ a.2.1 → zF b.2.1 a.2.1 = some r → r.2.1 = true → k ∈ a.2.2.1 → zLx b l k y → zLx b l i y
theorem zLx.rng (_h : FormB b l) {i y : Int} (hs : zLx b l i y) : 0 ≤ y ∧ y < b.2.1.length := by
 induction hs with
 | here h1 h2 h3 h4 => obtain ⟨n, hn, h5⟩ := zMu h3; have := vT h5; omega
 | step _ _ _ _ _ _ ih => exact ih
open Classical in
noncomputable def uA (b : zM) (l : List zI) (i : Int) : List Int := ((List.range b.2.1.length).map Int.ofNat).filter fun y => decide (zLx b l i y)
theorem zQE (b : zM) (l : List zI) (i : Int) : yB yR (uA b l i) := by
 refine List.Pairwise.filter _ ?_
 rw [List.pairwise_map]
 exact List.pairwise_lt_range.imp fun {a b} h => by simp; omega
theorem zIK (b : zM) (l : List zI) (i : Int) : (uA b l i).length ≤ b.2.1.length := Nat.le_trans (List.length_filter_le _ _) (by simp)
theorem zKS (h : FormB b l) (i y : Int) : y ∈ uA b l i ↔ zLx b l i y := by
 simp only [uA, List.mem_filter, List.mem_map, List.mem_range, decide_eq_true_eq]
 exact ⟨fun h => h.2, fun hs => by have := hs.rng h; exact ⟨⟨y.toNat, by omega, by simp; omega⟩, hs⟩⟩
theorem zSg {i : Int} {a : zI} (ha : zF l i = some a) (hr : a.2.1 < 0) : uA b l i = [] := by
 simp only [uA, List.filter_eq_nil_iff, decide_eq_true_eq]
 intro y _ hy
 cases hy with
 | here h1 h2 _ _ => rw [ha] at h1; cases h1; omega
 | step h1 h2 _ _ _ _ => rw [ha] at h1; cases h1; omega
theorem zVF (h : FormB b l) {i : Int} {a : zI} {r : qR} (ha : zF l i = some a) (h0 : 0 ≤ a.2.1) (hr : zF b.2.1 a.2.1 = some r) (hs : r.2.1 = false) : uA b l i = [a.2.1] := by
 refine yB.ext xI (zQE b l i) (by simp) fun y => ?_
 rw [zKS h, List.mem_singleton]
 constructor
 ·intro hy
  cases hy with
  | here h1 _ _ _ => rw [ha] at h1; cases h1; rfl
  | step h1 _ h3 h4 _ _ => rw [ha] at h1; cases h1; rw [hr] at h3; cases h3; rw [hs] at h4; cases h4
 ·rintro rfl; exact .here ha h0 hr hs
theorem zTO {i y : Int} {a : zI} {r : qR} (ha : zF l i = some a) (h0 : 0 ≤ a.2.1) (hr : zF b.2.1 a.2.1 = some r) (hs : r.2.1 = true) : zLx b l i y ↔ ∃ k ∈ a.2.2.1, zLx b l k y := by
 constructor
 ·intro hy
  cases hy with
  | here h1 _ h3 h4 => rw [ha] at h1; cases h1; rw [hr] at h3; cases h3; rw [hs] at h4; cases h4
  | step h1 _ _ _ h5 h6 => rw [ha] at h1; cases h1; exact ⟨_, h5, h6⟩
 ·rintro ⟨k, h1, h2⟩; exact .step ha h0 hr hs h1 h2
theorem zW0 (h : FormB b l) : ∀ (n : Nat) (i : Int), 0 ≤ i → i < l.length → i < n → zBu n b l i = some (uA b l i) := by
 intro n
 induction n with
 | zero => intro i h0 _ h2; omega
 | succ n ih =>
  intro i h0 h1 h2
  obtain ⟨a, ha⟩ := tQ h0 h1
  obtain ⟨hn, _, _, hsub⟩ := h.toFormA.at ha
  have hin : (decide (0 ≤ i) && decide (i < len l)) = true := by simp [len]; omega
  show zEG (zBu n) b l i = _
  unfold zEG zA2
  simp only [hin, zob, Bool.not_true, zbf, if_false, ha]
  by_cases hr : a.2.1 < 0
  ·simp only [hr, decide_true, if_true]
   rw [zSg ha hr]
  ·simp only [hr, decide_false, zbf, if_false]
   obtain ⟨r, hr2⟩ := (h.prem ha).2.1 ((h.prem ha).2.2.1 (by omega))
   simp only [hr2, zob]
   cases hs : r.2.1 with
   | false =>
    simp only [Bool.not_false, if_true]
    rw [zVF h ha (by omega) hr2 hs]
   | true =>
    simp only [Bool.not_true, zbf, if_false]
    have hnr := h.nr
    have hL := zEz (B := zCI a (zBu n) b l) a.2.2.1 (fun s k => s ++ uA b l k) (fun s => s) (fun q s => s.length ≤ q * 100) [] (by simp) (fun q k s hk hI => ?_) (fun s hI => ?_)
    ·obtain ⟨e1, e2⟩ := hL
     rw [zGO] at e1 e2
     rw [e1]
     simp only [zob]
     refine (zSJ (by omega) some).trans ?_
     congr 1
     refine zTs xI (zQE b l i) fun y => ?_
     rw [zKS h, zTO ha (by omega) hr2 hs]
     simp only [List.nil_append, List.mem_flatMap, zKS h]
    ·have hks := hsub k (yT hk)
     have hq := vT hk
     have hsl := zIK b l k
     unfold zCI
     simp only [vK hk, if_true, vF hk, zob]
     rw [ih k hks.1 (by omega) (by omega)]
     simp only [zob]
     rw [yJ (by omega)]
     refine ⟨by simp only [zob, vG hk (by omega)], by rw [List.length_append]; omega⟩
    ·unfold zCI
     simp [len]
theorem zYV (h : FormB b l) {i : Int} (h0 : 0 ≤ i) (h1 : i < l.length) : zFh b l i = some (uA b l i) :=
 zM0 (i.toNat + 1) fun m hm => zW0 h m i h0 h1 (by omega)
theorem zWT (h : FormB b l) : ∀ (n : Nat) (i : Int), 0 ≤ i → i < l.length → i < n → zF9 n b l i = some (uA b l i) := by
 intro n
 induction n with
 | zero => intro i h0 _ h2; omega
 | succ n ih =>
  intro i h0 h1 h2
  obtain ⟨a, ha⟩ := tQ h0 h1
  obtain ⟨hn, _, _, hsub⟩ := h.toFormA.at ha
  have hi0 : ¬ i < 0 := by omega
  have hi1 : ¬ len l ≤ i := by simp [len]; omega
  show zJh (zF9 n) b l i = _
  unfold zJh
  simp only [hi0, hi1, decide_false, zob, zbf, if_false, ha]
  by_cases hr : a.2.1 < 0
  ·simp only [hr, decide_true, if_true]
   rw [zSg ha hr]
  ·simp only [hr, decide_false, zbf, if_false]
   obtain ⟨r, hr2⟩ := (h.prem ha).2.1 ((h.prem ha).2.2.1 (by omega))
   simp only [hr2, zob]
   cases hs : r.2.1 with
   | false =>
    simp only [Bool.not_false, if_true]
    rw [zVF h ha (by omega) hr2 hs]
   | true =>
    simp only [Bool.not_true, zbf, if_false]
    have hnr := h.nr
    have hL := yW (B := zHB l i (zF9 n) b) (fun q (s : List Int) => (s, (q : Int))) a.2.2.1 (fun q s => yB yR s ∧ (∀ y, y ∈ s ↔ ∃ k ∈ a.2.2.1.take q, zLx b l k y) ∧ s.length ≤ q * 100)
     (fun r => yB yR r ∧ ∀ y, y ∈ r ↔ zLx b l i y) (fun q k s hk hI => ?_) (fun s hI => ?_) [] (by simp)
    ·obtain ⟨r', e1, e2, e3⟩ := hL
     exact e1.trans (congrArg some (yB.ext xI e2 (zQE b l i) fun j => by rw [e3, zKS h]))
    ·obtain ⟨g1, g2, g3⟩ := hI
     have hks := hsub k (yT hk)
     have hq := vT hk
     have hsl := zIK b l k
     obtain ⟨r', e1, e2, e3, e4⟩ := zRc (l := s) (m := uA b l k) (by omega) g1
     refine .inl ⟨r', ?_, e2, fun y => ?_, by omega⟩
     ·unfold zHB
      simp only [ha, zob, vK hk, if_true, vF hk]
      rw [ih k hks.1 (by omega) (by omega)]
      simp only [zob, e1, vG hk (by omega)]
     ·rw [e3, g2, zKS h, uX hk]
      simp only [List.mem_append, List.mem_singleton, or_and_right, exists_or, exists_eq_left]
    ·obtain ⟨g1, g2, g3⟩ := hI
     rw [List.take_length] at g2
     refine ⟨s, by unfold zHB; simp [ha, len], g1, fun y => by rw [g2, zTO ha (by omega) hr2 hs]⟩
theorem zY2 (h : FormB b l) {i : Int} (h0 : 0 ≤ i) (h1 : i < l.length) : zLm b l i = some (uA b l i) :=
 zM0 (i.toNat + 1) fun m hm => zWT h m i h0 h1 (by omega)
end
section
def minF : List Int → Int
 | [] => 0
 | x :: r => r.foldl (fun m y => if y < m then y else m) x
def maxF : List Int → Int
 | [] => 0
 | x :: r => r.foldl (fun m y => if y > m then y else m) x
def zGh (x y : List Int) (o : Int) : Bool := (o == 1 || o == 2) && !x.isEmpty && (y.isEmpty || if o == 1 then decide (minF x < minF y) else decide (maxF x < maxF y))
theorem zRY {l : List Int} (h : l ≠ []) (hl : l.length < 4294967296) : zCU l = some (minF l) := by
 match l, h with
 | x :: r, _ =>
  have h1 : decide (len (x :: r) < 1) = false := by simp [len]; omega
  unfold zCU
  simp only [h1, zbf, if_false, zob, show zF (x :: r) 0 = some x from rfl]
  refine zR6 (B := zEX (x :: r)) (x :: r) (fun m y => if y < m then y else m) (fun m => m) 1 (by simp) x (fun i y s hy => ?_) (fun s => ?_)
  ·unfold zEX
   simp only [vK hy, if_true, vF hy, zob, vG hy hl]
  ·unfold zEX
   simp only [yL, zbf, if_false]
theorem zRb {l : List Int} (h : l ≠ []) (hl : l.length < 4294967296) : zCT l = some (maxF l) := by
 match l, h with
 | x :: r, _ =>
  have h1 : decide (len (x :: r) < 1) = false := by simp [len]; omega
  unfold zCT
  simp only [h1, zbf, if_false, zob, show zF (x :: r) 0 = some x from rfl]
  refine zR6 (B := zE7 (x :: r)) (x :: r) (fun m y => if y > m then y else m) (fun m => m) 1 (by simp) x (fun i y s hy => ?_) (fun s => ?_)
  ·unfold zE7
   simp only [vK hy, if_true, vF hy, zob, vG hy hl]
  ·unfold zE7
   simp only [yL, zbf, if_false]
theorem zJf {l : List Int} (h : l ≠ []) (hl : l.length < 4294967296) : zEp l = some (minF l, maxF l) := by
 match l, h with
 | x :: r, _ =>
  unfold zEp
  simp only [zob, show zF (x :: r) 0 = some x from rfl]
  have key : ∀ (n i : Nat) (a b : Int), i + n = (x :: r).length → zZ (zEO (x :: r)) (a, b, (i : Int)) = some (((x :: r).drop i).foldl (fun m y => if y < m then y else m) a, ((x :: r).drop i).foldl (fun m y => if y > m then y else m) b) := by
   intro n
   induction n with
   | zero =>
    intro i a b h
    rw [Nat.add_zero] at h
    subst h
    rw [yM]
    unfold zEO
    simp only [yL, zbf, if_false, List.drop_length]
    rfl
   | succ n ih =>
    intro i a b h
    have hx : (x :: r)[i]? = some (x :: r)[i] := List.getElem?_eq_getElem (by omega)
    rw [yM]
    unfold zEO
    simp only [vK hx, if_true, vF hx, zob, vG hx hl]
    rw [List.drop_eq_getElem_cons (by omega)]
    exact ih (i + 1) _ _ (by omega)
  exact key r.length 1 x x (by simp; omega)
theorem zZa {α : Type} (l : List α) : ((len l) == 0) = l.isEmpty := by
 cases l with
 | nil => rfl
 | cons x r => rw [beq_eq_false_iff_ne.2 (by simp [len]; omega)]; rfl
theorem isE {α : Type} {l : List α} (h : l.isEmpty = false) : l ≠ [] := fun e => by subst e; cases h
theorem zMD {x y : List Int} (o : Int) (hx : x.length < 4294967296) (hy : y.length < 4294967296) : zC2 x y o = some (zGh x y o) := by
 unfold zC2 zGh
 simp only [zZa]
 cases hxe : x.isEmpty with
 | true => simp
 | false =>
  by_cases h1 : o = 1
  ·subst h1
   cases hye : y.isEmpty with
   | true => simp
   | false => simp [zRY (isE hxe) hx, zRY (isE hye) hy]
  ·by_cases h2 : o = 2
   ·subst h2
    cases hye : y.isEmpty with
    | true => simp
    | false => simp [zRb (isE hxe) hx, zRb (isE hye) hy]
   ·simp [h1, h2]
theorem zNP {x y : List Int} (o : Int) (hx : x.length < 4294967296) (hy : y.length < 4294967296) : zDm x y o = some (zGh x y o) := by
 unfold zDm zGh
 simp only [zZa]
 cases hxe : x.isEmpty with
 | true => simp
 | false =>
  by_cases h1 : o = 1
  ·subst h1
   cases hye : y.isEmpty with
   | true => simp
   | false => simp [zJf (isE hxe) hx, zJf (isE hye) hy]
  ·by_cases h2 : o = 2
   ·subst h2
    cases hye : y.isEmpty with
    | true => simp
    | false => simp [zJf (isE hxe) hx, zJf (isE hye) hy]
   ·simp [h1, h2]
variable {b : zM} {l : List zI}
theorem zQJ (h : FormB b l) {i : Int} (h0 : 0 ≤ i) (h1 : i < l.length) {p : Int} (hp : p ∈ zGl l i) : ∃ q, zF b.1 p = some q := by
 obtain ⟨h2, h3⟩ := List.mem_filter.1 hp
 obtain ⟨a, ha⟩ := zJu h.toFormA h0 h1 h2
 simp only [ha, decide_eq_true_eq] at h3
 obtain ⟨e1, ⟨q, e2⟩, _⟩ := (h.prem ha).1 h3
 exact ⟨q, by rw [← e1]; exact e2⟩
theorem zVK (h : FormB b l) {i : Int} (h0 : 0 ≤ i) (h1 : i < l.length) {y : Int} (hy : y ∈ uG b l i) : ∃ q, zF b.2.1 y = some q := by
 obtain ⟨j, _, a, ha, h3, _, rfl⟩ := (zNy h h0 h1 y).1 hy
 exact (h.prem ha).2.1 ((h.prem ha).2.2.1 h3)
theorem zUq (h : FormB b l) {i y : Int} (hy : y ∈ uA b l i) : ∃ q, zF b.2.1 y = some q := by
 have := ((zKS h i y).1 hy).rng h
 exact tQ this.1 this.2
def zQ8 (b : zM) (k p : Int) : Bool := match zF b.1 p with | some q => q.2.1 == k | none => false
noncomputable def zHy (b : zM) (l : List zI) (i : Int) : Bool := (zGl l i).any (zQ8 b 3)
def zM3 (b : zM) (p : Int) : List Int := match zF b.1 p with | some q => if q.2.1 == 2 then [q.2.2.1] else if q.2.1 == 3 then [-1] else [] | none => []
noncomputable def tD (b : zM) (l : List zI) (i : Int) : List Int := (zGl l i).flatMap (zM3 b)
def zXH (b : zM) (y : Int) : Int := match zF b.2.1 y with | some q => q.2.2.1 | none => 0
abbrev xM (b : zM) (rs : List Int) : List Int := rs.map (zXH b)
theorem zMb {rs : List Int} (hl : rs.length < 4294967296) (h : ∀ y ∈ rs, ∃ q, zF b.2.1 y = some q) : zGm b rs = some (xM b rs) := by
 have hL := zEz (B := zHG rs b) rs (fun s y => s ++ [zXH b y]) (fun s => s) (fun q s => s.length = q) [] rfl (fun i y s hy hI => ?_) (fun s hI => ?_)
 ·obtain ⟨e1, _⟩ := hL
  rw [zKz] at e1
  exact e1
 ·obtain ⟨q, hq⟩ := h y (yT hy)
  have := vT hy
  unfold zHG
  simp only [vK hy, if_true, vF hy, zob, hq]
  rw [yJ (by simp; omega)]
  exact ⟨by simp only [zob, vG hy hl, zXH, hq], by simp; omega⟩
 ·unfold zHG
  simp [len]
theorem zNv (h : FormB b l) {i : Int} (h0 : 0 ≤ i) (h1 : i < l.length) : zDu b l i = some (xM b (uA b l i)) := by
 have hll := zIK b l i
 have hnr := h.nr
 unfold zDu
 rw [zY2 h h0 h1]
 exact zMb (by omega) fun y hy => zUq h hy
theorem zHw (h : FormB b l) {i : Int} (h0 : 0 ≤ i) (h1 : i < l.length) : zBW b l i = some (xM b (uA b l i)) := by
 have hll := zIK b l i
 have hnr := h.nr
 unfold zBW
 rw [zYV h h0 h1]
 simp only [zob, zMb (show (uA b l i).length < 4294967296 by omega) fun y hy => zUq h hy]
theorem zNi (h : FormB b l) {i : Int} (h0 : 0 ≤ i) (h1 : i < l.length) : zDs b l i = some (xM b (uG b l i)) := by
 have hll := zIO b l i
 have hnr := h.len
 unfold zDs
 rw [zMt h h0 h1]
 exact zMb (by omega) fun y hy => zVK h h0 h1 hy
theorem zHo (h : FormB b l) {i : Int} (h0 : 0 ≤ i) (h1 : i < l.length) : zBY b l i = some (xM b (uG b l i)) := by
 have hll := zIO b l i
 have hnr := h.len
 unfold zBY
 rw [zMv h h0 h1]
 simp only [zob, zMb (show (uG b l i).length < 4294967296 by omega) fun y hy => zVK h h0 h1 hy]
theorem zPH (b : zM) (p : Int) : (zM3 b p).length ≤ 1 := by
 unfold zM3
 split
 ·split
  ·simp
  ·split <;> simp
 ·simp
theorem zDo (h : FormB b l) {i : Int} (h0 : 0 ≤ i) (h1 : i < l.length) : zA9 b l i = some (tD b l i) := by
 have hpl := zKd l i
 have hl := h.len
 have hL := zEz (B := zBi (zGl l i) b) (zGl l i) (fun s p => s ++ zM3 b p) (fun s => s) (fun q s => s.length ≤ q) [] (by simp) (fun j p s hp hI => ?_) (fun s hI => ?_)
 ·obtain ⟨e1, _⟩ := hL
  rw [zGO] at e1
  unfold zA9
  rw [zMO h h0 h1]
  exact e1
 ·obtain ⟨q, hq⟩ := zQJ h h0 h1 (yT hp)
  have := vT hp
  have hpr := zPH b p
  unfold zBi
  simp only [vK hp, if_true, vF hp, zob, hq]
  refine ⟨?_, by rw [List.length_append]; omega⟩
  unfold zM3
  simp only [hq]
  cases hk2 : q.2.1 == 2 with
  | true =>
   simp only [if_true]
   rw [yJ (by simp; omega)]
   simp only [zob, vG hp (by omega)]
  | false =>
   cases hk3 : q.2.1 == 3 with
   | true =>
    simp only [zbf, if_false, if_true]
    rw [yJ (by simp; omega)]
    simp only [zob, vG hp (by omega)]
   | false => simp only [zbf, if_false, List.append_nil, vG hp (by omega)]
 ·unfold zBi
  simp [len]
theorem zLX (h : FormB b l) {i : Int} (h0 : 0 ≤ i) (h1 : i < l.length) : zBM b l i = some (tD b l i) := by
 have e := zDo h h0 h1
 unfold zA9 at e
 unfold zBM
 rw [zMO h h0 h1] at e
 rw [zPE h h0 h1]
 simp only [zob] at e ⊢
 rw [← e]
 congr 1
 funext s
 unfold zHF zBi
 split
 ·cases h2 : zF (zGl l i) s.2 with
  | none => rfl
  | some p =>
   simp only [zob]
   cases h3 : zF b.1 p with
   | none => rfl
   | some q => rfl
 ·rfl
theorem zTH (h : FormB b l) {i : Int} (h0 : 0 ≤ i) (h1 : i < l.length) : zFJ b l i = some (zHy b l i) := by
 have hpl := zKd l i
 have hl := h.len
 have key : ∃ r, zZ (zAL (zGl l i) b) 0 = some r ∧ decide (0 ≤ r) = zHy b l i := by
  have hc : ∀ p ∈ zGl l i, zG0 p b = some (zQ8 b 3 p) := fun p hp => by
   obtain ⟨q, hq⟩ := zQJ h h0 h1 hp
   simp [zG0, zQ8, hq]
  have hL := yW (B := zAL (zGl l i) b) (fun q (_ : Unit) => (q : Int)) (zGl l i) (fun q _ => ∀ j x, j < q → (zGl l i)[j]? = some x → zQ8 b 3 x = false) (fun r => decide (0 ≤ r) = zHy b l i) ?_ ?_ () (by omega)
  ·exact hL
  ·intro q p s hp hI
   unfold zAL
   simp only [vK hp, if_true, vF hp, zob, hc p (yT hp)]
   cases hk : zQ8 b 3 p with
   | true =>
    refine .inr ⟨_, by simp only [if_true]; rfl, ?_⟩
    have : zHy b l i = true := List.any_eq_true.2 ⟨p, yT hp, hk⟩
    rw [this]; simp
   | false =>
    refine .inl ⟨(), by simp only [zbf, if_false, vG hp (by omega)], fun j x hj hx => ?_⟩
    rcases Nat.lt_succ_iff_lt_or_eq.1 hj with h | rfl
    ·exact hI j x h hx
    ·rw [hp] at hx; cases hx; exact hk
  ·intro s hI
   unfold zAL
   refine ⟨-1, by simp only [yL, zbf, if_false], ?_⟩
   have : zHy b l i = false := by
    rw [zHy, List.any_eq_false]
    intro p hp
    obtain ⟨j, hj⟩ := List.mem_iff_getElem?.1 hp
    simp [hI j p (vT hj) hj]
   rw [this]; rfl
 obtain ⟨r, h2, h3⟩ := key
 unfold zFJ zAM zAQ
 rw [zMO h h0 h1]
 simp only [zob, h2, h3]
theorem zU8 (h : FormB b l) {i : Int} (h0 : 0 ≤ i) (h1 : i < l.length) : zHD b l i = some (zHy b l i) := by
 have hpl := zKd l i
 have hl := h.len
 unfold zHD
 rw [zPE h h0 h1]
 simp only [zob]
 refine zSK (B := zF0 (zGl l i) b) (zGl l i) (zQ8 b 3) (fun q p hp => ?_) ?_
 ·obtain ⟨r, hr⟩ := zQJ h h0 h1 (yT hp)
  unfold zF0
  simp only [vK hp, if_true, vF hp, zob, hr, zQ8, vG hp (by omega)]
  split <;> rfl
 ·unfold zF0
  simp only [yL, zbf, if_false]
noncomputable def zP1 (b : zM) (l : List zI) (i k : Int) (o : vN) : Bool :=
 decide (0 ≤ i) && decide (i < l.length) && decide (0 ≤ k) && decide (k < l.length) && !zHy b l k &&
 let pr := zGh (tD b l i) (tD b l k) o.2
 if o.1 == 1 then zGh (xM b (uA b l i)) (xM b (uA b l k)) o.2 || ((uA b l i).isEmpty && (uA b l k).isEmpty && pr)
 else if o.1 == 2 then
  if (uG b l i).isEmpty && (uG b l k).isEmpty then pr
  else if (tD b l i).isEmpty && (tD b l k).isEmpty then zGh (xM b (uG b l i)) (xM b (uG b l k)) o.2
  else pr && zGh (xM b (uG b l i)) (xM b (uG b l k)) o.2
 else false
theorem zIa (b : zM) (l : List zI) (i : Int) : (tD b l i).length ≤ l.length := by
 have key : ∀ m : List Int, (m.flatMap (zM3 b)).length ≤ m.length := by
  intro m
  induction m with
  | nil => simp
  | cons x m ih => have := zPH b x; simp only [List.flatMap_cons, List.length_append, List.length_cons]; omega
 exact Nat.le_trans (key _) (zKd l i)
theorem zNG {α β : Type} (f : α → β) (l : List α) : (l.map f).isEmpty = l.isEmpty := by cases l <;> rfl
theorem zXS (h : FormB b l) (i k : Int) (o : vN) : zHe b l i k o = some (zP1 b l i k o) := by
 have hl := h.len
 have hnr := h.nr
 unfold zHe
 by_cases hr : 0 ≤ i ∧ i < l.length ∧ 0 ≤ k ∧ k < l.length
 ·obtain ⟨i0, i1, k0, k1⟩ := hr
  have c1 : decide ((if k < i then k else i) < 0) = false := by simp; split <;> omega
  have c2 : decide (len l ≤ (if k > i then k else i)) = false := by simp [len]; split <;> omega
  simp only [c1, c2, zbf, if_false, zTH h k0 k1, zob]
  have f1 := zIa b l i
  have f2 := zIa b l k
  have f3 := zIK b l i
  have f4 := zIK b l k
  have f5 := zIO b l i
  have f6 := zIO b l k
  cases ha : zHy b l k with
  | true => simp [zP1, ha]
  | false =>
   have sP : zAD b l i k o = some (zGh (tD b l i) (tD b l k) o.2) := by
    unfold zAD
    simp only [zDo h i0 i1, zDo h k0 k1, zob, zMD o.2 (show (tD b l i).length < 4294967296 by omega) (show (tD b l k).length < 4294967296 by omega)]
   have sL : zA5 b l i k o = some (zGh (xM b (uA b l i)) (xM b (uA b l k)) o.2) := by
    unfold zA5
    simp only [zHw h i0 i1, zHw h k0 k1, zob, zMD o.2 (show (xM b (uA b l i)).length < 4294967296 by simp; omega) (show (xM b (uA b l k)).length < 4294967296 by simp; omega)]
   have sR : zAT b l i k o = some (zGh (xM b (uG b l i)) (xM b (uG b l k)) o.2) := by
    unfold zAT
    simp only [zHo h i0 i1, zHo h k0 k1, zob, zMD o.2 (show (xM b (uG b l i)).length < 4294967296 by simp; omega) (show (xM b (uG b l k)).length < 4294967296 by simp; omega)]
   have nL : zA4 b l i k = some ((uA b l i).isEmpty && (uA b l k).isEmpty) := by
    unfold zA4
    simp only [zHw h i0 i1, zHw h k0 k1, zob, zZa, zNG]
    cases (uA b l i).isEmpty <;> simp
   have nP : zAV b l i k = some ((tD b l i).isEmpty && (tD b l k).isEmpty) := by
    unfold zAV
    simp only [zDo h i0 i1, zDo h k0 k1, zob, zZa]
    cases (tD b l i).isEmpty <;> simp
   have nR : zA3 b l i k = some ((uG b l i).isEmpty && (uG b l k).isEmpty) := by
    unfold zA3
    simp only [zHo h i0 i1, zHo h k0 k1, zob, zZa, zNG]
    cases (uG b l i).isEmpty <;> simp
   simp only [zbf, if_false, zBK, zBJ, sP, sL, sR, nL, nP, nR, zob, zP1, i0, i1, k0, k1, ha, decide_true, Bool.not_false, Bool.true_and]
   by_cases o1 : o.1 = 1
   ·simp only [o1, beq_self_eq_true, if_true]
    cases zGh (xM b (uA b l i)) (xM b (uA b l k)) o.2 <;> cases (uA b l i).isEmpty <;> cases (uA b l k).isEmpty <;> simp
   ·have o1' : (o.1 == 1) = false := beq_eq_false_iff_ne.2 o1
    simp only [o1', zbf, if_false]
    cases o.1 == 2
    ·simp
    ·cases (uG b l i).isEmpty <;> cases (uG b l k).isEmpty <;> cases (tD b l i).isEmpty <;> cases (tD b l k).isEmpty <;> cases zGh (tD b l i) (tD b l k) o.2 <;> simp
 ·have hf : zP1 b l i k o = false := by
   unfold zP1
   by_cases a1 : 0 ≤ i <;> by_cases a2 : i < l.length <;> by_cases a3 : 0 ≤ k <;> by_cases a4 : k < l.length <;> simp [a1, a2, a3, a4]
   exact absurd ⟨a1, a2, a3, a4⟩ hr
  rw [hf]
  by_cases c1 : (if k < i then k else i) < 0
  ·simp [c1]
  ·have c2 : len l ≤ (if k > i then k else i) := by
    simp only [len]
    split at c1 <;> split <;> omega
   simp only [c1, c2, decide_true, decide_false, zbf, if_true, if_false, zob]
theorem zZB (h : FormB b l) (i k : Int) (o : vN) : zID b l i k o = some (zP1 b l i k o) := by
 have hl := h.len
 have hnr := h.nr
 unfold zID
 by_cases hr : 0 ≤ i ∧ i < l.length ∧ 0 ≤ k ∧ k < l.length
 ·obtain ⟨i0, i1, k0, k1⟩ := hr
  have c1 : ¬ i < 0 := by omega
  have c2 : ¬ len l ≤ i := by simp [len]; omega
  have c3 : ¬ k < 0 := by omega
  have c4 : ¬ len l ≤ k := by simp [len]; omega
  simp only [c1, c2, c3, c4, decide_false, zbf, if_false, zU8 h k0 k1, zob]
  have f1 := zIa b l i
  have f2 := zIa b l k
  have f3 := zIK b l i
  have f4 := zIK b l k
  have f5 := zIO b l i
  have f6 := zIO b l k
  cases ha : zHy b l k with
  | true => simp [zP1, ha]
  | false =>
   simp only [zbf, if_false, zLX h i0 i1, zLX h k0 k1, zNv h i0 i1, zNv h k0 k1, zNi h i0 i1, zNi h k0 k1, zob, zZa, zNG,
    zNP o.2 (show (tD b l i).length < 4294967296 by omega) (show (tD b l k).length < 4294967296 by omega),
    zNP o.2 (show (xM b (uA b l i)).length < 4294967296 by simp; omega) (show (xM b (uA b l k)).length < 4294967296 by simp; omega),
    zNP o.2 (show (xM b (uG b l i)).length < 4294967296 by simp; omega) (show (xM b (uG b l k)).length < 4294967296 by simp; omega), zP1, i0, i1, k0, k1, ha, decide_true, Bool.not_false, Bool.true_and]
   by_cases o1 : o.1 = 1
   ·simp only [o1, beq_self_eq_true, if_true]
    cases zGh (xM b (uA b l i)) (xM b (uA b l k)) o.2 <;> cases (uA b l i).isEmpty <;> cases (uA b l k).isEmpty <;> simp
   ·have o1' : (o.1 == 1) = false := beq_eq_false_iff_ne.2 o1
    simp only [o1', zbf, if_false]
    cases o.1 == 2
    ·simp
    ·cases (uG b l i).isEmpty <;> cases (uG b l k).isEmpty <;> cases (tD b l i).isEmpty <;> cases (tD b l k).isEmpty <;> cases zGh (tD b l i) (tD b l k) o.2 <;> simp
 ·have hf : zP1 b l i k o = false := by
   unfold zP1
   by_cases a1 : 0 ≤ i <;> by_cases a2 : i < l.length <;> by_cases a3 : 0 ≤ k <;> by_cases a4 : k < l.length <;> simp [a1, a2, a3, a4]
   exact absurd ⟨a1, a2, a3, a4⟩ hr
  rw [hf]
  by_cases c1 : i < 0
  ·simp [c1]
  ·by_cases c2 : len l ≤ i
   ·simp [c1, c2]
   ·by_cases c3 : k < 0
    ·simp [c1, c2, c3]
    ·have c4 : len l ≤ k := by simp only [len] at c2 ⊢; omega
     simp [c1, c2, c3, c4]
end
section
variable {b : zM} {l : List zI}
def tN (b : zM) (l : List zI) (i c kd : Int) : Bool := match zF l i, zF l c with
 | some x, some a =>
  if decide (a.2.1 < 0) then kd == 1 && x.2.2.2 == zTk a.2.2.2 && (match zF b.1 a.1 with | some p => p.2.1 != 1 | none => false)
  else match zF b.2.1 a.2.1 with
   | some r => !r.2.1 && ((kd == 2 && x.2.2.2 == zTk a.2.2.2) || (kd == 3 && x.2.2.2 == (true, r.1)))
   | none => false
 | _, _ => false
theorem zRB (x : zN) : zGz x = some (zTk x) := rfl
theorem zU3 (h : FormB b l) {i c : Int} (i0 : 0 ≤ i) (i1 : i < l.length) (c0 : 0 ≤ c) (c1 : c < l.length) (kd : Int) : zHE b l i c kd = some (tN b l i c kd) := by
 obtain ⟨x, hx⟩ := tQ i0 i1
 obtain ⟨a, ha⟩ := tQ c0 c1
 unfold zHE tN
 simp only [hx, ha, zob, zRB]
 by_cases hr : a.2.1 < 0
 ·obtain ⟨_, ⟨p, hp⟩, _⟩ := (h.prem ha).1 (by have := (h.prem ha).2.2; omega)
  simp only [hr, decide_true, if_true, hp, zob]
  by_cases k1 : kd = 1
  ·simp only [k1, beq_self_eq_true, if_true, Bool.true_and]
   cases p.2.1 != 1 <;> simp
  ·simp [k1]
 ·obtain ⟨r, hr2⟩ := (h.prem ha).2.1 ((h.prem ha).2.2.1 (by omega))
  simp only [hr, decide_false, zbf, if_false, hr2, zob]
  by_cases k2 : kd = 2
  ·subst k2; simp
  ·by_cases k3 : kd = 3
   ·subst k3
    cases hs : r.2.1 <;> simp
   ·simp [k2, k3]
abbrev zLG (b : zM) (l : List zI) (i c : Int) : List Int := [1, 2, 3].filter (tN b l i c)
theorem zX9 (h : FormB b l) {i c : Int} (i0 : 0 ≤ i) (i1 : i < l.length) (c0 : 0 ≤ c) (c1 : c < l.length) : zHr b l i c = some (zLG b l i c) := by
 obtain ⟨x, hx⟩ := tQ i0 i1
 obtain ⟨a, ha⟩ := tQ c0 c1
 unfold zHr zLG
 simp only [hx, ha, zob, zQs]
 by_cases hp : 0 ≤ a.1
 ·obtain ⟨_, ⟨p, hp2⟩, hr⟩ := (h.prem ha).1 hp
  have hk : ∀ kd, tN b l i c kd = (kd == 1 && x.2.2.2 == zTk a.2.2.2 && p.2.1 != 1) := fun kd => by
   simp only [tN, hx, ha, hp2, hr]; rfl
  simp only [hp, decide_true, if_true, hp2, zob]
  rw [List.filter_cons, List.filter_cons, List.filter_cons, List.filter_nil, hk, hk, hk]
  cases x.2.2.2 == zTk a.2.2.2 <;> cases p.2.1 != 1 <;> simp [wI]
 ·obtain ⟨r, hr2⟩ := (h.prem ha).2.1 (by omega)
  have hr : ¬ a.2.1 < 0 := by have := (h.prem ha).2.2; omega
  have hk : ∀ kd, tN b l i c kd = (!r.2.1 && ((kd == 2 && x.2.2.2 == zTk a.2.2.2) || (kd == 3 && x.2.2.2 == (true, r.1)))) := fun kd => by
   simp only [tN, hx, ha, hr2, hr, decide_false, zbf, if_false]
  simp only [hp, decide_false, zbf, if_false, hr2, zob]
  rw [List.filter_cons, List.filter_cons, List.filter_cons, List.filter_nil, hk, hk, hk]
  have hlit : (x.2.2.2 == (true, r.1)) = (x.2.2.2.1 && x.2.2.2.2 == r.1) := by
   obtain ⟨_, _, _, g, nm⟩ := x
   show (g == true && nm == r.1) = (g && nm == r.1)
   cases g <;> rfl
  rw [hlit]
  cases hs : r.2.1
  ·cases x.2.2.2 == zTk a.2.2.2 <;> cases x.2.2.2.1 <;> cases x.2.2.2.2 == r.1 <;> simp [wI]
  ·simp
abbrev xN (b : zM) (l : List zI) (i k c : Int) : List qU := (zLG b l i c).map fun kd => (i, k, c, kd)
noncomputable def zNQ (b : zM) (l : List zI) : List qU := (vA l.length).flatMap fun i => (vA l.length).flatMap fun k => (vW l k).flatMap fun c => xN b l i k c
noncomputable def zVb (b : zM) (l : List zI) : List qU := (vA l.length).flatMap fun c => (vA l.length).flatMap fun i => ((vA l.length).filter fun k => decide (c ∈ vW l k)).flatMap fun k => xN b l i k c
theorem zTq (b : zM) (l : List zI) (i c : Int) : yB yR (zLG b l i c) := List.Pairwise.filter _ (by simp)
theorem zTp (b : zM) (l : List zI) (i c : Int) : (zLG b l i c).length ≤ 3 := List.length_filter_le _ _
theorem zS3 (y : qU) : y ∈ zNQ b l ↔ (0 ≤ y.1 ∧ y.1 < l.length) ∧ (0 ≤ y.2.1 ∧ y.2.1 < l.length) ∧ y.2.2.1 ∈ vW l y.2.1 ∧ y.2.2.2 ∈ zLG b l y.1 y.2.2.1 := by
 obtain ⟨i, k, c, kd⟩ := y
 simp only [zNQ, List.mem_flatMap, List.mem_map, xH]
 constructor
 ·rintro ⟨i', h1, k', h2, c', h3, kd', h4, e⟩
  cases e
  exact ⟨h1, h2, h3, h4⟩
 ·rintro ⟨h1, h2, h3, h4⟩
  exact ⟨i, h1, k, h2, c, h3, kd, h4, rfl⟩
theorem zUv {k c : Int} (h : c ∈ vW l k) : 0 ≤ c ∧ c < l.length := by
 have := (List.mem_filter.1 h).1
 exact xH.1 this
theorem zXO (y : qU) : y ∈ zVb b l ↔ y ∈ zNQ b l := by
 rw [zS3]
 obtain ⟨i, k, c, kd⟩ := y
 simp only [zVb, List.mem_flatMap, List.mem_map, xH, List.mem_filter, decide_eq_true_eq]
 constructor
 ·rintro ⟨c', _, i', h1, k', ⟨h2, h3⟩, kd', h4, e⟩
  cases e
  exact ⟨h1, h2, h3, h4⟩
 ·rintro ⟨h1, h2, h3, h4⟩
  exact ⟨c, zUv h3, i, h1, k, ⟨h2, h3⟩, kd, h4, rfl⟩
theorem zSj (b : zM) (l : List zI) : yB lt4 (zNQ b l) := by
 refine List.pairwise_flatMap.2 ⟨fun i _ => List.pairwise_flatMap.2 ⟨fun k _ => List.pairwise_flatMap.2 ⟨fun c _ => ?_, ?_⟩, ?_⟩, ?_⟩
 ·rw [List.pairwise_map]
  exact (zTq b l i c).imp fun h => by simpa [lt4] using h
 ·refine (zK5 l k).imp fun {c c'} h x hx y hy => ?_
  obtain ⟨_, _, rfl⟩ := List.mem_map.1 hx
  obtain ⟨_, _, rfl⟩ := List.mem_map.1 hy
  simp at h; simp [lt4]; omega
 ·refine (zIV _).imp fun {k k'} h x hx y hy => ?_
  obtain ⟨_, _, hx⟩ := List.mem_flatMap.1 hx
  obtain ⟨_, _, hy⟩ := List.mem_flatMap.1 hy
  obtain ⟨_, _, rfl⟩ := List.mem_map.1 hx
  obtain ⟨_, _, rfl⟩ := List.mem_map.1 hy
  simp at h; simp [lt4]; omega
 ·refine (zIV _).imp fun {i i'} h x hx y hy => ?_
  obtain ⟨_, _, hx⟩ := List.mem_flatMap.1 hx
  obtain ⟨_, _, hy⟩ := List.mem_flatMap.1 hy
  obtain ⟨_, _, hx⟩ := List.mem_flatMap.1 hx
  obtain ⟨_, _, hy⟩ := List.mem_flatMap.1 hy
  obtain ⟨_, _, rfl⟩ := List.mem_map.1 hx
  obtain ⟨_, _, rfl⟩ := List.mem_map.1 hy
  simp at h; simp [lt4]; omega
theorem zU2 (b : zM) (l : List zI) : (zVb b l).Nodup := by
 have key : (zVb b l).Pairwise fun x y => x.2.2.1 < y.2.2.1 ∨ (x.2.2.1 = y.2.2.1 ∧ (x.1 < y.1 ∨ (x.1 = y.1 ∧ (x.2.1 < y.2.1 ∨ (x.2.1 = y.2.1 ∧ x.2.2.2 < y.2.2.2))))) := by
  refine List.pairwise_flatMap.2 ⟨fun c _ => List.pairwise_flatMap.2 ⟨fun i _ => List.pairwise_flatMap.2 ⟨fun k _ => ?_, ?_⟩, ?_⟩, ?_⟩
  ·rw [List.pairwise_map]
   exact (zTq b l i c).imp fun h => by simpa using h
  ·refine ((zIV _).filter _).imp fun {k k'} h x hx y hy => ?_
   obtain ⟨_, _, rfl⟩ := List.mem_map.1 hx
   obtain ⟨_, _, rfl⟩ := List.mem_map.1 hy
   simp at h; simp; omega
  ·refine (zIV _).imp fun {i i'} h x hx y hy => ?_
   obtain ⟨_, _, hx⟩ := List.mem_flatMap.1 hx
   obtain ⟨_, _, hy⟩ := List.mem_flatMap.1 hy
   obtain ⟨_, _, rfl⟩ := List.mem_map.1 hx
   obtain ⟨_, _, rfl⟩ := List.mem_map.1 hy
   simp at h; simp; omega
  ·refine (zIV _).imp fun {c c'} h x hx y hy => ?_
   obtain ⟨_, _, hx⟩ := List.mem_flatMap.1 hx
   obtain ⟨_, _, hy⟩ := List.mem_flatMap.1 hy
   obtain ⟨_, _, hx⟩ := List.mem_flatMap.1 hx
   obtain ⟨_, _, hy⟩ := List.mem_flatMap.1 hy
   obtain ⟨_, _, rfl⟩ := List.mem_map.1 hx
   obtain ⟨_, _, rfl⟩ := List.mem_map.1 hy
   simp at h; simp; omega
 exact key.imp fun {x y} h e => by subst e; omega
theorem zQa (b : zM) (l : List zI) (i k c : Int) : (xN b l i k c).length ≤ 3 := by rw [List.length_map]; exact zTp b l i c
theorem zNt (h : l.length ≤ 100) : (zNQ b l).length ≤ 3000000 := by
 have h1 : ∀ i k : Int, ((vW l k).flatMap fun c => xN b l i k c).length ≤ 300 := fun i k => by
  have := zIv (fun c => xN b l i k c) 3 (vW l k) fun c _ => zQa b l i k c
  have := zEe l k
  omega
 have h2 : ∀ i : Int, ((vA l.length).flatMap fun k => (vW l k).flatMap fun c => xN b l i k c).length ≤ 30000 := fun i => by
  have := zIv (fun k => (vW l k).flatMap fun c => xN b l i k c) 300 (vA l.length) fun k _ => h1 i k
  rw [xF] at this
  omega
 have := zIv (fun i => (vA l.length).flatMap fun k => (vW l k).flatMap fun c => xN b l i k c) 30000 (vA l.length) fun i _ => h2 i
 rw [xF] at this
 show ((vA l.length).flatMap _).length ≤ _
 omega
theorem ref_L4 (h : FormB b l) {acc0 : List qU} {i k c : Int} (s3 : (List qU) × Int) (i0 : 0 ≤ i) (i1 : i < l.length) (c0 : 0 ≤ c) (c1 : c < l.length) (acc : List qU) (ha : acc.length < 4294960000) :
  zZ (zDI b l (acc0, i) c (acc0, k) s3) (acc, 1) = some (.inl (acc ++ xN b l i k c, zW (s3.2 + 1))) := by
 have step : ∀ (acc : List qU) (kd : Int), acc.length < 4294967000 → 0 ≤ kd → kd ≤ 3 → zDI b l (acc0, i) c (acc0, k) s3 (acc, kd) = some (.inl (acc ++ (if tN b l i c kd then [(i, k, c, kd)] else []), kd + 1)) := fun acc kd h1 h2 h3 => by
  unfold zDI
  have hd : decide (kd ≤ 3) = true := by simpa using h3
  simp only [hd, if_true, zU3 h i0 i1 c0 c1 kd, zob]
  rw [xJ (by omega) (by omega)]
  cases tN b l i c kd with
  | true =>
   simp only [if_true]
   rw [yJ (by simp; omega)]
   rfl
  | false => simp
 have l1 : ∀ (p : Bool) (x : qU), (if p then [x] else []).length ≤ 1 := fun p x => by cases p <;> simp
 rw [yM, step acc 1 (by omega) (by omega) (by omega)]
 simp only
 rw [yM, step _ (1 + 1) (by have := l1 (tN b l i c 1) (i, k, c, 1); rw [List.length_append]; omega) (by omega) (by omega)]
 simp only
 rw [yM, step _ (1 + 1 + 1) (by have := l1 (tN b l i c 1) (i, k, c, 1); have := l1 (tN b l i c (1 + 1)) (i, k, c, 1 + 1); rw [List.length_append, List.length_append]; omega) (by omega) (by omega)]
 simp only
 rw [yM]
 unfold zDI
 have hd : decide ((1 + 1 + 1 + 1 : Int) ≤ 3) = false := by simp
 simp only [hd, zbf, if_false]
 congr 3
 rw [List.append_assoc, List.append_assoc]
 congr 1
 simp only [xN, zLG, List.filter_cons, List.filter_nil]
 show _ = List.map _ (if tN b l i c 1 then 1 :: (if tN b l i c 2 then 2 :: (if tN b l i c 3 then [3] else []) else (if tN b l i c 3 then [3] else [])) else (if tN b l i c 2 then 2 :: (if tN b l i c 3 then [3] else []) else (if tN b l i c 3 then [3] else [])))
 rw [show (1 + 1 : Int) = 2 from rfl, show (2 + 1 : Int) = 3 from rfl]
 cases tN b l i c 1 <;> cases tN b l i c 2 <;> cases tN b l i c 3 <;> rfl
theorem zUF (h : FormB b l) : zHW b l = some (zNQ b l) := by
 have hl := h.len
 have h1 : ∀ i k : Int, ((vW l k).flatMap fun c => xN b l i k c).length ≤ 300 := fun i k => by
  have := zIv (fun c => xN b l i k c) 3 (vW l k) fun c _ => zQa b l i k c
  have := zEe l k
  omega
 have h2 : ∀ i : Int, ((vA l.length).flatMap fun k => (vW l k).flatMap fun c => xN b l i k c).length ≤ 30000 := fun i => by
  have := zIv (fun k => (vW l k).flatMap fun c => xN b l i k c) 300 (vA l.length) fun k _ => h1 i k
  rw [xF] at this
  omega
 unfold zHW
 refine zGN (B := zFZ l b) (vA l.length) (fun i => (vA l.length).flatMap fun k => (vW l k).flatMap fun c => xN b l i k c) (fun s => s) 30000 (fun i _ => h2 i) [] (fun q i s hi hs => ?_) (fun s => ?_)
 ·obtain ⟨rfl, hq⟩ := zJv hi
  have hd : decide ((q : Int) < len l) = true := by simp [len]; omega
  unfold zFZ
  simp only [hd, if_true]
  refine (zGN (B := zFU l b (s, (q : Int))) (vA l.length) (fun k => (vW l k).flatMap fun c => xN b l (q : Int) k c) (fun r => .inl (r, zW ((q : Int) + 1))) 300 (fun k _ => h1 _ k) s (fun u k s' hk hs' => ?_) (fun s' => ?_)).trans ?_
  ·obtain ⟨rfl, hu⟩ := zJv hk
   have hd : decide ((u : Int) < len l) = true := by simp [len]; omega
   unfold zFU
   simp only [hd, if_true, zRw h.toFormA (show (0 : Int) ≤ u by omega) (by omega), zob]
   simp only [List.length_nil] at hs
   refine (zGN (B := zFP (vW l u) b l (s, (q : Int)) (s', (u : Int))) (vW l u) (fun c => xN b l (q : Int) (u : Int) c) (fun r => .inl (r, zW ((u : Int) + 1))) 3 (fun c _ => zQa b l _ _ c) s' (fun v c s'' hc hs'' => ?_) (fun s'' => ?_)).trans ?_
   ·have hcr := zUv (yT hc)
    have hv := vT hc
    have := zEe l u
    unfold zFP
    simp only [vK hc, if_true, vF hc, zob]
    refine (ref_L4 h (s'', (v : Int)) (by omega) (by omega) hcr.1 hcr.2 s'' (by omega)).trans ?_
    simp only [vG hc (by omega)]
   ·unfold zFP
    simp only [yL, zbf, if_false]
   ·simp only [yA u (by omega)]
  ·unfold zFU
   have hd : decide (((vA l.length).length : Int) < len l) = false := by rw [xF]; exact yL l
   simp only [hd, zbf, if_false]
  ·simp only [yA q (by omega)]
 ·unfold zFZ
  have hd : decide (((vA l.length).length : Int) < len l) = false := by rw [xF]; exact yL l
  simp only [hd, zbf, if_false]
theorem zOs (m : List Int) (x : Int) (hb : m.length < 9223372036854775807) : zBG m x = some (decide (x ∈ m)) := by
 obtain ⟨r, h1, h2⟩ := zQX m x hb
 unfold zBG zDT
 rw [show zZ (zIQ m x) 0 = some r from h1]
 simp only [zob]
 congr 1
 rw [decide_eq_decide, h2]
 simp
theorem zUN (h : FormB b l) : zCy b l = some (zNQ b l) := by
 have hl := h.len
 have h1 : ∀ i c : Int, (((vA l.length).filter fun k => decide (c ∈ vW l k)).flatMap fun k => xN b l i k c).length ≤ 300 := fun i c => by
  have := zIv (fun k => xN b l i k c) 3 ((vA l.length).filter fun k => decide (c ∈ vW l k)) fun k _ => zQa b l i k c
  have := List.length_filter_le (fun k => decide (c ∈ vW l k)) (vA l.length)
  rw [xF] at this
  omega
 have h2 : ∀ c : Int, ((vA l.length).flatMap fun i => ((vA l.length).filter fun k => decide (c ∈ vW l k)).flatMap fun k => xN b l i k c).length ≤ 30000 := fun c => by
  have := zIv (fun i => ((vA l.length).filter fun k => decide (c ∈ vW l k)).flatMap fun k => xN b l i k c) 300 (vA l.length) fun i _ => h1 i c
  rw [xF] at this
  omega
 have hL : zZ (zB1 l b) ([], 0) = some (zVb b l) := by
  refine zGN (B := zB1 l b) (vA l.length) (fun c => (vA l.length).flatMap fun i => ((vA l.length).filter fun k => decide (c ∈ vW l k)).flatMap fun k => xN b l i k c) (fun s => s) 30000 (fun c _ => h2 c) [] (fun q c s hc hs => ?_) (fun s => ?_)
  ·obtain ⟨rfl, hq⟩ := zJv hc
   have hd : decide ((q : Int) < len l) = true := by simp [len]; omega
   simp only [List.length_nil] at hs
   unfold zB1
   simp only [hd, if_true]
   refine (zGN (B := zBr l b (s, (q : Int))) (vA l.length) (fun i => ((vA l.length).filter fun k => decide ((q : Int) ∈ vW l k)).flatMap fun k => xN b l i k (q : Int)) (fun r => .inl (r, zW ((q : Int) + 1))) 300 (fun i _ => h1 i _) s (fun u i s' hi hs' => ?_) (fun s' => ?_)).trans ?_
   ·obtain ⟨rfl, hu⟩ := zJv hi
    have hd : decide ((u : Int) < len l) = true := by simp [len]; omega
    unfold zBr
    simp only [hd, if_true, zX9 h (show (0 : Int) ≤ u by omega) (by omega) (show (0 : Int) ≤ q by omega) (by omega), zob, zZa]
    cases hk : (zLG b l u q).isEmpty with
    | true =>
     have : zLG b l u q = [] := List.isEmpty_iff.1 hk
     have hz : (((vA l.length).filter fun k => decide ((q : Int) ∈ vW l k)).flatMap fun k => xN b l u k (q : Int)) = [] := by
      rw [List.flatMap_eq_nil_iff]
      intro k _
      simp only [xN, this, List.map_nil]
     simp only [if_true, yA u (by omega), hz, List.append_nil]
    | false =>
     simp only [zbf, if_false]
     rw [zPs]
     refine (zGN (B := zBm l (s, (q : Int)) (zLG b l u q) (s', (u : Int))) (vA l.length) (fun k => if decide ((q : Int) ∈ vW l k) then xN b l u k (q : Int) else []) (fun r => .inl (r, zW ((u : Int) + 1))) 3 (fun k _ => by
      split
      ·exact zQa b l _ _ _
      ·simp) s' (fun v k s'' hk2 hs'' => ?_) (fun s'' => ?_)).trans ?_
     ·obtain ⟨rfl, hv⟩ := zJv hk2
      have hd : decide ((v : Int) < len l) = true := by simp [len]; omega
      have hsl := zEe l v
      unfold zBm
      simp only [hd, if_true, zRj h.toFormA (show (0 : Int) ≤ v by omega) (by omega), zob, zOs (vW l v) q (by omega)]
      cases hm : decide ((q : Int) ∈ vW l v) with
      | false => simp only [Bool.not_false, if_true, yA v (by omega), zbf, if_false, List.append_nil]
      | true =>
       simp only [Bool.not_true, zbf, if_false, if_true]
       have hkl := zTp b l u q
       refine (zGN (B := zEc (zLG b l u q) (s', (u : Int)) (s'', (v : Int)) (s, (q : Int))) (zLG b l u q) (fun kd => [((u : Int), (v : Int), (q : Int), kd)]) (fun r => .inl (r, zW ((v : Int) + 1))) 1 (fun _ _ => by simp) s'' (fun w kd s3 hw hs3 => ?_) (fun s3 => ?_)).trans ?_
       ·have := vT hw
        unfold zEc
        simp only [vK hw, if_true, vF hw, zob]
        rw [yJ (by rw [List.length_singleton]; omega)]
        simp only [zob, vG hw (by omega)]
       ·unfold zEc
        simp only [yL, zbf, if_false]
       ·simp only [yA v (by omega), xN, List.map_eq_flatMap]
     ·unfold zBm
      have hd : decide (((vA l.length).length : Int) < len l) = false := by rw [xF]; exact yL l
      simp only [hd, zbf, if_false]
     ·simp only [yA u (by omega)]
   ·unfold zBr
    have hd : decide (((vA l.length).length : Int) < len l) = false := by rw [xF]; exact yL l
    simp only [hd, zbf, if_false]
   ·simp only [yA q (by omega)]
  ·unfold zB1
   have hd : decide (((vA l.length).length : Int) < len l) = false := by rw [xF]; exact yL l
   simp only [hd, zbf, if_false]
 have hPS : (zVb b l).Perm (zNQ b l) := by
  refine (List.perm_ext_iff_of_nodup (zU2 b l) ?_).2 fun y => zXO y
  exact (zSj b l).imp fun {x y} h e => by subst e; rw [z02.irrefl] at h; cases h
 unfold zCy
 rw [hL]
 simp only [zob]
 have hlen := zNt (b := b) hl
 rw [zOx (by rw [hPS.length_eq]; omega)]
 simp only [zob]
 congr 1
 refine List.Perm.eq_of_pairwise (le := fun x y => lt4 y x = false) (fun x y _ _ g1 g2 => ?_) (zMA z02 _) ((zSj b l).imp fun h => z02.asymm h) ((List.mergeSort_perm _ _).trans hPS)
 rcases z02.tri x y with h | h | h
 ·rw [h] at g2; cases g2
 ·exact h
 ·rw [h] at g1; cases g1
noncomputable def zLF (b : zM) (l : List zI) (o : vN) (y : qU) : Bool := y.2.2.2 == 3 || !zP1 b l y.1 y.2.2.1 o
noncomputable def zHv (b : zM) (l : List zI) (o : vN) : List qU := (zNQ b l).filter (zLF b l o)
theorem zQg (h : FormB b l) (o : vN) : zCV b l o = some (zHv b l o) := by
 have hlen := zNt (b := b) h.len
 unfold zCV
 rw [zUN h]
 simp only [zob]
 have hd := zRv (fun x => zBP x b l o) (fun x => x.2.2.2 != 3 && zP1 b l x.1 x.2.2.1 o) (0, 0, 0, 0) (zNQ b l) (by omega) (fun x _ => by
  simp only [zBP]
  cases hx : x.2.2.2 != 3 with
  | true => simp [zXS h]
  | false => simp)
 rw [show zAF (zNQ b l) b l o = zSU (fun x => zBP x b l o) (0, 0, 0, 0) (zNQ b l) from rfl, hd]
 simp only [zob, zHv]
 congr 1
 refine List.filter_congr fun x _ => ?_
 simp only [zLF]
 cases hx : x.2.2.2 == 3 <;> simp [bne, hx]
theorem zPw (h : FormB b l) (o : vN) : zFc b l o = some (zHv b l o) := by
 have hlen := zNt (b := b) h.len
 unfold zFc
 rw [zUF h]
 simp only [zob]
 have hL := zEz (B := zFX (zNQ b l) b l o) (zNQ b l) (fun s x => if zLF b l o x then s ++ [x] else s) (fun s => s) (fun q s => s.length ≤ q) [] (by simp) (fun i x s hx hI => ?_) (fun s hI => ?_)
 ·have e := zFB (zLF b l o) (fun x => x) (zNQ b l) []
  rw [hL.1, e]
  simp [zHv]
 ·have hi := vT hx
  unfold zFX
  have hc : (if x.2.2.2 == 3 then some true else (zID b l x.1 x.2.2.1 o).bind fun r2 => some (!r2)) = some (zLF b l o x) := by
   simp only [zLF, zZB h, zob]
   cases x.2.2.2 == 3 <;> simp
  simp only [vK hx, if_true, vF hx, zob]
  rw [hc]
  simp only [zob]
  cases hd : zLF b l o x with
  | true =>
   simp only [if_true]
   rw [yJ (by simp; omega)]
   exact ⟨by simp only [zob, vG hx (by omega)], by simp; omega⟩
  | false => exact ⟨by simp only [zbf, if_false, vG hx (by omega)], by simp only [zbf, if_false]; omega⟩
 ·unfold zFX
  simp [len]
end
section
section
variable {α ρ : Type}
def zV7 (q : α → Bool) (l : List α) : Int := if l.any q then (l.findIdx q : Int) else -1
theorem zOW {B : Int → Option (Int ⊕ ρ)} (q : α → Bool) (l : List α) (no : ρ) (yes : Int → ρ) (hB : ∀ (i : Nat) x, l[i]? = some x → B (i : Int) = some (if q x then .inr (yes (i : Int)) else .inl ((i + 1 : Nat) : Int))) (he : B (l.length : Int) = some (.inr no)) :
  zZ B 0 = some (if l.any q then yes (zV7 q l) else no) := by
 have key : ∀ (n i : Nat), i + n = l.length → zZ B (i : Int) = some (if (l.drop i).any q then yes ((i + (l.drop i).findIdx q : Nat) : Int) else no) := by
  intro n
  induction n with
  | zero =>
   intro i h
   rw [Nat.add_zero] at h
   subst h
   rw [yM, he, List.drop_length]
   rfl
  | succ n ih =>
   intro i h
   have hx : l[i]? = some l[i] := List.getElem?_eq_getElem (by omega)
   rw [yM, hB i _ hx, List.drop_eq_getElem_cons (by omega)]
   cases hp : q l[i] with
   | true => simp only [if_true, List.any_cons, hp, Bool.true_or, List.findIdx_cons, cond_true, Nat.add_zero]
   | false =>
    simp only [zbf, if_false, List.any_cons, hp, Bool.false_or, List.findIdx_cons, cond_false]
    rw [ih (i + 1) (by omega)]
    rw [show i + 1 + (l.drop (i + 1)).findIdx q = i + ((l.drop (i + 1)).findIdx q + 1) by omega]
 have h := key l.length 0 (by omega)
 simp only [List.drop_zero, Nat.zero_add] at h
 rw [show zZ B 0 = _ from h, zV7]
 cases l.any q <;> rfl
theorem zRq {q : α → Bool} {l : List α} {i : Nat} {x : α} (hx : l[i]? = some x) (hq : q x = true) : 0 ≤ zV7 q l ∧ zV7 q l ≤ i := by
 have ha : l.any q = true := List.any_eq_true.2 ⟨x, yT hx, hq⟩
 rw [zV7, if_pos ha]
 refine ⟨by omega, ?_⟩
 have hi := vT hx
 rw [List.getElem?_eq_getElem hi] at hx
 have hq' : q l[i] = true := by rw [Option.some.inj hx]; exact hq
 have : l.findIdx q ≤ i := by
  refine Nat.le_of_not_lt fun h => ?_
  have := List.not_of_lt_findIdx h
  rw [hq'] at this; simp at this
 omega
theorem zUW {q : α → Bool} {l : List α} (h : 0 ≤ zV7 q l) : ∃ (k : Nat) (x : α), zV7 q l = (k : Int) ∧ l[k]? = some x ∧ q x = true ∧ ∀ j y, j < k → l[j]? = some y → q y = false := by
 unfold zV7 at h ⊢
 split at h
 ·rename_i ha
  rw [if_pos ha]
  obtain ⟨x, hx, hq⟩ := List.any_eq_true.1 ha
  have hlt : l.findIdx q < l.length := List.findIdx_lt_length_of_exists ⟨x, hx, hq⟩
  refine ⟨_, l[l.findIdx q], rfl, List.getElem?_eq_getElem hlt, List.findIdx_getElem, fun j y hj hy => ?_⟩
  have hjl := vT hy
  rw [List.getElem?_eq_getElem hjl] at hy
  have := List.not_of_lt_findIdx hj
  rw [← Option.some.inj hy]
  simpa using this
 ·omega
def tE (e : Nat → α → Int) : Nat → List α → Int
 | _, [] => 0
 | i, x :: r => if e i x != 0 then e i x else tE e (i + 1) r
theorem zKW {B : Int → Option (Int ⊕ ρ)} (l : List α) (e : Nat → α → Int) (yes : Int → ρ) (no : ρ) (hB : ∀ (i : Nat) x, l[i]? = some x → B (i : Int) = some (if e i x != 0 then .inr (yes (e i x)) else .inl ((i + 1 : Nat) : Int))) (he : B (l.length : Int) = some (.inr no)) :
  zZ B 0 = some (if tE e 0 l != 0 then yes (tE e 0 l) else no) := by
 have key : ∀ (n i : Nat), i + n = l.length → zZ B (i : Int) = some (if tE e i (l.drop i) != 0 then yes (tE e i (l.drop i)) else no) := by
  intro n
  induction n with
  | zero =>
   intro i h
   rw [Nat.add_zero] at h
   subst h
   rw [yM, he, List.drop_length]
   rfl
  | succ n ih =>
   intro i h
   have hx : l[i]? = some l[i] := List.getElem?_eq_getElem (by omega)
   rw [yM, hB i _ hx, List.drop_eq_getElem_cons (by omega)]
   simp only [tE]
   by_cases hp : e i l[i] = 0
   ·simp only [hp, bne_self_eq_false, zbf, if_false]; exact ih (i + 1) (by omega)
   ·have hp' : (e i l[i] != 0) = true := by simpa using hp
    simp only [hp', if_true]
 have h := key l.length 0 (by omega)
 simpa using h
theorem zPj {e : Nat → α → Int} : ∀ {l : List α} {k : Nat}, tE e k l = 0 ↔ ∀ (i : Nat) x, l[i]? = some x → e (k + i) x = 0
 | [], k => by simp [tE]
 | x :: r, k => by
  simp only [tE]
  constructor
  ·intro h
   cases hx : e k x != 0 with
   | true => rw [hx] at h; simp only [if_true] at h; rw [h] at hx; simp at hx
   | false =>
    rw [hx] at h
    simp only [zbf, if_false] at h
    intro i y hy
    cases i with
    | zero => simp at hy; subst hy; simpa using hx
    | succ i => rw [show k + (i + 1) = k + 1 + i by omega]; exact zPj.1 h i y (by simpa using hy)
  ·intro h
   have h0 := h 0 x rfl
   rw [Nat.add_zero] at h0
   rw [h0]
   simp only [bne_self_eq_false, zbf, if_false]
   exact zPj.2 fun i y hy => by rw [show k + 1 + i = k + (i + 1) by omega]; exact h (i + 1) y (by simpa using hy)
end
abbrev tP (n : Int) : Bool := decide (0 ≤ n) && decide (n ≤ 9)
def tB (p : vO) : Int :=
 if p.2.1 == 1 || p.2.1 == 2 || p.2.1 == 3 then
  if vName p.1.2 && tP p.2.2.1 && (p.2.1 == 2 || p.2.2.1 == 0) && (p.2.2.2 == [] || vName p.2.2.2) then 0 else 1
 else 4
def zZT : List zN → Bool
 | a :: b :: r => vZ a b && zZT (b :: r)
 | _ => true
def xP (r : qR) : Int :=
 if 4 < r.2.2.2.1.length then 2
 else if vName r.1 && vName r.2.2.2.2.2 && tP r.2.2.1 && (!r.2.1 || r.2.2.1 == 0) && r.2.2.2.1.all (fun x => vName x.2) then (if zZT r.2.2.2.1 then 0 else 8) else 1
def tZ (b : zM) (nm : qC) : Int := zV7 (fun r : qR => r.1 == nm) b.2.1
def zPn (b : zM) (x : zN) : Int := zV7 (fun p : vO => p.1 == x) b.1
def zP3 (b : zM) (p : vH) : Int :=
 if tP p.2.1 && vName p.2.2.2 then (if tZ b p.1 < 0 then 6 else match zF b.2.1 (tZ b p.1) with | some r => if r.2.1 then 4 else 0 | none => 0) else 1
def zJP (b : zM) : Int :=
 if 16 < b.1.length || 24 < b.2.1.length || 8 < b.2.2.length then 2
 else
  let e1 := tE (fun i p => if tB p != 0 then tB p else if zPn b p.1 < (i : Int) then 5 else 0) 0 b.1
  if e1 != 0 then e1 else
  let e2 := tE (fun i r => if xP r != 0 then xP r else if tZ b r.1 < (i : Int) then 5 else 0) 0 b.2.1
  if e2 != 0 then e2 else tE (fun _ p => zP3 b p) 0 b.2.2
theorem zVx (p : vO) : zCK p = some (tB p) := by
 unfold zCK zBk zDH tB
 simp only [zO1, zQZ, zob]
 by_cases k1 : p.2.1 = 1
 ·by_cases h0 : p.2.2.1 = 0
  ·cases vName p.1.2 <;> cases p.2.2.2 == [] <;> cases vName p.2.2.2 <;> simp [k1, h0, yC]
  ·simp [k1, h0, yC]
 ·by_cases k3 : p.2.1 = 3
  ·by_cases h0 : p.2.2.1 = 0
   ·cases vName p.1.2 <;> cases p.2.2.2 == [] <;> cases vName p.2.2.2 <;> simp [k3, h0, yC]
   ·simp [k3, h0, yC]
  ·by_cases k2 : p.2.1 = 2
   ·cases hr : tP p.2.2.1 <;> cases vName p.1.2 <;> cases p.2.2.2 == [] <;> cases vName p.2.2.2 <;> simp [k2, yC, hr]
   ·simp [k1, k2, k3, yC]
theorem zUZ (p : vO) : zHA p = some (tB p) := by
 unfold zHA zFl tB
 simp only [zNp, zKg, zob]
 by_cases k1 : p.2.1 = 1
 ·by_cases h0 : p.2.2.1 = 0
  ·cases vName p.1.2 <;> cases p.2.2.2 == [] <;> cases vName p.2.2.2 <;> simp [k1, h0]
  ·cases hr : tP p.2.2.1 <;> cases hv : vName p.1.2 <;> simp [k1, h0, hr]
 ·by_cases k3 : p.2.1 = 3
  ·by_cases h0 : p.2.2.1 = 0
   ·cases vName p.1.2 <;> cases p.2.2.2 == [] <;> cases vName p.2.2.2 <;> simp [k3, h0]
   ·cases hr : tP p.2.2.1 <;> cases hv : vName p.1.2 <;> simp [k3, h0, hr]
  ·by_cases k2 : p.2.1 = 2
   ·cases hr : tP p.2.2.1 <;> cases vName p.1.2 <;> cases p.2.2.2 == [] <;> cases vName p.2.2.2 <;> simp [k2, hr]
   ·have : (decide (p.2.1 < 1) || decide (3 < p.2.1)) = true := by simp; omega
    simp [k1, k2, k3, this]
theorem zSy {B : Int → Option (Int ⊕ Int)} (l : List zN) (hl : l.length < 4294967296)
  (hB : ∀ (i : Nat) x y, l[i]? = some x → l[i + 1]? = some y → B ((i + 1 : Nat) : Int) = some (if decide (0 ≤ zLH x y) then .inr 8 else .inl ((i + 1 + 1 : Nat) : Int))) (he : ∀ k : Nat, l.length ≤ k → B (k : Int) = some (.inr 0)) :
  zZ B 1 = some (if zZT l then 0 else 8) := by
 have key : ∀ (n i : Nat), i + 1 + n = l.length → zZ B ((i + 1 : Nat) : Int) = some (if zZT (l.drop i) then 0 else 8) := by
  intro n
  induction n with
  | zero =>
   intro i h
   rw [yM, he (i + 1) (by omega), List.drop_eq_getElem_cons (by omega), List.drop_of_length_le (by omega)]
   rfl
  | succ n ih =>
   intro i h
   have hx : l[i]? = some l[i] := List.getElem?_eq_getElem (by omega)
   have hy : l[i + 1]? = some l[i + 1] := List.getElem?_eq_getElem (by omega)
   rw [yM, hB i _ _ hx hy, List.drop_eq_getElem_cons (by omega), List.drop_eq_getElem_cons (by omega)]
   have hc : decide (0 ≤ zLH l[i] l[i + 1]) = !vZ l[i] l[i + 1] := by
    unfold zLH
    cases vZ l[i] l[i + 1] with
    | true => simp
    | false =>
     simp only [zbf, if_false]
     split <;> simp
   rw [hc]
   cases hlt : vZ l[i] l[i + 1] with
   | true =>
    simp only [Bool.not_true, zbf, if_false]
    rw [ih (i + 1) (by omega), List.drop_eq_getElem_cons (show i + 1 < l.length by omega)]
    simp only [zZT, hlt, Bool.true_and]
   | false => simp only [Bool.not_false, if_true, zZT, hlt, Bool.false_and, zbf, if_false]
 match l, hl, hB, he, key with
 | [], _, _, he, _ => rw [yM, show (1 : Int) = ((1 : Nat) : Int) from rfl, he 1 (by simp)]; rfl
 | x :: r, _, _, _, key => exact key r.length 0 (by simp; omega)
theorem z0N (r : qR) : zEH r = some (xP r) := by
 unfold zEH xP
 by_cases h4 : 4 < r.2.2.2.1.length
 ·have : decide (4 < len r.2.2.2.1) = true := by simp [len]; omega
  simp only [this, if_true, h4]
 have hr : r.2.2.2.1.length < 4294967296 := by omega
 have : decide (4 < len r.2.2.2.1) = false := by simp [len]; omega
 simp only [this, zbf, if_false, h4, zQZ, zO1, zBk, zob]
 have hc : (if (!vName r.1) = true then some true else if (!vName r.2.2.2.2.2) = true then some true else if (!(decide (0 ≤ r.2.2.1) && decide (r.2.2.1 ≤ 9))) = true then some true else if r.2.1 = true then some (r.2.2.1 != 0) else some false)
   = some (!(vName r.1 && vName r.2.2.2.2.2 && tP r.2.2.1 && (!r.2.1 || r.2.2.1 == 0))) := by
  cases vName r.1 <;> cases vName r.2.2.2.2.2 <;> cases hk : tP r.2.2.1 <;> cases r.2.1 <;> simp [hk, bne]
 rw [hc]
 simp only [zob]
 cases hg : (vName r.1 && vName r.2.2.2.2.2 && tP r.2.2.1 && (!r.2.1 || r.2.2.1 == 0)) with
 | false => simp
 | true =>
  simp only [Bool.not_true, zbf, if_false, Bool.true_and]
  have h1 := zNh (B := zCE r) r.2.2.2.1 (fun x => !vName x.2) (.inr 1 : Unit ⊕ Int) (.inl ()) (fun i x hx => by
   unfold zCE
   simp only [vK hx, if_true, vF hx, zob, zO1, vG hx hr]
   cases vName x.2 <;> rfl) (by unfold zCE; simp only [yL, zbf, if_false])
  rw [h1]
  have hall : r.2.2.2.1.all (fun x => vName x.2) = !r.2.2.2.1.any (fun x => !vName x.2) := by rw [List.all_eq_not_any_not]
  rw [hall]
  cases r.2.2.2.1.any (fun x => !vName x.2) with
  | true => rfl
  | false =>
   simp only [yC, zob, zbf, if_false, Bool.not_false, if_true]
   refine zSy (B := zFS r) r.2.2.2.1 hr (fun i x y hx hy => ?_) (fun k hk => ?_)
   ·unfold zFS
    have e1 : zW (((i + 1 : Nat) : Int) - 1) = (i : Int) := by have := vT hy; rw [xJ (by omega) (by omega)]; omega
    simp only [vK hy, if_true, vF hy, e1, vF hx, zob, zKw, vG hy hr]
    split <;> rfl
   ·unfold zFS
    have : decide ((k : Int) < len r.2.2.2.1) = false := by simp [len]; omega
    simp only [this, zbf, if_false]
theorem zYU (r : qR) : zJk r = some (xP r) := by
 unfold zJk xP
 by_cases h4 : 4 < r.2.2.2.1.length
 ·have : decide (4 < len r.2.2.2.1) = true := by simp [len]; omega
  simp only [this, if_true, h4]
 have hr : r.2.2.2.1.length < 4294967296 := by omega
 have : decide (4 < len r.2.2.2.1) = false := by simp [len]; omega
 simp only [this, zbf, if_false, h4, zKg, zNp, zFl, zob]
 have hc : (if vName r.1 = true then if (decide (0 ≤ r.2.2.1) && decide (r.2.2.1 ≤ 9)) = true then if (!r.2.1) = true then some (vName r.2.2.2.2.2) else if (r.2.2.1 == 0) = true then some (vName r.2.2.2.2.2) else some false else some false else some false)
   = some (vName r.1 && vName r.2.2.2.2.2 && tP r.2.2.1 && (!r.2.1 || r.2.2.1 == 0)) := by
  cases vName r.1 <;> cases vName r.2.2.2.2.2 <;> cases hk : tP r.2.2.1 <;> cases r.2.1 <;> cases hz : r.2.2.1 == 0 <;> simp [hk]
 rw [hc]
 simp only [zob]
 have h1 := zEz (B := zHJ r) r.2.2.2.1 (fun s x => s && vName x.2) (fun s => s) (fun _ _ => True) (vName r.1 && vName r.2.2.2.2.2 && tP r.2.2.1 && (!r.2.1 || r.2.2.1 == 0)) trivial (fun i x s hx _ => ⟨by
  unfold zHJ
  simp only [vK hx, if_true, vF hx, zob, zNp]
  cases s <;> simp only [zbf, if_false, if_true, zob, vG hx hr, Bool.false_and, Bool.true_and], trivial⟩) (fun s _ => by unfold zHJ; simp only [yL, zbf, if_false])
 rw [h1.1]
 have hf : ∀ (l : List zN) (g : Bool), l.foldl (fun s x => s && vName x.2) g = (g && l.all (fun x => vName x.2)) := by
  intro l
  induction l with
  | nil => intro g; simp
  | cons x l ih => intro g; rw [List.foldl_cons, ih, List.all_cons, Bool.and_assoc]
 rw [hf]
 simp only [zob]
 cases hg : (vName r.1 && vName r.2.2.2.2.2 && tP r.2.2.1 && (!r.2.1 || r.2.2.1 == 0) && r.2.2.2.1.all (fun x => vName x.2)) with
 | false => rfl
 | true =>
  simp only [Bool.not_true, zbf, if_false, if_true]
  refine zSy (B := zHV r) r.2.2.2.1 hr (fun i x y hx hy => ?_) (fun k hk => ?_)
  ·unfold zHV
   have e1 : zW (((i + 1 : Nat) : Int) - 1) = (i : Int) := by have := vT hy; rw [xJ (by omega) (by omega)]; omega
   simp only [vK hy, if_true, vF hy, e1, vF hx, zob, zQm, vG hy hr]
   split <;> rfl
  ·unfold zHV
   have : decide ((k : Int) < len r.2.2.2.1) = false := by simp [len]; omega
   simp only [this, zbf, if_false]
theorem zSX {α : Type} (q : α → Bool) (l : List α) : (if l.any q then zV7 q l else -1) = zV7 q l := by unfold zV7; split <;> rfl
theorem zUp (b : zM) (nm : qC) (h : b.2.1.length < 4294967296) : zJp b nm = some (tZ b nm) := by
 have := zOW (B := zHH b nm) (fun r : qR => r.1 == nm) b.2.1 (-1 : Int) (fun i => i) (fun i x hx => by
  unfold zHH
  simp only [vK hx, if_true, vF hx, zob, vG hx h]
  split <;> rfl) (by unfold zHH; simp only [yL, zbf, if_false])
 rw [zSX] at this
 exact this
theorem zUd (b : zM) (x : zN) (h : b.1.length < 4294967296) : zJR b x = some (zPn b x) := by
 have := zOW (B := zFV b x) (fun r : vO => r.1 == x) b.1 (-1 : Int) (fun i => i) (fun i x hx => by
  unfold zFV
  simp only [vK hx, if_true, vF hx, zob, vG hx h]
  split <;> rfl) (by unfold zFV; simp only [yL, zbf, if_false])
 rw [zSX] at this
 exact this
theorem zXZ (b : zM) (nm : qC) (h : b.2.1.length < 4294967296) : zCe b nm = some (tZ b nm) := by
 have := zOW (B := zAW b.2.1 nm) (fun r : qR => r.1 == nm) b.2.1 (-1 : Int) (fun i => i) (fun i x hx => by
  unfold zAW zHm
  simp only [vK hx, if_true, vF hx, zob, vG hx h]
  split <;> rfl) (by unfold zAW; simp only [yL, zbf, if_false])
 rw [zSX] at this
 unfold zCe zAN
 rw [this]
 rfl
theorem zWB (b : zM) (x : zN) (h : b.1.length < 4294967296) : zCH b x = some (zPn b x) := by
 have := zOW (B := zAK b.1 x) (fun r : vO => r.1 == x) b.1 (-1 : Int) (fun i => i) (fun i x hx => by
  unfold zAK zGM
  simp only [vK hx, if_true, vF hx, zob, vG hx h]
  split <;> rfl) (by unfold zAK; simp only [yL, zbf, if_false])
 rw [zSX] at this
 unfold zCH zAE
 rw [this]
 rfl
theorem zT9 {b : zM} {nm : qC} (h : ¬ tZ b nm < 0) : ∃ r, zF b.2.1 (tZ b nm) = some r := by
 obtain ⟨k, x, h1, h2, _⟩ := zUW (q := fun r : qR => r.1 == nm) (l := b.2.1) (by unfold tZ at h; omega)
 exact ⟨x, by rw [tZ, h1]; exact vF h2⟩
theorem zTo (b : zM) (p : vH) (h : b.2.1.length < 4294967296) : zBd b p = some (zP3 b p) := by
 unfold zBd zP3 zBk
 simp only [zO1, zXZ b p.1 h, zob, tP]
 by_cases hr : (decide (0 ≤ p.2.1) && decide (p.2.1 ≤ 9)) = true
 ·simp only [hr, Bool.true_and, Bool.not_true, zbf, if_false]
  cases hv : vName p.2.2.2 with
  | false => rfl
  | true =>
   simp only [Bool.not_true, zbf, if_false, zob, if_true]
   by_cases hn : tZ b p.1 < 0
   ·simp [hn]
   ·obtain ⟨r, hr2⟩ := zT9 hn
    simp only [hn, decide_false, zbf, if_false, hr2, zob]
    split <;> rfl
 ·rw [Bool.not_eq_true] at hr
  simp only [hr, Bool.false_and, Bool.not_false, if_true, zob, zbf, if_false]
structure Cnt (b : zM) : Prop where
 p : b.1.length < 4294967296
 r : b.2.1.length < 4294967296
 m : b.2.2.length < 4294967296
 q : ∀ r ∈ b.2.1, r.2.2.2.1.length < 4294967296
structure z0O (b : zM) : Prop where
 p : b.1.length < 4294967296
 r : b.2.1.length < 4294967296
 m : b.2.2.length < 4294967296
theorem Cnt.c3 {b : zM} (h : Cnt b) : z0O b := ⟨h.p, h.r, h.m⟩
theorem zOU {b : zM} (h : z0O b) : zEr b = some (zJP b) := by
 unfold zEr zJP
 have h0 : (decide (16 < len b.1) || (decide (24 < len b.2.1) || decide (8 < len b.2.2))) = (decide (16 < b.1.length) || decide (24 < b.2.1.length) || decide (8 < b.2.2.length)) := by
  rw [Bool.eq_iff_iff]; simp [len]; omega
 rw [h0]
 cases hc : (decide (16 < b.1.length) || decide (24 < b.2.1.length) || decide (8 < b.2.2.length)) with
 | true => simp
 | false =>
  simp only [zbf, if_false]
  rw [zKW (B := zEb b) b.1 (fun i p => if tB p != 0 then tB p else if zPn b p.1 < (i : Int) then 5 else 0) (fun e => (.inr e : Unit ⊕ Int)) (.inl ()) (fun i x hx => by
   unfold zEb
   simp only [vK hx, if_true, vF hx, zob, zUZ, zUd b x.1 h.p, vG hx h.p]
   cases hp : tB x != 0 with
   | true => simp only [if_true, hp]
   | false =>
    by_cases hq : zPn b x.1 < (i : Int)
    ·simp [hq]
    ·simp [hq]) (by unfold zEb; simp only [yL, zbf, if_false])]
  cases he : tE (fun i p => if tB p != 0 then tB p else if zPn b p.1 < (i : Int) then 5 else 0) 0 b.1 != 0 with
  | true => simp [yC]
  | false =>
   simp only [zbf, if_false, yC, zob]
   rw [zKW (B := zEQ b) b.2.1 (fun i r => if xP r != 0 then xP r else if tZ b r.1 < (i : Int) then 5 else 0) (fun e => (.inr e : Unit ⊕ Int)) (.inl ()) (fun i x hx => by
    unfold zEQ
    simp only [vK hx, if_true, vF hx, zob, zYU x, zUp b x.1 h.r, vG hx h.r]
    cases hp : xP x != 0 with
    | true => simp only [if_true, hp]
    | false =>
     by_cases hq : tZ b x.1 < (i : Int)
     ·simp [hq]
     ·simp [hq]) (by unfold zEQ; simp only [yL, zbf, if_false])]
   cases he2 : tE (fun i r => if xP r != 0 then xP r else if tZ b r.1 < (i : Int) then 5 else 0) 0 b.2.1 != 0 with
   | true => simp
   | false =>
    simp only [zbf, if_false, zob]
    rw [zKW (B := zEP b) b.2.2 (fun _ p => zP3 b p) (fun e => e) 0 (fun i x hx => by
     unfold zEP zP3 zFl
     simp only [vK hx, if_true, vF hx, zob, zNp, zUp b x.1 h.r, vG hx h.m, tP]
     by_cases hr : (decide (0 ≤ x.2.1) && decide (x.2.1 ≤ 9)) = true
     ·simp only [hr, Bool.true_and, Bool.not_true, zbf, if_false]
      cases hv : vName x.2.2.2 with
      | false => rfl
      | true =>
       simp only [Bool.not_true, zbf, if_false, zob, if_true]
       by_cases hn : tZ b x.1 < 0
       ·simp [hn]
       ·obtain ⟨r, hr2⟩ := zT9 hn
        simp only [hn, decide_false, zbf, if_false, hr2, zob]
        cases r.2.1 <;> simp
     ·rw [Bool.not_eq_true] at hr
      simp only [hr, Bool.false_and, Bool.not_false, if_true, zob, zbf, if_false]
      rfl) (by unfold zEP; simp only [yL, zbf, if_false])]
    cases hz : tE (fun _ p => zP3 b p) 0 b.2.2 != 0 with
    | true => simp
    | false => simp only [zbf, if_false]; congr 1; exact (by simpa using hz : _ = (0 : Int)).symm
theorem zPB {b : zM} (h : z0O b) : zBC b = some (zJP b) := by
 unfold zBC zJP
 have h0 : (decide (16 < len b.1) || (decide (24 < len b.2.1) || decide (8 < len b.2.2))) = (decide (16 < b.1.length) || decide (24 < b.2.1.length) || decide (8 < b.2.2.length)) := by
  rw [Bool.eq_iff_iff]; simp [len]; omega
 rw [h0]
 cases hc : (decide (16 < b.1.length) || decide (24 < b.2.1.length) || decide (8 < b.2.2.length)) with
 | true => simp
 | false =>
  simp only [zbf, if_false]
  rw [zKW (B := zBR b) b.1 (fun i p => if tB p != 0 then tB p else if zPn b p.1 < (i : Int) then 5 else 0) (fun e => (.inr e : Unit ⊕ Int)) (.inl ()) (fun i x hx => by
   unfold zBR
   simp only [vK hx, if_true, vF hx, zob, zVx, zWB b x.1 h.p, vG hx h.p]
   cases hp : tB x != 0 with
   | true => simp only [if_true, hp]
   | false =>
    by_cases hq : zPn b x.1 < (i : Int)
    ·simp [hq]
    ·simp [hq]) (by unfold zBR; simp only [yL, zbf, if_false])]
  cases he : tE (fun i p => if tB p != 0 then tB p else if zPn b p.1 < (i : Int) then 5 else 0) 0 b.1 != 0 with
  | true => simp [yC]
  | false =>
   simp only [zbf, if_false, yC, zob]
   rw [zKW (B := zBU b) b.2.1 (fun i r => if xP r != 0 then xP r else if tZ b r.1 < (i : Int) then 5 else 0) (fun e => (.inr e : Unit ⊕ Int)) (.inl ()) (fun i x hx => by
    unfold zBU
    simp only [vK hx, if_true, vF hx, zob, z0N x, zXZ b x.1 h.r, vG hx h.r]
    cases hp : xP x != 0 with
    | true => simp only [if_true, hp]
    | false =>
     by_cases hq : tZ b x.1 < (i : Int)
     ·simp [hq]
     ·simp [hq]) (by unfold zBU; simp only [yL, zbf, if_false])]
   cases he2 : tE (fun i r => if xP r != 0 then xP r else if tZ b r.1 < (i : Int) then 5 else 0) 0 b.2.1 != 0 with
   | true => simp
   | false =>
    simp only [zbf, if_false, zob]
    rw [zKW (B := zBS b) b.2.2 (fun _ p => zP3 b p) (fun e => e) 0 (fun i x hx => by
     unfold zBS
     simp only [vK hx, if_true, vF hx, zob, zTo b x h.r, vG hx h.m]
     split <;> rfl) (by unfold zBS; simp only [yL, zbf, if_false])]
    cases hz : tE (fun _ p => zP3 b p) 0 b.2.2 != 0 with
    | true => simp
    | false => simp only [zbf, if_false]; congr 1; exact (by simpa using hz : _ = (0 : Int)).symm
theorem zTd {b : zM} (h : Cnt b) : zEr b = some (zJP b) := zOU h.c3
theorem zUf {b : zM} (h : Cnt b) : zBC b = some (zJP b) := zPB h.c3
structure zH8 (b : zM) : Prop where
 np : b.1.length ≤ 16
 nr : b.2.1.length ≤ 24
 nm : b.2.2.length ≤ 8
 prem : ∀ p ∈ b.1, tB p = 0
 rule : ∀ r ∈ b.2.1, xP r = 0
 dp : ∀ (i j : Nat) p q, b.1[i]? = some p → b.1[j]? = some q → p.1 = q.1 → i = j
 dr : ∀ (i j : Nat) p q, b.2.1[i]? = some p → b.2.1[j]? = some q → p.1 = q.1 → i = j
 prom : ∀ p ∈ b.2.2, zP3 b p = 0
theorem zRW {α β : Type} [BEq β] [LawfulBEq β] (g : α → β) (l : List α) : (∀ (i : Nat) p, l[i]? = some p → ¬ zV7 (fun x => g x == g p) l < (i : Int)) ↔ ∀ (i j : Nat) p q, l[i]? = some p → l[j]? = some q → g p = g q → i = j := by
 constructor
 ·intro h i j p q hp hq e
  have h1 := h i p hp
  have h2 := h j q hq
  have h3 := (zRq (q := fun x => g x == g p) hq (by simp [e])).2
  have h4 := (zRq (q := fun x => g x == g q) hp (by simp [e])).2
  rw [e] at h1 h3
  omega
 ·intro h i p hp hlt
  have h1 := zRq (q := fun x => g x == g p) hp (by simp)
  obtain ⟨k, x, e1, e2, e3, _⟩ := zUW h1.1
  have := h k i x p e2 hp (by simpa using e3)
  omega
theorem zHg {b : zM} : zJP b = 0 ↔ zH8 b := by
 have hcnd : ∀ (a c : Int) (p : Prop) [Decidable p], (if a != 0 then a else if p then 5 else 0) = (0 : Int) ↔ a = 0 ∧ ¬ p := fun a c p _ => by
  by_cases ha : a = 0
  ·by_cases hp : p <;> simp [ha, hp]
  ·simp [ha]
 have h1 : tE (fun i p => if tB p != 0 then tB p else if zPn b p.1 < (i : Int) then 5 else 0) 0 b.1 = 0 ↔ (∀ p ∈ b.1, tB p = 0) ∧ ∀ (i j : Nat) p q, b.1[i]? = some p → b.1[j]? = some q → p.1 = q.1 → i = j := by
  rw [zPj, ← zRW (fun p : vO => p.1)]
  simp only [Nat.zero_add, hcnd _ 0]
  exact ⟨fun h => ⟨fun p hp => by obtain ⟨i, hi⟩ := List.mem_iff_getElem?.1 hp; exact (h i p hi).1, fun i p hp => (h i p hp).2⟩, fun h i p hp => ⟨h.1 p (yT hp), h.2 i p hp⟩⟩
 have h2 : tE (fun i r => if xP r != 0 then xP r else if tZ b r.1 < (i : Int) then 5 else 0) 0 b.2.1 = 0 ↔ (∀ p ∈ b.2.1, xP p = 0) ∧ ∀ (i j : Nat) p q, b.2.1[i]? = some p → b.2.1[j]? = some q → p.1 = q.1 → i = j := by
  rw [zPj, ← zRW (fun p : qR => p.1)]
  simp only [Nat.zero_add, hcnd _ 0]
  exact ⟨fun h => ⟨fun p hp => by obtain ⟨i, hi⟩ := List.mem_iff_getElem?.1 hp; exact (h i p hi).1, fun i p hp => (h i p hp).2⟩, fun h i p hp => ⟨h.1 p (yT hp), h.2 i p hp⟩⟩
 have h3 : tE (fun _ p => zP3 b p) 0 b.2.2 = 0 ↔ ∀ p ∈ b.2.2, zP3 b p = 0 := by
  rw [zPj]
  exact ⟨fun h p hp => by obtain ⟨i, hi⟩ := List.mem_iff_getElem?.1 hp; exact h i p hi, fun h i p hp => h p (yT hp)⟩
 unfold zJP
 cases hc : (decide (16 < b.1.length) || decide (24 < b.2.1.length) || decide (8 < b.2.2.length)) with
 | true =>
  simp only [if_true]
  refine ⟨fun h => (by cases h), fun h => ?_⟩
  simp at hc
  have := h.np; have := h.nr; have := h.nm
  omega
 | false =>
  simp at hc
  simp only [zbf, if_false]
  constructor
  ·intro h
   have e1 : tE (fun i p => if tB p != 0 then tB p else if zPn b p.1 < (i : Int) then 5 else 0) 0 b.1 = 0 := by
    refine Decidable.byContradiction fun hn => ?_
    rw [if_pos (by simpa using hn)] at h
    exact hn h
   rw [if_neg (by rw [e1]; simp)] at h
   have e2 : tE (fun i r => if xP r != 0 then xP r else if tZ b r.1 < (i : Int) then 5 else 0) 0 b.2.1 = 0 := by
    refine Decidable.byContradiction fun hn => ?_
    rw [if_pos (by simpa using hn)] at h
    exact hn h
   rw [if_neg (by rw [e2]; simp)] at h
   exact ⟨by omega, by omega, by omega, (h1.1 e1).1, (h2.1 e2).1, (h1.1 e1).2, (h2.1 e2).2, h3.1 h⟩
  ·intro h
   rw [if_neg (by rw [h1.2 ⟨h.prem, h.dp⟩]; simp), if_neg (by rw [h2.2 ⟨h.rule, h.dr⟩]; simp)]
   exact h3.2 h.prom
end
section
variable {b : zM} {l m : List zI}
structure FormC (b : zM) (l : List zI) : Prop extends FormB b l where
 l41 : l.length ≤ 41
 pr : ∀ (i : Nat) a p, l[i]? = some a → 0 ≤ a.1 → zF b.1 a.1 = some p → a.2.2.2 = p.1 ∧ a.2.2.1 = []
 ru : ∀ (i : Nat) a r, l[i]? = some a → 0 ≤ a.2.1 → zF b.2.1 a.2.1 = some r → a.2.2.2 = r.2.2.2.2 ∧ a.2.2.1.length = r.2.2.2.1.length ∧ ∀ (j : Nat) k y, a.2.2.1[j]? = some k → r.2.2.2.1[j]? = some y → ∃ a', zF l k = some a' ∧ a'.2.2.2 = y
structure zY6 (b : zM) (l : List zI) (a : zI) : Prop where
 p : a.1 = -1
 r : ∃ q, zF b.2.1 a.2.1 = some q ∧ a.2.2.2 = q.2.2.2.2 ∧ a.2.2.1.length = q.2.2.2.1.length ∧ a.2.2.1.length ≤ 100 ∧ ∀ (j : Nat) k y, a.2.2.1[j]? = some k → q.2.2.2.1[j]? = some y → ∃ a', zF l k = some a' ∧ a'.2.2.2 = y
theorem zVE {α : Type} {l : List α} {i : Int} {x : α} (h : zF l i = some x) : 0 ≤ i ∧ i < l.length := by
 obtain ⟨n, rfl, hn⟩ := zMu h
 exact ⟨by omega, by have := vT hn; omega⟩
theorem zO3 {α : Type} {l m : List α} {i : Int} {x : α} (h : zF l i = some x) : zF (l ++ m) i = some x := by
 obtain ⟨n, rfl, hn⟩ := zMu h
 rw [uC, List.getElem?_append_left (vT hn)]
 exact hn
theorem zIn {α : Type} {l m : List α} {i : Int} (h1 : i < l.length) : zF (l ++ m) i = zF l i := by
 unfold zF
 split
 ·rw [List.getElem?_append_left (by omega)]
 ·rfl
theorem zY6.sub {a : zI} (h : zY6 b l a) : ∀ k ∈ a.2.2.1, 0 ≤ k ∧ k < l.length := by
 intro k hk
 obtain ⟨q, _, _, h3, _, h5⟩ := h.r
 obtain ⟨j, hj⟩ := List.mem_iff_getElem?.1 hk
 have hjl := vT hj
 obtain ⟨a', h6, _⟩ := h5 j k _ hj (List.getElem?_eq_getElem (by omega))
 exact zVE h6
theorem zY6.more {a : zI} (h : zY6 b l a) : zY6 b (l ++ m) a := by
 obtain ⟨q, h1, h2, h3, h4, h5⟩ := h.r
 exact ⟨h.p, q, h1, h2, h3, h4, fun j k y hk hy => by obtain ⟨a', h6, h7⟩ := h5 j k y hk hy; exact ⟨a', zO3 h6, h7⟩⟩
theorem FormC.app (h : FormC b l) (hm : ∀ a ∈ m, zY6 b l a) (hl : l.length + m.length ≤ 41) : FormC b (l ++ m) := by
 have hlen : (l ++ m).length ≤ 41 := by rw [List.length_append]; exact hl
 have key : ∀ (i : Nat) a, (l ++ m)[i]? = some a → (l[i]? = some a ∧ i < l.length) ∨ (l.length ≤ i ∧ a ∈ m) := fun i a ha => by
  by_cases hi : i < l.length
  ·rw [List.getElem?_append_left hi] at ha; exact .inl ⟨ha, hi⟩
  ·rw [List.getElem?_append_right (by omega)] at ha; exact .inr ⟨by omega, yT ha⟩
 refine ⟨⟨⟨by omega, fun a ha => ?_, fun i a ha k hk => ?_⟩, h.np, h.nr, fun i a ha => ?_⟩, hlen, fun i a p ha h0 hp => ?_, fun i a r ha h0 hr => ?_⟩
 ·rcases List.mem_append.1 ha with ha | ha
  ·exact h.nsub a ha
  ·obtain ⟨q, _, _, _, h4, _⟩ := (hm a ha).r; exact h4
 ·rcases key i a ha with ⟨h1, _⟩ | ⟨h1, h2⟩
  ·exact h.sub i a h1 k hk
  ·have := (hm a h2).sub k hk; omega
 ·rcases key i a ha with ⟨h1, _⟩ | ⟨h1, h2⟩
  ·exact h.kind i a h1
  ·obtain ⟨q, h3, _⟩ := (hm a h2).r
   have := zVE h3
   exact .inr ⟨(hm a h2).p, this⟩
 ·rcases key i a ha with ⟨h1, _⟩ | ⟨h1, h2⟩
  ·exact h.pr i a p h1 h0 hp
  ·rw [(hm a h2).p] at h0; omega
 ·rcases key i a ha with ⟨h1, _⟩ | ⟨h1, h2⟩
  ·obtain ⟨g1, g2, g3⟩ := h.ru i a r h1 h0 hr
   exact ⟨g1, g2, fun j k y hk hy => by obtain ⟨a', h6, h7⟩ := g3 j k y hk hy; exact ⟨a', zO3 h6, h7⟩⟩
  ·obtain ⟨q, g1, g2, g3, _, g5⟩ := (hm a h2).r
   rw [hr] at g1
   cases g1
   exact ⟨g2, g3, fun j k y hk hy => by obtain ⟨a', h6, h7⟩ := g5 j k y hk hy; exact ⟨a', zO3 h6, h7⟩⟩
theorem zZ7 (h : FormA l) {i j : Int} (h0 : 0 ≤ i) (h1 : i < l.length) : zKe (l ++ m) i j ↔ zKe l i j := by
 constructor
 ·intro hs
  induction hs with
  | self i => exact .self i
  | step hi hk _ ih =>
   rw [zIn h1] at hi
   have := (h.at hi).2.2.2 _ hk
   exact .step hi hk (ih this.1 (by omega))
 ·intro hs
  clear h0 h1
  induction hs with
  | self i => exact .self i
  | step hi hk _ ih => exact .step (zO3 hi) hk ih
theorem zYd (h : FormA l) (h' : FormA (l ++ m)) {i : Int} (h0 : 0 ≤ i) (h1 : i < l.length) : vW (l ++ m) i = vW l i := by
 refine yB.ext xI (zK5 _ i) (zK5 _ i) fun j => ?_
 rw [zIR h h0 h1, zIR h' h0 (by rw [List.length_append]; omega), zZ7 h h0 h1]
theorem zYv (h : FormC b l) (h' : FormC b (l ++ m)) {i : Int} (h0 : 0 ≤ i) (h1 : i < l.length) : uG b (l ++ m) i = uG b l i := by
 refine yB.ext xI (zUi _) (zUi _) fun y => ?_
 rw [zNy h.toFormB h0 h1, zNy h'.toFormB h0 (by rw [List.length_append]; omega), zYd h.toFormA h'.toFormA h0 h1]
 refine exists_congr fun j => and_congr_right fun hj => ?_
 have := ((zIR h.toFormA h0 h1 j).1 hj).le h.toFormA h0
 rw [zIn (by omega)]
inductive zL5 (b : zM) (l : List zI) : Int → zN → Prop
 | here {i : Int} {a : zI} : zF l i = some a → zL5 b l i a.2.2.2
 | step {i k : Int} {a : zI} {r : qR} {y : zN} : zF l i = some a → 0 ≤ a.2.1 → zF b.2.1 a.2.1 = some r → r.2.1 = true → k ∈ a.2.2.1 → zL5 b l k y → zL5 b l i y
theorem zZd (h : FormA l) {i : Int} {y : zN} (h0 : 0 ≤ i) (h1 : i < l.length) : zL5 b (l ++ m) i y ↔ zL5 b l i y := by
 constructor
 ·intro hs
  induction hs with
  | here hi => rw [zIn h1] at hi; exact .here hi
  | step hi hr hq hs hk _ ih =>
   rw [zIn h1] at hi
   have := (h.at hi).2.2.2 _ hk
   exact .step hi hr hq hs hk (ih this.1 (by omega))
 ·intro hs
  clear h0 h1
  induction hs with
  | here hi => exact .here (zO3 hi)
  | step hi hr hq hs hk _ ih => exact .step (zO3 hi) hr hq hs hk ih
structure z0H (b : zM) (l : List zI) : Prop where
 ref : ∀ i : Int, 0 ≤ i → i < l.length → ∃ r, zHi b l i = some r ∧ r.length < 4294967296 ∧ ∀ y, y ∈ r ↔ zL5 b l i y
structure zZp (b : zM) (l : List zI) : Prop where
 arg : ∀ i : Int, 0 ≤ i → i < l.length → ∃ r, zDV b l i = some r ∧ r.length < 4294967296 ∧ ∀ y, y ∈ r ↔ zL5 b l i y
structure zWs (b : zM) (l : List zI) (sz : Int → Nat) : Prop where
 one : ∀ i, 1 ≤ sz i
 big : ∀ i : Int, 0 ≤ i → i < l.length → sz i < 4294967296
 step : ∀ i a r, zF l i = some a → 0 ≤ a.2.1 → zF b.2.1 a.2.1 = some r → r.2.1 = true → 1 + (a.2.2.1.map sz).sum ≤ sz i
theorem zUX (f : Int → Nat) (l : List Int) (q : Nat) : ((l.take q).map f).sum ≤ (l.map f).sum := by
 have h := congrArg (fun x => (x.map f).sum) (List.take_append_drop q l)
 simp only [List.map_append, List.sum_append] at h
 omega
theorem zYI {sz : Int → Nat} (h : FormB b l) (hz : zWs b l sz) : ∀ (n : Nat) (i : Int), 0 ≤ i → i < l.length → i < n → ∃ r, zAv n b l i = some r ∧ r.length ≤ sz i ∧ ∀ y, y ∈ r ↔ zL5 b l i y := by
 intro n
 induction n with
 | zero => intro i h0 _ h2; omega
 | succ n ih =>
  intro i h0 h1 h2
  obtain ⟨a, ha⟩ := tQ h0 h1
  obtain ⟨hn, _, _, hsub⟩ := h.toFormA.at ha
  have h1z := hz.one i
  show ∃ r, zE1 (zAv n) b l i = some r ∧ _
  unfold zE1
  simp only [ha, zob]
  have hone : ∀ (hno : ∀ r, 0 ≤ a.2.1 → zF b.2.1 a.2.1 = some r → r.2.1 = false) y, y ∈ [a.2.2.2] ↔ zL5 b l i y := fun hno y => by
   rw [List.mem_singleton]
   constructor
   ·rintro rfl; exact .here ha
   ·intro hr
    cases hr with
    | here h1 => rw [ha] at h1; cases h1; rfl
    | step h1 h2 h3 h4 _ _ => rw [ha] at h1; cases h1; rw [hno _ h2 h3] at h4; cases h4
  by_cases hr : 0 ≤ a.2.1
  ·obtain ⟨r, hr2⟩ := (h.prem ha).2.1 ((h.prem ha).2.2.1 hr)
   simp only [hr, decide_true, if_true, hr2, zob]
   cases hs : r.2.1 with
   | false =>
    exact ⟨_, rfl, by simpa using h1z, hone fun r' _ h3 => by rw [hr2] at h3; cases h3; exact hs⟩
   | true =>
    simp only [if_true]
    have hst := hz.step i a r ha hr hr2 hs
    have hbig := hz.big i h0 h1
    refine (yW (B := zDX l i (zAv n) b) (fun q (s : List zN) => (s, (q : Int))) a.2.2.1 (fun q s => s.length ≤ 1 + ((a.2.2.1.take q).map sz).sum ∧ ∀ y, y ∈ s ↔ y = a.2.2.2 ∨ ∃ k ∈ a.2.2.1.take q, zL5 b l k y)
     (fun r => r.length ≤ sz i ∧ ∀ y, y ∈ r ↔ zL5 b l i y) (fun q k s hk hI => ?_) (fun s hI => ?_) [a.2.2.2] (by simp))
    ·obtain ⟨g1, g2⟩ := hI
     have hks := hsub k (yT hk)
     obtain ⟨r1, e1, e2, e3⟩ := ih k hks.1 (by omega) (by omega)
     have hq := zUX sz a.2.2.1 (q + 1)
     rw [uX hk, List.map_append, List.sum_append] at hq
     simp only [List.map_cons, List.map_nil, List.sum_cons, List.sum_nil] at hq
     refine .inl ⟨s ++ r1, ?_, ?_, fun y => ?_⟩
     ·unfold zDX
      simp only [ha, zob, vK hk, if_true, vF hk, e1]
      rw [yJ (by omega)]
      simp only [zob, vG hk (show a.2.2.1.length < 4294967296 by omega)]
     ·rw [uX hk, List.map_append, List.sum_append, List.length_append]
      simp only [List.map_cons, List.map_nil, List.sum_cons, List.sum_nil]
      omega
     ·rw [List.mem_append, g2, e3, uX hk]
      simp only [List.mem_append, List.mem_singleton, or_and_right, exists_or, exists_eq_left, or_assoc]
    ·obtain ⟨g1, g2⟩ := hI
     rw [List.take_length] at g1 g2
     refine ⟨s, by unfold zDX; simp only [ha, zob, yL, zbf, if_false], by omega, fun y => ?_⟩
     rw [g2]
     constructor
     ·rintro (rfl | ⟨k, h1, h2⟩)
      ·exact .here ha
      ·exact .step ha hr hr2 hs h1 h2
     ·intro hrun
      cases hrun with
      | here h1 => rw [ha] at h1; cases h1; exact .inl rfl
      | step h1 _ _ _ h5 h6 => rw [ha] at h1; cases h1; exact .inr ⟨_, h5, h6⟩
  ·simp only [hr, decide_false, zbf, if_false, zob]
   exact ⟨_, rfl, by simpa using h1z, hone fun r' h2 _ => absurd h2 hr⟩
theorem zTL {n n' : Nat} (b : zM) (l : List zI) : n ≤ n' → ∀ i r, zAv n b l i = some r → zAv n' b l i = some r := by
 intro hn i r h
 have key : ∀ n n', n ≤ n' → ∀ i r, zAv n b l i = some r → zAv n' b l i = some r := by
  intro n
  induction n with
  | zero => intro n' _ i r h; cases h
  | succ n ih =>
   intro n' hn i r h
   obtain ⟨n', rfl⟩ : ∃ q, n' = q + 1 := ⟨n' - 1, by omega⟩
   have hle : Le (zE1 (zAv n) b l i) (zE1 (zAv n') b l i) := by
    have hrec : ∀ x, Le (zAv n b l x) (zAv n' b l x) := fun x => ⟨fun r hr => ih n' (by omega) x r hr⟩
    unfold zE1
    refine Le.bind (Le.refl _) fun x1 => Le.bind (Le.refl _) fun s1 => ?_
    refine Le.ite ?_ (Le.refl _)
    refine ⟨fun r hr => ?_⟩
    obtain ⟨q, hq⟩ := zGo hr
    refine (Le.lp (B := zDX l i (zAv n) b) (fun s => ?_) q _).el r hq
    unfold zDX
    refine Le.bind (Le.refl _) fun x5 => ?_
    refine Le.ite ?_ (Le.refl _)
    refine Le.bind (Le.refl _) fun x6 => Le.bind (Le.refl _) fun x7 => Le.bind (hrec _) fun r1 => Le.refl _
   exact hle.el r h
 exact key n n' hn i r h
theorem zWp {sz : Int → Nat} (h : FormB b l) (hz : zWs b l sz) {i : Int} (h0 : 0 ≤ i) (h1 : i < l.length) : ∃ r, zHi b l i = some r ∧ r.length < 4294967296 ∧ ∀ y, y ∈ r ↔ zL5 b l i y := by
 obtain ⟨r, e1, e2, e3⟩ := zYI h hz (i.toNat + 1) i h0 h1 (by omega)
 have := hz.big i h0 h1
 exact ⟨r, zM0 (i.toNat + 1) fun m hm => zTL b l hm i r e1, by omega, e3⟩
theorem zSh (b : zM) (l : List zI) (_h : FormB b l) : ∀ (n : Nat) (i : Int), zBs n b l i = zAv n b l i := by
 intro n
 induction n with
 | zero => intro i; rfl
 | succ n ih =>
  intro i
  have hrec : zBs n = zBs n := rfl
  show zFG (zBs n) b l i = zE1 (zAv n) b l i
  unfold zFG zE1
  cases ha : zF l i with
  | none => rfl
  | some a =>
   simp only [zob]
   congr 1
   funext s1
   split
   ·congr 1
    funext s
    unfold zFx zDX
    simp only [ha, zob, ih]
   ·rfl
theorem z0K (h : FormB b l) (i : Int) : zDV b l i = zHi b l i := by
 unfold zDV zHi
 congr 1
 funext k
 exact zSh b l h k i
theorem runsB {sz : Int → Nat} (h : FormB b l) (hz : zWs b l sz) : z0H b l :=
 ⟨fun _ h0 h1 => zWp h hz h0 h1⟩
theorem z0Y {sz : Int → Nat} (h : FormB b l) (hz : zWs b l sz) : zZp b l :=
 ⟨fun _ h0 h1 => by rw [z0K h]; exact zWp h hz h0 h1⟩
open Classical in
noncomputable def zYP (b : zM) (l : List zI) (q : Int) (r : qR) (k : Int) : Bool := if r.2.1 then decide (zL5 b l k r.2.2.2.2) else decide (q ∈ uG b l k)
noncomputable def xS (b : zM) (l : List zI) (q : Int) (r : qR) (subs : List Int) : Bool := !subs.any (zYP b l q r)
theorem zKf (h : FormC b l) (h' : FormC b (l ++ m)) {q : Int} {r : qR} {subs : List Int} (hs : ∀ k ∈ subs, 0 ≤ k ∧ k < l.length) : xS b (l ++ m) q r subs = xS b l q r subs := by
 unfold xS
 congr 1
 rw [Bool.eq_iff_iff, List.any_eq_true, List.any_eq_true]
 refine exists_congr fun k => and_congr_right fun hk => ?_
 have := hs k hk
 unfold zYP
 rw [zYv h h' this.1 this.2]
 split
 ·simp only [decide_eq_true_eq]; exact zZd h.toFormA this.1 this.2
 ·exact Iff.rfl
theorem ref_in (m : List Int) (x : Int) (hb : m.length < 4294967296) : zMa m x = some (decide (x ∈ m)) := by
 have h := zSK (B := zIh m x) m (fun y => y == x) (fun i y hy => by
  unfold zIh
  simp only [vK hy, if_true, vF hy, zob, vG hy hb]
  split <;> rfl) (by unfold zIh; simp only [yL, zbf, if_false])
 refine h.trans ?_
 congr 1
 rw [Bool.eq_iff_iff]
 simp
theorem zVd (h : FormC b l) (hr : z0H b l) {q : Int} {r : qR} {subs : List Int} (hq : zF b.2.1 q = some r) (hs : ∀ k ∈ subs, 0 ≤ k ∧ k < l.length) (hn : subs.length < 4294967296) : zFH b l q subs = some (xS b l q r subs) := by
 have hl := h.len
 unfold zFH
 simp only [hq, zob]
 have hL := zNh (B := zGA subs r b l q) subs (zYP b l q r) false true (fun i k hk => ?_) (by unfold zGA; simp only [yL, zbf, if_false])
 ·rw [hL]
  unfold xS
  cases subs.any (zYP b l q r) <;> rfl
 ·have hks := hs k (yT hk)
  unfold zGA
  simp only [vK hk, if_true, vF hk, zob, vG hk hn]
  unfold zYP
  cases hst : r.2.1 with
  | true =>
   obtain ⟨ru, e1, e2, e3⟩ := hr.ref k hks.1 hks.2
   simp only [if_true, e1, zob, zXz r.2.2.2.2 (show ru.length < 9223372036854775807 by omega), Bool.not_true, zbf, if_false]
   by_cases hm : zL5 b l k r.2.2.2.2
   ·simp [(e3 _).2 hm, hm]
   ·have : ¬ r.2.2.2.2 ∈ ru := fun hc => hm ((e3 _).1 hc)
    simp [this, hm]
  | false =>
   have hd := zIO b l k
   simp only [zbf, if_false, Bool.not_false, if_true, zMt h.toFormB hks.1 hks.2, zob, ref_in (uG b l k) q (by omega)]
   by_cases hm : q ∈ uG b l k <;> simp [hm]
theorem zWV (h : FormC b l) (hr : zZp b l) {q : Int} {r : qR} {subs : List Int} (hq : zF b.2.1 q = some r) (hs : ∀ k ∈ subs, 0 ≤ k ∧ k < l.length) (hn : subs.length < 4294967296) : zBo b l q subs = some (xS b l q r subs) := by
 have hl := h.len
 unfold zBo
 have hL := zNh (B := zBc subs b q l) subs (zYP b l q r) false true (fun i k hk => ?_) (by unfold zBc; simp only [yL, zbf, if_false])
 ·rw [hL]
  unfold xS
  cases subs.any (zYP b l q r) <;> rfl
 ·have hks := hs k (yT hk)
  unfold zBc
  simp only [vK hk, if_true, vF hk, zob, vG hk hn, hq]
  unfold zYP
  cases hst : r.2.1 with
  | true =>
   obtain ⟨ru, e1, e2, e3⟩ := hr.arg k hks.1 hks.2
   simp only [if_true, e1, zob, zXx r.2.2.2.2 (show ru.length < 9223372036854775807 by omega)]
   by_cases hm : zL5 b l k r.2.2.2.2
   ·simp [(e3 _).2 hm, hm]
   ·have : ¬ r.2.2.2.2 ∈ ru := fun hc => hm ((e3 _).1 hc)
    simp [this, hm]
  | false =>
   have hd := zIO b l k
   simp only [zbf, if_false, zMv h.toFormB hks.1 hks.2, zob, zOs (uG b l k) q (by omega)]
   by_cases hm : q ∈ uG b l k <;> simp [hm]
def xQ (l : List zI) (n : Nat) : List zN → List Int → List (List Int)
 | [], sofar => [sofar]
 | y :: ys, sofar => (vA n).flatMap fun i => match zF l i with
  | some a => if a.2.2.2 == y then xQ l n ys (sofar ++ [i]) else []
  | none => []
theorem zSG (l : List zI) (n : Nat) : ∀ (ys : List zN) (sofar : List Int), (xQ l n ys sofar).length ≤ n ^ ys.length
 | [], sofar => by simp [xQ]
 | y :: ys, sofar => by
  have := zIv (fun i => match zF l i with | some a => if a.2.2.2 == y then xQ l n ys (sofar ++ [i]) else [] | none => []) (n ^ ys.length) (vA n) (fun i _ => by
   split
   ·split
    ·exact zSG l n ys _
    ·simp
   ·simp)
  rw [xF] at this
  simp only [xQ, List.length_cons, Nat.pow_succ]
  rw [Nat.mul_comm]; exact this
theorem zN1 (l : List zI) (n : Nat) : ∀ (ys : List zN) (sofar s : List Int), s ∈ xQ l n ys sofar ↔ ∃ t, s = sofar ++ t ∧ t.length = ys.length ∧ ∀ (j : Nat) k y, t[j]? = some k → ys[j]? = some y → 0 ≤ k ∧ k < n ∧ ∃ a, zF l k = some a ∧ a.2.2.2 = y
 | [], sofar, s => by
  simp only [xQ, List.mem_singleton]
  constructor
  ·rintro rfl; exact ⟨[], by simp, rfl, fun j k y h _ => by simp at h⟩
  ·rintro ⟨t, rfl, h2, _⟩; have := List.eq_nil_of_length_eq_zero h2; subst this; simp
 | y :: ys, sofar, s => by
  simp only [xQ, List.mem_flatMap, xH]
  constructor
  ·rintro ⟨i, hi, hs⟩
   split at hs
   ·rename_i a ha
    split at hs
    ·rename_i hc
     obtain ⟨t, h1, h2, h3⟩ := (zN1 l n ys _ s).1 hs
     refine ⟨i :: t, by rw [h1]; simp, by simp [h2], fun j k z hk hz => ?_⟩
     cases j with
     | zero =>
      simp at hk hz
      subst hk hz
      exact ⟨hi.1, hi.2, a, ha, by simpa using hc⟩
     | succ j => exact h3 j k z (by simpa using hk) (by simpa using hz)
    ·cases hs
   ·cases hs
  ·rintro ⟨t, h1, h2, h3⟩
   cases t with
   | nil => simp at h2
   | cons i t =>
    obtain ⟨i0, i1, a, ha, hay⟩ := h3 0 i y rfl rfl
    refine ⟨i, ⟨i0, i1⟩, ?_⟩
    simp only [ha]
    rw [if_pos (by simp [hay])]
    exact (zN1 l n ys _ s).2 ⟨t, by rw [h1]; simp, by simpa using h2, fun j k z hk hz => h3 (j + 1) k z (by simpa using hk) (by simpa using hz)⟩
theorem zRm {k : Nat} (hl : l.length ≤ 100) {n : Nat} (hn : n ≤ l.length) (body : List zN) (hb : body.length ≤ 4) : ∀ (ys : List zN) (sofar : List Int), ys = body.drop sofar.length → sofar.length ≤ body.length → ys.length < k → zBp k l (n : Int) body sofar = some (xQ l n ys sofar) := by
 induction k with
 | zero => intro ys _ _ _ h; omega
 | succ k ih =>
  intro ys sofar hys hle hk
  show zFu (zBp k) l n body sofar = _
  unfold zFu
  have hyl : ys.length = body.length - sofar.length := by rw [hys, List.length_drop]
  cases ys with
  | nil =>
   have : (len sofar == len body) = true := by simp [len] at hyl ⊢; omega
   simp only [this, if_true]
   rw [yJ (by simp; omega)]
   rfl
  | cons y ys =>
   have hlt : sofar.length < body.length := by simp at hyl; omega
   have : (len sofar == len body) = false := by rw [beq_eq_false_iff_ne]; simp [len]; omega
   simp only [this, zbf, if_false]
   have hy : body[sofar.length]? = some y := by
    have := congrArg (·[0]?) hys
    simp only [List.getElem?_cons_zero, List.getElem?_drop, Nat.add_zero] at this
    exact this.symm
   have hys2 : ys = body.drop (sofar.length + 1) := by
    have := congrArg List.tail hys
    simpa [List.tail_drop] using this
   have hpow : n ^ ys.length ≤ 1000000 := by
    have h1 : ys.length ≤ 3 := by simp at hyl; omega
    calc n ^ ys.length ≤ 100 ^ ys.length := Nat.pow_le_pow_left (by omega) _
     _ ≤ 100 ^ 3 := Nat.pow_le_pow_right (by omega) h1
   refine (zGN (B := zDh n l body sofar (zBp k)) (vA n) (fun i => match zF l i with | some a => if a.2.2.2 == y then xQ l n ys (sofar ++ [i]) else [] | none => []) (fun s => s) 1000000 (fun i _ => by
    split
    ·split
     ·exact Nat.le_trans (zSG l n ys _) hpow
     ·simp
    ·simp) [] (fun q i s hi hs => ?_) (fun s => ?_))
   ·obtain ⟨rfl, hq⟩ := zJv hi
    obtain ⟨a, ha⟩ := tQ (l := l) (show (0 : Int) ≤ q by omega) (by omega)
    have hd : decide ((q : Int) < (n : Int)) = true := by simp; omega
    have hw : zW ((q : Int) + 1) = ((q + 1 : Nat) : Int) := yA q (by omega)
    unfold zDh
    simp only [hd, if_true, ha, zob, show zF body (len sofar) = some y from by rw [show len sofar = ((sofar.length : Nat) : Int) from rfl, uC]; exact hy]
    cases hc : a.2.2.2 == y with
    | false => simp only [zbf, if_false, List.append_nil, hw]
    | true =>
     simp only [if_true]
     rw [zLl (by simp [len]) (by simp [len])]
     simp only [zob, len, Int.toNat_natCast, List.take_length]
     rw [yJ (by simp; omega)]
     simp only [zob]
     have hcl := Nat.le_trans (zSG l n ys (sofar ++ [(q : Int)])) hpow
     rw [ih ys (sofar ++ [(q : Int)]) (by simpa using hys2) (by simp; omega) (by simp at hk; omega)]
     simp only [zob]
     simp only [List.length_nil] at hs
     rw [yJ (by omega)]
     simp only [zob, hw]
   ·unfold zDh
    have hd : decide (((vA n).length : Int) < (n : Int)) = false := by rw [xF]; simp
    simp only [hd, zbf, if_false]
theorem zUV (hl : l.length ≤ 100) {n : Nat} (hn : n ≤ l.length) (body : List zN) (hb : body.length ≤ 4) : zHd l (n : Int) body [] = some (xQ l n body []) :=
 zM0 5 fun k hk => zRm hl hn body hb body [] (by simp) (by simp) (by omega)
theorem zW9 {n : Nat} (hn : n ≤ l.length) : ∀ (ys : List zN) (sofar : List Int), xQ (l ++ m) n ys sofar = xQ l n ys sofar
 | [], _ => rfl
 | y :: ys, sofar => by
  simp only [xQ]
  have key : ∀ is : List Int, (∀ i ∈ is, 0 ≤ i ∧ i < n) → is.flatMap (fun i => match zF (l ++ m) i with | some a => if a.2.2.2 == y then xQ (l ++ m) n ys (sofar ++ [i]) else [] | none => []) = is.flatMap (fun i => match zF l i with | some a => if a.2.2.2 == y then xQ l n ys (sofar ++ [i]) else [] | none => []) := by
   intro is
   induction is with
   | nil => intro _; rfl
   | cons i is ih =>
    intro h
    have h1 := h i List.mem_cons_self
    rw [List.flatMap_cons, List.flatMap_cons, ih fun j hj => h j (List.mem_cons_of_mem _ hj), zIn (by omega)]
    congr 1
    split
    ·split
     ·exact zW9 hn ys _
     ·rfl
    ·rfl
  exact key _ fun i hi => xH.1 hi
theorem zVa (subs : List Int) (f : Int) (h : subs.length < 4294967296) : zKF subs f = some (subs.any fun k => decide (f ≤ k)) :=
 zSK (B := zFp subs f) subs (fun k => decide (f ≤ k)) (fun i k hk => by
  unfold zFp
  simp only [vK hk, if_true, vF hk, zob, vG hk h]
  split <;> rfl) (by unfold zFp; simp only [yL, zbf, if_false])
end
section
variable {b : zM} {l m : List zI}
structure uL (b : zM) (l : List zI) : Prop extends FormC b l where
 cut : ∀ (i : Nat) a r, l[i]? = some a → 0 ≤ a.2.1 → zF b.2.1 a.2.1 = some r → xS b l a.2.1 r a.2.2.1 = true
structure zKq (b : zM) (D : List zN) (c : Nat) : Prop where
 valid : zH8 b
 rule : ∀ r ∈ b.2.1, r.2.2.2.2 ∈ D ∧ r.2.2.2.1.length ≤ c
 sz : (c + 1) ^ D.length < 4294967296
theorem zOS {r : qR} (h : xP r = 0) : r.2.2.2.1.length ≤ 4 := by
 unfold xP at h
 split at h
 ·cases h
 ·omega
theorem zKq.body {D : List zN} {c : Nat} (h : zKq b D c) {q : Int} {r : qR} (hq : zF b.2.1 q = some r) : r.2.2.2.1.length ≤ 4 := by
 obtain ⟨n, rfl, hn⟩ := zMu hq
 exact zOS (h.valid.rule r (yT hn))
theorem FormC.ruI (h : FormC b l) {i : Int} {a : zI} (ha : zF l i = some a) {r : qR} (h0 : 0 ≤ a.2.1) (hr : zF b.2.1 a.2.1 = some r) : a.2.2.2 = r.2.2.2.2 ∧ a.2.2.1.length = r.2.2.2.1.length ∧ ∀ (j : Nat) k y, a.2.2.1[j]? = some k → r.2.2.2.1[j]? = some y → ∃ a', zF l k = some a' ∧ a'.2.2.2 = y := by
 obtain ⟨n, rfl, hn⟩ := zMu ha
 exact h.ru n a r hn h0 hr
theorem uL.cutI (h : uL b l) {i : Int} {a : zI} (ha : zF l i = some a) {r : qR} (h0 : 0 ≤ a.2.1) (hr : zF b.2.1 a.2.1 = some r) : xS b l a.2.1 r a.2.2.1 = true := by
 obtain ⟨n, rfl, hn⟩ := zMu ha
 exact h.cut n a r hn h0 hr
theorem zVY {α : Type} {p q : α → Bool} : ∀ (D : List α), (∀ x, p x = true → q x = true) → ∀ x ∈ D, q x = true → p x = false → (D.filter p).length < (D.filter q).length
 | [], _, x, hx, _, _ => by cases hx
 | d :: D, h, x, hx, h1, h2 => by
  have hle : (D.filter p).length ≤ (D.filter q).length := by
   rw [← List.countP_eq_length_filter, ← List.countP_eq_length_filter]
   exact List.countP_mono_left fun y _ => h y
  rcases List.mem_cons.1 hx with rfl | hx
  ·rw [List.filter_cons_of_neg (by simp [h2]), List.filter_cons_of_pos h1, List.length_cons]
   omega
  ·have ih := zVY D h x hx h1 h2
   rw [List.filter_cons, List.filter_cons]
   cases hp : p d with
   | true => simp [h d hp]; omega
   | false => cases hq : q d <;> simp <;> omega
theorem zT5 (f : Int → Nat) (c : Nat) : ∀ (l : List Int), (∀ k ∈ l, f k ≤ c) → (l.map f).sum ≤ l.length * c
 | [], _ => by simp
 | k :: l, h => by
  have h1 := h k List.mem_cons_self
  have h2 := zT5 f c l fun j hj => h j (List.mem_cons_of_mem _ hj)
  simp only [List.map_cons, List.sum_cons, List.length_cons, Nat.add_mul, Nat.one_mul]
  omega
open Classical in
noncomputable def zZ4 (b : zM) (l : List zI) (D : List zN) (i : Int) : Nat := (D.filter fun y => decide (zL5 b l i y)).length
open Classical in
theorem runSz {D : List zN} {c : Nat} (hs : zKq b D c) (h : uL b l) : zWs b l fun i => (c + 1) ^ zZ4 b l D i := by
 refine ⟨fun i => Nat.pow_pos (by omega), fun i _ _ => ?_, fun i a r ha h0 hr hst => ?_⟩
 ·refine Nat.lt_of_le_of_lt (Nat.pow_le_pow_right (by omega) ?_) hs.sz
  exact List.length_filter_le _ _
 ·have hcut := h.cutI ha h0 hr
  obtain ⟨g1, g2, _⟩ := h.toFormC.ruI ha h0 hr
  obtain ⟨n, hn1, hn2⟩ := zMu hr
  obtain ⟨hD, hc⟩ := hs.rule r (yT hn2)
  have hlt : ∀ k ∈ a.2.2.1, zZ4 b l D k < zZ4 b l D i := fun k hk => by
   refine zVY D (fun y hy => ?_) r.2.2.2.2 hD ?_ ?_
   ·exact decide_eq_true (zL5.step ha h0 hr hst hk (of_decide_eq_true hy))
   ·exact decide_eq_true (by have := zL5.here (b := b) ha; rwa [g1] at this)
   ·unfold xS at hcut
    have hc2 : (a.2.2.1.any (zYP b l a.2.1 r)) = false := by simpa using hcut
    have := List.any_eq_false.1 hc2 k hk
    simpa [zYP, hst] using this
  cases hv : a.2.2.1 with
  | nil =>
   have := Nat.pow_pos (n := zZ4 b l D i) (show 0 < c + 1 by omega)
   simp only [List.map_nil, List.sum_nil]
   omega
  | cons k ks =>
   rw [← hv]
   have hpos : 0 < zZ4 b l D i := by have := hlt k (by rw [hv]; exact List.mem_cons_self); omega
   obtain ⟨u, hu⟩ : ∃ u, zZ4 b l D i = u + 1 := ⟨zZ4 b l D i - 1, by omega⟩
   have hsum := zT5 (fun k => (c + 1) ^ zZ4 b l D k) ((c + 1) ^ u) a.2.2.1 fun k hk => Nat.pow_le_pow_right (by omega) (by have := hlt k hk; omega)
   have h3 : a.2.2.1.length * (c + 1) ^ u ≤ c * (c + 1) ^ u := Nat.mul_le_mul_right _ (by rw [g2]; exact hc)
   have h4 : 0 < (c + 1) ^ u := Nat.pow_pos (by omega)
   rw [hu, Nat.pow_succ, Nat.mul_add, Nat.mul_one, Nat.mul_comm ((c + 1) ^ u) c]
   omega
theorem uL.runs {D : List zN} {c : Nat} (h : uL b l) (hs : zKq b D c) : z0H b l := runsB h.toFormB (runSz hs h)
theorem uL.app (h : uL b l) (hm : ∀ a ∈ m, zY6 b l a ∧ ∀ r, zF b.2.1 a.2.1 = some r → xS b l a.2.1 r a.2.2.1 = true) (hl : l.length + m.length ≤ 41) : uL b (l ++ m) := by
 have h' := h.toFormC.app (fun a ha => (hm a ha).1) hl
 refine ⟨h', fun i a r ha h0 hr => ?_⟩
 by_cases hi : i < l.length
 ·rw [List.getElem?_append_left hi] at ha
  rw [zKf h.toFormC h' fun k hk => by have := h.sub i a ha k hk; omega]
  exact h.cut i a r ha h0 hr
 ·rw [List.getElem?_append_right (by omega)] at ha
  obtain ⟨g1, g2⟩ := hm a (yT ha)
  rw [zKf h.toFormC h' g1.sub]
  exact g2 r hr
def zNx (f : Int) (first : Bool) (s : List Int) : Bool := s.any (fun k => decide (f ≤ k)) || (first && s.isEmpty)
noncomputable def tY (b : zM) (l : List zI) (f : Int) (first : Bool) (q : Int) : List zI :=
 match zF b.2.1 q with
 | some r => ((xQ l l.length r.2.2.2.1 []).filter fun s => zNx f first s && xS b l q r s).map fun s => (-1, q, s, r.2.2.2.2)
 | none => []
noncomputable def uV (b : zM) (l : List zI) (f : Int) (first : Bool) : List zI := (vA b.2.1.length).flatMap (tY b l f first)
noncomputable def zOL (b : zM) : Nat → List zI → Int → Bool → Option (List zI)
 | 0, _, _, _ => none
 | k + 1, l, f, first =>
  if 40 < (l ++ uV b l f first).length then none
  else if uV b l f first = [] then some l
  else zOL b k (l ++ uV b l f first) l.length false
def zNS (b : zM) : List zI := b.1.mapIdx fun i p => ((i : Int), -1, [], p.1)
theorem zWI {f : Int} {first : Bool} {a : zI} : a ∈ uV b l f first ↔ a.1 = -1 ∧ ∃ r, zF b.2.1 a.2.1 = some r ∧ a.2.2.2 = r.2.2.2.2 ∧ zNx f first a.2.2.1 = true ∧ xS b l a.2.1 r a.2.2.1 = true ∧ a.2.2.1.length = r.2.2.2.1.length ∧ ∀ (j : Nat) k y, a.2.2.1[j]? = some k → r.2.2.2.1[j]? = some y → ∃ a', zF l k = some a' ∧ a'.2.2.2 = y := by
 unfold uV tY
 simp only [List.mem_flatMap, xH]
 constructor
 ·rintro ⟨q, hq, ha⟩
  cases hr : zF b.2.1 q with
  | none => rw [hr] at ha; cases ha
  | some r =>
   rw [hr] at ha
   obtain ⟨s, hs, rfl⟩ := List.mem_map.1 ha
   obtain ⟨hs1, hs2⟩ := List.mem_filter.1 hs
   rw [Bool.and_eq_true] at hs2
   obtain ⟨t, rfl, ht1, ht2⟩ := (zN1 l l.length r.2.2.2.1 [] s).1 hs1
   exact ⟨rfl, r, hr, rfl, hs2.1, hs2.2, ht1, fun j k y hk hy => (ht2 j k y hk hy).2.2⟩
 ·rintro ⟨h1, r, hr, h2, h3, h4, h5, h6⟩
  refine ⟨a.2.1, by have := zVE hr; omega, ?_⟩
  rw [hr]
  refine List.mem_map.2 ⟨a.2.2.1, List.mem_filter.2 ⟨(zN1 l l.length r.2.2.2.1 [] _).2 ⟨a.2.2.1, rfl, h5, fun j k y hk hy => ?_⟩, by rw [h3, h4]; rfl⟩, ?_⟩
  ·obtain ⟨a', e1, e2⟩ := h6 j k y hk hy
   have := zVE e1
   exact ⟨this.1, this.2, a', e1, e2⟩
  ·rw [← h1, ← h2]
theorem zR7 {D : List zN} {c : Nat} (hs : zKq b D c) {f : Int} {first : Bool} : ∀ a ∈ uV b l f first, zY6 b l a ∧ ∀ r, zF b.2.1 a.2.1 = some r → xS b l a.2.1 r a.2.2.1 = true := fun a ha => by
 obtain ⟨h1, r, hr, h2, h3, h4, h5, h6⟩ := zWI.1 ha
 refine ⟨⟨h1, r, hr, h2, h5, ?_, h6⟩, fun r' hr' => ?_⟩
 ·have := hs.body hr; omega
 ·rw [hr] at hr'; cases hr'; exact h4
theorem uL.round {D : List zN} {c : Nat} (h : uL b l) (hs : zKq b D c) {f : Int} {first : Bool} (hl : (l ++ uV b l f first).length ≤ 41) : uL b (l ++ uV b l f first) :=
 h.app (zR7 hs) (by rw [List.length_append] at hl; exact hl)
theorem zKR (b : zM) : (zNS b).length = b.1.length := by simp [zNS]
theorem zJo {i : Nat} {a : zI} (h : (zNS b)[i]? = some a) : ∃ p, b.1[i]? = some p ∧ a = ((i : Int), -1, [], p.1) := by
 unfold zNS at h
 rw [List.getElem?_mapIdx] at h
 cases hp : b.1[i]? with
 | none => rw [hp] at h; cases h
 | some p => rw [hp] at h; exact ⟨p, rfl, by cases h; rfl⟩
theorem zO9 (h : zH8 b) : uL b (zNS b) := by
 have hl := zKR b
 have hn := h.np
 have hr := h.nr
 refine ⟨⟨⟨⟨by omega, fun a ha => ?_, fun i a ha => ?_⟩, by omega, by omega, fun i a ha => ?_⟩, by omega, fun i a p ha h0 hp => ?_, fun i a r ha h0 hr => ?_⟩, fun i a r ha h0 hr => ?_⟩
 ·obtain ⟨i, hi⟩ := List.mem_iff_getElem?.1 ha
  obtain ⟨p, _, rfl⟩ := zJo hi
  simp
 ·obtain ⟨p, _, rfl⟩ := zJo ha
  intro k hk
  cases hk
 ·obtain ⟨p, h1, rfl⟩ := zJo ha
  exact .inl ⟨rfl, vT h1, rfl⟩
 ·obtain ⟨p', h1, rfl⟩ := zJo ha
  rw [uC, h1] at hp
  cases hp
  exact ⟨rfl, rfl⟩
 ·obtain ⟨p', h1, rfl⟩ := zJo ha
  exact absurd h0 (by simp)
 ·obtain ⟨p', h1, rfl⟩ := zJo ha
  exact absurd h0 (by simp)
theorem zQV {D : List zN} {c : Nat} (hs : zKq b D c) : ∀ (k : Nat) (l : List zI) (f : Int) (first : Bool) (x : List zI), uL b l → l.length ≤ 40 → zOL b k l f first = some x → uL b x ∧ x.length ≤ 40
 | 0, _, _, _, _, _, _, h => by cases h
 | k + 1, l, f, first, x, h, hl, hx => by
  unfold zOL at hx
  split at hx
  ·cases hx
  ·rename_i hlim
   split at hx
   ·cases hx
    exact ⟨h, hl⟩
   ·exact zQV hs k _ _ _ x (h.round hs (by omega)) (by omega) hx
theorem zV2 {α β σ ρ : Type} {B : σ → Option (σ ⊕ ρ)} (xs : List α) (h : α → List β) (st : List β → Int → σ) (e : ρ) (fin : List β → ρ) (N : Nat) (acc : List β) (h0 : acc.length ≤ N)
  (hB : ∀ (q : Nat) x n, xs[q]? = some x → n = (xs.take q).flatMap h → (acc ++ n).length ≤ N → B (st (acc ++ n) q) = some (if N < (acc ++ (n ++ h x)).length then .inr e else .inl (st (acc ++ (n ++ h x)) ((q + 1 : Nat) : Int))))
  (hE : (acc ++ xs.flatMap h).length ≤ N → B (st (acc ++ xs.flatMap h) (xs.length : Int)) = some (.inr (fin (acc ++ xs.flatMap h)))) :
  zZ B (st acc 0) = some (if N < (acc ++ xs.flatMap h).length then e else fin (acc ++ xs.flatMap h)) := by
 have key : ∀ (n i : Nat), i + n = xs.length → (acc ++ (xs.take i).flatMap h).length ≤ N → zZ B (st (acc ++ (xs.take i).flatMap h) (i : Int)) = some (if N < (acc ++ xs.flatMap h).length then e else fin (acc ++ xs.flatMap h)) := by
  intro n
  induction n with
  | zero =>
   intro i hi hn
   rw [Nat.add_zero] at hi
   subst hi
   rw [List.take_length] at hn ⊢
   rw [yM, hE hn, if_neg (by omega)]
  | succ n ih =>
   intro i hi hn
   have hx : xs[i]? = some xs[i] := List.getElem?_eq_getElem (by omega)
   have ht : (xs.take (i + 1)).flatMap h = (xs.take i).flatMap h ++ h xs[i] := by rw [uX hx, List.flatMap_append, List.flatMap_singleton]
   rw [yM, hB i _ _ hx rfl hn, ← ht]
   by_cases hN : N < (acc ++ (xs.take (i + 1)).flatMap h).length
   ·rw [if_pos hN]
    have : (acc ++ (xs.take (i + 1)).flatMap h).length ≤ (acc ++ xs.flatMap h).length := by
     conv => rhs; rw [← List.take_append_drop (i + 1) xs, List.flatMap_append]
     simp only [List.length_append]
     omega
    rw [if_pos (by omega)]
   ·rw [if_neg hN]
    exact ih (i + 1) (by omega) (by omega)
 have := key xs.length 0 (by omega) (by simpa using h0)
 simpa using this
end
section
variable {b : zM} {l : List zI} {D : List zN} {c : Nat}
def ansB : Option (List zI) → List zI × Int
 | some x => (x, 0)
 | none => ([], 2)
theorem zTN (h : zH8 b) : zZ (zEi b) (([] : List zI), 0) = some (zNS b) := by
 have hn := h.np
 have := zGN (B := zEi b) (zNS b) (fun a => [a]) (fun s => s) 1 (fun _ _ => by simp) [] (fun i a s hi hs => by
  obtain ⟨p, hp, rfl⟩ := zJo hi
  have hlt := vT hp
  unfold zEi
  simp only [vK hp, if_true, vF hp, zob]
  rw [yJ (by simp at hs ⊢; omega)]
  simp only [zob, vG hp (by omega)]) (fun s => by
  unfold zEi
  rw [zKR]
  simp only [yL, zbf, if_false])
 rw [this]
 simp
theorem zSb (hs : zKq b D c) (h : uL b l) (hl : l.length ≤ 40) {f : Int} {r : Nat} {q : Nat} (hq : q < b.2.1.length) (n : List zI) (hn : (l ++ n).length ≤ 40) (hf : uL b (l ++ n))
  {ru : qR} (hr : zF b.2.1 (q : Int) = some ru) :
  zZ (zEg (xQ l l.length ru.2.2.2.1 []) (l, f, (r : Int)) b (l ++ n, (q : Int))) (l ++ n, 0) =
   some (if 40 < (l ++ (n ++ tY b l f (decide (r ≤ 1)) q)).length then .inr (.inr (([] : List zI), 2)) else .inl (l ++ (n ++ tY b l f (decide (r ≤ 1)) q), ((q + 1 : Nat) : Int))) := by
 have hb := hs.body hr
 have hcl : (xQ l l.length ru.2.2.2.1 []).length < 4294967296 := by
  have h1 := zSG l l.length ru.2.2.2.1 []
  have h2 : l.length ^ ru.2.2.2.1.length ≤ 100 ^ 4 := Nat.le_trans (Nat.pow_le_pow_left (by omega) _) (Nat.pow_le_pow_right (by omega) hb)
  have h3 : (100 : Nat) ^ 4 = 100000000 := rfl
  omega
 have hnr := hs.valid.nr
 have key := zV2 (B := zEg (xQ l l.length ru.2.2.2.1 []) (l, f, (r : Int)) b (l ++ n, (q : Int))) (xQ l l.length ru.2.2.2.1 [])
  (fun s => if zNx f (decide (r ≤ 1)) s && xS b l q ru s then [((-1 : Int), (q : Int), s, ru.2.2.2.2)] else []) (fun s i => (s, i))
  (.inr (.inr (([] : List zI), 2))) (fun s => .inl (s, ((q + 1 : Nat) : Int))) 40 (l ++ n) hn (fun i s acc hi hacc hlen => ?_) (fun _ => ?_)
 ·rw [key]
  have : (xQ l l.length ru.2.2.2.1 []).flatMap (fun s => if zNx f (decide (r ≤ 1)) s && xS b l q ru s then [((-1 : Int), (q : Int), s, ru.2.2.2.2)] else []) = tY b l f (decide (r ≤ 1)) q := by
   unfold tY
   rw [hr]
   rw [← zPs]
   rw [← List.map_eq_flatMap]
  rw [this, List.append_assoc]
 ·have hs1 := (zN1 l l.length ru.2.2.2.1 [] s).1 (yT hi)
  obtain ⟨t, ht, htl, htm⟩ := hs1
  rw [List.nil_append] at ht
  subst ht
  have hsub : ∀ k ∈ s, 0 ≤ k ∧ k < l.length := fun k hk => by
   obtain ⟨j, hj⟩ := List.mem_iff_getElem?.1 hk
   have := vT hj
   have := htm j k _ hj (List.getElem?_eq_getElem (by omega))
   omega
  have hnow : uL b (l ++ n ++ acc) := by
   refine hf.app (fun a ha => ?_) (by rw [List.length_append] at hlen; omega)
   rw [hacc] at ha
   obtain ⟨s', hs', ha⟩ := List.mem_flatMap.1 ha
   split at ha
   ·rename_i hc
    rw [Bool.and_eq_true] at hc
    simp only [List.mem_singleton] at ha
    subst ha
    obtain ⟨t, ht, htl, htm⟩ := (zN1 l l.length ru.2.2.2.1 [] s').1 (List.mem_of_mem_take hs')
    rw [List.nil_append] at ht
    subst ht
    have hg : zY6 b l ((-1 : Int), (q : Int), s', ru.2.2.2.2) := ⟨rfl, ru, hr, rfl, htl, by simp only; omega, fun j k y hk hy => (htm j k y hk hy).2.2⟩
    refine ⟨hg.more, fun r' hr' => ?_⟩
    rw [hr] at hr'
    cases hr'
    rw [zKf h.toFormC hf.toFormC hg.sub]
    exact hc.2
   ·cases ha
  have hw : zFH b (l ++ n ++ acc) q s = some (xS b l q ru s) := by
   rw [zVd hnow.toFormC (hnow.runs hs) hr (fun k hk => by have := hsub k hk; simp only [List.length_append]; omega) (by omega)]
   rw [List.append_assoc, zKf h.toFormC (by rw [← List.append_assoc]; exact hnow.toFormC) hsub]
  unfold zEg
  simp only [vK hi, if_true, vF hi, zob, vG hi hcl]
  rw [zVa s f (by omega)]
  simp only [zob, hw, hr]
  have hdec : (if (!s.any fun k => decide (f ≤ k)) = true then (if decide (1 < (r : Int)) = true then some true else if decide (0 < len s) = true then some true else some (!xS b l q ru s)) else some (!xS b l q ru s)) = some (!(zNx f (decide (r ≤ 1)) s && xS b l q ru s)) := by
   unfold zNx
   cases ha : s.any fun k => decide (f ≤ k) with
   | true => simp
   | false =>
    by_cases h1 : r ≤ 1
    ·have : ¬ (1 < (r : Int)) := by omega
     cases s with
     | nil => simp [this, h1, len]
     | cons k s => simp [this, h1, len]
    ·have : 1 < (r : Int) := by omega
     simp [this, h1]
  rw [hdec]
  simp only [zob]
  cases hc : zNx f (decide (r ≤ 1)) s && xS b l q ru s with
  | false =>
   simp only [Bool.not_false, if_true, zbf, if_false, List.append_nil]
   rw [if_neg (by omega)]
  | true =>
   simp only [Bool.not_true, zbf, if_false, if_true]
   rw [yJ (by simp only [List.length_singleton]; omega)]
   simp only [zob, List.append_assoc, len]
   by_cases h40 : 40 < (l ++ (n ++ (acc ++ [((-1 : Int), (q : Int), s, ru.2.2.2.2)]))).length
   ·rw [if_pos (by simpa using (by omega : (40 : Int) < ((l ++ (n ++ (acc ++ [((-1 : Int), (q : Int), s, ru.2.2.2.2)]))).length : Int))), if_pos h40]
   ·rw [if_neg (by simpa using (by omega : ¬ (40 : Int) < ((l ++ (n ++ (acc ++ [((-1 : Int), (q : Int), s, ru.2.2.2.2)]))).length : Int))), if_neg h40]
 ·unfold zEg
  simp only [yL, zbf, if_false, yA q (by omega)]
theorem zSr (hs : zKq b D c) (h : uL b l) (hl : l.length ≤ 40) {f : Int} {r : Nat} (hr : r < 1000) :
  zZ (zEy b (l, f, (r : Int))) (l, 0) =
   some (if 40 < (l ++ uV b l f (decide (r ≤ 1))).length then .inr (([] : List zI), 2) else .inl (l ++ uV b l f (decide (r ≤ 1)), (l.length : Int), ((r + 1 : Nat) : Int))) := by
 have hnr := hs.valid.nr
 refine zV2 (B := zEy b (l, f, (r : Int))) (vA b.2.1.length) (tY b l f (decide (r ≤ 1))) (fun s i => (s, i)) (.inr (([] : List zI), 2)) (fun s => .inl (s, (l.length : Int), ((r + 1 : Nat) : Int))) 40 l hl (fun q x n hq hn hlen => ?_) (fun _ => ?_)
 ·obtain ⟨rfl, hqn⟩ := zJv hq
  obtain ⟨ru, hru⟩ := tQ (l := b.2.1) (j := (q : Int)) (by omega) (by omega)
  have hd : decide ((q : Int) < len b.2.1) = true := by simp [len]; omega
  have hf : uL b (l ++ n) := by
   refine h.app (fun a ha => zR7 hs a ?_ (f := f) (first := decide (r ≤ 1))) (by rw [List.length_append] at hlen; omega)
   rw [hn] at ha
   obtain ⟨q', hq', ha⟩ := List.mem_flatMap.1 ha
   exact List.mem_flatMap.2 ⟨q', List.mem_of_mem_take hq', ha⟩
  unfold zEy
  simp only [hd, if_true, hru, zob]
  have hch := zUV (l := l ++ n) (n := l.length) (by omega) (by simp) ru.2.2.2.1 (hs.body hru)
  rw [show len l = ((l.length : Nat) : Int) from rfl, hch]
  simp only [zob]
  rw [zW9 (Nat.le_refl _), zSb hs h hl hqn n hlen hf hru]
 ·unfold zEy
  have hd : decide (((vA b.2.1.length).length : Int) < len b.2.1) = false := by rw [xF]; simp [len]
  simp only [hd, zbf, if_false, yA r (by omega)]
theorem zTT (hs : zKq b D c) : ∀ (k : Nat) (l : List zI) (f : Int) (r : Nat), uL b l → l.length ≤ 40 → 41 ≤ l.length + k → r + k ≤ 900 → 1 ≤ r → (r = 1 ∨ f < l.length) →
  zZ (zDA b) (l, f, (r : Int)) = some (ansB (zOL b k l f (decide (r ≤ 1)))) := by
 intro k
 induction k with
 | zero => intros; omega
 | succ k ih =>
  intro l f r h hl hk hr h1 hgo
  have hc : (((r : Int) == 1) || decide (f < len l)) = true := by
   rw [Bool.or_eq_true]
   rcases hgo with rfl | hgo
   ·exact .inl rfl
   ·exact .inr (by simpa [len] using hgo)
  have hstep : zDA b (l, f, (r : Int)) = some (if 40 < (l ++ uV b l f (decide (r ≤ 1))).length then .inr (([] : List zI), 2) else .inl (l ++ uV b l f (decide (r ≤ 1)), (l.length : Int), ((r + 1 : Nat) : Int))) := by
   unfold zDA
   simp only [hc, if_true]
   exact zSr hs h hl (by omega)
  rw [yM, hstep]
  unfold zOL
  by_cases hlim : 40 < (l ++ uV b l f (decide (r ≤ 1))).length
  ·simp only [if_pos hlim]
   rfl
  ·simp only [if_neg hlim]
   by_cases hn : uV b l f (decide (r ≤ 1)) = []
   ·rw [if_pos hn, hn, List.append_nil]
    have hstep2 : zDA b (l, (l.length : Int), ((r + 1 : Nat) : Int)) = some (.inr (l, 0)) := by
     unfold zDA
     have hc2 : ((((r + 1 : Nat) : Int) == 1) || decide ((l.length : Int) < len l)) = false := by
      rw [Bool.or_eq_false_iff]
      exact ⟨by simp only [beq_eq_false_iff_ne]; omega, by simp [len]⟩
     simp only [hc2, zbf, if_false]
    rw [yM, hstep2]
    rfl
   ·rw [if_neg hn]
    have hpos : 0 < (uV b l f (decide (r ≤ 1))).length := List.length_pos_iff.2 hn
    have := ih (l ++ uV b l f (decide (r ≤ 1))) l.length (r + 1) (h.round hs (by omega)) (by omega) (by rw [List.length_append]; omega) (by omega) (by omega) (.inr (by rw [List.length_append]; omega))
    rw [show decide (r + 1 ≤ 1) = false from by simp; omega] at this
    exact this
theorem zJw (h : zH8 b) : Cnt b := by
 have h1 := h.np
 have h2 := h.nr
 have h3 := h.nm
 exact ⟨by omega, by omega, by omega, fun r hr => by have := zOS (h.rule r hr); omega⟩
noncomputable def zMw (b : zM) : Option (List zI) := zOL b 50 (zNS b) 0 true
theorem zWe (hs : zKq b D c) : zFt b = some (ansB (zMw b)) := by
 unfold zFt
 rw [zTd (zJw hs.valid), zHg.2 hs.valid]
 simp only [zob, bne_self_eq_false, zbf, if_false]
 rw [zTN hs.valid]
 have hn := hs.valid.np
 exact zTT hs 50 (zNS b) 0 1 (zO9 hs.valid) (by rw [zKR]; omega) (by omega) (by omega) (by omega) (.inl rfl)
theorem zRJ (hc : z0O b) (h : ¬ zH8 b) : zFt b = some ([], zJP b) := by
 unfold zFt
 rw [zOU hc]
 have : (zJP b != 0) = true := by
  rw [bne_iff_ne]
  exact fun h' => h (zHg.1 h')
 simp only [zob, this, if_true]
end
section
theorem zTA {s : uD} {m n : Int} (h : yG s) (h0 : 0 ≤ m) (hm : m ≤ 1000000) (h1 : 1 ≤ n) (h2 : n ≤ 26) : ∃ (l : List zN) (k : Int), zBn s m n = some (l, k) ∧ (l.length : Int) ≤ m ∧ (∀ x ∈ l, ∃ j : Nat, (j : Int) < n ∧ x.2 = tW j) ∧ yG (s.1, k) := by
 obtain ⟨v, k, hr, hv0, hv1, hk⟩ := zIM (n := m + 1) h (by omega) (by omega)
 unfold zBn
 rw [xJ (x := m + 1) (by omega) (by omega), hr]
 simp only [zob]
 obtain ⟨r, h3, h4⟩ := zLz (B := zFM s n) (fun t => 0 ≤ t.2.1 ∧ (t.1.length : Int) + t.2.1 = v ∧ (∀ x ∈ t.1, ∃ j : Nat, (j : Int) < n ∧ x.2 = tW j) ∧ yG (s.1, t.2.2)) (fun t => t.2.1.toNat)
  (fun r => (r.1.length : Int) ≤ m ∧ (∀ x ∈ r.1, ∃ j : Nat, (j : Int) < n ∧ x.2 = tW j) ∧ yG (s.1, r.2)) (fun t ht => by
   obtain ⟨l, q, k⟩ := t
   obtain ⟨t1, t2, t3, t4⟩ := ht
   dsimp only at t1 t2 t3 t4
   unfold zFM
   by_cases hq : 0 < q
   ·obtain ⟨g, j, k', h5, hj, hk'⟩ := zII t4 h1 h2
    refine .inl ⟨(l ++ [(g, tW j)], q - 1, k'), ?_, ⟨by show 0 ≤ q - 1; omega, by simp; omega, fun x hx => ?_, hk'⟩, by show (q - 1).toNat < q.toNat; omega⟩
    ·simp only [hq, decide_true, if_true, h5, zob]
     rw [yJ (by simp; omega), xJ (by omega) (by omega)]
     rfl
    ·rcases List.mem_append.1 hx with hx | hx
     ·exact t3 x hx
     ·simp at hx; subst hx; exact ⟨j, hj, rfl⟩
   ·refine .inr ⟨(l, k), by simp [hq], by dsimp only; omega, t3, t4⟩) (([] : List zN), v, k) ⟨hv0, by simp, by simp, hk⟩
 obtain ⟨l, k'⟩ := r
 exact ⟨l, k', h3, h4.1, h4.2.1, h4.2.2⟩
theorem zXE (s : List zN) (hs : s.length < 1000000) (x : zN) (n : Int) : ∃ k : Nat, zZ (zEm (s, n) x) 0 = some (k : Int) ∧ k ≤ s.length ∧ (∀ j y, j < k → s[j]? = some y → vZ y x = true) ∧ ∀ y, s[k]? = some y → vZ y x = false := by
 obtain ⟨r, h1, k, h2, h3⟩ := yW (B := zEm (s, n) x) (fun i (_ : Unit) => (i : Int)) s (fun i _ => ∀ j y, j < i → s[j]? = some y → vZ y x = true)
  (fun r => ∃ k : Nat, r = (k : Int) ∧ k ≤ s.length ∧ (∀ j y, j < k → s[j]? = some y → vZ y x = true) ∧ ∀ y, s[k]? = some y → vZ y x = false) (fun i y _ hi hI => by
  have hlt := vT hi
  unfold zEm
  simp only [vK hi, if_true, vF hi, zob, vG hi (show s.length < 4294967296 by omega)]
  have hcond : (if yY y.2 x.2 = true then some true else if (y.2 == x.2) = true then if (!y.1) = true then some x.1 else some false else some false) = some (vZ y x) := by
   unfold vZ
   cases yY y.2 x.2 <;> cases y.2 == x.2 <;> cases y.1 <;> cases x.1 <;> rfl
  rw [hcond]
  simp only [zob]
  cases hc : vZ y x with
  | true =>
   simp only [if_true]
   exact .inl ⟨(), by trivial, fun j z hj hz => by
    by_cases hji : j = i
    ·subst hji; rw [hi] at hz; cases hz; exact hc
    ·exact hI j z (by omega) hz⟩
  | false =>
   simp only [zbf, if_false]
   exact .inr ⟨_, rfl, i, rfl, by omega, hI, fun z hz => by rw [hi] at hz; cases hz; exact hc⟩) (fun _ hI => ⟨_, by
  unfold zEm
  simp only [yL, zbf, if_false, zob], s.length, rfl, Nat.le_refl _, hI, fun y hy => by have := vT hy; omega⟩) () (fun j y hj => by omega)
 rw [show ((0 : Nat) : Int) = 0 from rfl] at h1
 subst h2
 exact ⟨k, h1, h3⟩
theorem zZh {s : List zN} (hs : yB vZ s) {k : Nat} {x : zN} (h1 : ∀ j y, j < k → s[j]? = some y → vZ y x = true) (h2 : ∀ y, s[k]? = some y → vZ x y = true) : yB vZ (s.take k ++ x :: s.drop k) := by
 have hsplit := List.take_append_drop k s
 rw [← hsplit] at hs
 obtain ⟨p1, p2, p3⟩ := List.pairwise_append.1 hs
 refine List.pairwise_append.2 ⟨p1, List.pairwise_cons.2 ⟨fun y hy => ?_, p2⟩, fun y hy z hz => ?_⟩
 ·cases hd : s.drop k with
  | nil => rw [hd] at hy; cases hy
  | cons z r =>
   have hz : s[k]? = some z := by
    have := congrArg (fun l => l[0]?) hd
    simpa using this
   rw [hd] at hy p2
   rcases List.mem_cons.1 hy with rfl | hy
   ·exact h2 _ hz
   ·exact zIr (h2 _ hz) ((List.pairwise_cons.1 p2).1 y hy)
 ·have hyx : vZ y x = true := by
   obtain ⟨j, hj⟩ := List.mem_iff_getElem?.1 hy
   rw [List.getElem?_take] at hj
   split at hj
   ·rename_i hjk; exact h1 j y hjk hj
   ·cases hj
  rcases List.mem_cons.1 hz with rfl | hz
  ·exact hyx
  ·exact p3 y hy z hz
theorem zYo {α : Type} (s : List α) (z x : α) (k : Nat) (hk : k ≤ s.length) : (tX (s ++ [z]) (((k + 1 : Nat)) : Int) ((s ++ [z]).drop k)).set k x = s.take k ++ x :: s.drop k := by
 have h1 : (s ++ [z]).drop k = s.drop k ++ [z] := List.drop_append_of_le_length hk
 unfold tX
 rw [h1, Int.toNat_natCast]
 have h2 : (s.drop k ++ [z]).take ((s ++ [z]).length - (k + 1)) = s.drop k := by
  rw [show (s ++ [z]).length - (k + 1) = (s.drop k).length by simp, List.take_left']
  rfl
 have h3 : (s ++ [z]).drop (k + 1 + (s.drop k ++ [z]).length) = [] := List.drop_eq_nil_of_le (by simp; omega)
 rw [h2, h3, List.append_nil]
 cases hd : s.drop k with
 | nil =>
  have : k = s.length := by
   have := congrArg List.length hd
   simp at this
   omega
  subst this
  rw [List.take_of_length_le (l := s ++ [z]) (by simp), List.append_nil, List.set_append_right _ _ (by simp)]
  simp
 | cons y r =>
  have hk2 : k < s.length := by
   have := congrArg List.length hd
   simp at this
   omega
  have h4 : (s ++ [z]).take (k + 1) = s.take k ++ [s[k]] := by
   rw [List.take_append_of_le_length (by omega), List.take_add_one, List.getElem?_eq_getElem hk2]
   rfl
  rw [h4, List.append_assoc, List.set_append_right _ _ (by rw [List.length_take]; omega)]
  simp [Nat.min_eq_left (Nat.le_of_lt hk2)]
theorem zRA (l : List zN) (hl : l.length ≤ 1000) : ∃ r, zIc l = some r ∧ r.length ≤ l.length ∧ yB vZ r ∧ ∀ y ∈ r, y ∈ l := by
 unfold zIc
 refine yW (B := zG4 l) (fun i s => (s, (i : Int))) l (fun i s => s.length ≤ i ∧ yB vZ s ∧ ∀ y ∈ s, y ∈ l) (fun r => r.length ≤ l.length ∧ yB vZ r ∧ ∀ y ∈ r, y ∈ l) (fun i x s hi hs => .inl ?_) (fun s hs => ⟨s, ?_, hs⟩) [] ⟨by simp, List.Pairwise.nil, by simp⟩
 ·have hlt := vT hi
  obtain ⟨hs1, hs2, hs3⟩ := hs
  unfold zG4
  obtain ⟨k, h1, h2, h3, h4⟩ := zXE s (by omega) x i
  simp only [vK hi, if_true, vF hi, zob, h1, vG hi (show l.length < 4294967296 by omega)]
  by_cases hex : s[k]? = some x
  ·simp only [vK hex, if_true, vF hex, zob, beq_self_eq_true]
   exact ⟨s, rfl, by omega, hs2, hs3⟩
  ·have hc : (if decide ((k : Int) < len s) = true then (zF s (k : Int)).bind fun x5 => some (x5 == x) else some false) = some false := by
    by_cases hk : k < s.length
    ·have hx : s[k]? = some s[k] := List.getElem?_eq_getElem hk
     simp only [vK hx, if_true, vF hx, zob]
     congr 1
     rw [beq_eq_false_iff_ne]
     intro e
     rw [e] at hx
     exact hex hx
    ·have : decide ((k : Int) < len s) = false := by simp [len]; omega
     simp only [this, zbf, if_false]
   rw [hc]
   simp only [zob, zbf, if_false]
   rw [yJ (by simp; omega)]
   have hr1 : zW ((k : Int) + 1) = ((k + 1 : Nat) : Int) := yA k (by omega)
   have hc1 : (decide (0 ≤ ((k + 1 : Nat) : Int)) && decide (((k + 1 : Nat) : Int) ≤ len (s ++ [((false, []) : zN)]))) = true := by simp [len]; omega
   have hc2 : (decide (0 ≤ (k : Int)) && decide ((k : Int) ≤ len (s ++ [((false, []) : zN)]))) = true := by simp [len]; omega
   obtain ⟨z, hz⟩ := tQ (l := tX (s ++ [((false, []) : zN)]) ((k + 1 : Nat) : Int) (List.drop k (s ++ [((false, []) : zN)]))) (j := (k : Int)) (by omega) (by rw [zLC]; simp; omega)
   simp only [zob, hr1, uI, hc1, hc2, if_true, Int.toNat_natCast, hz, zYo s _ x k h2]
   refine ⟨_, rfl, ?_, zZh hs2 h3 fun y hy => ?_, fun y hy => ?_⟩
   ·simp; omega
   ·rcases zMB y x with h | h | h
    ·rw [h4 y hy] at h; cases h
    ·subst h; exact absurd hy hex
    ·exact h
   ·rcases List.mem_append.1 hy with hy | hy
    ·exact hs3 y (List.mem_of_mem_take hy)
    ·rcases List.mem_cons.1 hy with rfl | hy
     ·exact yT hi
     ·exact hs3 y (List.mem_of_mem_drop hy)
 ·unfold zG4
  simp only [yL, zbf, if_false]
theorem zWw : ∀ {l : List zN}, yB vZ l → zZT l = true
 | [], _ => rfl
 | [_], _ => rfl
 | x :: y :: r, h => by
  obtain ⟨h1, h2⟩ := List.pairwise_cons.1 h
  unfold zZT
  rw [h1 y List.mem_cons_self, zWw h2]
  rfl
theorem zR3 {s : uD} {l : List Int} (h : yG s) (h0 : l ≠ []) (h1 : l.length ≤ 1000) : ∃ x k, zBy s l = some (x, k) ∧ x ∈ l ∧ yG (s.1, k) := by
 have hp := List.length_pos_iff.2 h0
 obtain ⟨v, k, hr, h2, h3, hk⟩ := zIM (n := len l) h (by simp [len]; omega) (by simp [len]; omega)
 obtain ⟨x, hx, hx2⟩ := zOQ h2 h3
 exact ⟨x, k, by simp [zBy, hr, hx], List.mem_of_getElem? hx2, hk⟩
theorem zM4 {j : Nat} (h : j < 26) : vName (tW j) = true := by
 have : ∀ j, j < 26 → vName (tW j) = true := by decide
 exact this j h
def zQk (n : Nat) : qC := [114, UInt8.ofNat (97 + n)]
theorem zQB {n : Nat} (h : n < 26) : vName (zQk n) = true := by
 have : ∀ n, n < 26 → vName (zQk n) = true := by decide
 exact this n h
theorem zYO {n m : Nat} (h : n < 26) (h' : m < 26) (he : zQk n = zQk m) : n = m := by
 have : ∀ n, n < 26 → ∀ m, m < 26 → zQk n = zQk m → n = m := by decide
 exact this n h m h' he
theorem zOJ {n : Nat} (h : n < 26) : zEJ (n : Int) = some (zQk n) := by
 have : ∀ n : Nat, n < 26 → zEJ (n : Int) = some (zQk n) := by decide
 exact this n h
theorem zZu {α β : Type} (g : α → β) {l : List α} {y : α} (h : ∀ (i j : Nat) p q, l[i]? = some p → l[j]? = some q → g p = g q → i = j) (hy : ∀ x ∈ l, g x ≠ g y) : ∀ (i j : Nat) p q, (l ++ [y])[i]? = some p → (l ++ [y])[j]? = some q → g p = g q → i = j := by
 intro i j p q hp hq he
 have key : ∀ (i : Nat) p, (l ++ [y])[i]? = some p → (l[i]? = some p) ∨ (i = l.length ∧ p = y) := fun i p hp => by
  by_cases hi : i < l.length
  ·rw [List.getElem?_append_left hi] at hp; exact .inl hp
  ·rw [List.getElem?_append_right (by omega)] at hp
   have hi2 := vT hp
   simp at hi2
   have : i = l.length := by omega
   subst this
   simp at hp
   exact .inr ⟨rfl, hp.symm⟩
 rcases key i p hp with h1 | ⟨h1, h2⟩ <;> rcases key j q hq with h3 | ⟨h3, h4⟩
 ·exact h i j p q h1 h3 he
 ·subst h4; exact absurd he (hy p (yT h1))
 ·subst h2; exact absurd he.symm (hy q (yT h3))
 ·omega
structure zXl (n : Int) (l : List vO) : Prop where
 ok : ∀ p ∈ l, tB p = 0
 at_ : ∀ p ∈ l, ∃ j : Nat, (j : Int) < n ∧ p.1.2 = tW j
 inj : ∀ (i j : Nat) p q, l[i]? = some p → l[j]? = some q → p.1 = q.1 → i = j
theorem zZg {s : uD} {n : Int} (h1 : 1 ≤ n) (h2 : n ≤ 26) {v k : Int} (hv0 : 0 ≤ v) (hv1 : v ≤ 100) (hk : yG (s.1, k)) : ∃ r, zZ (zF1 s n) (v, k, []) = some r ∧ yG (s.1, r.1) ∧ (r.2.length : Int) ≤ v ∧ zXl n r.2 := by
 refine zLz (B := zF1 s n) (fun t => 0 ≤ t.1 ∧ (t.2.2.length : Int) + t.1 ≤ v ∧ yG (s.1, t.2.1) ∧ zXl n t.2.2) (fun t => t.1.toNat) (fun r => yG (s.1, r.1) ∧ (r.2.length : Int) ≤ v ∧ zXl n r.2) (fun t ht => ?_) _ ⟨hv0, by simp, hk, by simp, by simp, by simp⟩
 obtain ⟨q, k, l⟩ := t
 obtain ⟨t1, t2, t3, t4⟩ := ht
 dsimp only at t1 t2 t3 t4
 unfold zF1
 by_cases hq : 0 < q
 ·obtain ⟨g, j, k1, e1, hj, hk1⟩ := zII t3 h1 h2
  obtain ⟨p, k2, e2, hp, hk2⟩ := zR3 (l := [1, 2, 2, 2, 3]) hk1 (by simp) (by simp)
  obtain ⟨x, k3, e3, hx, hk3⟩ := zQ6 (l := [[], [], [97, 110, 110], [98, 111, 98]]) hk2 (by simp) (by simp)
  obtain ⟨u, k4, e4, hu0, hu1, hk4⟩ := zIM (n := 4) hk3 (by omega) (by omega)
  have hr : zZ (zDQ (q, k, l) ((g, tW j), k1)) (false, 0) = some (l.any fun p => p.1 == (g, tW j)) := by
   obtain ⟨r, hr, hr2⟩ := yW (B := zDQ (q, k, l) ((g, tW j), k1)) (fun i s => (s, (i : Int))) l (fun i s => s = (l.take i).any fun p => p.1 == (g, tW j)) (fun r => r = l.any fun p => p.1 == (g, tW j)) (fun i x s hi hs => .inl (by
    unfold zDQ
    simp only [vK hi, if_true, vF hi, zob, vG hi (show l.length < 4294967296 by omega)]
    exact ⟨_, rfl, by rw [uX hi, List.any_append, ← hs]; simp⟩)) (fun s hs => by
    unfold zDQ
    simp only [yL, zbf, if_false]
    exact ⟨_, rfl, by rw [hs, List.take_length]⟩) false (by simp)
   rw [← hr2]
   exact hr
  dsimp only at e2 e3 e4 hk2 hk3 hk4
  have hq1 : zW (q - 1) = q - 1 := xJ (by omega) (by omega)
  have hmid : ∃ w z, (if (p == 2) = true then (uM (s.1, k3) 4).bind fun r5 => some (r5.2, r5.1) else some (k3, 0) : Option (Int × Int)) = some (w, z) ∧ yG (s.1, w) ∧ tP z = true ∧ (p == 2 || z == 0) = true := by
   split
   ·rename_i hp2
    exact ⟨k4, u, by rw [e4]; rfl, hk4, by simp; omega, by simp [hp2]⟩
   ·exact ⟨k3, 0, rfl, hk3, by simp, by simp⟩
  obtain ⟨w, z, hm, hw, hz1, hz2⟩ := hmid
  simp only [hq, decide_true, if_true, e1, zob, e2, e3, hm, hr, hq1]
  cases hany : l.any fun p => p.1 == (g, tW j) with
  | true => exact .inl ⟨_, rfl, ⟨by show 0 ≤ q - 1; omega, by show (l.length : Int) + (q - 1) ≤ v; omega, hw, t4⟩, by show (q - 1).toNat < q.toNat; omega⟩
  | false =>
   simp only [Bool.not_false, if_true]
   rw [yJ (by simp; omega)]
   refine .inl ⟨_, rfl, ⟨by show 0 ≤ q - 1; omega, by show ((l ++ [((g, tW j), p, z, x)]).length : Int) + (q - 1) ≤ v; simp; omega, hw, fun p' hp' => ?_, fun p' hp' => ?_, zZu _ t4.inj fun p' hp' he => ?_⟩, by show (q - 1).toNat < q.toNat; omega⟩
   ·rcases List.mem_append.1 hp' with hp' | hp'
    ·exact t4.ok p' hp'
    ·simp only [List.mem_singleton] at hp'
     subst hp'
     have hpk : (p == 1 || p == 2 || p == 3) = true := by
      simp only [List.mem_cons, List.not_mem_nil, or_false] at hp
      rcases hp with rfl | rfl | rfl | rfl | rfl <;> rfl
     have hsx : (x == ([] : qC) || vName x) = true := by
      simp only [List.mem_cons, List.not_mem_nil, or_false] at hx
      rcases hx with rfl | rfl | rfl | rfl <;> decide
     unfold tB
     dsimp only
     rw [if_pos hpk, zM4 (by omega), hz1, hz2, hsx]
     rfl
   ·rcases List.mem_append.1 hp' with hp' | hp'
    ·exact t4.at_ p' hp'
    ·simp only [List.mem_singleton] at hp'
     subst hp'
     exact ⟨j, hj, rfl⟩
   ·rw [List.any_eq_false] at hany
    exact hany p' hp' (by rw [beq_iff_eq]; exact he)
 ·simp only [hq, decide_false, zbf, if_false]
  exact .inr ⟨_, rfl, t3, by show (l.length : Int) ≤ v; omega, t4⟩
structure zW8 (l : List qR) : Prop where
 bd : ∀ r ∈ l, r.2.2.2.1.length ≤ 2
 ok : ∀ r ∈ l, xP r = 0
 nm : ∀ (i : Nat) r, l[i]? = some r → r.1 = zQk i
theorem z0V {s : uD} {n m : Int} (h1 : 1 ≤ n) (h2 : n ≤ 26) (hm : 1 ≤ m) (hm2 : m ≤ 26) {v k : Int} (hv0 : 0 ≤ v) (hv1 : v ≤ 24) (hk : yG (s.1, k)) : ∃ r, zZ (zFT s n m) (v, k, []) = some r ∧ yG (s.1, r.1) ∧ (r.2.length : Int) ≤ v ∧ zW8 r.2 := by
 refine zLz (B := zFT s n m) (fun t => 0 ≤ t.1 ∧ (t.2.2.length : Int) + t.1 ≤ v ∧ yG (s.1, t.2.1) ∧ zW8 t.2.2) (fun t => t.1.toNat) (fun r => yG (s.1, r.1) ∧ (r.2.length : Int) ≤ v ∧ zW8 r.2) (fun t ht => ?_) _ ⟨hv0, by simp, hk, by simp, by simp, by simp⟩
 obtain ⟨q, k, l⟩ := t
 obtain ⟨t1, t2, t3, t4⟩ := ht
 dsimp only at t1 t2 t3 t4
 unfold zFT
 by_cases hq : 0 < q
 ·have e0 := zOJ (n := l.length) (by omega)
  obtain ⟨u, k1, e1, _, _, hk1⟩ := zIM (n := 3) t3 (by omega) (by omega)
  obtain ⟨bd, k2, e2, hb2, hbn, hk2⟩ := zTA (m := 2) hk1 (by omega) (by omega) h1 h2
  obtain ⟨bs, e3, hb3, hb4, hb5⟩ := zRA bd (by omega)
  obtain ⟨g, j, k3, e4, hj, hk3⟩ := zII hk2 h1 h2
  obtain ⟨u5, k5, e5, hu5, hu5', hk5⟩ := zIM (n := 4) hk3 (by omega) (by omega)
  dsimp only at e1 e2 e3 e4 e5 hk1 hk2 hk3 hk5
  have hmid : ∃ w z, (if (!(u == 0)) = true then (uM (s.1, k3) 4).bind fun r12 => some (r12.2, r12.1) else some (k3, 0) : Option (Int × Int)) = some (w, z) ∧ yG (s.1, w) ∧ tP z = true ∧ (!(u == 0) || z == 0) = true := by
   split
   ·rename_i hu
    exact ⟨k5, u5, by rw [e5]; rfl, hk5, by simp; omega, by rw [hu]; rfl⟩
   ·exact ⟨k3, 0, rfl, hk3, by simp, by simp⟩
  obtain ⟨w, z, hmm, hw, hz1, hz2⟩ := hmid
  obtain ⟨u6, k6, e6, _, _, hk6⟩ := zIM (n := 6) hw (by omega) (by omega)
  obtain ⟨u7, k7, e7, _, _, hk7⟩ := zIM (n := 4) hk6 (by omega) (by omega)
  obtain ⟨u8, k8, e8, hu8, hu8', hk8⟩ := zIM (n := m) hk7 (by omega) (by omega)
  obtain ⟨n8, rfl⟩ := Int.eq_ofNat_of_zero_le hu8
  have e9 := zOJ (n := n8) (by omega)
  dsimp only at e6 e7 e8 hk6 hk7 hk8
  have hend : ∃ w2 z2 y2, ((uM (s.1, w) 6).bind fun r13 => if (r13.1 == 5) = true then (uM (s.1, r13.2) 4).bind fun r14 => (uM (s.1, r14.2) m).bind fun r15 => (zEJ r15.1).bind fun r16 => some (r15.2, decide (0 < r14.1), r16) else some (r13.2, g, tW j) : Option (Int × Bool × qC)) = some (w2, z2, y2) ∧ yG (s.1, w2) ∧ vName y2 = true := by
   rw [e6]
   simp only [zob]
   split
   ·exact ⟨k8, decide (0 < u7), zQk n8, by rw [e7]; simp only [zob, e8, e9], hk8, zQB (by omega)⟩
   ·exact ⟨k6, g, tW j, rfl, hk6, zM4 (by omega)⟩
  obtain ⟨w2, z2, y2, he, hw2, hy2⟩ := hend
  have hq1 : zW (q - 1) = q - 1 := xJ (by omega) (by omega)
  rw [show len l = ((l.length : Nat) : Int) from rfl]
  simp only [hq, decide_true, if_true, e0, e1, zob, e2, e3, e4, hmm, he, hq1]
  rw [yJ (by simp; omega)]
  refine .inl ⟨_, rfl, ⟨by show 0 ≤ q - 1; omega, by show ((l ++ [_]).length : Int) + (q - 1) ≤ v; simp; omega, hw2, fun r hr => ?_, fun r hr => ?_, fun i r hr => ?_⟩, by show (q - 1).toNat < q.toNat; omega⟩
  ·rcases List.mem_append.1 hr with hr | hr
   ·exact t4.bd r hr
   ·simp only [List.mem_singleton] at hr
    subst hr
    show bs.length ≤ 2
    omega
  ·rcases List.mem_append.1 hr with hr | hr
   ·exact t4.ok r hr
   ·simp only [List.mem_singleton] at hr
    subst hr
    unfold xP
    dsimp only
    have hall : (bs.all fun x => vName x.2) = true := List.all_eq_true.2 fun x hx => by
     obtain ⟨j, hj, hx2⟩ := hbn x (hb5 x hx)
     rw [hx2]
     exact zM4 (by omega)
    rw [if_neg (by omega), zQB (by omega), hy2, hz1, hz2, hall, zWw hb4]
    rfl
  ·by_cases hi : i < l.length
   ·rw [List.getElem?_append_left hi] at hr
    exact t4.nm i r hr
   ·rw [List.getElem?_append_right (by omega)] at hr
    have := vT hr
    simp at this
    have hi2 : i = l.length := by omega
    subst hi2
    simp at hr
    rw [← hr]
 ·simp only [hq, decide_false, zbf, if_false]
  exact .inr ⟨_, rfl, t3, by show (l.length : Int) ≤ v; omega, t4⟩
theorem z0S {s : uD} {n : Int} (h1 : 1 ≤ n) (h2 : n ≤ 26) (o : Int) (rs : List qR) (hrs : rs.length ≤ 100) {v k : Int} (hv0 : 0 ≤ v) (hv1 : v ≤ 100) (hk : yG (s.1, k)) : ∃ r, zZ (zFQ (o, rs) s n) (v, k, []) = some r ∧ yG (s.1, r.1) ∧ (r.2.length : Int) ≤ v ∧ ∀ p ∈ r.2, tP p.2.1 = true ∧ vName p.2.2.2 = true ∧ ∃ q ∈ rs, q.1 = p.1 ∧ q.2.1 = false := by
 refine zLz (B := zFQ (o, rs) s n) (fun t => 0 ≤ t.1 ∧ (t.2.2.length : Int) + t.1 ≤ v ∧ yG (s.1, t.2.1) ∧ ∀ p ∈ t.2.2, tP p.2.1 = true ∧ vName p.2.2.2 = true ∧ ∃ q ∈ rs, q.1 = p.1 ∧ q.2.1 = false) (fun t => t.1.toNat) (fun r => yG (s.1, r.1) ∧ (r.2.length : Int) ≤ v ∧ ∀ p ∈ r.2, tP p.2.1 = true ∧ vName p.2.2.2 = true ∧ ∃ q ∈ rs, q.1 = p.1 ∧ q.2.1 = false) (fun t ht => ?_) _ ⟨hv0, by simp, hk, by simp⟩
 obtain ⟨q, k, l⟩ := t
 obtain ⟨t1, t2, t3, t4⟩ := ht
 dsimp only at t1 t2 t3 t4
 unfold zFQ
 by_cases hq : 0 < q ∧ 0 < rs.length
 ·have hc : (decide (0 < q) && decide (0 < len rs)) = true := by simp [len]; omega
  obtain ⟨u, k1, e1, hu0, hu1, hk1⟩ := zIM (n := len rs) t3 (by simp [len]; omega) (by simp [len]; omega)
  obtain ⟨r, hr⟩ := tQ (l := rs) hu0 hu1
  obtain ⟨u2, k2, e2, hu2, hu2', hk2⟩ := zIM (n := 10) hk1 (by omega) (by omega)
  obtain ⟨g, j, k3, e3, hj, hk3⟩ := zII hk2 h1 h2
  dsimp only at e1 e2 e3 hk1 hk2 hk3
  have hq1 : zW (q - 1) = q - 1 := xJ (by omega) (by omega)
  simp only [hc, if_true, e1, zob, hr, hq1]
  cases hst : r.2.1 with
  | true =>
   simp only [Bool.not_true, zbf, if_false]
   exact .inl ⟨_, rfl, ⟨by show 0 ≤ q - 1; omega, by show (l.length : Int) + (q - 1) ≤ v; omega, hk1, t4⟩, by show (q - 1).toNat < q.toNat; omega⟩
  | false =>
   simp only [Bool.not_false, if_true, e2, e3, zob]
   rw [yJ (by simp; omega)]
   refine .inl ⟨_, rfl, ⟨by show 0 ≤ q - 1; omega, by show ((l ++ [_]).length : Int) + (q - 1) ≤ v; simp; omega, hk3, fun p hp => ?_⟩, by show (q - 1).toNat < q.toNat; omega⟩
   rcases List.mem_append.1 hp with hp | hp
   ·exact t4 p hp
   ·simp only [List.mem_singleton] at hp
    subst hp
    obtain ⟨i, _, hi⟩ := zMu hr
    exact ⟨by simp; omega, zM4 (by omega), r, yT hi, rfl, hst⟩
 ·have hc : (decide (0 < q) && decide (0 < len rs)) = false := by
   rw [Bool.and_eq_false_iff]
   by_cases h : 0 < q
   ·have h0 : ¬ 0 < rs.length := fun h3 => hq ⟨h, h3⟩
    exact .inr (decide_eq_false (by show ¬ (0 : Int) < (rs.length : Int); omega))
   ·exact .inl (by simpa using h)
  simp only [hc, zbf, if_false]
  exact .inr ⟨_, rfl, t3, by show (l.length : Int) ≤ v; omega, t4⟩
structure Drawn (b : zM) (n p q : Int) : Prop where
 np : (b.1.length : Int) ≤ p
 nr : (b.2.1.length : Int) ≤ q
 nm : b.2.2.length ≤ 2
 bd : ∀ r ∈ b.2.1, r.2.2.2.1.length ≤ 2
 valid : zH8 b
 names : ∀ (i : Nat) r, b.2.1[i]? = some r → r.1 = zQk i
 at_ : ∀ p ∈ b.1, ∃ j : Nat, (j : Int) < n ∧ p.1.2 = tW j
theorem zXu {s : uD} (h : yG s) {n p q : Int} (h1 : 1 ≤ n) (h2 : n ≤ 26) (hp : 0 ≤ p) (hp2 : p ≤ 16) (hq : 1 ≤ q) (hq2 : q ≤ 24) : ∃ b k, zHN s n p q = some (b, k) ∧ yG (s.1, k) ∧ Drawn b n p q := by
 unfold zHN
 obtain ⟨u1, k1, e1, a1, b1, hk1⟩ := zIM (n := p + 1) h (by omega) (by omega)
 obtain ⟨⟨o1, ps⟩, e2, hk2, hl2, hp2'⟩ := zZg (s := s) h1 h2 a1 (by omega) hk1
 obtain ⟨u3, k3, e3, a3, b3, hk3⟩ := zIM (n := q + 1) hk2 (by omega) (by omega)
 obtain ⟨⟨o4, rs⟩, e4, hk4, hl4, hb4⟩ := z0V (s := s) h1 h2 hq (by omega) a3 (by omega) hk3
 obtain ⟨u5, k5, e5, a5, b5, hk5⟩ := zIM (n := 3) hk4 (by omega) (by omega)
 dsimp only at hl2 hl4 hb4 hp2'
 obtain ⟨⟨o6, ms⟩, e6, hk6, hl6, hm6⟩ := z0S (s := s) h1 h2 o4 rs (by omega) a5 (by omega) hk5
 dsimp only at e3 e5 hl6 hm6
 rw [xJ (x := p + 1) (by omega) (by omega), xJ (x := q + 1) (by omega) (by omega)]
 have hinj : ∀ (i j : Nat) p q, rs[i]? = some p → rs[j]? = some q → p.1 = q.1 → i = j := fun i j p q hp hq he => by
  have := vT hp
  have := vT hq
  rw [hb4.nm i p hp, hb4.nm j q hq] at he
  exact zYO (by omega) (by omega) he
 refine ⟨(ps, rs, ms), o6, ?_, hk6, by show (ps.length : Int) ≤ p; omega, by show (rs.length : Int) ≤ q; omega, by show ms.length ≤ 2; omega, hb4.bd, ⟨by show ps.length ≤ 16; omega, by show rs.length ≤ 24; omega, by show ms.length ≤ 8; omega, hp2'.ok, hb4.ok, hp2'.inj, hinj, fun m hm => ?_⟩, hb4.nm, hp2'.at_⟩
 ·simp only [e1, zob, e2, e3, e4, e5, e6]
 ·obtain ⟨g1, g2, r, g3, g4, g5⟩ := hm6 m hm
  obtain ⟨i, hi⟩ := List.mem_iff_getElem?.1 g3
  have hf := zRq (q := fun r : qR => r.1 == m.1) hi (by simp [g4])
  obtain ⟨k, r', f1, f2, f3, _⟩ := zUW hf.1
  have hki := hinj k i r' r f2 hi (by rw [g4]; simpa using f3)
  subst hki
  rw [f2] at hi
  cases hi
  unfold zP3 tZ
  dsimp only
  rw [g1, g2, f1]
  have : ¬ ((k : Int) < 0) := by omega
  simp [this, uC, f2, g5]
end
section
theorem zY0 {s : uD} (h : yG s) : ∃ (g : Bool) (x : qC) (k : Int), zFI s = some ((g, x), k) ∧ x.length ≤ 13 ∧ yG (s.1, k) := by
 obtain ⟨v, k, hr, h2, h3, hk⟩ := zIM (n := 2) h (by omega) (by omega)
 obtain ⟨x, k2, ht, hx, hk2⟩ := zQ6 (s := (s.1, k)) (l := ([[], [97], [65], [97, 49, 95], [49, 97], [95, 97], [97, 98, 99, 100, 101, 102, 103, 104, 105, 106, 107, 108], [97, 98, 99, 100, 101, 102, 103, 104, 105, 106, 107, 108, 109], [97, 126], [126, 97], [97, 32, 98]] : List qC)) hk (by simp) (by decide)
 refine ⟨v == 1, x, k2, ?_, ?_, hk2⟩
 ·unfold zFI
  rw [hr]
  simp only [zob, ht]
 ·have : ∀ y ∈ ([[], [97], [65], [97, 49, 95], [49, 97], [95, 97], [97, 98, 99, 100, 101, 102, 103, 104, 105, 106, 107, 108], [97, 98, 99, 100, 101, 102, 103, 104, 105, 106, 107, 108, 109], [97, 126], [126, 97], [97, 32, 98]] : List qC), y.length ≤ 13 := by decide
  exact this x hx
end
end Go.GD
