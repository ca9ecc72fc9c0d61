/- Part of the proof. Conditions: none. -/
import Derived.Test.YtkjadnjfmdgngaaGreatDoorLib
import Derived.Test.YtkjadnjfmdgngaaGreatDoorModels
import Derived.Lib.TrailingZeros
import Derived.Shelf.Strings.FieldsAny
import Derived.Test.YtkjadnjfmdgngaaGreatDoorJoin
namespace Go.GD
set_option autoImplicit false
set_option linter.unusedVariables false
section
noncomputable def zDO (r1 : (List (List Int))) (s1 : (List (List Int)) × Int) (s2 : (List (List Int)) × Int) : Option (((List (List Int)) × Int) ⊕ (((List (List Int)) × Int) ⊕ (List (List Int)))) :=
 if decide (s2.2 < (len r1)) then
  (zG r1 s2.2).bind fun x1 =>
  (wI ([s1.2] : List Int) x1).bind fun x2 =>
  (wI s2.1 ([x2] : List (List Int))).bind fun x3 =>
  some (.inl (x3, zQ (s2.2 + 1)))
 else
  some (.inr (.inl (s2.1, zQ (s1.2 + 1))))
noncomputable def zDK (y0 : Int) (rec_ref24_subsets : Int → Int → Int → Option (List (List Int))) (y1 : Int) (s1 : (List (List Int)) × Int) : Option (((List (List Int)) × Int) ⊕ (List (List Int))) :=
 if decide (s1.2 < y0) then
  (rec_ref24_subsets y0 (zQ (y1 - 1)) (zQ (s1.2 + 1))).bind fun r1 =>
  zW (zDO r1 s1) (s1.1, 0)
 else
  some (.inr s1.1)
noncomputable def zIz (rec_ref24_subsets : Int → Int → Int → Option (List (List Int))) (y0 : Int) (y1 : Int) (y2 : Int) : Option (List (List Int)) :=
 if y1 == 0 then
  some ([([] : List Int)] : List (List Int))
 else
  zW (zDK y0 rec_ref24_subsets y1) (([] : List (List Int)), y2)
noncomputable def zCT : Nat → Int → Int → Int → Option (List (List Int))
 | 0 => fun _ _ _ => none
 | k + 1 => fun y0 y1 y2 => zIz (zCT k) y0 y1 y2
noncomputable def zIx (y0 : Int) (y1 : Int) (y2 : Int) : Option (List (List Int)) := zUN fun k => zCT k y0 y1 y2
noncomputable def zDf (r4 : (List (List Int))) (y0 : zR) (y1 : vF) (y2 : zM) (r3 : Bool) (s3 : (List (List Int)) × Int) : Option (((List (List Int)) × Int) ⊕ (List (List Int))) :=
 if decide (s3.2 < (len r4)) then
  (zG r4 s3.2).bind fun x1 =>
  (zBF y0 y1 y2 x1).bind fun r5 =>
  if !(r5 == r3) then
   (wI s3.1 ([x1] : List (List Int))).bind fun x2 =>
   some (.inl (x2, zQ (s3.2 + 1)))
  else
   some (.inl (s3.1, zQ (s3.2 + 1)))
 else
  some (.inr s3.1)
noncomputable def zDp (y0 : zR) (y1 : vF) (y2 : zM) (r3 : Bool) (s1 : Int) : Option (Int ⊕ ((List (List Int)) × Int)) :=
 if decide (s1 ≤ (len y0.1)) then
  (
   (zIx (len y0.1) s1 0).bind fun r4 =>
   zW (zDf r4 y0 y1 y2 r3) (([] : List (List Int)), 0) : Option (List (List Int))).bind fun s2 =>
  if decide (0 < (len s2)) then
   some (.inr (s2, 0))
  else
   some (.inl (zQ (s1 + 1)))
 else
  some (.inr (([] : List (List Int)), 9))
noncomputable def zGV (y0 : zR) (y1 : vF) (y2 : zM) : Option ((List (List Int)) × Int) :=
 (zC7 y0 y1).bind fun r1 =>
 if r1.2 != 0 then
  some (([] : List (List Int)), r1.2)
 else
  (zCI y2).bind fun r2 =>
  if !r2 then
   some (([] : List (List Int)), 3)
  else
   if decide (10 < (len y0.1)) then
    some (([] : List (List Int)), 2)
   else
    (zBF y0 y1 y2 ([] : List Int)).bind fun r3 =>
    zW (zDp y0 y1 y2 r3) 1
end
section
theorem uM {x : Int} (h1 : -9223372036854775808 ≤ x) (h2 : x < 9223372036854775808) : zQ x = x := by
 simp only [zQ, IntKind.wrap, IntKind.signed, IntKind.bits]
 simp; omega
theorem zWv (n : Nat) (h : n < 9223372036854775808) : zQ (n : Int) = n := uM (by omega) (by omega)
theorem vY (n : Nat) (h : n + 1 < 9223372036854775808) : zQ ((n : Int) + 1) = ((n + 1 : Nat) : Int) := by rw [uM (by omega) (by omega)]; omega
theorem xI {α : Type} (l : List α) (i : Nat) : zG l (i : Int) = l[i]? := by simp [zG]
theorem zU0 (l : vD) (i : Nat) : zR3 l (i : Int) = (l[i]?).map (fun b => (b.toNat : Int)) := by simp [zR3]
theorem zMo {α : Type} {l : List α} {i : Int} (h0 : 0 ≤ i) (h1 : i < l.length) : ∃ x, zG l i = some x ∧ l[i.toNat]? = some x := by
 have : l[i.toNat]? = some l[i.toNat] := List.getElem?_eq_getElem (by omega)
 exact ⟨_, by simp [zG, h0, this], this⟩
theorem vT {α : Type} {l m : List α} (h : l.length + m.length < 4294967296) : wI l m = some (l ++ m) := by simp [wI, h]
theorem zK6 {α : Type} {l : List α} {j : Int} (h1 : 0 ≤ j) (h2 : j ≤ l.length) : sub l 0 j = some (l.take j.toNat) := by simp [sub, h1, h2]
theorem zWM {α : Type} {l : List α} {i : Int} (h1 : 0 ≤ i) (h2 : i ≤ l.length) : sub l i (len l) = some (l.drop i.toNat) := by simp [sub, h1, h2]
def zRO {σ ρ α : Type} (step : Nat → σ → α → Option (σ ⊕ ρ)) (fin : σ → Option ρ) : Nat → List α → σ → Option ρ
 | _, [], s => fin s
 | i, x :: l, s => match step i s x with
  | none => none
  | some (.inl s') => zRO step fin (i + 1) l s'
  | some (.inr r) => some r
theorem zWh {σ ρ α τ : Type} {B : τ → Option (τ ⊕ ρ)} (mk : Nat → σ → τ) (l : List α) (step : Nat → σ → α → Option (σ ⊕ ρ)) (fin : σ → Option ρ)
  (hB : ∀ i x s, l[i]? = some x → B (mk i s) = (step i s x).map fun o => match o with | .inl s' => .inl (mk (i + 1) s') | .inr r => .inr r)
  (he : ∀ s, B (mk l.length s) = (fin s).map .inr) : ∀ (n i : Nat) (s : σ), i + n = l.length → zW B (mk i s) = zRO step fin i (l.drop i) s := by
 intro n
 induction n with
 | zero =>
  intro i s h
  rw [Nat.add_zero] at h
  subst h
  rw [yD, he, List.drop_length]
  cases hf : fin s <;> simp [zRO, hf]
 | succ n ih =>
  intro i s h
  have hx : l[i]? = some l[i] := List.getElem?_eq_getElem (by omega)
  rw [yD, hB i _ s hx, List.drop_eq_getElem_cons (by omega)]
  cases hs : step i s l[i] with
  | none => simp [zRO, hs]
  | some o =>
   cases o with
   | inl s' => simp only [Option.map_some, zRO, hs]; exact ih (i + 1) s' (by omega)
   | inr r => simp [zRO, hs]
theorem zMA {σ ρ α τ : Type} {B : τ → Option (τ ⊕ ρ)} (mk : Nat → σ → τ) (l : List α) (step : Nat → σ → α → Option (σ ⊕ ρ)) (fin : σ → Option ρ)
  (hB : ∀ i x s, l[i]? = some x → B (mk i s) = (step i s x).map fun o => match o with | .inl s' => .inl (mk (i + 1) s') | .inr r => .inr r)
  (he : ∀ s, B (mk l.length s) = (fin s).map .inr) (s : σ) : zW B (mk 0 s) = zRO step fin 0 l s := by
 have := zWh mk l step fin hB he l.length 0 s (by omega)
 simpa using this
theorem zUJ {ρ α : Type} {B : Int → Option (Int ⊕ ρ)} {l : List α} {r : ρ} (hB : ∀ (i : Nat) (x : α), l[i]? = some x → B (i : Int) = some (.inl ((i + 1 : Nat) : Int)))
  (he : B (l.length : Int) = some (.inr r)) : zW B 0 = some r := by
 have h := zMA (B := B) (fun i (_ : Unit) => (i : Int)) l (fun _ _ _ => some (.inl ())) (fun _ => some r) (fun i x s hx => by simp [hB i x hx]) (fun s => by simp [he]) ()
 have key : ∀ (l : List α) (i : Nat), zRO (fun _ (_ : Unit) (_ : α) => some (.inl ())) (fun _ => some r) i l () = some r := by
  intro l
  induction l with
  | nil => intro i; rfl
  | cons x l ih => intro i; exact ih (i + 1)
 rw [key] at h
 exact h
theorem yP {ρ α σ τ : Type} {B : τ → Option (τ ⊕ ρ)} (mk : Nat → σ → τ) (l : List α) (I : Nat → σ → Prop) (Q : ρ → Prop)
  (hB : ∀ i x s, l[i]? = some x → I i s → (∃ s', B (mk i s) = some (.inl (mk (i + 1) s')) ∧ I (i + 1) s') ∨ ∃ r, B (mk i s) = some (.inr r) ∧ Q r)
  (he : ∀ s, I l.length s → ∃ r, B (mk l.length s) = some (.inr r) ∧ Q r) : ∀ s, I 0 s → ∃ r, zW B (mk 0 s) = some r ∧ Q r := by
 have key : ∀ n i s, i + n = l.length → I i s → ∃ r, zW B (mk i s) = some r ∧ Q r := by
  intro n
  induction n with
  | zero =>
   intro i s h hI
   rw [Nat.add_zero] at h
   subst h
   obtain ⟨r, h1, h2⟩ := he s hI
   exact ⟨r, by rw [yD, h1], h2⟩
  | succ n ih =>
   intro i s h hI
   have hx : l[i]? = some l[i] := List.getElem?_eq_getElem (by omega)
   rcases hB i _ s hx hI with ⟨s', h1, h2⟩ | ⟨r, h1, h2⟩
   ·obtain ⟨r, h3, h4⟩ := ih (i + 1) s' (by omega) h2
    exact ⟨r, by rw [yD, h1]; exact h3, h4⟩
   ·exact ⟨r, by rw [yD, h1], h2⟩
 exact fun s hI => key l.length 0 s (by omega) hI
theorem zYH {ρ τ : Type} {B : τ → Option (τ ⊕ ρ)} (μ : τ → Nat) (I : τ → Prop) (Q : ρ → Prop)
  (step : ∀ s, I s → (∃ s', B s = some (.inl s') ∧ I s' ∧ μ s' < μ s) ∨ (∃ r, B s = some (.inr r) ∧ Q r)) (s : τ) (h : I s) : ∃ r, zW B s = some r ∧ Q r := zLZ I μ Q step s h
end
section
structure uG (s : uO) : Prop where
 lo : 0 ≤ s.2
 hi : s.2 ≤ s.1.length
 small : s.1.length ≤ 2000
theorem zXn (l : List Int) : zLz l = some (l.take 2000, 0) := by
 unfold zLz
 by_cases h : 2000 < len l
 ·rw [if_pos h, zK6 (by omega) (by simp [len] at h; omega)]; rfl
 ·rw [if_neg h, zK6 (by simp [len]) (by simp [len])]
  simp only [zob]
  rw [List.take_of_length_le (by simp), List.take_of_length_le (by simp [len] at h; omega)]
theorem zW6 (l : List Int) : uG (l.take 2000, 0) := ⟨Int.le_refl _, by simp, by simp; omega⟩
theorem zUY {s : uO} (h : uG s) : ∃ v k, zHw s = some (v, k) ∧ uG (s.1, k) := by
 obtain ⟨h1, h2, h3⟩ := h
 unfold zHw
 by_cases hk : len s.1 ≤ s.2
 ·exact ⟨0, s.2, by simp [hk], h1, h2, h3⟩
 ·have hk' : s.2 < s.1.length := by simpa [len] using hk
  obtain ⟨x, hx, _⟩ := zMo h1 hk'
  refine ⟨x, s.2 + 1, ?_, by show (0 : Int) ≤ s.2 + 1; omega, by show s.2 + 1 ≤ (s.1.length : Int); omega, h3⟩
  simp only [hk, decide_false, zbf, if_false]
  rw [uM (x := s.2 + 1) (by omega) (by omega), show s.2 + 1 - 1 = s.2 by omega, uM (by omega) (by omega), hx]; rfl
theorem zYJ {x n : Int} (h0 : 1 ≤ n) (h1 : n ≤ 4611686018427387904) : ∃ v, zIw x n = some v ∧ 0 ≤ v ∧ v < n := by
 unfold zIw
 have hn : ¬ n < 1 := by omega
 have hn0 : n ≠ 0 := by omega
 simp only [hn, decide_false, zbf, if_false, remK, hn0, zob]
 have ha := Int.tmod_lt_of_pos x (show 0 < n by omega)
 have hb : -n < x.tmod n := by
  have := Int.lt_tmod_of_pos x (show 0 < n by omega)
  exact this
 by_cases hx : x.tmod n < 0
 ·exact ⟨x.tmod n + n, by simp [hx, uM (x := x.tmod n + n) (by omega) (by omega)], by omega, by omega⟩
 ·exact ⟨x.tmod n, by simp [hx], by omega, ha⟩
theorem zI0 {s : uO} {n : Int} (h : uG s) (h0 : 1 ≤ n) (h1 : n ≤ 4611686018427387904) : ∃ v k, xQ s n = some (v, k) ∧ 0 ≤ v ∧ v < n ∧ uG (s.1, k) := by
 obtain ⟨v, k, hr, hk⟩ := zUY h
 obtain ⟨u, hu, h2, h3⟩ := zYJ (x := v) h0 h1
 exact ⟨u, k, by simp [xQ, hr, hu], h2, h3, hk⟩
theorem zXL {s : uO} {l : List vD} (h : uG s) (h0 : l ≠ []) (h1 : l.length ≤ 1000) : ∃ x k, zHU s l = some (x, k) ∧ x ∈ l ∧ uG (s.1, k) := by
 have hp := List.length_pos_iff.2 h0
 obtain ⟨v, k, hr, h2, h3, hk⟩ := zI0 (n := len l) h (by simp [len]; omega) (by simp [len]; omega)
 obtain ⟨x, hx, hx2⟩ := zMo h2 h3
 exact ⟨x, k, by simp [zHU, hr, hx], List.mem_of_getElem? hx2, hk⟩
theorem band1 (k : Int) (h0 : 0 ≤ k) (h1 : k < 4611686018427387904) : yF .i64 k 1 = k % 2 := by
 obtain ⟨n, rfl⟩ := Int.eq_ofNat_of_zero_le h0
 unfold yF
 have h2 : (BitVec.ofInt IntKind.i64.bits (n : Int) &&& BitVec.ofInt IntKind.i64.bits 1).toNat = n % 2 := by
  show (BitVec.ofInt 64 (n : Int) &&& 1#64).toNat = n % 2
  rw [BitVec.toNat_and, BitVec.ofInt_natCast, BitVec.toNat_ofNat]
  show n % 2 ^ 64 &&& 1 = n % 2
  rw [Nat.and_one_is_mod]
  omega
 rw [h2]
 show zQ _ = _
 rw [uM (by omega) (by omega)]
 omega
def uZ (k : Nat) : vD := [UInt8.ofNat (97 + k)]
theorem zIS {s : uO} {n : Int} (h : uG s) (h0 : 1 ≤ n) (h1 : n ≤ 26) : ∃ (g : Bool) (j : Nat) (k : Int), zAg s n = some ((g, uZ j), k) ∧ (j : Int) < n ∧ uG (s.1, k) := by
 obtain ⟨v, k, hr, h2, h3, hk⟩ := zI0 (n := 2 * n) h (by omega) (by omega)
 obtain ⟨m, rfl⟩ := Int.eq_ofNat_of_zero_le h2
 refine ⟨yF .i64 m 1 == 1, m / 2, k, ?_, by omega, hk⟩
 unfold zAg
 rw [uM (x := 2 * n) (by omega) (by omega), hr]
 have hq : quoK .i64 (m : Int) 2 = some ((m / 2 : Nat) : Int) := by
  simp only [quoK]
  rw [if_neg (by omega)]
  show some (zQ _) = _
  have : (m : Int).tdiv 2 = ((m / 2 : Nat) : Int) := by
   rw [Int.tdiv_eq_ediv_of_nonneg (by omega)]; omega
  rw [this, uM (by omega) (by omega)]
 simp only [zob, hq]
 have hw : IntKind.u8.wrap (zQ (97 + ((m / 2 : Nat) : Int))) = ((97 + m / 2 : Nat) : Int) := by
  rw [uM (by omega) (by omega)]
  simp only [IntKind.wrap, IntKind.signed, IntKind.bits]
  simp; omega
 rw [hw]
 rfl
end
section
theorem zY2 {α : Type} (l : List α) (i k : Nat) : tU l (i : Int) (k : Int) = l[i + k]? := by
 simp only [tU]
 rw [if_pos (by omega), show ((i : Int) + (k : Int)) = ((i + k : Nat) : Int) by omega, xI]
section
variable {α : Type} [BEq α]
noncomputable def zL6 (y0 : List α) (s1 : Int) (s3 : (List α) × Int × Int) : Option (((List α) × Int × Int) ⊕ ((List α) × Int)) :=
 if decide (s3.2.2 < ((Int.toNat (((List.length y0 : Nat) : Int) - s1) : Nat) : Int)) then
  (tU s3.1 s1 s3.2.2).bind fun x3 =>
  (tU s3.1 s1 (zQ (s3.2.2 - 1))).bind fun x4 =>
  if !(x3 == x4) then
   (tU s3.1 s1 s3.2.2).bind fun x5 =>
   (zG s3.1 s3.2.1).bind fun _ =>
   some (.inl (List.set s3.1 (Int.toNat s3.2.1) x5, zQ (s3.2.1 + 1), zQ (s3.2.2 + 1)))
  else
   some (.inl (s3.1, s3.2.1, zQ (s3.2.2 + 1)))
 else
  some (.inr (s3.1, s3.2.1))
noncomputable def zN6 (z : α) (y0 : List α) (s1 : Int) : Option (Int ⊕ (List α)) :=
 if decide (s1 < (len y0)) then
  (zG y0 s1).bind fun x1 =>
  (zG y0 (zQ (s1 - 1))).bind fun x2 =>
  if x1 == x2 then
   (uH (decide (0 ≤ s1) && decide (s1 ≤ len y0))).bind fun _ =>
   (zW (zL6 y0 s1) (y0, s1, 1) : Option ((List α) × Int)).bind fun s2 =>
   (uH (decide (0 ≤ s2.2) && decide (s2.2 ≤ len s2.1))).bind fun _ =>
   (sub (zB1 s2.1 s2.2 z) 0 s2.2).bind fun x7 =>
   some (.inr x7)
  else
   some (.inl (zQ (s1 + 1)))
 else
  some (.inr y0)
noncomputable def zRF (z : α) (y0 : List α) : Option (List α) :=
 if decide ((len y0) < 2) then
  some y0
 else
  zW (zN6 z y0) 1
def dd (a : α) : List α → List α
 | [] => []
 | b :: r => if a == b then dd b r else b :: dd b r
def tI : List α → List α
 | [] => []
 | a :: r => a :: dd a r
theorem zSY : ∀ (r s : List α) (a : α), dd a (r ++ s) = dd a r ++ dd (r.getLastD a) s
 | [], s, a => rfl
 | b :: r, s, a => by
  simp only [List.cons_append, dd, zSY r s b, List.getLastD_cons]
  split <;> simp
theorem zQS {l : List α} {j : Nat} {y x : α} (h1 : l[j]? = some y) (h2 : l[j + 1]? = some x) : tI (l.take (j + 2)) = tI (l.take (j + 1)) ++ if y == x then [] else [x] := by
 have e1 : l.take (j + 2) = l.take (j + 1) ++ [x] := by
  rw [List.take_add_one (i := j + 1), h2]; rfl
 have e2 : l.take (j + 1) = l.take j ++ [y] := by rw [List.take_add_one, h1]; rfl
 rw [e1]
 cases hl : l.take (j + 1) with
 | nil => rw [hl] at e2; cases h3 : l.take j <;> simp [h3] at e2
 | cons a r =>
  have hlast : r.getLastD a = y := by
   have : (a :: r).getLast? = some y := by rw [← hl, e2]; simp
   rw [← List.getLastD_cons (a := a) (b := a) (l := r), List.getLastD_eq_getLast?, this]; rfl
  simp only [List.cons_append, tI, zSY, hlast, dd]
theorem zYh : ∀ (r : List α) (a : α), (dd a r).length ≤ r.length
 | [], _ => Nat.le_refl _
 | b :: r, a => by
  simp only [dd]
  have := zYh r b
  split <;> simp <;> omega
theorem zW2 (l : List α) : (tI l).length ≤ l.length := by
 cases l with
 | nil => simp [tI]
 | cons a r => have := zYh r a; simp [tI]; omega
theorem zQM [LawfulBEq α] (l : List α) (i0 : Nat) (h0 : 1 ≤ i0) (hi : i0 < l.length) (hbig : l.length < 9223372036854775807) (hd : tI (l.take (i0 + 1)) = tI (l.take i0)) (hk : tI (l.take i0) = l.take i0) :
  ∃ c k, zW (zL6 l (i0 : Int)) (l, (i0 : Int), 1) = some (c, ((k : Nat) : Int)) ∧ c.length = l.length ∧ k ≤ l.length ∧ c.take k = tI l := by
 have key : ∀ n k2 (c : List α) (k : Nat), i0 + k2 + n = l.length → 1 ≤ k2 → c.length = l.length → k + 1 ≤ i0 + k2 → (∀ j, i0 + k2 ≤ j + 1 → c[j]? = l[j]?) → c.take k = tI (l.take (i0 + k2)) →
   ∃ c' k', zW (zL6 l (i0 : Int)) (c, (k : Int), (k2 : Int)) = some (c', ((k' : Nat) : Int)) ∧ c'.length = l.length ∧ k' ≤ l.length ∧ c'.take k' = tI l := by
  intro n
  induction n with
  | zero =>
   intro k2 c k hn h1 hc hk1 hsame htake
   refine ⟨c, k, ?_, hc, by omega, ?_⟩
   ·rw [yD]
    unfold zL6
    have : decide ((k2 : Int) < ((Int.toNat (((List.length l : Nat) : Int) - (i0 : Int)) : Nat) : Int)) = false := by simp; omega
    simp only [this, zbf, if_false]
   ·rw [htake, List.take_of_length_le (by omega)]
  | succ n ih =>
   intro k2 c k hn h1 hc hk1 hsame htake
   have hx : l[i0 + k2]? = some l[i0 + k2] := List.getElem?_eq_getElem (by omega)
   have hy : l[i0 + k2 - 1]? = some l[i0 + k2 - 1] := List.getElem?_eq_getElem (by omega)
   have hcx : c[i0 + k2]? = some l[i0 + k2] := by rw [hsame _ (by omega)]; exact hx
   have hcy : c[i0 + (k2 - 1)]? = some l[i0 + k2 - 1] := by rw [hsame _ (by omega), ← hy]; congr 1; omega
   have hlt : decide ((k2 : Int) < ((Int.toNat (((List.length l : Nat) : Int) - (i0 : Int)) : Nat) : Int)) = true := by simp; omega
   have hw1 : zQ ((k2 : Int) - 1) = ((k2 - 1 : Nat) : Int) := by rw [uM (by omega) (by omega)]; omega
   have hdt := zQS (l := l) (j := i0 + k2 - 1) (y := l[i0 + k2 - 1]) (x := l[i0 + k2]) hy (by rw [show i0 + k2 - 1 + 1 = i0 + k2 by omega]; exact hx)
   rw [show i0 + k2 - 1 + 2 = i0 + (k2 + 1) by omega, show i0 + k2 - 1 + 1 = i0 + k2 by omega] at hdt
   have hklt : k < c.length := by omega
   rw [yD]
   unfold zL6
   simp only [hlt, if_true, zY2, hcx, zob, hw1, hcy]
   rw [BEq.comm]
   have hklt' : zG c (k : Int) = some c[k] := by rw [xI]; exact List.getElem?_eq_getElem hklt
   cases hb : l[i0 + k2 - 1] == l[i0 + k2] with
   | true =>
    simp only [Bool.not_true, zbf, if_false]
    rw [vY k2 (by omega)]
    have := ih (k2 + 1) c k (by omega) (by omega) hc (by omega) (fun j hj => hsame j (by omega)) (by rw [hdt, hb]; simpa using htake)
    exact this
   | false =>
    simp only [Bool.not_false, if_true, hklt', zob]
    rw [vY k2 (by omega), vY k (by omega), Int.toNat_natCast]
    refine ih (k2 + 1) (c.set k l[i0 + k2]) (k + 1) (by omega) (by omega) (by simp [hc]) (by omega) (fun j hj => ?_) ?_
    ·rw [List.getElem?_set_ne (by omega)]; exact hsame j (by omega)
    ·rw [hdt, hb, ← htake]
     rw [List.take_add_one, List.getElem?_set_self hklt, List.take_set_of_le (Nat.le_refl _)]
     rfl
 have hsome : l[i0]? = some l[i0] := List.getElem?_eq_getElem hi
 refine key (l.length - (i0 + 1)) 1 l i0 (by omega) (Nat.le_refl _) rfl (by omega) (fun j _ => rfl) ?_
 rw [hd, hk]
theorem zKq [LawfulBEq α] (z : α) (l : List α) (hbig : l.length < 9223372036854775807) : zRF z l = some (tI l) := by
 unfold zRF
 by_cases h2 : l.length < 2
 ·have : decide (len l < 2) = true := by simp [len]; omega
  simp only [this, if_true]
  match l, h2 with
  | [], _ => rfl
  | [a], _ => rfl
 ·have : decide (len l < 2) = false := by simp [len]; omega
  simp only [this, zbf, if_false]
  have key : ∀ n k, k + n = l.length → 1 ≤ k → tI (l.take k) = l.take k → zW (zN6 z l) (k : Int) = some (tI l) := by
   intro n
   induction n with
   | zero =>
    intro k hn h1 hp
    rw [yD]
    unfold zN6
    have : decide ((k : Int) < len l) = false := by simp [len]; omega
    simp only [this, zbf, if_false]
    rw [List.take_of_length_le (by omega)] at hp
    rw [hp]
   | succ n ih =>
    intro k hn h1 hp
    have hx : l[k]? = some l[k] := List.getElem?_eq_getElem (by omega)
    have hy : l[k - 1]? = some l[k - 1] := List.getElem?_eq_getElem (by omega)
    have hlt : decide ((k : Int) < len l) = true := by simp [len]; omega
    have hw1 : zQ ((k : Int) - 1) = ((k - 1 : Nat) : Int) := by rw [uM (by omega) (by omega)]; omega
    have hdt := zQS (l := l) (j := k - 1) (y := l[k - 1]) (x := l[k]) hy (by rw [show k - 1 + 1 = k by omega]; exact hx)
    rw [show k - 1 + 2 = k + 1 by omega, show k - 1 + 1 = k by omega, hp] at hdt
    rw [yD]
    unfold zN6
    simp only [hlt, if_true, xI, hx, hw1, hy, zob]
    rw [BEq.comm]
    cases hb : l[k - 1] == l[k] with
    | true =>
     have hc1 : (decide (0 ≤ (k : Int)) && decide ((k : Int) ≤ len l)) = true := by simp [len]; omega
     obtain ⟨c, q, hl, hcl, hq, htk⟩ := zQM l k h1 (by omega) hbig (by rw [hdt, hb, hp]; simp) hp
     have hc2 : (decide (0 ≤ ((q : Nat) : Int)) && decide (((q : Nat) : Int) ≤ len c)) = true := by simp [len]; omega
     simp only [if_true, hc1, uH, zob, hl, hc2]
     rw [zK6 (by omega) (by rw [zG7, hcl]; omega)]
     simp only [zob, Int.toNat_natCast, zB1, htk]
     have hdl : (tI l).length = q := by rw [← htk, List.length_take]; omega
     rw [← hdl, List.take_left]
    | false =>
     simp only [zbf, if_false]
     rw [vY k (by omega)]
     refine ih (k + 1) (by omega) (by omega) ?_
     rw [hdt, hb, List.take_add_one, hx]; rfl
  exact key (l.length - 1) 1 (by omega) (Nat.le_refl _) (by match l, h2 with | a :: r, _ => rfl)
end
section
variable {α : Type} {lt : α → α → Bool}
structure tX (lt : α → α → Bool) : Prop where
 irrefl : ∀ x, lt x x = false
 trans : ∀ x y z, lt x y = true → lt y z = true → lt x z = true
 tri : ∀ x y, lt x y = true ∨ x = y ∨ lt y x = true
abbrev vJ (lt : α → α → Bool) (l : List α) : Prop := l.Pairwise fun x y => lt x y = true
theorem tX.asymm (O : tX lt) {x y : α} (h : lt x y = true) : lt y x = false := by
 cases hb : lt y x with
 | false => rfl
 | true => have := O.trans _ _ _ h hb; rw [O.irrefl] at this; cases this
theorem vJ.ext (O : tX lt) : ∀ {l m : List α}, vJ lt l → vJ lt m → (∀ x, x ∈ l ↔ x ∈ m) → l = m
 | [], [], _, _, _ => rfl
 | [], y :: m, _, _, h => by have := (h y).2 (List.mem_cons_self); cases this
 | x :: l, [], _, _, h => by have := (h x).1 (List.mem_cons_self); cases this
 | x :: l, y :: m, hl, hm, h => by
  obtain ⟨h1, h2⟩ := List.pairwise_cons.1 hl
  obtain ⟨h3, h4⟩ := List.pairwise_cons.1 hm
  have hxy : x = y := by
   rcases List.mem_cons.1 ((h x).1 (List.mem_cons_self)) with h5 | h5
   ·exact h5
   ·rcases List.mem_cons.1 ((h y).2 (List.mem_cons_self)) with h6 | h6
    ·exact h6.symm
    ·have := O.asymm (h3 x h5); rw [h1 y h6] at this; cases this
  subst hxy
  congr 1
  refine vJ.ext O h2 h4 fun z => ⟨fun hz => ?_, fun hz => ?_⟩
  ·rcases List.mem_cons.1 ((h z).1 (List.mem_cons_of_mem _ hz)) with rfl | h5
   ·have := h1 z hz; rw [O.irrefl] at this; cases this
   ·exact h5
  ·rcases List.mem_cons.1 ((h z).2 (List.mem_cons_of_mem _ hz)) with rfl | h5
   ·have := h3 z hz; rw [O.irrefl] at this; cases this
   ·exact h5
theorem zSl [BEq α] [LawfulBEq α] (O : tX lt) : ∀ {l : List α}, l.Pairwise (fun x y => lt y x = false) → vJ lt (tI l) ∧ ∀ x, x ∈ tI l ↔ x ∈ l := by
 have key : ∀ (r : List α) (a : α), (a :: r).Pairwise (fun x y => lt y x = false) → vJ lt (a :: dd a r) ∧ ∀ x, x ∈ a :: dd a r ↔ x ∈ a :: r := by
  intro r
  induction r with
  | nil => intro a _; simp [dd]
  | cons b r ih =>
   intro a h
   obtain ⟨h1, h2⟩ := List.pairwise_cons.1 h
   obtain ⟨i1, i2⟩ := ih b h2
   by_cases hab : a = b
   ·subst hab
    simp only [dd, beq_self_eq_true, if_true]
    refine ⟨i1, fun x => ?_⟩
    rw [i2]; simp
   ·have hb : (a == b) = false := beq_eq_false_iff_ne.2 hab
    simp only [dd, hb, zbf, if_false]
    have hlt : lt a b = true := by
     rcases O.tri a b with h | h | h
     ·exact h
     ·exact absurd h hab
     ·rw [h1 b (List.mem_cons_self)] at h; cases h
    refine ⟨List.pairwise_cons.2 ⟨fun y hy => ?_, i1⟩, fun x => ?_⟩
    ·rcases List.mem_cons.1 hy with rfl | hy
     ·exact hlt
     ·exact O.trans _ _ _ hlt ((List.pairwise_cons.1 i1).1 y hy)
    ·rw [List.mem_cons, i2]; simp
 intro l h
 cases l with
 | nil => simp [tI]
 | cons a r => exact key r a h
theorem zJ5 (O : tX lt) (l : List α) : (l.mergeSort fun x y => !lt y x).Pairwise (fun x y => lt y x = false) := by
 have h := List.pairwise_mergeSort (le := fun x y => !lt y x) (fun a b c h1 h2 => ?_) (fun a b => ?_) l
 ·exact h.imp fun h => by simpa using h
 ·simp only [Bool.not_eq_true'] at *
  cases h3 : lt c a with
  | false => rfl
  | true =>
   rcases O.tri a b with h | rfl | h
   ·have := O.trans _ _ _ h3 h; rw [this] at h2; cases h2
   ·rw [h3] at h2; cases h2
   ·rw [h] at h1; cases h1
 ·cases h : lt b a with
  | false => simp
  | true => simp [O.asymm h]
def xV [BEq α] (lt : α → α → Bool) (l : List α) : List α := tI (l.mergeSort fun x y => !lt y x)
theorem zKr [BEq α] [LawfulBEq α] (O : tX lt) (l : List α) : vJ lt (xV lt l) ∧ ∀ x, x ∈ xV lt l ↔ x ∈ l := by
 obtain ⟨h1, h2⟩ := zSl O (zJ5 O l)
 exact ⟨h1, fun x => by rw [xV, h2, List.mem_mergeSort]⟩
theorem zQV [BEq α] [LawfulBEq α] (O : tX lt) {l m : List α} (h1 : vJ lt m) (h2 : ∀ x, x ∈ m ↔ x ∈ l) : xV lt l = m := by
 obtain ⟨h3, h4⟩ := zKr O l
 exact vJ.ext O h3 h1 fun x => by rw [h4, h2]
theorem zRN [BEq α] (lt : α → α → Bool) (l : List α) : (xV lt l).length ≤ l.length := by
 have := zW2 (l.mergeSort fun x y => !lt y x)
 simpa [xV] using this
end
section
variable {α : Type} [BEq α]
noncomputable def zUj (y0 : List α) (y1 : α) (s1 : Int) : Option (Int ⊕ Int) :=
 if decide (s1 < (len y0)) then
  (zG y0 s1).bind fun x1 =>
  if y1 == x1 then
   some (.inr s1)
  else
   some (.inl (zQ (s1 + 1)))
 else
  some (.inr (-1))
noncomputable def zYi (y0 : List α) (y1 : α) : Option Int := zW (zUj y0 y1) 0
theorem zPl (l : List α) (x : α) (hb : l.length < 9223372036854775807) : ∃ r, zYi l x = some r ∧ (0 ≤ r ↔ ∃ y ∈ l, x == y) := by
 have h := yP (B := zUj l x) (fun i (_ : Unit) => (i : Int)) l (fun i _ => ∀ j y, j < i → l[j]? = some y → (x == y) = false) (fun r => (0 ≤ r ↔ ∃ y ∈ l, x == y)) ?_ ?_ () (by simp)
 ·exact h
 ·intro i y s hy hI
  have hi := (List.getElem?_eq_some_iff.1 hy).1
  have hlt : decide ((i : Int) < len l) = true := by simp [len]; omega
  unfold zUj
  simp only [hlt, if_true, xI, hy, zob]
  cases hxy : x == y with
  | true => exact .inr ⟨_, rfl, ⟨fun _ => ⟨y, List.mem_of_getElem? hy, hxy⟩, fun _ => by omega⟩⟩
  | false =>
   refine .inl ⟨(), by simp [vY i (by omega)], fun j z hj hz => ?_⟩
   rcases Nat.lt_succ_iff_lt_or_eq.1 hj with h | rfl
   ·exact hI j z h hz
   ·rw [hy] at hz; cases hz; exact hxy
 ·intro s hI
  unfold zUj
  refine ⟨-1, by simp [len], ⟨fun h => by omega, fun ⟨y, hy, hxy⟩ => ?_⟩⟩
  obtain ⟨j, hj⟩ := List.mem_iff_getElem?.1 hy
  rw [hI j y (List.getElem?_eq_some_iff.1 hj).1 hj] at hxy
  cases hxy
end
end
section
structure Le {α : Type} (a b : Option α) : Prop where
 el : ∀ r, a = some r → b = some r
theorem Le.refl {α : Type} (a : Option α) : Le a a := ⟨fun _ h => h⟩
theorem Le.bind {α β : Type} {a b : Option α} {f g : α → Option β} (h : Le a b) (k : ∀ x, Le (f x) (g x)) : Le (a.bind f) (b.bind g) := ⟨fun r hr => by
 cases a with
 | none => cases hr
 | some x => rw [h.el x rfl]; exact (k x).el r hr⟩
theorem Le.ite {α : Type} {c : Prop} [Decidable c] {a b a' b' : Option α} (h : Le a b) (k : Le a' b') : Le (if c then a else a') (if c then b else b') := by
 split
 ·exact h
 ·exact k
theorem Le.seqE {σ α : Type} {a b : Option (σ ⊕ α)} {f g : σ → Option α} (h : Le a b) (k : ∀ x, Le (f x) (g x)) : Le (yO a f) (yO b g) :=
 Le.bind h fun o => by
  cases o with
  | inl s => exact k s
  | inr r => exact Le.refl _
theorem Le.none {α : Type} (b : Option α) : Le none b := ⟨fun _ h => nomatch h⟩
abbrev lp {σ ρ : Type} (n : Nat) (B : σ → Option (σ ⊕ ρ)) (s : σ) : Option ρ := tF B n s
theorem Le.lp {σ ρ : Type} {B C : σ → Option (σ ⊕ ρ)} (h : ∀ s, Le (B s) (C s)) (n : Nat) (s : σ) : Le (lp n B s) (zW C s) := by
 refine ⟨fun r hr => ?_⟩
 refine zIY (n := n) ?_
 revert s
 induction n with
 | zero => intro s hr; cases hr
 | succ n ih =>
  intro s hr
  simp only [tF] at hr ⊢
  cases hb : B s with
  | none => rw [hb] at hr; cases hr
  | some o =>
   rw [hb] at hr
   rw [(h s).el o hb]
   cases o with
   | inl s' => exact ih s' hr
   | inr r' => exact hr
def ins {α : Type} (lt : α → α → Bool) (x : α) : List α → List α
 | [] => [x]
 | y :: r => if lt y x then y :: ins lt x r else x :: y :: r
def zQh {α : Type} (lt : α → α → Bool) : List α → List α
 | [] => []
 | x :: r => ins lt x (zQh lt r)
end
section
def Tw {α : Type} (m : Option α) : Type := { r : Option α // Le r m }
def td {α : Type} (m : Option α) : Tw m := ⟨m, Le.refl m⟩
def tb {α β : Type} {a : Option α} {f : α → Option β} (h : Tw a) (k : ∀ x, Tw (f x)) : Tw (a.bind f) := ⟨h.1.bind fun x => (k x).1, Le.bind h.2 fun x => (k x).2⟩
def ti {α : Type} {c : Prop} [Decidable c] {a b : Option α} (h : Tw a) (k : Tw b) : Tw (if c then a else b) := ⟨if c then h.1 else k.1, Le.ite h.2 k.2⟩
def ts {σ α : Type} {a : Option (σ ⊕ α)} {f : σ → Option α} (h : Tw a) (k : ∀ x, Tw (f x)) : Tw (yO a f) := ⟨Go.GD.yO h.1 fun x => (k x).1, Le.seqE h.2 fun x => (k x).2⟩
def tl {σ ρ : Type} {C : σ → Option (σ ⊕ ρ)} (n : Nat) (h : ∀ s, Tw (C s)) (s : σ) : Tw (zW C s) := ⟨Go.GD.lp n (fun s => (h s).1) s, Le.lp (fun s => (h s).2) n s⟩
theorem Tw.el {α : Type} {m : Option α} (w : Tw m) {r : α} (h : w.1 = some r) : m = some r := w.2.el r h
end
section
abbrev yH (x y : Int) : Bool := decide (x < y)
abbrev tV (x y : Int) : Int := if x < y then -1 else if y < x then 1 else 0
def orF : List Int → Int
 | [] => 0
 | x :: r => if x != 0 then x else orF r
abbrev zQv {α β : Type} [BEq α] (lt1 : α → α → Bool) (tE : β → β → Bool) (x y : α × β) : Bool := lt1 x.1 y.1 || (x.1 == y.1 && tE x.2 y.2)
theorem xE : tX yH := ⟨fun x => by simp, fun x y z h1 h2 => by simp at *; omega, fun x y => by simp; omega⟩
theorem zRB {α β : Type} [BEq α] [LawfulBEq α] {lt1 : α → α → Bool} {tE : β → β → Bool} (O1 : tX lt1) (O2 : tX tE) : tX (zQv lt1 tE) := by
 refine ⟨fun x => by simp [O1.irrefl, O2.irrefl], fun x y z h1 h2 => ?_, fun x y => ?_⟩
 ·simp only [zQv, Bool.or_eq_true, Bool.and_eq_true, beq_iff_eq] at *
  rcases h1 with h1 | ⟨h1, h1'⟩ <;> rcases h2 with h2 | ⟨h2, h2'⟩
  ·exact .inl (O1.trans _ _ _ h1 h2)
  ·exact .inl (h2 ▸ h1)
  ·exact .inl (h1 ▸ h2)
  ·exact .inr ⟨h1.trans h2, O2.trans _ _ _ h1' h2'⟩
 ·obtain ⟨a, b⟩ := x; obtain ⟨c, d⟩ := y
  simp only [zQv, Bool.or_eq_true, Bool.and_eq_true, beq_iff_eq, Prod.mk.injEq]
  rcases O1.tri a c with h | rfl | h
  ·exact .inl (.inl h)
  ·rcases O2.tri b d with h | rfl | h
   ·exact .inl (.inr ⟨rfl, h⟩)
   ·exact .inr (.inl ⟨rfl, rfl⟩)
   ·exact .inr (.inr (.inr ⟨rfl, h⟩))
  ·exact .inr (.inr (.inl h))
theorem OrdF.of {α : Type} {f : α → α → Option Int} {lt : α → α → Bool} (O : tX lt) (ht : ∀ x y, ∃ n, f x y = some n) (h : ∀ x y, yI f x y = lt x y) : OrdF f := by
 refine ⟨ht, fun x => by rw [h, O.irrefl], fun x y z h1 h2 => ?_, fun x y z h1 h2 => ?_, fun x y h1 h2 => ?_⟩
 ·rw [h] at *; exact O.trans _ _ _ h1 h2
 ·rw [h] at *
  cases h3 : lt x z with
  | false => rfl
  | true =>
   rcases O.tri x y with h4 | rfl | h4
   ·rw [h4] at h1; cases h1
   ·rw [h3] at h2; cases h2
   ·have := O.trans _ _ _ h4 h3; rw [this] at h2; cases h2
 ·rw [h] at *
  rcases O.tri x y with h4 | h4 | h4
  ·rw [h4] at h1; cases h1
  ·exact h4
  ·rw [h4] at h2; cases h2
theorem zUB {α : Type} {f : α → α → Option Int} {lt : α → α → Bool} (O : tX lt) (ht : ∀ x y, ∃ n, f x y = some n) (h : ∀ x y, yI f x y = lt x y) {l : List α} (hl : l.length < 4294967296) :
  zRg f l = some (l.mergeSort fun x y => !lt y x) := by
 unfold zRg
 rw [if_pos ⟨OrdF.of O ht h, hl⟩]
 have : (fun x y => !yI f y x) = fun x y => !lt y x := by funext x y; rw [h]
 rw [this]
noncomputable def orL (y0 : List Int) (s1 : Int) : Option (Int ⊕ Int) :=
 if decide (s1 < (len y0)) then
  (zG y0 s1).bind fun x1 =>
  if x1 != 0 then
   some (.inr x1)
  else
   some (.inl (zQ (s1 + 1)))
 else
  some (.inr 0)
theorem zYS (l : List Int) (hb : l.length < 9223372036854775807) : zW (orL l) 0 = some (orF l) := by
 have h := zMA (B := orL l) (fun i (_ : Unit) => (i : Int)) l (fun _ _ x => if x != 0 then some (.inr x) else some (.inl ())) (fun _ => some 0) (fun i x s hx => ?_) (fun s => by simp [orL, len]) ()
 ·have key : ∀ (l : List Int) (i : Nat), zRO (fun _ (_ : Unit) (x : Int) => if x != 0 then some (Sum.inr x) else some (.inl ())) (fun _ => some 0) i l () = some (orF l) := by
   intro l
   induction l with
   | nil => intro i; rfl
   | cons x l ih =>
    intro i
    by_cases hx : x = 0
    ·subst hx; exact ih (i + 1)
    ·simp [zRO, orF, hx]
  rw [key] at h
  exact h
 ·have hi := (List.getElem?_eq_some_iff.1 hx).1
  unfold orL
  have hlt : decide ((i : Int) < len l) = true := by simp [len]; omega
  simp only [hlt, if_true, xI, hx, zob]
  by_cases h0 : x = 0
  ·subst h0; simp [vY i (by omega)]
  ·simp [h0]
section
variable {α : Type} {lt : α → α → Bool}
theorem zRJ (x : α) : ∀ l : List α, (ins lt x l).Perm (x :: l)
 | [] => List.Perm.refl _
 | y :: r => by
  unfold ins
  split
  ·exact ((zRJ x r).cons y).trans (List.Perm.swap x y r)
  ·exact List.Perm.refl _
theorem zIv : ∀ l : List α, (zQh lt l).Perm l
 | [] => List.Perm.refl _
 | x :: r => (zRJ x _).trans ((zIv r).cons x)
theorem zQO (O : tX lt) (x : α) : ∀ l : List α, l.Pairwise (fun x y => lt y x = false) → (ins lt x l).Pairwise (fun x y => lt y x = false)
 | [], _ => by simp [ins]
 | y :: r, h => by
  obtain ⟨h1, h2⟩ := List.pairwise_cons.1 h
  unfold ins
  split
  ·rename_i hlt
   refine List.pairwise_cons.2 ⟨fun z hz => ?_, zQO O x r h2⟩
   rcases List.mem_cons.1 ((zRJ x r).mem_iff.1 hz) with rfl | hz
   ·exact O.asymm hlt
   ·exact h1 z hz
  ·rename_i hlt
   have hyx : lt y x = false := by simpa using hlt
   refine List.pairwise_cons.2 ⟨fun z hz => ?_, h⟩
   rcases List.mem_cons.1 hz with rfl | hz
   ·exact hyx
   ·cases hzx : lt z x with
    | false => rfl
    | true =>
     have hzy := h1 z hz
     rcases O.tri x y with h3 | rfl | h3
     ·rw [O.trans _ _ _ hzx h3] at hzy; cases hzy
     ·rw [hzx] at hzy; cases hzy
     ·rw [h3] at hyx; cases hyx
theorem zIT (O : tX lt) : ∀ l : List α, (zQh lt l).Pairwise (fun x y => lt y x = false)
 | [] => List.Pairwise.nil
 | x :: r => zQO O x _ (zIT O r)
theorem zTX (O : tX lt) (l : List α) : (l.mergeSort fun x y => !lt y x) = zQh lt l := by
 refine List.Perm.eq_of_pairwise (le := fun x y => lt y x = false) (fun a b _ _ h1 h2 => ?_) (zJ5 O l) (zIT O l) ((List.mergeSort_perm _ _).trans (zIv l).symm)
 rcases O.tri a b with h | h | h
 ·rw [h] at h2; cases h2
 ·exact h
 ·rw [h] at h1; cases h1
end
theorem zTr {l : List Int} (h : l.length < 4294967296) : zY4 l = some (zQh yH l) := by
 unfold zY4
 rw [if_pos h, ← zTX xE]
 have : (fun x y : Int => decide (x ≤ y)) = fun x y => !yH y x := by
  funext x y
  rw [Bool.eq_iff_iff]; simp
 rw [this]
end
section
section
variable {α : Type} {l : List α} {i : Nat} {x : α}
theorem vH (h : l[i]? = some x) : i < l.length := (List.getElem?_eq_some_iff.1 h).1
theorem wW (h : l[i]? = some x) : decide ((i : Int) < len l) = true := by have := vH h; simp [len]; omega
theorem yE (l : List α) : decide (((l.length : Nat) : Int) < len l) = false := by simp [len]
theorem wU (h : l[i]? = some x) : zG l (i : Int) = some x := by rw [xI]; exact h
theorem wV (h : l[i]? = some x) (hl : l.length < 4294967296) : zQ ((i : Int) + 1) = ((i + 1 : Nat) : Int) := vY i (by have := vH h; omega)
theorem zMW {j : Int} (h : zG l j = some x) : ∃ n : Nat, j = (n : Int) ∧ l[n]? = some x := by
 unfold zG at h
 split at h
 ·rename_i h0; exact ⟨j.toNat, by omega, h⟩
 ·cases h
theorem tS {j : Int} (h0 : 0 ≤ j) (h1 : j < l.length) : ∃ x, zG l j = some x := by obtain ⟨x, h, _⟩ := zMo h0 h1; exact ⟨x, h⟩
theorem uL (h : l[i]? = some x) : l.take (i + 1) = l.take i ++ [x] := by rw [List.take_add_one, h]; rfl
theorem yA (h : l[i]? = some x) : x ∈ l := List.mem_of_getElem? h
end
section
variable {α σ ρ : Type}
theorem zBN {B : σ × Int → Option ((σ × Int) ⊕ ρ)} (l : List α) (f : σ → α → σ) (fin : σ → ρ) (I : Nat → σ → Prop) (s : σ) (h0 : I 0 s)
  (hB : ∀ (i : Nat) x s, l[i]? = some x → I i s → B (s, (i : Int)) = some (.inl (f s x, ((i + 1 : Nat) : Int))) ∧ I (i + 1) (f s x))
  (he : ∀ s, I l.length s → B (s, (l.length : Int)) = some (.inr (fin s))) : zW B (s, 0) = some (fin (l.foldl f s)) ∧ I l.length (l.foldl f s) := by
 have key : ∀ (n i : Nat) (s : σ), i + n = l.length → I i s → zW B (s, (i : Int)) = some (fin ((l.drop i).foldl f s)) ∧ I l.length ((l.drop i).foldl f s) := by
  intro n
  induction n with
  | zero =>
   intro i s h hI
   rw [Nat.add_zero] at h
   subst h
   rw [yD, he s hI, List.drop_length]
   exact ⟨rfl, hI⟩
  | succ n ih =>
   intro i s h hI
   have hx : l[i]? = some l[i] := List.getElem?_eq_getElem (by omega)
   obtain ⟨h1, h2⟩ := hB i _ s hx hI
   rw [yD, h1, List.drop_eq_getElem_cons (by omega)]
   exact ih (i + 1) _ (by omega) h2
 have := key l.length 0 s (by omega) h0
 simpa using this
theorem zQ2 {B : σ × Int → Option ((σ × Int) ⊕ ρ)} (l : List α) (f : σ → α → σ) (fin : σ → ρ) (k : Nat) (hk : k ≤ l.length) (s : σ)
  (hB : ∀ (i : Nat) x s, l[i]? = some x → B (s, (i : Int)) = some (.inl (f s x, ((i + 1 : Nat) : Int))))
  (he : ∀ s, B (s, (l.length : Int)) = some (.inr (fin s))) : zW B (s, (k : Int)) = some (fin ((l.drop k).foldl f s)) := by
 have key : ∀ (n i : Nat) (s : σ), i + n = l.length → zW B (s, (i : Int)) = some (fin ((l.drop i).foldl f s)) := by
  intro n
  induction n with
  | zero =>
   intro i s h
   rw [Nat.add_zero] at h
   subst h
   rw [yD, he s, List.drop_length]
   rfl
  | succ n ih =>
   intro i s h
   have hx : l[i]? = some l[i] := List.getElem?_eq_getElem (by omega)
   rw [yD, hB i _ s hx, List.drop_eq_getElem_cons (by omega)]
   exact ih (i + 1) _ (by omega)
 exact key (l.length - k) k s (by omega)
theorem zQ5 {B : Int × σ → Option ((Int × σ) ⊕ ρ)} (l : List α) (f : σ → α → σ) (fin : σ → ρ) (I : Nat → σ → Prop) (s : σ) (h0 : I 0 s)
  (hB : ∀ (i : Nat) x s, l[i]? = some x → I i s → B ((i : Int), s) = some (.inl (((i + 1 : Nat) : Int), f s x)) ∧ I (i + 1) (f s x))
  (he : ∀ s, I l.length s → B ((l.length : Int), s) = some (.inr (fin s))) : zW B (0, s) = some (fin (l.foldl f s)) ∧ I l.length (l.foldl f s) := by
 have key : ∀ (n i : Nat) (s : σ), i + n = l.length → I i s → zW B ((i : Int), s) = some (fin ((l.drop i).foldl f s)) ∧ I l.length ((l.drop i).foldl f s) := by
  intro n
  induction n with
  | zero =>
   intro i s h hI
   rw [Nat.add_zero] at h
   subst h
   rw [yD, he s hI, List.drop_length]
   exact ⟨rfl, hI⟩
  | succ n ih =>
   intro i s h hI
   have hx : l[i]? = some l[i] := List.getElem?_eq_getElem (by omega)
   obtain ⟨h1, h2⟩ := hB i _ s hx hI
   rw [yD, h1, List.drop_eq_getElem_cons (by omega)]
   exact ih (i + 1) _ (by omega) h2
 have := key l.length 0 s (by omega) h0
 simpa using this
theorem zNQ {B : Int → Option (Int ⊕ ρ)} (l : List α) (p : α → Bool) (yes no : ρ)
  (hB : ∀ (i : Nat) x, l[i]? = some x → B (i : Int) = some (if p x then .inr yes else .inl ((i + 1 : Nat) : Int))) (he : B (l.length : Int) = some (.inr no)) :
  zW B 0 = some (if l.any p then yes else no) := by
 have key : ∀ (n i : Nat), i + n = l.length → zW B (i : Int) = some (if (l.drop i).any p then yes else no) := by
  intro n
  induction n with
  | zero =>
   intro i h
   rw [Nat.add_zero] at h
   subst h
   rw [yD, he, List.drop_length]
   rfl
  | succ n ih =>
   intro i h
   have hx : l[i]? = some l[i] := List.getElem?_eq_getElem (by omega)
   rw [yD, hB i _ hx, List.drop_eq_getElem_cons (by omega)]
   cases hp : p l[i] with
   | true => simp only [if_true, List.any_cons, hp, Bool.true_or]
   | false =>
    simp only [zbf, if_false, List.any_cons, hp, Bool.false_or]
    exact ih (i + 1) (by omega)
 have := key l.length 0 (by omega)
 simpa using this
theorem zKY {B : Int → Option (Int ⊕ Bool)} (l : List α) (p : α → Bool) (hB : ∀ (i : Nat) x, l[i]? = some x → B (i : Int) = some (if p x then .inr true else .inl ((i + 1 : Nat) : Int))) (he : B (l.length : Int) = some (.inr false)) :
  zW B 0 = some (l.any p) := by
 rw [zNQ l p true false hB he]
 cases l.any p <;> rfl
end
theorem zBv {α β : Type} (p : α → Bool) (g : α → β) : ∀ (l : List α) (acc : List β), l.foldl (fun s x => if p x then s ++ [g x] else s) acc = acc ++ (l.filter p).map g
 | [], acc => by simp
 | x :: l, acc => by
  simp only [List.foldl_cons, zBv p g l]
  cases hp : p x <;> simp [hp]
theorem zHM {α β : Type} (g : α → β) : ∀ (l : List α) (acc : List β), l.foldl (fun s x => s ++ [g x]) acc = acc ++ l.map g
 | [], acc => by simp
 | x :: l, acc => by simp only [List.foldl_cons, zHM g l]; simp
theorem zGY {α β : Type} (g : α → List β) : ∀ (l : List α) (acc : List β), l.foldl (fun s x => s ++ g x) acc = acc ++ l.flatMap g
 | [], acc => by simp
 | x :: l, acc => by simp only [List.foldl_cons, zGY g l]; simp
theorem zV1 {l r : List Int} (h : r.Perm l) (hs : r.Pairwise (fun x y => yH y x = false)) : tI r = xV yH l := by
 obtain ⟨h1, h2⟩ := zSl xE hs
 exact (zQV xE h1 (fun x => by rw [h2]; exact h.mem_iff)).symm
end
section
def wE (n : Nat) : List Int := (List.range n).map Int.ofNat
theorem yX (n : Nat) : (wE n).length = n := by simp [wE]
theorem zHS {n i : Nat} {x : Int} (h : (wE n)[i]? = some x) : x = (i : Int) ∧ i < n := by
 have h1 := vH h
 rw [yX] at h1
 simp only [wE, List.getElem?_map, List.getElem?_range h1, Option.map_some, Option.some.injEq] at h
 exact ⟨h.symm, h1⟩
theorem uF {n : Nat} {x : Int} : x ∈ wE n ↔ 0 ≤ x ∧ x < n := by
 simp only [wE, List.mem_map, List.mem_range]
 exact ⟨fun ⟨a, h1, h2⟩ => by subst h2; simp; omega, fun h => ⟨x.toNat, by omega, by simp; omega⟩⟩
theorem zHL (n : Nat) : vJ yH (wE n) := by
 rw [wE, vJ, List.pairwise_map]
 exact List.pairwise_lt_range.imp fun {a b} h => by simp; omega
theorem zGW {α β ρ : Type} {B : List β × Int → Option ((List β × Int) ⊕ ρ)} (l : List α) (g : α → List β) (fin : List β → ρ) (c : Nat) (hg : ∀ x ∈ l, (g x).length ≤ c) (acc : List β)
  (hB : ∀ (i : Nat) x s, l[i]? = some x → s.length ≤ acc.length + c * i → B (s, (i : Int)) = some (.inl (s ++ g x, ((i + 1 : Nat) : Int))))
  (he : ∀ s, B (s, (l.length : Int)) = some (.inr (fin s))) : zW B (acc, 0) = some (fin (acc ++ l.flatMap g)) := by
 have h := zBN (B := B) l (fun s x => s ++ g x) fin (fun i s => s.length ≤ acc.length + c * i) acc (by simp) (fun i x s hx hI => ⟨hB i x s hx hI, by
  have := hg x (yA hx)
  rw [List.length_append, Nat.mul_add]; omega⟩) (fun s _ => he s)
 rw [zGY] at h
 exact h.1
theorem zJP {α β : Type} (g : α → List β) (c : Nat) : ∀ (l : List α), (∀ x ∈ l, (g x).length ≤ c) → (l.flatMap g).length ≤ l.length * c
 | [], _ => by simp
 | x :: l, h => by
  have h1 := zJP g c l fun y hy => h y (List.mem_cons_of_mem _ hy)
  have h2 := h x List.mem_cons_self
  simp only [List.flatMap_cons, List.length_append, List.length_cons, Nat.add_mul, Nat.one_mul]
  omega
theorem zPY {α β : Type} (p : α → Bool) (g : α → List β) (l : List α) : (l.filter p).flatMap g = l.flatMap fun x => if p x then g x else [] := by
 induction l with
 | nil => rfl
 | cons x l ih =>
  rw [List.filter_cons, List.flatMap_cons]
  cases hp : p x with
  | true => simp [ih]
  | false => simp [ih]
section
variable {α : Type}
noncomputable def zMl (p : α → Option Bool) (y0 : List α) (s1 : Int) : Option (Int ⊕ Int) :=
 if decide (s1 < (len y0)) then
  (zG y0 s1).bind fun x1 =>
  (p x1).bind fun r1 =>
  if r1 then
   some (.inr s1)
  else
   some (.inl (zQ (s1 + 1)))
 else
  some (.inr (-1))
theorem zOI (p : α → Option Bool) (q : α → Bool) (l : List α) (hb : l.length < 4294967296) (hp : ∀ x ∈ l, p x = some (q x)) :
  (l.any q = false ∧ zW (zMl p l) 0 = some (-1)) ∨ ∃ (k : Nat) (x : α), zW (zMl p l) 0 = some (k : Int) ∧ l[k]? = some x ∧ q x = true ∧ ∀ j y, j < k → l[j]? = some y → q y = false := by
 have h := yP (B := zMl p l) (fun i (_ : Unit) => (i : Int)) l (fun i _ => ∀ j y, j < i → l[j]? = some y → q y = false)
  (fun r => (l.any q = false ∧ r = -1) ∨ ∃ (k : Nat) (x : α), r = (k : Int) ∧ l[k]? = some x ∧ q x = true ∧ ∀ j y, j < k → l[j]? = some y → q y = false) ?_ ?_ () (by omega)
 ·obtain ⟨r, h1, ⟨h2, rfl⟩ | ⟨k, x, rfl, h2⟩⟩ := h
  ·exact .inl ⟨h2, h1⟩
  ·exact .inr ⟨k, x, h1, h2⟩
 ·intro i x s hx hI
  unfold zMl
  simp only [wW hx, if_true, wU hx, zob, hp x (yA hx)]
  cases hq : q x with
  | true => exact .inr ⟨_, by simp only [if_true], .inr ⟨i, x, rfl, hx, hq, hI⟩⟩
  | false =>
   refine .inl ⟨(), by simp only [zbf, if_false, wV hx hb], fun j y hj hy => ?_⟩
   rcases Nat.lt_succ_iff_lt_or_eq.1 hj with h | rfl
   ·exact hI j y h hy
   ·rw [hx] at hy; cases hy; exact hq
 ·intro s hI
  unfold zMl
  refine ⟨-1, by simp only [yE, zbf, if_false], .inl ⟨?_, rfl⟩⟩
  rw [List.any_eq_false]
  intro x hx
  obtain ⟨j, hj⟩ := List.mem_iff_getElem?.1 hx
  simp [hI j x (vH hj) hj]
theorem zWu (p : α → Option Bool) (q : α → Bool) (l : List α) (hb : l.length < 4294967296) (hp : ∀ x ∈ l, p x = some (q x)) : ((zW (zMl p l) 0).bind fun r1 => some (decide (0 ≤ r1))) = some (l.any q) := by
 rcases zOI p q l hb hp with ⟨h1, h2⟩ | ⟨k, x, h1, h2, h3, _⟩
 ·rw [h2, h1]; rfl
 ·rw [h1, List.any_eq_true.2 ⟨x, yA h2, h3⟩]; simp
noncomputable def zOg (p : α → Option Bool) (y0 : List α) (s2 : (List α) × Int × Int) : Option (((List α) × Int × Int) ⊕ ((List α) × Int)) :=
 if decide (s2.2.2 < (len y0)) then
  (zG s2.1 s2.2.2).bind fun x1 =>
  (p x1).bind fun r2 =>
  if !r2 then
   (zG s2.1 s2.2.1).bind fun _ =>
   some (.inl (List.set s2.1 (Int.toNat s2.2.1) x1, zQ (s2.2.1 + 1), zQ (s2.2.2 + 1)))
  else
   some (.inl (s2.1, s2.2.1, zQ (s2.2.2 + 1)))
 else
  some (.inr (s2.1, s2.2.1))
noncomputable def zQt (p : α → Option Bool) (z : α) (y0 : List α) : Option (List α) :=
 (zW (zMl p y0) 0).bind fun r1 =>
 if r1 == (-1) then
  some y0
 else
  (zW (zOg p y0) (y0, r1, zQ (r1 + 1)) : Option ((List α) × Int)).bind fun s1 =>
  (uH (decide (0 ≤ s1.2) && decide (s1.2 ≤ len s1.1))).bind fun _ =>
  (sub (zB1 s1.1 s1.2 z) 0 s1.2).bind fun x3 =>
  some x3
theorem zNb (p : α → Option Bool) (q : α → Bool) (z : α) (l : List α) (hb : l.length < 4294967296) (hp : ∀ x ∈ l, p x = some (q x)) : zQt p z l = some (l.filter fun x => !q x) := by
 unfold zQt
 rcases zOI p q l hb hp with ⟨h1, h2⟩ | ⟨k, x, h1, h2, h3, h4⟩
 ·rw [h2]
  simp only [zob, beq_self_eq_true, if_true]
  congr 1
  symm
  rw [List.filter_eq_self]
  intro y hy
  have := List.any_eq_false.1 h1 y hy
  simpa using this
 ·rw [h1]
  have hne : ((k : Int) == -1) = false := beq_eq_false_iff_ne.2 (by omega)
  have hkl := vH h2
  simp only [zob, hne, zbf, if_false, vY k (by omega)]
  have key : ∀ n i j (c : List α), i + n = l.length → j < i → c.length = l.length → (∀ u, i ≤ u → c[u]? = l[u]?) → c.take j = (l.take i).filter (fun x => !q x) →
    ∃ c' j', zW (zOg p l) (c, (j : Int), (i : Int)) = some (c', ((j' : Nat) : Int)) ∧ c'.length = l.length ∧ j' ≤ l.length ∧ c'.take j' = l.filter fun x => !q x := by
   intro n
   induction n with
   | zero =>
    intro i j c hn hj hc hs ht
    rw [Nat.add_zero] at hn
    subst hn
    rw [List.take_length] at ht
    refine ⟨c, j, ?_, hc, by omega, ht⟩
    rw [yD]
    unfold zOg
    simp only [yE, zbf, if_false]
   | succ n ih =>
    intro i j c hn hj hc hs ht
    have hx : l[i]? = some l[i] := List.getElem?_eq_getElem (by omega)
    have hcx : zG c (i : Int) = some l[i] := by rw [xI, hs i (Nat.le_refl _)]; exact hx
    rw [yD]
    unfold zOg
    simp only [wW hx, if_true, hcx, zob, hp _ (yA hx)]
    cases hq : q l[i] with
    | true =>
     simp only [Bool.not_true, zbf, if_false, wV hx hb]
     refine ih (i + 1) j c (by omega) (by omega) hc (fun u hu => hs u (by omega)) ?_
     rw [uL hx, List.filter_append, ht]
     simp [hq]
    | false =>
     have hcj : zG c (j : Int) = some c[j] := by rw [xI]; exact List.getElem?_eq_getElem (by omega)
     simp only [Bool.not_false, if_true, hcj, zob, wV hx hb, Int.toNat_natCast]
     rw [vY j (by omega)]
     refine ih (i + 1) (j + 1) (c.set j l[i]) (by omega) (by omega) (by simp [hc]) (fun u hu => ?_) ?_
     ·rw [List.getElem?_set_ne (by omega)]; exact hs u (by omega)
     ·rw [uL hx, List.filter_append, ← ht, List.take_add_one, List.getElem?_set_self (by omega), List.take_set_of_le (Nat.le_refl _)]
      simp [hq]
  obtain ⟨c, j, e1, e2, e3, e4⟩ := key (l.length - (k + 1)) (k + 1) k l (by omega) (by omega) rfl (fun u _ => rfl) (by
   rw [uL h2, List.filter_append]
   have : (l.take k).filter (fun x => !q x) = l.take k := by
    rw [List.filter_eq_self]
    intro y hy
    obtain ⟨u, hu⟩ := List.mem_iff_getElem?.1 hy
    rw [List.getElem?_take] at hu
    split at hu
    ·rename_i huk; simp [h4 u y huk hu]
    ·cases hu
   simp [this, h3])
  rw [e1]
  have hc1 : (decide (0 ≤ ((j : Nat) : Int)) && decide (((j : Nat) : Int) ≤ len c)) = true := by simp [len]; omega
  simp only [zob, hc1, uH, if_true]
  rw [zK6 (by omega) (by rw [zG7, e2]; omega)]
  simp only [zob, Int.toNat_natCast, zB1, e4]
  have hdl : (l.filter fun x => !q x).length = j := by rw [← e4, List.length_take]; omega
  rw [← hdl, List.take_left]
end
end
section
theorem zKX (x y : Int) : zAR x y = some (tV x y) := by
 unfold zAR tV
 by_cases h1 : x < y
 ·simp [zFf, h1]
 ·by_cases h2 : y < x <;> simp [zFf, h1, h2]
theorem zWS (l : List Int) (hb : l.length < 9223372036854775807) : zFl l = some (orF l) := zYS l hb
abbrev tE : wH → wH → Bool := zQv yH yH
abbrev lt4 : qZ → qZ → Bool := zQv yH (zQv yH (zQv yH yH))
theorem zZo : tX tE := zRB xE xE
theorem ord4 : tX lt4 := zRB xE (zRB xE (zRB xE xE))
theorem zXR (x y : wH) : zCu x y = some (orF [tV x.1 y.1, tV x.2 y.2]) := by
 unfold zCu
 rw [zKX, zKX]
 simp only [zob]
 rw [zWS _ (by simp)]
 rfl
theorem zRn (x y : qZ) : zBn x y = some (orF [tV x.1 y.1, tV x.2.1 y.2.1, tV x.2.2.1 y.2.2.1, tV x.2.2.2 y.2.2.2]) := by
 unfold zBn
 rw [zKX, zKX, zKX, zKX]
 simp only [zob]
 rw [zWS _ (by simp)]
 rfl
theorem zOF {x y : Int} {r : List Int} {b : Bool} (h : decide (orF r < 0) = b) : decide (orF (tV x y :: r) < 0) = (yH x y || (x == y && b)) := by
 unfold orF tV
 by_cases h1 : x < y
 ·simp [h1]
 ·by_cases h2 : y < x
  ·have h3 : (x == y) = false := by simp; omega
   simp [h1, h2, h3]
  ·have h3 : x = y := by omega
   subst h3
   simp [h]
theorem zVg (x y : wH) : yI zCu x y = tE x y := by
 simp only [yI, zXR, Option.getD_some]
 exact zOF (by rw [zOF (r := []) (b := false) (by simp [orF])]; simp)
theorem zSm (x y : qZ) : yI zBn x y = lt4 x y := by
 simp only [yI, zRn, Option.getD_some]
 exact zOF (zOF (zOF (by rw [zOF (r := []) (b := false) (by simp [orF])]; simp)))
theorem zVC {l : List wH} (hl : l.length < 4294967296) : zAo l = some (l.mergeSort fun x y => !tE y x) :=
 zUB zZo (fun x y => ⟨_, zXR x y⟩) zVg hl
theorem zQd {l : List wH} (hl : l.length < 9223372036854775807) : zFm l = some (tI l) := zKq (0, 0) l hl
theorem zSi {l : List qZ} (hl : l.length < 4294967296) : zAa l = some (l.mergeSort fun x y => !lt4 y x) :=
 zUB ord4 (fun x y => ⟨_, zRn x y⟩) zSm hl
def tB (n : Int) (a : qZ) : Bool := decide (a.1 < 0) || decide (n ≤ a.1) || decide (a.2.1 < 0) || decide (n ≤ a.2.1)
def zFq (l : List qZ) : List wH := l.map fun a => (a.1, a.2.1)
def zMz (n : Int) (l : List qZ) : wT × Int :=
 if decide (n < 0) || decide (40 < n) then ((0, []), 1) else if l.any (tB n) then ((0, []), 1) else ((n, xV tE (zFq l)), 0)
theorem zVf (n : Int) (x : qZ) : (decide ((if x.2.1 < x.1 then x.2.1 else x.1) < 0) || decide (n ≤ (if x.2.1 > x.1 then x.2.1 else x.1))) = tB n x := by
 rw [Bool.eq_iff_iff]
 simp only [tB, Bool.or_eq_true, decide_eq_true_eq]
 split <;> split <;> omega
theorem zIq {α : Type} {l : List α} {i : Nat} {x : α} (p : α → Bool) (hx : l[i]? = some x) : (l.take (i + 1)).any p = ((l.take i).any p || p x) := by
 rw [List.take_add_one, hx]; simp
theorem zTW (n : Int) (l : List qZ) (hl : l.length < 4294967000) :
  zW (zDe l n) (0, []) = some (if l.any (tB n) then .inr ((0, []), 1) else .inl (zFq l)) := by
 have h := yP (B := zDe l n) (fun i (s : List wH) => ((i : Int), s)) l (fun i s => s = zFq (l.take i) ∧ (l.take i).any (tB n) = false)
  (fun r => r = if l.any (tB n) then .inr ((0, []), 1) else .inl (zFq l)) ?_ ?_ [] (by simp [zFq])
 ·obtain ⟨r, h1, rfl⟩ := h; exact h1
 ·rintro i x s hx ⟨rfl, hI⟩
  have hi := (List.getElem?_eq_some_iff.1 hx).1
  unfold zDe
  have hlt : decide ((i : Int) < len l) = true := by simp [len]; omega
  simp only [hlt, if_true, xI, hx, zob, zVf]
  cases hb : tB n x with
  | true =>
   refine .inr ⟨_, by simp; rfl, ?_⟩
   have : l.any (tB n) = true := List.any_eq_true.2 ⟨x, List.mem_of_getElem? hx, hb⟩
   simp [this]
  | false =>
   refine .inl ⟨zFq (l.take (i + 1)), ?_, rfl, by rw [zIq _ hx, hI, hb]; rfl⟩
   have hp : zFq (l.take (i + 1)) = zFq (l.take i) ++ [(x.1, x.2.1)] := by unfold zFq; rw [List.take_add_one, hx]; simp
   rw [vT (by simp [zFq]; omega)]
   simp [hp, vY i (by omega)]
 ·rintro s ⟨rfl, hI⟩
  unfold zDe
  rw [List.take_length] at hI
  simp [hI, len]
theorem zOB (n : Int) (l : List qZ) (hl : l.length < 4294967000) : zGU n l = some (zMz n l) := by
 unfold zGU zMz
 cases h0 : (decide (n < 0) || decide (40 < n)) with
 | true => simp
 | false =>
  simp only [zbf, if_false]
  rw [zTW n l hl]
  cases hb : l.any (tB n) with
  | true => simp [yO]
  | false =>
   have hlen : (zFq l).length < 4294967296 := by simp [zFq]; omega
   simp only [zbf, if_false, yO, zob]
   rw [zVC hlen]
   simp only [zob]
   rw [zQd (by simp [zFq]; omega)]
   rfl
abbrev zZn (l : List qZ) (i j : Int) : Bool := l.any fun a => a.1 == i && a.2.1 == j
abbrev zVj (l : List qZ) (N : Nat) (i : Nat) : List wH := ((List.range N).filter fun (j : Nat) => zZn l (i : Int) (j : Int)).map fun (j : Nat) => ((i : Int), (j : Int))
abbrev zZW (l : List qZ) (N : Nat) (k : Nat) : List wH := (List.range k).flatMap (zVj l N)
theorem zWm {n : Int} {l : List qZ} (h0 : 0 ≤ n) (hb : l.any (tB n) = false) : xV tE (zFq l) = zZW l n.toNat n.toNat := by
 apply zQV zZo
 ·refine List.pairwise_flatMap.2 ⟨fun i _ => ?_, ?_⟩
  ·rw [List.pairwise_map]
   refine (List.pairwise_lt_range.filter _).imp fun {a b} h => ?_
   simp; omega
  ·refine List.pairwise_lt_range.imp fun {a b} h x hx y hy => ?_
   obtain ⟨j, _, rfl⟩ := List.mem_map.1 hx
   obtain ⟨k, _, rfl⟩ := List.mem_map.1 hy
   simp; omega
 ·rintro ⟨i, j⟩
  constructor
  ·intro h
   obtain ⟨a, _, hx⟩ := List.mem_flatMap.1 h
   obtain ⟨b, hb2, he⟩ := List.mem_map.1 hx
   obtain ⟨hb3, hb4⟩ := List.mem_filter.1 hb2
   obtain ⟨z, hz, hz2⟩ := List.any_eq_true.1 hb4
   simp only [Bool.and_eq_true, beq_iff_eq] at hz2
   refine List.mem_map.2 ⟨z, hz, ?_⟩
   rw [hz2.1, hz2.2]; exact he
  ·intro h
   obtain ⟨z, hz, he⟩ := List.mem_map.1 h
   have hzb : tB n z = false := by
    cases hq : tB n z with
    | false => rfl
    | true => rw [List.any_eq_true.2 ⟨z, hz, hq⟩] at hb; cases hb
   simp only [tB, Bool.or_eq_false_iff, decide_eq_false_iff_not] at hzb
   obtain ⟨⟨⟨h1, h2⟩, h3⟩, h4⟩ := hzb
   refine List.mem_flatMap.2 ⟨z.1.toNat, List.mem_range.2 (by omega), List.mem_map.2 ⟨z.2.1.toNat, List.mem_filter.2 ⟨List.mem_range.2 (by omega), ?_⟩, ?_⟩⟩
   ·refine List.any_eq_true.2 ⟨z, hz, ?_⟩
    simp; omega
   ·rw [← he]; simp; omega
theorem zSx (n : Int) (l : List qZ) (hl : l.length < 4294967000) :
  zW (zEv l n) 0 = some (if l.any (tB n) then .inr ((0, []), 1) else .inl ()) := by
 have h := yP (B := zEv l n) (fun i (_ : Unit) => (i : Int)) l (fun i _ => (l.take i).any (tB n) = false)
  (fun r => r = if l.any (tB n) then .inr ((0, []), 1) else .inl ()) ?_ ?_ () (by simp)
 ·obtain ⟨r, h1, rfl⟩ := h; exact h1
 ·intro i x s hx hI
  have hi := (List.getElem?_eq_some_iff.1 hx).1
  unfold zEv
  have hlt : decide ((i : Int) < len l) = true := by simp [len]; omega
  simp only [hlt, if_true, xI, hx, zob]
  have hc : (if decide (x.1 < 0) = true then some true else if decide (n ≤ x.1) = true then some true else if decide (x.2.1 < 0) = true then some true else some (decide (n ≤ x.2.1)) : Option Bool) = some (tB n x) := by
   unfold tB
   cases decide (x.1 < 0) <;> cases decide (n ≤ x.1) <;> cases decide (x.2.1 < 0) <;> simp
  rw [hc]
  simp only [zob]
  cases hb : tB n x with
  | true =>
   refine .inr ⟨_, rfl, ?_⟩
   have : l.any (tB n) = true := List.any_eq_true.2 ⟨x, List.mem_of_getElem? hx, hb⟩
   simp [this]
  | false => exact .inl ⟨(), by simp [vY i (by omega)], by rw [zIq _ hx, hI, hb]; rfl⟩
 ·intro s hI
  unfold zEv
  rw [List.take_length] at hI
  simp [hI, len]
theorem zTT (l : List qZ) (s5 s6 : Int × List wH) (hl : l.length < 4294967000) : zW (zEl l s5 s6) (false, 0) = some (zZn l s5.1 s6.1) := by
 have h := yP (B := zEl l s5 s6) (fun i (b : Bool) => (b, (i : Int))) l (fun i b => b = (l.take i).any fun a => a.1 == s5.1 && a.2.1 == s6.1) (fun r => r = zZn l s5.1 s6.1) ?_ ?_ false (by simp)
 ·obtain ⟨r, h1, rfl⟩ := h; exact h1
 ·rintro i x s hx rfl
  have hi := (List.getElem?_eq_some_iff.1 hx).1
  unfold zEl
  have hlt : decide ((i : Int) < len l) = true := by simp [len]; omega
  simp only [hlt, if_true, xI, hx, zob]
  refine .inl ⟨_, ?_, rfl⟩
  rw [zIq _ hx, vY i (by omega)]
  cases (l.take i).any fun a => a.1 == s5.1 && a.2.1 == s6.1 <;> cases x.1 == s5.1 <;> simp
 ·rintro s rfl
  unfold zEl
  simp [len]
theorem zTk (n : Int) (l : List qZ) (k : Nat) (acc : List wH) (h0 : 0 ≤ n) (h1 : n ≤ 40) (hl : l.length < 4294967000) (hk : k < 40) (ha : acc.length ≤ 1600) :
  zW (zEq n l ((k : Int), acc)) (0, acc) = some (.inl (((k + 1 : Nat) : Int), acc ++ zVj l n.toNat k)) := by
 have h := yP (B := zEq n l ((k : Int), acc)) (fun i (s : List wH) => ((i : Int), s)) (List.range n.toNat) (fun i s => s = acc ++ zVj l i k) (fun r => r = .inl (((k + 1 : Nat) : Int), acc ++ zVj l n.toNat k)) ?_ ?_ acc (by simp)
 ·obtain ⟨r, h1, rfl⟩ := h; exact h1
 ·rintro i x s hx rfl
  have hi := (List.getElem?_eq_some_iff.1 hx).1
  rw [List.length_range] at hi
  unfold zEq
  have hlt : decide ((i : Int) < n) = true := by simp; omega
  simp only [hlt, if_true, zTT l _ _ hl, zob]
  have hrow : zVj l (i + 1) k = zVj l i k ++ if zZn l k i then [((k : Int), (i : Int))] else [] := by
   unfold zVj
   rw [List.range_succ, List.filter_append, List.map_append]
   congr 1
   by_cases hh : zZn l k i = true <;> simp [hh]
  have hlen : (zVj l i k).length ≤ i := by
   unfold zVj
   rw [List.length_map]
   exact Nat.le_trans (List.length_filter_le _ _) (by simp)
  refine .inl ⟨_, ?_, rfl⟩
  rw [hrow, vY i (by omega)]
  cases zZn l k i with
  | true => rw [vT (by rw [List.length_append, List.length_singleton]; omega)]; simp
  | false => simp
 ·rintro s rfl
  unfold zEq
  have hlt : decide (((List.range n.toNat).length : Int) < n) = false := by simp; omega
  rw [List.length_range] at *
  simp only [hlt, zbf, if_false]
  exact ⟨_, rfl, by rw [vY k (by omega)]⟩
theorem zTH (n : Int) (l : List qZ) (h0 : 0 ≤ n) (h1 : n ≤ 40) (hl : l.length < 4294967000) : zW (zEk n l) (0, []) = some (zZW l n.toNat n.toNat) := by
 have h := yP (B := zEk n l) (fun i (s : List wH) => ((i : Int), s)) (List.range n.toNat) (fun i s => s = zZW l n.toNat i ∧ s.length ≤ 40 * i) (fun r => r = zZW l n.toNat n.toNat) ?_ ?_ [] (by simp)
 ·obtain ⟨r, h1, rfl⟩ := h; exact h1
 ·rintro i x s hx ⟨rfl, hs⟩
  have hi := (List.getElem?_eq_some_iff.1 hx).1
  rw [List.length_range] at hi
  unfold zEk
  have hlt : decide ((i : Int) < n) = true := by simp; omega
  simp only [hlt, if_true]
  have hlen : (zVj l n.toNat i).length ≤ 40 := by
   unfold zVj
   rw [List.length_map]
   exact Nat.le_trans (List.length_filter_le _ _) (by simp; omega)
  have hm : zZW l n.toNat (i + 1) = zZW l n.toNat i ++ zVj l n.toNat i := by
   unfold zZW
   rw [List.range_succ, List.flatMap_append]; simp
  refine .inl ⟨_, zTk n l i _ h0 h1 hl (by omega) (by omega), hm.symm, ?_⟩
  rw [List.length_append]; omega
 ·rintro s ⟨rfl, hs⟩
  unfold zEk
  rw [List.length_range]
  have hlt : decide (((n.toNat : Nat) : Int) < n) = false := by simp; omega
  simp only [hlt, zbf, if_false]
  exact ⟨_, rfl, rfl⟩
theorem zSI (n : Int) (l : List qZ) (hl : l.length < 4294967000) : zH6 n l = some (zMz n l) := by
 unfold zH6 zMz
 cases h0 : (decide (n < 0) || decide (40 < n)) with
 | true => simp
 | false =>
  simp only [Bool.or_eq_false_iff, decide_eq_false_iff_not] at h0
  simp only [zbf, if_false]
  rw [zSx n l hl]
  cases hb : l.any (tB n) with
  | true => simp [yO]
  | false =>
   simp only [zbf, if_false, yO, zob]
   rw [zTH n l (by omega) (by omega) hl, zWm (by omega) hb]
   rfl
end
section
theorem zGr : ∀ a : vD, uB a a = false
 | [] => rfl
 | a :: x => by simp [uB, zGr x, UInt8.lt_irrefl]
theorem zPV : ∀ {a b c : vD}, uB a b = true → uB b c = true → uB a c = true
 | _, _, [], _, h => by simp [uB] at h
 | _, [], _ :: _, h, _ => by simp [uB] at h
 | [], _ :: _, _ :: _, _, _ => rfl
 | a :: x, b :: y, c :: z, h1, h2 => by
  simp only [uB, Bool.or_eq_true, decide_eq_true_eq, Bool.and_eq_true, beq_iff_eq] at *
  rcases h1 with h1 | ⟨rfl, h1⟩ <;> rcases h2 with h2 | ⟨rfl, h2⟩
  ·exact .inl (UInt8.lt_trans h1 h2)
  ·exact .inl h1
  ·exact .inl h2
  ·exact .inr ⟨rfl, zPV h1 h2⟩
theorem zRt : ∀ a b : vD, uB a b = true ∨ a = b ∨ uB b a = true
 | [], [] => .inr (.inl rfl)
 | [], _ :: _ => .inl rfl
 | _ :: _, [] => .inr (.inr rfl)
 | a :: x, b :: y => by
  simp only [uB, Bool.or_eq_true, decide_eq_true_eq, Bool.and_eq_true, beq_iff_eq, List.cons.injEq]
  rcases UInt8.lt_or_lt_of_ne (a := a) (b := b) |> fun f => (Classical.em (a = b)).imp id f with rfl | h | h
  ·rcases zRt x y with h | rfl | h
   ·exact .inl (.inr ⟨rfl, h⟩)
   ·exact .inr (.inl ⟨rfl, rfl⟩)
   ·exact .inr (.inr (.inr ⟨rfl, h⟩))
  ·exact .inl (.inl h)
  ·exact .inr (.inr (.inl h))
theorem zUp (a b : vD) : zD1 a b = some (if uB a b then -1 else if a = b then 0 else 1) := by
 have hn : ∀ x : vD, zCz x = some false := fun x => by simp [zCz]
 simp only [zD1, hn, zob, zbf, if_false]
 by_cases h1 : uB a b = true
 ·simp [h1]
 ·by_cases h2 : a = b
  ·simp [h2, zGr]
  ·simp [h1, h2]
def loB (b : UInt8) : Bool := decide (97 ≤ (b.toNat : Int)) && decide ((b.toNat : Int) ≤ 122)
def okB (b : UInt8) : Bool := loB b || (if decide (48 ≤ (b.toNat : Int)) then decide ((b.toNat : Int) ≤ 57) || (b.toNat : Int) == 95 else (b.toNat : Int) == 95)
def vName : vD → Bool
 | [] => false
 | c :: r => decide (r.length + 1 ≤ 12) && loB c && r.all okB
theorem zPN (s : vD) : zB6 s = some (vName s) := by
 unfold zB6
 cases s with
 | nil => rfl
 | cons c r =>
  have h0 : ((len (c :: r)) == 0) = false := by rw [beq_eq_false_iff_ne]; simp [len]; omega
  by_cases hl : r.length + 1 ≤ 12
  ·have h1 : decide (12 < len (c :: r)) = false := by simp [len]; omega
   rw [h0, h1]
   simp only [Bool.or_self, zbf, if_false]
   have h := zMA (B := zCi (c :: r)) (fun i (_ : Unit) => (i : Int)) (c :: r)
    (fun i _ b => some (if loB b then .inl () else if decide (0 < (i : Int)) && okB b then .inl () else .inr false)) (fun _ => some true) ?_ ?_ ()
   ·rw [show ((0 : Nat) : Int) = 0 from rfl] at h
    rw [h]
    have key : ∀ (l : List UInt8) (i : Nat), 0 < i → zRO (fun (i : Nat) (_ : Unit) (b : UInt8) => some (if loB b then .inl () else if decide (0 < (i : Int)) && okB b then .inl () else .inr false)) (fun _ => some true) i l () = some (l.all okB) := by
     intro l
     induction l with
     | nil => intro i _; rfl
     | cons b l ih =>
      intro i hi
      have hd : decide (0 < (i : Int)) = true := by simp; omega
      by_cases hb : okB b = true
      ·by_cases hlo : loB b = true
       ·simp only [zRO, hlo, if_true]; rw [ih (i + 1) (by omega)]; simp [hb]
       ·simp only [zRO, hlo, if_false, hd, hb, Bool.and_self, if_true, zbf]; rw [ih (i + 1) (by omega)]; simp [hb]
      ·have hlo : ¬ loB b = true := fun h => hb (by simp [okB, h])
       simp [zRO, hlo, hb]
    by_cases hlo : loB c = true
    ·simp only [zRO, hlo, if_true]
     rw [key r 1 (by omega)]
     simp [vName, hlo, hl]
    ·simp [zRO, hlo, vName]
   ·intro i x s hx
    have hi := (List.getElem?_eq_some_iff.1 hx).1
    have hlt : decide ((i : Int) < len (c :: r)) = true := by simp [len] at hi ⊢; omega
    unfold zCi
    rw [zU0, hx, vY i (by simp at hi; omega)]
    simp only [hlt, if_true, Option.map_some, zob]
    by_cases hlo : loB x = true
    ·have hlo' := hlo
     unfold loB at hlo'
     simp only [hlo', if_true, hlo]
    ·have hlo' := hlo
     unfold loB at hlo'
     simp only [hlo', if_false, hlo, zbf]
     by_cases hc : (decide (0 < (i : Int)) && okB x) = true
     ·have hc' := hc
      unfold okB at hc'
      simp only [hlo, Bool.false_or] at hc'
      simp only [hc', if_true, hc]
     ·have hc' := hc
      unfold okB at hc'
      simp only [hlo, Bool.false_or] at hc'
      simp only [hc', if_false, hc, zbf]
   ·intro s
    unfold zCi
    simp [len]
  ·have h1 : decide (12 < len (c :: r)) = true := by simp [len]; omega
   rw [h1]
   simp [vName, hl]
theorem zKg (s : vD) : zB3 s = some (vName s) := by
 unfold zB3
 cases s with
 | nil => rfl
 | cons c r =>
  have h0 : decide ((len (c :: r)) < 1) = false := by simp [len]; omega
  have hs0 : zR3 (c :: r) 0 = some (c.toNat : Int) := rfl
  rw [h0]
  by_cases hl : r.length + 1 ≤ 12
  ·have h1 : decide (12 < len (c :: r)) = false := by simp [len]; omega
   rw [h1]
   simp only [zbf, if_false, hs0, zob]
   by_cases hlo : loB c = true
   ·have ha : decide ((c.toNat : Int) < 97) = false := by simp [loB] at hlo ⊢; omega
    have hb : decide (122 < (c.toNat : Int)) = false := by simp [loB] at hlo ⊢; omega
    simp only [ha, hb, zbf, if_false, zob]
    have h := zMA (B := zDa (c :: r)) (fun i (_ : Unit) => (i : Int)) (c :: r)
     (fun _ _ b => some (if okB b then .inl () else .inr false)) (fun _ => some true) ?_ ?_ ()
    ·rw [show ((0 : Nat) : Int) = 0 from rfl] at h
     rw [h]
     have key : ∀ (l : List UInt8) (i : Nat), zRO (fun (_ : Nat) (_ : Unit) (b : UInt8) => some (if okB b then .inl () else .inr false)) (fun _ => some true) i l () = some (l.all okB) := by
      intro l
      induction l with
      | nil => intro i; rfl
      | cons b l ih =>
       intro i
       by_cases hb : okB b = true
       ·simp only [zRO, hb, if_true]; rw [ih (i + 1)]; simp [hb]
       ·simp [zRO, hb]
     rw [key]
     simp [vName, hlo, hl, okB]
    ·intro i x s hx
     have hi := (List.getElem?_eq_some_iff.1 hx).1
     have hlt : decide ((i : Int) < len (c :: r)) = true := by simp [len] at hi ⊢; omega
     unfold zDa
     rw [zU0, hx, vY i (by simp at hi; omega)]
     simp only [hlt, if_true, Option.map_some, zob]
     have hok : okB x = !(if decide ((x.toNat : Int) < 97) then (if decide ((x.toNat : Int) < 48) then ((x.toNat : Int) != 95) else if decide (57 < (x.toNat : Int)) then ((x.toNat : Int) != 95) else false)
       else if decide (122 < (x.toNat : Int)) then (if decide ((x.toNat : Int) < 48) then ((x.toNat : Int) != 95) else if decide (57 < (x.toNat : Int)) then ((x.toNat : Int) != 95) else false) else false) := by
      unfold okB loB
      generalize (x.toNat : Int) = n
      rw [Bool.eq_iff_iff]
      simp
      constructor
      ·intro h
       by_cases h1 : n < 97 <;> by_cases h2 : n < 48 <;> by_cases h3 : 57 < n <;> by_cases h4 : 122 < n <;> simp [h1, h2, h3, h4] <;> (split at h <;> (try simp at h) <;> omega)
      ·intro h
       by_cases h1 : n < 97 <;> by_cases h2 : n < 48 <;> by_cases h3 : 57 < n <;> by_cases h4 : 122 < n <;> simp [h1, h2, h3, h4] at h <;> (split <;> (try simp) <;> omega)
     rw [hok]
     cases decide ((x.toNat : Int) < 97) <;> cases decide ((x.toNat : Int) < 48) <;> cases decide (57 < (x.toNat : Int)) <;> cases decide (122 < (x.toNat : Int)) <;> cases ((x.toNat : Int) != 95) <;> rfl
    ·intro s
     unfold zDa
     simp [len]
   ·have hor : (decide ((c.toNat : Int) < 97) || decide (122 < (c.toNat : Int))) = true := by simp [loB] at hlo ⊢; omega
    have hv : vName (c :: r) = false := by simp [vName, hlo]
    rw [hv]
    cases h1 : decide ((c.toNat : Int) < 97) with
    | true => rfl
    | false => rw [h1] at hor; simp only [Bool.false_or] at hor; simp only [zbf, if_false, hor, zob, if_true]
  ·have h1 : decide (12 < len (c :: r)) = true := by simp [len]; omega
   rw [h1]
   simp [vName, hl]
theorem zJx (x : zM) : zBc x = some (vName x.2) := by simp [zBc, zPN]
theorem zKA (x : zM) : zCI x = some (vName x.2) := by simp [zCI, zKg]
def vR (a b : zM) : Bool := uB a.2 b.2 || (a.2 == b.2 && (!a.1 && b.1))
def zKz (a b : zM) : Int := if vR a b then -1 else if a = b then 0 else 1
theorem zOM (a : zM) : vR a a = false := by simp [vR, zGr]
theorem zJD {a b c : zM} (h1 : vR a b = true) (h2 : vR b c = true) : vR a c = true := by
 obtain ⟨g, a⟩ := a; obtain ⟨g', b⟩ := b; obtain ⟨g'', c⟩ := c
 simp only [vR, Bool.or_eq_true, Bool.and_eq_true, beq_iff_eq, Bool.not_eq_true'] at *
 rcases h1 with h1 | ⟨rfl, h1, h1'⟩ <;> rcases h2 with h2 | ⟨rfl, h2, h2'⟩
 ·exact .inl (zPV h1 h2)
 ·exact .inl h1
 ·exact .inl h2
 ·rw [h1'] at h2; cases h2
theorem zL3 (a b : zM) : vR a b = true ∨ a = b ∨ vR b a = true := by
 obtain ⟨g, a⟩ := a; obtain ⟨g', b⟩ := b
 simp only [vR, Bool.or_eq_true, Bool.and_eq_true, beq_iff_eq, Bool.not_eq_true', Prod.mk.injEq]
 rcases zRt a b with h | rfl | h
 ·exact .inl (.inl h)
 ·cases g <;> cases g' <;> simp
 ·exact .inr (.inr (.inl h))
theorem zKd (a b : zM) : zAs a b = some (zKz a b) := by
 obtain ⟨g, a⟩ := a; obtain ⟨g', b⟩ := b
 unfold zAs zKz vR
 rw [zUp]
 by_cases h1 : uB a b = true
 ·simp [h1]
 ·by_cases h2 : a = b
  ·subst h2
   cases g <;> cases g' <;> simp [zGr]
  ·simp [h1, h2]
theorem zPo (a b : zM) : zFa a b = some (zKz a b) := by
 obtain ⟨g, a⟩ := a; obtain ⟨g', b⟩ := b
 unfold zFa zKz vR
 by_cases h1 : uB a b = true
 ·have h2 : a ≠ b := fun e => by subst e; rw [zGr] at h1; cases h1
  simp [h1, h2]
 ·by_cases h2 : a = b
  ·subst h2
   cases g <;> cases g' <;> simp [zGr]
  ·simp [h1, h2]
theorem zXh : OrdF zAs := by
 have hlt : ∀ x y, yI zAs x y = vR x y := fun x y => by
  simp only [yI, zKd, zKz, Option.getD_some]
  cases h : vR x y with
  | true => simp
  | false => by_cases he : x = y <;> simp [he]
 refine ⟨fun x y => ⟨_, zKd x y⟩, fun x => by rw [hlt, zOM], fun x y z h1 h2 => ?_, fun x y z h1 h2 => ?_, fun x y h1 h2 => ?_⟩
 ·rw [hlt] at *; exact zJD h1 h2
 ·rw [hlt] at *
  cases h3 : vR x z with
  | false => rfl
  | true =>
   rcases zL3 x y with h | rfl | h
   ·rw [h] at h1; cases h1
   ·rw [h3] at h2; cases h2
   ·have := zJD h h3; rw [this] at h2; cases h2
 ·rw [hlt] at *
  rcases zL3 x y with h | h | h
  ·rw [h] at h1; cases h1
  ·exact h
  ·rw [h] at h2; cases h2
theorem zZG (x y : zM) : yI zAs x y = vR x y := by
 simp only [yI, zKd, zKz, Option.getD_some]
 cases h : vR x y with
 | true => simp
 | false => by_cases he : x = y <;> simp [he]
end
section
theorem zQu : tX vR := ⟨zOM, fun _ _ _ => zJD, zL3⟩
theorem zSe {l : List zM} (h : l.length < 4294967296) : zBY l = some l := by
 simp [zBY, vT (l := ([] : List zM)) (m := l) (by simpa using h)]
theorem zXb {l : List zM} (h : l.length < 4294967296) : zAN l = some (l.mergeSort fun x y => !vR y x) := by
 simp only [zAN, zRg]
 rw [if_pos ⟨zXh, h⟩]
 simp only [zZG]
theorem zTQ {l : List zM} (h : l.length < 4294967296) : zBp l = some (tI l) :=
 (show zBp l = zRF (false, []) l from rfl).trans (zKq _ l (by omega))
theorem zQ1 {l : List zM} (h : l.length < 4294967296) : zEa l = some (xV vR l) := by
 simp only [zEa, zSe h, zXb h, zob]
 rw [zTQ (by simpa using h)]
 rfl
theorem zQo {l : List zM} (x : zM) (h : l.length < 9223372036854775807) : zEO l x = some (decide (x ∈ l)) := by
 obtain ⟨r, hr, hi⟩ := zPl l x h
 have e : zCa l x = some r := (show zCa l x = zYi l x from rfl).trans hr
 simp only [zEO, zDT, e, zob]
 congr 1
 rw [decide_eq_decide, hi]
 simp
def zS7 (x : zM) : zM := (!x.1, x.2)
theorem zQB (x : zM) : zGL x = some (zS7 x) := rfl
end
section
theorem zVV {l : List zM} (x : zM) (h : l.length < 1073741824) (ha : vJ vR l) : ∃ r, zID l x = some r ∧ vJ vR r ∧ (∀ y, y ∈ r ↔ y = x ∨ y ∈ l) ∧ r.length ≤ l.length + 1 := by
 have hloop : ∃ k, zW (zEC l x) 0 = some k ∧ ∃ n : Nat, k = n ∧ n ≤ l.length ∧ (∀ j y, j < n → l[j]? = some y → vR y x = true) ∧ ∀ y, l[n]? = some y → vR y x = false := by
  refine yP (B := zEC l x) (fun i (_ : Unit) => (i : Int)) l (fun i _ => ∀ j y, j < i → l[j]? = some y → vR y x = true) _ ?_ ?_ () (by simp)
  ·intro i y s hy hI
   have hi := (List.getElem?_eq_some_iff.1 hy).1
   have hlt : decide ((i : Int) < len l) = true := by simp [len]; omega
   unfold zEC
   simp only [hlt, if_true, xI, hy, zob, zPo]
   cases hc : vR y x with
   | true =>
    refine .inl ⟨(), by simp [zKz, hc, vY i (by omega)], fun j z hj hz => ?_⟩
    rcases Nat.lt_succ_iff_lt_or_eq.1 hj with h | rfl
    ·exact hI j z h hz
    ·rw [hy] at hz; cases hz; exact hc
   | false =>
    refine .inr ⟨(i : Int), ?_, i, rfl, by omega, hI, fun z hz => by rw [hy] at hz; cases hz; exact hc⟩
    have : decide (zKz y x < 0) = false := by simp [zKz, hc]; split <;> omega
    simp only [this, zbf, if_false]
  ·intro s hI
   refine ⟨(l.length : Int), by unfold zEC; simp [len], l.length, rfl, Nat.le_refl _, hI, fun y hy => by simp at hy⟩
 obtain ⟨_, hk, n, rfl, hn, hlo, hhi⟩ := hloop
 unfold zID
 rw [hk]
 simp only [zob]
 by_cases hx : l[n]? = some x
 ·have hlt : decide ((n : Int) < len l) = true := by have := (List.getElem?_eq_some_iff.1 hx).1; simp [len]; omega
  refine ⟨l, by simp only [hlt, if_true, xI, hx, zob, beq_self_eq_true], ha, fun y => ⟨.inr, fun h => ?_⟩, by omega⟩
  rcases h with rfl | h
  ·exact List.mem_of_getElem? hx
  ·exact h
 ·have hcond : ((if decide ((n : Int) < len l) = true then (zG l (n : Int)).bind fun x2 => some (x2 == x) else some false : Option Bool)) = some false := by
   by_cases hlt : n < l.length
   ·have hy : l[n]? = some l[n] := List.getElem?_eq_getElem hlt
    have h1 : decide ((n : Int) < len l) = true := by simp [len]; omega
    have h2 : (l[n] == x) = false := beq_eq_false_iff_ne.2 (fun e => hx (by rw [hy, e]))
    simp only [h1, if_true, xI, hy, zob, h2]
   ·have h1 : decide ((n : Int) < len l) = false := by simp [len]; omega
    simp only [h1, zbf, if_false]
  rw [hcond]
  simp only [zob, zbf, if_false]
  rw [zK6 (by omega) (by omega), zWM (by omega) (by omega)]
  simp only [zob, Int.toNat_natCast]
  rw [vT (by simp; omega)]
  simp only [zob, List.nil_append]
  rw [vT (by simp; omega)]
  simp only [zob]
  rw [vT (by simp; omega)]
  refine ⟨_, rfl, ?_, fun y => ?_, by simp; omega⟩
  ·have hsplit := List.take_append_drop n l
   rw [← hsplit] at ha
   obtain ⟨h1, h2, h3⟩ := List.pairwise_append.1 ha
   have hlow : ∀ y ∈ l.take n, vR y x = true := fun y hy => by
    obtain ⟨j, hj⟩ := List.mem_iff_getElem?.1 hy
    rw [List.getElem?_take] at hj
    split at hj
    ·exact hlo j y ‹_› hj
    ·cases hj
   have hhigh : ∀ y ∈ l.drop n, vR x y = true := fun y hy => by
    by_cases hlt : n < l.length
    ·have hfirst : vR x l[n] = true := by
      rcases zL3 x l[n] with h | h | h
      ·exact h
      ·exact absurd (by rw [List.getElem?_eq_getElem hlt, ← h]) hx
      ·rw [hhi _ (List.getElem?_eq_getElem hlt)] at h; cases h
     rw [List.drop_eq_getElem_cons hlt] at hy h2
     rcases List.mem_cons.1 hy with rfl | hy
     ·exact hfirst
     ·exact zJD hfirst ((List.pairwise_cons.1 h2).1 y hy)
    ·rw [List.drop_of_length_le (by omega)] at hy; cases hy
   rw [List.append_assoc]
   refine List.pairwise_append.2 ⟨h1, List.pairwise_append.2 ⟨by simp, h2, fun a ha b hb => ?_⟩, fun a ha b hb => ?_⟩
   ·simp at ha; subst ha; exact hhigh b hb
   ·rcases List.mem_append.1 hb with hb | hb
    ·simp at hb; subst hb; exact hlow a ha
    ·exact h3 a ha b hb
  ·rw [List.mem_append, List.mem_append, List.mem_singleton]
   have : y ∈ l ↔ y ∈ l.take n ∨ y ∈ l.drop n := by rw [← List.mem_append, List.take_append_drop]
   rw [this]
   constructor
   ·rintro ((h | h) | h)
    ·exact .inr (.inl h)
    ·exact .inl h
    ·exact .inr (.inr h)
   ·rintro (h | h | h)
    ·exact .inl (.inr h)
    ·exact .inl (.inl h)
    ·exact .inr h
theorem zVo {l : List zM} (x : zM) (h : l.length < 9223372036854775807) : zKl l x = some (decide (x ∈ l)) := by
 have hh := yP (B := zHz l x) (fun i (_ : Unit) => (i : Int)) l (fun i _ => ∀ j, j < i → l[j]? ≠ some x) (fun r => r = decide (x ∈ l)) ?_ ?_ () (by simp)
 ·obtain ⟨r, h1, rfl⟩ := hh; exact h1
 ·intro i y s hy hI
  have hi := (List.getElem?_eq_some_iff.1 hy).1
  have hlt : decide ((i : Int) < len l) = true := by simp [len]; omega
  unfold zHz
  simp only [hlt, if_true, xI, hy, zob]
  by_cases hxy : y = x
  ·subst hxy
   refine .inr ⟨true, by simp, ?_⟩
   simp [List.mem_of_getElem? hy]
  ·refine .inl ⟨(), by simp [hxy, vY i (by omega)], fun j hj => ?_⟩
   rcases Nat.lt_succ_iff_lt_or_eq.1 hj with h | rfl
   ·exact hI j h
   ·rw [hy]; simpa using hxy
 ·intro s hI
  refine ⟨false, by unfold zHz; simp [len], ?_⟩
  symm
  rw [decide_eq_false_iff_not]
  intro hm
  obtain ⟨j, hj⟩ := List.mem_iff_getElem?.1 hm
  exact hI j (List.getElem?_eq_some_iff.1 hj).1 hj
end
section
theorem zWT (l : List Int) (n : Int) (hl : l.length < 4294967290) : ∃ k : Nat, zW (zDw l n) 0 = some (k : Int) ∧ k ≤ l.length ∧ (∀ j x, j < k → l[j]? = some x → x < n) ∧ ∀ x, l[k]? = some x → n ≤ x := by
 have h := yP (B := zDw l n) (fun i (_ : Unit) => (i : Int)) l (fun i _ => ∀ j x, j < i → l[j]? = some x → x < n)
  (fun r => ∃ k : Nat, r = (k : Int) ∧ k ≤ l.length ∧ (∀ j x, j < k → l[j]? = some x → x < n) ∧ ∀ x, l[k]? = some x → n ≤ x) ?_ ?_ () (by omega)
 ·obtain ⟨r, h1, k, rfl, h2⟩ := h; exact ⟨k, h1, h2⟩
 ·intro i x s hx hI
  unfold zDw
  simp only [wW hx, if_true, wU hx, zob]
  by_cases hlt : x < n
  ·refine .inl ⟨(), by simp [hlt, wV hx (by omega)], fun j y hj hy => ?_⟩
   rcases Nat.lt_succ_iff_lt_or_eq.1 hj with h | rfl
   ·exact hI j y h hy
   ·rw [hx] at hy; cases hy; exact hlt
  ·exact .inr ⟨i, by simp [hlt], i, rfl, by have := vH hx; omega, hI, fun y hy => by rw [hx] at hy; cases hy; omega⟩
 ·intro s hI
  unfold zDw
  exact ⟨(l.length : Int), by simp [len], l.length, rfl, Nat.le_refl _, hI, fun x hx => by simp at hx⟩
theorem zMh {l : List Int} (n : Int) (hl : l.length < 4294967000) (ha : vJ yH l) : ∃ r, zFF l n = some r ∧ vJ yH r ∧ (∀ y, y ∈ r ↔ y = n ∨ y ∈ l) ∧ r.length ≤ l.length + 1 := by
 obtain ⟨k, h1, h2, h3, h4⟩ := zWT l n (by omega)
 have hsplit : l = l.take k ++ l.drop k := (List.take_append_drop k l).symm
 have hlo : ∀ x ∈ l.take k, x < n := fun x hx => by
  obtain ⟨j, hj⟩ := List.mem_iff_getElem?.1 hx
  rw [List.getElem?_take] at hj
  split at hj
  ·rename_i hjk; exact h3 j x hjk hj
  ·cases hj
 have hhi : ∀ x ∈ l.drop k, n ≤ x := fun x hx => by
  obtain ⟨j, hj⟩ := List.mem_iff_getElem?.1 hx
  rw [List.getElem?_drop] at hj
  cases j with
  | zero => exact h4 x hj
  | succ j =>
   have hk : k < l.length := by have := vH hj; omega
   have h5 := h4 l[k] (List.getElem?_eq_getElem hk)
   have h6 := List.pairwise_iff_getElem.1 ha k (k + (j + 1)) hk (vH hj) (by omega)
   rw [List.getElem?_eq_getElem (vH hj)] at hj
   have hj := Option.some.inj hj
   simp at h6; omega
 unfold zFF
 rw [h1]
 simp only [zob]
 by_cases he : ∃ x, l[k]? = some x ∧ x = n
 ·obtain ⟨x, hx, rfl⟩ := he
  refine ⟨l, by simp only [wW hx, if_true, wU hx, zob, beq_self_eq_true], ha, fun y => ⟨.inr, fun h => by rcases h with rfl | h; exact yA hx; exact h⟩, by omega⟩
 ·have hc : (if decide ((k : Int) < len l) = true then (zG l (k : Int)).bind fun x2 => some (x2 == n) else some false) = some false := by
   by_cases hk : k < l.length
   ·have hx : l[k]? = some l[k] := List.getElem?_eq_getElem hk
    simp only [wW hx, if_true, wU hx, zob]
    congr 1
    rw [beq_eq_false_iff_ne]
    exact fun e => he ⟨_, hx, e⟩
   ·have : decide ((k : Int) < len l) = false := by simp [len]; omega
    simp only [this, zbf, if_false]
  rw [hc]
  simp only [zob, zbf, if_false]
  rw [zK6 (by omega) (by omega), zWM (by omega) (by omega)]
  simp only [zob, Int.toNat_natCast]
  have l1 : (l.take k).length = k := by simp; omega
  have l2 : (l.drop k).length = l.length - k := by simp
  rw [vT (by simp; omega)]
  simp only [zob, List.nil_append]
  rw [vT (by simp; omega)]
  simp only [zob]
  rw [vT (by simp; omega)]
  refine ⟨_, rfl, ?_, fun y => ?_, by simp; omega⟩
  ·rw [List.append_assoc]
   refine List.pairwise_append.2 ⟨ha.sublist (List.take_sublist k l), ?_, fun x hx y hy => ?_⟩
   ·refine List.pairwise_append.2 ⟨by simp, ha.sublist (List.drop_sublist k l), fun x hx y hy => ?_⟩
    simp only [List.mem_singleton] at hx
    subst hx
    have h5 := hhi y hy
    have h6 : y ≠ x := fun e => by
     subst e
     obtain ⟨j, hj⟩ := List.mem_iff_getElem?.1 hy
     rw [List.getElem?_drop] at hj
     cases j with
     | zero => exact he ⟨_, hj, rfl⟩
     | succ j =>
      have hk : k < l.length := by have := vH hj; omega
      have h5 := h4 l[k] (List.getElem?_eq_getElem hk)
      have h6 := List.pairwise_iff_getElem.1 ha k (k + (j + 1)) hk (vH hj) (by omega)
      rw [List.getElem?_eq_getElem (vH hj)] at hj
      have hj := Option.some.inj hj
      simp at h6; omega
    simp; omega
   ·have h5 := hlo x hx
    rcases List.mem_append.1 hy with h | h
    ·simp at h; subst h; simpa using h5
    ·have := hhi y h; simp; omega
  ·have hm : y ∈ l ↔ y ∈ l.take k ∨ y ∈ l.drop k := by rw [← List.mem_append, List.take_append_drop]
   rw [hm]
   simp only [List.mem_append, List.mem_singleton]
   constructor
   ·rintro ((h | h) | h)
    ·exact .inr (.inl h)
    ·exact .inl h
    ·exact .inr (.inr h)
   ·rintro (h | h | h)
    ·exact .inl (.inr h)
    ·exact .inl (.inl h)
    ·exact .inr h
theorem zQT {l m : List Int} (hl : l.length + m.length < 4294966000) (ha : vJ yH l) : ∃ r, zIl l m = some r ∧ vJ yH r ∧ (∀ y, y ∈ r ↔ y ∈ l ∨ y ∈ m) ∧ r.length ≤ l.length + m.length := by
 have h := yP (B := zG8 m) (fun i (s : List Int) => (s, (i : Int))) m (fun i s => vJ yH s ∧ (∀ y, y ∈ s ↔ y ∈ l ∨ y ∈ m.take i) ∧ s.length ≤ l.length + i)
  (fun r => vJ yH r ∧ (∀ y, y ∈ r ↔ y ∈ l ∨ y ∈ m) ∧ r.length ≤ l.length + m.length) ?_ ?_ l ⟨ha, by simp, by omega⟩
 ·exact h
 ·rintro i x s hx ⟨h1, h2, h3⟩
  have hi := vH hx
  obtain ⟨r, e1, e2, e3, e4⟩ := zMh x (by omega) h1
  refine .inl ⟨r, ?_, e2, fun y => ?_, by omega⟩
  ·unfold zG8
   simp only [wW hx, if_true, wU hx, zob, e1, wV hx (by omega)]
  ·rw [e3, h2, uL hx]
   simp only [List.mem_append, List.mem_singleton]
   constructor
   ·rintro (h | h | h)
    ·exact .inr (.inr h)
    ·exact .inl h
    ·exact .inr (.inl h)
   ·rintro (h | h | h)
    ·exact .inr (.inl h)
    ·exact .inr (.inr h)
    ·exact .inl h
 ·rintro s ⟨h1, h2, h3⟩
  refine ⟨s, by unfold zG8; simp [len], h1, fun y => by rw [h2, List.take_length], h3⟩
theorem zSC {l : List Int} (h : l.length < 4294967296) : zBK l = some (zQh yH l) := zTr h
theorem zTI {l : List Int} (h : l.length < 4294967296) : zBR l = some (tI l) := zKq 0 l (by omega)
theorem zRK {β : Type} {l : List Int} (h : l.length < 4294967296) (k : List Int → Option β) : ((zBK l).bind fun r3 => (zBR r3).bind fun r4 => k r4) = k (xV yH l) := by
 rw [zSC h]
 simp only [zob]
 rw [zTI (by rw [(zIv l).length_eq]; exact h)]
 simp only [zob]
 rw [zV1 (zIv l) (zIT xE l)]
theorem zTc (l : List Int) : vJ yH (xV yH l) := (zKr xE l).1
theorem zZ7 (l : List Int) (x : Int) : x ∈ xV yH l ↔ x ∈ l := (zKr xE l).2 x
inductive zJv (l : List zL) : Int → Int → Prop
 | self (i : Int) : zJv l i i
 | step {i k j : Int} {a : zL} : zG l i = some a → k ∈ a.2.2.1 → zJv l k j → zJv l i j
structure FormA (l : List zL) : Prop where
 len : l.length ≤ 100
 nsub : ∀ a ∈ l, a.2.2.1.length ≤ 100
 sub : ∀ (i : Nat) a, l[i]? = some a → ∀ k ∈ a.2.2.1, 0 ≤ k ∧ k < i
theorem FormA.at {l : List zL} (h : FormA l) {i : Int} {a : zL} (hi : zG l i = some a) : a.2.2.1.length ≤ 100 ∧ 0 ≤ i ∧ i < l.length ∧ ∀ k ∈ a.2.2.1, 0 ≤ k ∧ k < i := by
 obtain ⟨n, rfl, hn⟩ := zMW hi
 exact ⟨h.nsub a (yA hn), by omega, by have := vH hn; omega, h.sub n a hn⟩
theorem zJv.le {l : List zL} (h : FormA l) {i j : Int} (hs : zJv l i j) : 0 ≤ i → 0 ≤ j ∧ j ≤ i := by
 induction hs with
 | self i => intro h0; omega
 | step hi hk _ ih => intro h0; have := (h.at hi).2.2.2 _ hk; have := ih this.1; omega
theorem zJv.trans {l : List zL} {i j k : Int} (h : zJv l i j) (h2 : zJv l j k) : zJv l i k := by
 induction h with
 | self i => exact h2
 | step hi hk _ ih => exact .step hi hk (ih h2)
theorem zJv.iff {l : List zL} {i j : Int} {a : zL} (hi : zG l i = some a) : zJv l i j ↔ j = i ∨ ∃ k ∈ a.2.2.1, zJv l k j := by
 constructor
 ·intro h
  cases h with
  | self => exact .inl rfl
  | step h1 h2 h3 => rw [hi] at h1; cases h1; exact .inr ⟨_, h2, h3⟩
 ·rintro (rfl | ⟨k, h1, h2⟩)
  ·exact .self _
  ·exact .step hi h1 h2
open Classical in
noncomputable def vW (l : List zL) (i : Int) : List Int := ((List.range l.length).map Int.ofNat).filter fun j => decide (zJv l i j)
theorem zKB (l : List zL) (i : Int) : vJ yH (vW l i) := by
 refine List.Pairwise.filter _ ?_
 rw [List.pairwise_map]
 exact List.pairwise_lt_range.imp fun {a b} h => by simp; omega
theorem zEo (l : List zL) (i : Int) : (vW l i).length ≤ l.length := Nat.le_trans (List.length_filter_le _ _) (by simp)
theorem zIR {l : List zL} (h : FormA l) {i : Int} (h0 : 0 ≤ i) (h1 : i < l.length) (j : Int) : j ∈ vW l i ↔ zJv l i j := by
 simp only [vW, List.mem_filter, List.mem_map, List.mem_range, decide_eq_true_eq]
 constructor
 ·exact fun h => h.2
 ·intro hs
  have := hs.le h h0
  exact ⟨⟨j.toNat, by omega, by simp; omega⟩, hs⟩
theorem zUr {l : List zL} (h : FormA l) : ∀ (n : Nat) (i : Int), 0 ≤ i → i < l.length → i < n → zCV n l i = some (vW l i) := by
 intro n
 induction n with
 | zero => intro i h0 _ h2; omega
 | succ n ih =>
  intro i h0 h1 h2
  obtain ⟨a, ha⟩ := tS h0 h1
  obtain ⟨hn, _, _, hsub⟩ := h.at ha
  show zHQ (zCV n) l i = _
  have hL := zBN (B := zFR a (zCV n) l) a.2.2.1 (fun s k => s ++ vW l k) (fun s => s) (fun q s => s.length ≤ 1 + q * 100) [i] (by simp) (fun q k s hk hI => ?_) (fun s hI => ?_)
  ·obtain ⟨e1, e2⟩ := hL
   rw [zGY] at e1 e2
   unfold zHQ zAb
   have hin : (decide (0 ≤ i) && decide (i < len l)) = true := by simp [len]; omega
   simp only [hin, zob, Bool.not_true, zbf, if_false, ha, e1]
   have hlen : ([i] ++ a.2.2.1.flatMap (vW l)).length < 4294967296 := by omega
   refine (zRK hlen some).trans ?_
   congr 1
   refine zQV xE (zKB l i) fun j => ?_
   rw [zIR h h0 h1, zJv.iff ha]
   simp only [List.singleton_append, List.mem_cons, List.mem_flatMap]
   refine or_congr Iff.rfl (exists_congr fun k => and_congr_right fun hk => ?_)
   have := hsub k hk
   rw [zIR h this.1 (by omega)]
  ·have hks := hsub k (yA hk)
   have hq := vH hk
   have hsl := zEo l k
   have hl := h.len
   unfold zFR
   simp only [wW hk, if_true, wU hk, zob]
   rw [ih k hks.1 (by omega) (by omega)]
   simp only [zob]
   rw [vT (by omega)]
   refine ⟨by simp only [zob, wV hk (by omega)], by rw [List.length_append]; omega⟩
  ·unfold zFR
   simp [len]
theorem zRC {l : List zL} (h : FormA l) {i : Int} (h0 : 0 ≤ i) (h1 : i < l.length) : zFn l i = some (vW l i) :=
 zLV (i.toNat + 1) fun m hm => zUr h m i h0 h1 (by omega)
theorem zVK {l : List zL} (h : FormA l) : ∀ (n : Nat) (i : Int), 0 ≤ i → i < l.length → i < n → zFd n l i = some (vW l i) := by
 intro n
 induction n with
 | zero => intro i h0 _ h2; omega
 | succ n ih =>
  intro i h0 h1 h2
  obtain ⟨a, ha⟩ := tS h0 h1
  obtain ⟨hn, _, _, hsub⟩ := h.at ha
  have hl := h.len
  show zJk (zFd n) l i = _
  have hL := yP (B := zH9 l i (zFd n)) (fun q (s : List Int) => (s, (q : Int))) a.2.2.1 (fun q s => vJ yH s ∧ (∀ y, y ∈ s ↔ y = i ∨ ∃ k ∈ a.2.2.1.take q, zJv l k y) ∧ s.length ≤ 1 + q * 100)
   (fun r => vJ yH r ∧ ∀ y, y ∈ r ↔ zJv l i y) (fun q k s hk hI => ?_) (fun s hI => ?_) [i] ⟨by simp, by simp, by simp⟩
  ·obtain ⟨r, e1, e2, e3⟩ := hL
   unfold zJk
   have hin : (decide (i < 0) || decide (len l ≤ i)) = false := by simp [len]; omega
   simp only [hin, zbf, if_false]
   exact e1.trans (congrArg some (vJ.ext xE e2 (zKB l i) fun j => by rw [e3, zIR h h0 h1]))
  ·obtain ⟨g1, g2, g3⟩ := hI
   have hks := hsub k (yA hk)
   have hq := vH hk
   have hsl := zEo l k
   obtain ⟨r, e1, e2, e3, e4⟩ := zQT (l := s) (m := vW l k) (by omega) g1
   refine .inl ⟨r, ?_, e2, fun y => ?_, by omega⟩
   ·unfold zH9
    simp only [ha, zob, wW hk, if_true, wU hk]
    rw [ih k hks.1 (by omega) (by omega)]
    simp only [zob, e1, wV hk (by omega)]
   ·rw [e3, g2, zIR h hks.1 (by omega), uL hk]
    simp only [List.mem_append, List.mem_singleton, or_and_right, exists_or, exists_eq_left, or_assoc]
  ·obtain ⟨g1, g2, g3⟩ := hI
   rw [List.take_length] at g2
   refine ⟨s, by unfold zH9; simp [ha, len], g1, fun y => by rw [g2, zJv.iff ha]⟩
theorem zRG {l : List zL} (h : FormA l) {i : Int} (h0 : 0 ≤ i) (h1 : i < l.length) : zI2 l i = some (vW l i) :=
 zLV (i.toNat + 1) fun m hm => zVK h m i h0 h1 (by omega)
structure FormB (b : zR) (l : List zL) : Prop extends FormA l where
 np : b.1.length ≤ 100
 nr : b.2.1.length ≤ 100
 kind : ∀ (i : Nat) a, l[i]? = some a → (a.1 = (i : Int) ∧ i < b.1.length ∧ a.2.1 = -1) ∨ (a.1 = -1 ∧ 0 ≤ a.2.1 ∧ a.2.1 < b.2.1.length)
variable {b : zR} {l : List zL}
theorem FormB.prem (h : FormB b l) {j : Int} {a : zL} (hj : zG l j = some a) : (0 ≤ a.1 → a.1 = j ∧ (∃ p, zG b.1 a.1 = some p) ∧ a.2.1 = -1) ∧ (a.1 < 0 → ∃ r, zG b.2.1 a.2.1 = some r) ∧ (0 ≤ a.2.1 ↔ a.1 < 0) := by
 obtain ⟨n, rfl, hn⟩ := zMW hj
 rcases h.kind n a hn with ⟨h1, h2, h3⟩ | ⟨h1, h2, h3⟩
 ·exact ⟨fun _ => ⟨h1, tS (by omega) (by omega), h3⟩, fun h => by omega, by omega⟩
 ·exact ⟨fun h => by omega, fun _ => tS h2 h3, by omega⟩
noncomputable def zGo (l : List zL) (i : Int) : List Int := (vW l i).filter fun j => match zG l j with | some a => decide (0 ≤ a.1) | none => false
theorem zQ6 (l : List zL) (i : Int) : vJ yH (zGo l i) := (zKB l i).filter _
theorem zKI (l : List zL) (i : Int) : (zGo l i).length ≤ l.length := Nat.le_trans (List.length_filter_le _ _) (zEo l i)
theorem zJ6 (h : FormA l) {i : Int} (h0 : 0 ≤ i) (h1 : i < l.length) {j : Int} (hj : j ∈ vW l i) : ∃ a, zG l j = some a := by
 have := ((zIR h h0 h1 j).1 hj).le h h0
 exact tS this.1 (by omega)
theorem zW8 {m : List Int} (h : vJ yH m) : zQh yH m = m := by
 refine List.Perm.eq_of_pairwise (le := fun x y => yH y x = false) (fun a c _ _ h1 h2 => ?_) (zIT xE m) (h.imp fun h => by simp at h ⊢; omega) (zIv m)
 simp at h1 h2; omega
theorem zSJ (h : FormB b l) {i : Int} (h0 : 0 ≤ i) (h1 : i < l.length) : ∀ (m acc : List Int), (∀ j ∈ m, j ∈ vW l i) →
  m.foldl (fun s j => match zG l j with | some a => if decide (0 ≤ a.1) then s ++ [a.1] else s | none => s) acc = acc ++ m.filter fun j => match zG l j with | some a => decide (0 ≤ a.1) | none => false
 | [], acc, _ => by simp
 | j :: m, acc, hm => by
  obtain ⟨a, ha⟩ := zJ6 h.toFormA h0 h1 (hm j List.mem_cons_self)
  rw [List.foldl_cons, zSJ h h0 h1 m _ fun q hq => hm q (List.mem_cons_of_mem _ hq), List.filter_cons]
  simp only [ha]
  by_cases hp : 0 ≤ a.1
  ·have := (((h.prem ha).1 hp).1)
   rw [if_pos (by simpa using hp), if_pos (by simpa using hp), this]
   simp
  ·simp [hp]
theorem zLh (h : FormB b l) {i : Int} (h0 : 0 ≤ i) (h1 : i < l.length) : zCX l i = some (zGo l i) := by
 have hl := h.len
 have hsl := zEo l i
 have hL := zBN (B := zC9 (vW l i) l) (vW l i) (fun s j => match zG l j with | some a => if decide (0 ≤ a.1) then s ++ [a.1] else s | none => s) (fun s => s) (fun q s => s.length ≤ q) [] (by simp) (fun q j s hj hI => ?_) (fun s hI => ?_)
 ·unfold zCX
  rw [zRC h.toFormA h0 h1]
  simp only [zob]
  rw [hL.1, zSJ h h0 h1 _ _ fun j hj => hj]
  simp only [zob, List.nil_append]
  show (zBK (zGo l i)).bind _ = _
  have := zKI l i
  rw [zSC (by omega)]
  rw [zW8 (zQ6 l i)]
  rfl
 ·obtain ⟨a, ha⟩ := zJ6 h.toFormA h0 h1 (yA hj)
  have hq := vH hj
  unfold zC9
  simp only [wW hj, if_true, wU hj, zob, ha]
  by_cases hp : 0 ≤ a.1
  ·simp only [hp, decide_true, if_true]
   rw [vT (by simp; omega)]
   exact ⟨by simp only [zob, wV hj (by omega)], by simp; omega⟩
  ·simp only [hp, decide_false, zbf, if_false]
   exact ⟨by simp only [wV hj (by omega)], by omega⟩
 ·unfold zC9
  simp [len]
theorem zOL (h : FormB b l) {i : Int} (h0 : 0 ≤ i) (h1 : i < l.length) : zEg l i = some (zGo l i) := by
 have hl := h.len
 have hsl := zEo l i
 have hL := yP (B := zEI (vW l i) l) (fun q (s : List Int) => (s, (q : Int))) (vW l i) (fun q s => vJ yH s ∧ (∀ y, y ∈ s ↔ y ∈ (vW l i).take q ∧ ∃ a, zG l y = some a ∧ 0 ≤ a.1) ∧ s.length ≤ q)
  (fun r => r = zGo l i) (fun q j s hj hI => ?_) (fun s hI => ?_) [] (by simp)
 ·obtain ⟨r, e1, rfl⟩ := hL
  unfold zEg
  rw [zRG h.toFormA h0 h1]
  exact e1
 ·obtain ⟨g1, g2, g3⟩ := hI
  obtain ⟨a, ha⟩ := zJ6 h.toFormA h0 h1 (yA hj)
  have hq := vH hj
  unfold zEI
  simp only [wW hj, if_true, wU hj, zob, ha]
  by_cases hp : 0 ≤ a.1
  ·have haj := ((h.prem ha).1 hp).1
   obtain ⟨r, e1, e2, e3, e4⟩ := zMh (l := s) a.1 (by omega) g1
   simp only [hp, decide_true, if_true, e1, zob]
   refine .inl ⟨r, by simp only [wV hj (by omega)], e2, fun y => ?_, by omega⟩
   rw [e3, g2, uL hj, haj]
   simp only [List.mem_append, List.mem_singleton]
   constructor
   ·rintro (rfl | ⟨h1, h2⟩)
    ·exact ⟨.inr rfl, a, ha, hp⟩
    ·exact ⟨.inl h1, h2⟩
   ·rintro ⟨h1 | rfl, h2⟩
    ·exact .inr ⟨h1, h2⟩
    ·exact .inl rfl
  ·simp only [hp, decide_false, zbf, if_false]
   refine .inl ⟨s, by simp only [wV hj (by omega)], g1, fun y => ?_, by omega⟩
   rw [g2, uL hj]
   simp only [List.mem_append, List.mem_singleton]
   constructor
   ·rintro ⟨h1, h2⟩; exact ⟨.inl h1, h2⟩
   ·rintro ⟨h1 | rfl, a', ha', hp'⟩
    ·exact ⟨h1, a', ha', hp'⟩
    ·rw [ha] at ha'; cases ha'; exact absurd hp' hp
 ·obtain ⟨g1, g2, g3⟩ := hI
  rw [List.take_length] at g2
  refine ⟨s, by unfold zEI; simp [len], vJ.ext xE g1 (zQ6 l i) fun y => ?_⟩
  rw [g2]
  simp only [zGo, List.mem_filter]
  refine and_congr_right fun hy => ?_
  obtain ⟨a, ha⟩ := zJ6 h.toFormA h0 h1 hy
  simp [ha]
abbrev zOX (b : zR) (a : zL) : Bool := match zG b.2.1 a.2.1 with | some r => !r.2.1 | none => false
noncomputable def uJ (b : zR) (l : List zL) (i : Int) : List Int := xV yH (((vW l i).filter fun j => match zG l j with | some a => decide (0 ≤ a.2.1) && zOX b a | none => false).map fun j => match zG l j with | some a => a.2.1 | none => 0)
theorem zN5 (h : FormB b l) {i : Int} (h0 : 0 ≤ i) (h1 : i < l.length) (y : Int) : y ∈ uJ b l i ↔ ∃ j ∈ vW l i, ∃ a, zG l j = some a ∧ 0 ≤ a.2.1 ∧ zOX b a = true ∧ y = a.2.1 := by
 rw [uJ, zZ7]
 simp only [List.mem_map, List.mem_filter]
 constructor
 ·rintro ⟨j, ⟨h2, h3⟩, h4⟩
  obtain ⟨a, ha⟩ := zJ6 h.toFormA h0 h1 h2
  simp only [ha, Bool.and_eq_true, decide_eq_true_eq] at h3 h4
  exact ⟨j, h2, a, ha, h3.1, h3.2, h4.symm⟩
 ·rintro ⟨j, h2, a, ha, h3, h4, rfl⟩
  exact ⟨j, ⟨h2, by simp only [ha, Bool.and_eq_true, decide_eq_true_eq]; exact ⟨h3, h4⟩⟩, by simp only [ha]⟩
theorem zIK (b : zR) (l : List zL) (i : Int) : (uJ b l i).length ≤ l.length := by
 refine Nat.le_trans (zRN yH _) ?_
 rw [List.length_map]
 exact Nat.le_trans (List.length_filter_le _ _) (zEo l i)
theorem zMV (h : FormB b l) {i : Int} (h0 : 0 ≤ i) (h1 : i < l.length) : zBd b l i = some (uJ b l i) := by
 have hl := h.len
 have hsl := zEo l i
 have hL := yP (B := zBi (vW l i) l b) (fun q (s : List Int) => (s, (q : Int))) (vW l i) (fun q s => s = (((vW l i).take q).filter fun j => match zG l j with | some a => decide (0 ≤ a.2.1) && zOX b a | none => false).map (fun j => match zG l j with | some a => a.2.1 | none => 0) ∧ s.length ≤ q)
  (fun r => r = ((vW l i).filter fun j => match zG l j with | some a => decide (0 ≤ a.2.1) && zOX b a | none => false).map fun j => match zG l j with | some a => a.2.1 | none => 0) (fun q j s hj hI => ?_) (fun s hI => ?_) [] (by simp)
 ·obtain ⟨r, e1, rfl⟩ := hL
  unfold zBd
  rw [zRC h.toFormA h0 h1]
  simp only [zob]
  refine (congrArg (fun o => Option.bind o _) e1).trans ?_
  simp only [zob]
  refine (zRK ?_ some).trans rfl
  rw [List.length_map]
  have := List.length_filter_le (fun j => match zG l j with | some a => decide (0 ≤ a.2.1) && zOX b a | none => false) (vW l i)
  omega
 ·obtain ⟨g1, g3⟩ := hI
  obtain ⟨a, ha⟩ := zJ6 h.toFormA h0 h1 (yA hj)
  have hq := vH hj
  have hc : (if decide (0 ≤ a.2.1) = true then (zG b.2.1 a.2.1).bind fun x3 => some (!x3.2.1) else some false) = some (decide (0 ≤ a.2.1) && zOX b a) := by
   by_cases hr : 0 ≤ a.2.1
   ·obtain ⟨r, hr2⟩ := (h.prem ha).2.1 ((h.prem ha).2.2.1 hr)
    simp [hr, zOX, hr2]
   ·simp [hr]
  unfold zBi
  simp only [wW hj, if_true, wU hj, zob, ha, hc]
  cases hd : (decide (0 ≤ a.2.1) && zOX b a) with
  | true =>
   simp only [if_true]
   rw [vT (by simp; omega)]
   refine .inl ⟨s ++ [a.2.1], by simp only [zob, wV hj (by omega)], ?_, by simp; omega⟩
   rw [uL hj, List.filter_append, List.map_append, ← g1]
   simp [ha, hd]
  | false =>
   simp only [zbf, if_false]
   refine .inl ⟨s, by simp only [wV hj (by omega)], ?_, by omega⟩
   rw [uL hj, List.filter_append, List.map_append, ← g1]
   simp [ha, hd]
 ·obtain ⟨g1, g3⟩ := hI
  rw [List.take_length] at g1
  exact ⟨s, by unfold zBi; simp [len], g1⟩
theorem zMX (h : FormB b l) {i : Int} (h0 : 0 ≤ i) (h1 : i < l.length) : zBj b l i = some (uJ b l i) := by
 have hl := h.len
 have hsl := zEo l i
 have hL := yP (B := zDD (vW l i) l b) (fun q (s : List Int) => (s, (q : Int))) (vW l i) (fun q s => vJ yH s ∧ (∀ y, y ∈ s ↔ ∃ j ∈ (vW l i).take q, ∃ a, zG l j = some a ∧ 0 ≤ a.2.1 ∧ zOX b a = true ∧ y = a.2.1) ∧ s.length ≤ q)
  (fun r => r = uJ b l i) (fun q j s hj hI => ?_) (fun s hI => ?_) [] (by simp)
 ·obtain ⟨r, e1, rfl⟩ := hL
  unfold zBj
  rw [zRG h.toFormA h0 h1]
  exact e1
 ·obtain ⟨g1, g2, g3⟩ := hI
  obtain ⟨a, ha⟩ := zJ6 h.toFormA h0 h1 (yA hj)
  have hq := vH hj
  have hc : (if decide (0 ≤ a.2.1) = true then (zG b.2.1 a.2.1).bind fun x3 => some (!x3.2.1) else some false) = some (decide (0 ≤ a.2.1) && zOX b a) := by
   by_cases hr : 0 ≤ a.2.1
   ·obtain ⟨r, hr2⟩ := (h.prem ha).2.1 ((h.prem ha).2.2.1 hr)
    simp [hr, zOX, hr2]
   ·simp [hr]
  unfold zDD
  simp only [wW hj, if_true, wU hj, zob, ha, hc]
  cases hd : (decide (0 ≤ a.2.1) && zOX b a) with
  | true =>
   obtain ⟨r, e1, e2, e3, e4⟩ := zMh (l := s) a.2.1 (by omega) g1
   simp only [if_true, e1, zob]
   simp only [Bool.and_eq_true, decide_eq_true_eq] at hd
   refine .inl ⟨r, by simp only [wV hj (by omega)], e2, fun y => ?_, by omega⟩
   rw [e3, g2, uL hj]
   simp only [List.mem_append, List.mem_singleton, or_and_right, exists_or, exists_eq_left]
   rw [or_comm]
   refine or_congr Iff.rfl ⟨fun h => ⟨a, ha, hd.1, hd.2, h⟩, fun ⟨a', h1, _, _, h2⟩ => ?_⟩
   rw [ha] at h1; cases h1; exact h2
  | false =>
   simp only [zbf, if_false]
   refine .inl ⟨s, by simp only [wV hj (by omega)], g1, fun y => ?_, by omega⟩
   rw [g2, uL hj]
   simp only [List.mem_append, List.mem_singleton, or_and_right, exists_or, exists_eq_left]
   refine ⟨.inl, fun h => h.elim (fun h => h) fun ⟨a', h1, h2, h3, _⟩ => ?_⟩
   rw [ha] at h1; cases h1
   simp [h2, h3] at hd
 ·obtain ⟨g1, g2, g3⟩ := hI
  rw [List.take_length] at g2
  refine ⟨s, by unfold zDD; simp [len], vJ.ext xE g1 (zTc _) fun y => ?_⟩
  rw [g2]
  exact (zN5 h h0 h1 y).symm
inductive zLb (b : zR) (l : List zL) : Int → Int → Prop
 | here {i : Int} {a : zL} {r : wK} : zG l i = some a → 0 ≤ a.2.1 → zG b.2.1 a.2.1 = some r → r.2.1 = false → zLb b l i a.2.1
 | step {i k y : Int} {a : zL} {r : wK} : zG l i = some a → 0 ≤ a.2.1 → zG b.2.1 a.2.1 = some r → r.2.1 = true → k ∈ a.2.2.1 → zLb b l k y → zLb b l i y
theorem zLb.rng (_h : FormB b l) {i y : Int} (hs : zLb b l i y) : 0 ≤ y ∧ y < b.2.1.length := by
 induction hs with
 | here h1 h2 h3 h4 => obtain ⟨n, hn, h5⟩ := zMW h3; have := vH h5; omega
 | step _ _ _ _ _ _ ih => exact ih
open Classical in
noncomputable def yZ (b : zR) (l : List zL) (i : Int) : List Int := ((List.range b.2.1.length).map Int.ofNat).filter fun y => decide (zLb b l i y)
theorem zPS (b : zR) (l : List zL) (i : Int) : vJ yH (yZ b l i) := by
 refine List.Pairwise.filter _ ?_
 rw [List.pairwise_map]
 exact List.pairwise_lt_range.imp fun {a b} h => by simp; omega
theorem zI1 (b : zR) (l : List zL) (i : Int) : (yZ b l i).length ≤ b.2.1.length := Nat.le_trans (List.length_filter_le _ _) (by simp)
theorem zJw (h : FormB b l) (i y : Int) : y ∈ yZ b l i ↔ zLb b l i y := by
 simp only [yZ, List.mem_filter, List.mem_map, List.mem_range, decide_eq_true_eq]
 exact ⟨fun h => h.2, fun hs => by have := hs.rng h; exact ⟨⟨y.toNat, by omega, by simp; omega⟩, hs⟩⟩
theorem zRb {i : Int} {a : zL} (ha : zG l i = some a) (hr : a.2.1 < 0) : yZ b l i = [] := by
 simp only [yZ, List.filter_eq_nil_iff, decide_eq_true_eq]
 intro y _ hy
 cases hy with
 | here h1 h2 _ _ => rw [ha] at h1; cases h1; omega
 | step h1 h2 _ _ _ _ => rw [ha] at h1; cases h1; omega
theorem zTv (h : FormB b l) {i : Int} {a : zL} {r : wK} (ha : zG l i = some a) (h0 : 0 ≤ a.2.1) (hr : zG b.2.1 a.2.1 = some r) (hs : r.2.1 = false) : yZ b l i = [a.2.1] := by
 refine vJ.ext xE (zPS b l i) (by simp) fun y => ?_
 rw [zJw h, List.mem_singleton]
 constructor
 ·intro hy
  cases hy with
  | here h1 _ _ _ => rw [ha] at h1; cases h1; rfl
  | step h1 _ h3 h4 _ _ => rw [ha] at h1; cases h1; rw [hr] at h3; cases h3; rw [hs] at h4; cases h4
 ·rintro rfl; exact .here ha h0 hr hs
theorem zSU {i y : Int} {a : zL} {r : wK} (ha : zG l i = some a) (h0 : 0 ≤ a.2.1) (hr : zG b.2.1 a.2.1 = some r) (hs : r.2.1 = true) : zLb b l i y ↔ ∃ k ∈ a.2.2.1, zLb b l k y := by
 constructor
 ·intro hy
  cases hy with
  | here h1 _ h3 h4 => rw [ha] at h1; cases h1; rw [hr] at h3; cases h3; rw [hs] at h4; cases h4
  | step h1 _ _ _ h5 h6 => rw [ha] at h1; cases h1; exact ⟨_, h5, h6⟩
 ·rintro ⟨k, h1, h2⟩; exact .step ha h0 hr hs h1 h2
theorem zV6 (h : FormB b l) : ∀ (n : Nat) (i : Int), 0 ≤ i → i < l.length → i < n → zC6 n b l i = some (yZ b l i) := by
 intro n
 induction n with
 | zero => intro i h0 _ h2; omega
 | succ n ih =>
  intro i h0 h1 h2
  obtain ⟨a, ha⟩ := tS h0 h1
  obtain ⟨hn, _, _, hsub⟩ := h.toFormA.at ha
  have hin : (decide (0 ≤ i) && decide (i < len l)) = true := by simp [len]; omega
  show zHN (zC6 n) b l i = _
  unfold zHN zAb
  simp only [hin, zob, Bool.not_true, zbf, if_false, ha]
  by_cases hr : a.2.1 < 0
  ·simp only [hr, decide_true, if_true]
   rw [zRb ha hr]
  ·simp only [hr, decide_false, zbf, if_false]
   obtain ⟨r, hr2⟩ := (h.prem ha).2.1 ((h.prem ha).2.2.1 (by omega))
   simp only [hr2, zob]
   cases hs : r.2.1 with
   | false =>
    simp only [Bool.not_false, if_true]
    rw [zTv h ha (by omega) hr2 hs]
   | true =>
    simp only [Bool.not_true, zbf, if_false]
    have hnr := h.nr
    have hL := zBN (B := zFO a (zC6 n) b l) a.2.2.1 (fun s k => s ++ yZ b l k) (fun s => s) (fun q s => s.length ≤ q * 100) [] (by simp) (fun q k s hk hI => ?_) (fun s hI => ?_)
    ·obtain ⟨e1, e2⟩ := hL
     rw [zGY] at e1 e2
     rw [e1]
     simp only [zob]
     refine (zRK (by omega) some).trans ?_
     congr 1
     refine zQV xE (zPS b l i) fun y => ?_
     rw [zJw h, zSU ha (by omega) hr2 hs]
     simp only [List.nil_append, List.mem_flatMap, zJw h]
    ·have hks := hsub k (yA hk)
     have hq := vH hk
     have hsl := zI1 b l k
     unfold zFO
     simp only [wW hk, if_true, wU hk, zob]
     rw [ih k hks.1 (by omega) (by omega)]
     simp only [zob]
     rw [vT (by omega)]
     refine ⟨by simp only [zob, wV hk (by omega)], by rw [List.length_append]; omega⟩
    ·unfold zFO
     simp [len]
theorem zXf (h : FormB b l) {i : Int} (h0 : 0 ≤ i) (h1 : i < l.length) : zJF b l i = some (yZ b l i) :=
 zLV (i.toNat + 1) fun m hm => zV6 h m i h0 h1 (by omega)
theorem zUw (h : FormB b l) : ∀ (n : Nat) (i : Int), 0 ≤ i → i < l.length → i < n → zFr n b l i = some (yZ b l i) := by
 intro n
 induction n with
 | zero => intro i h0 _ h2; omega
 | succ n ih =>
  intro i h0 h1 h2
  obtain ⟨a, ha⟩ := tS h0 h1
  obtain ⟨hn, _, _, hsub⟩ := h.toFormA.at ha
  have hi0 : ¬ i < 0 := by omega
  have hi1 : ¬ len l ≤ i := by simp [len]; omega
  show zJ4 (zFr n) b l i = _
  unfold zJ4
  simp only [hi0, hi1, decide_false, zob, zbf, if_false, ha]
  by_cases hr : a.2.1 < 0
  ·simp only [hr, decide_true, if_true]
   rw [zRb ha hr]
  ·simp only [hr, decide_false, zbf, if_false]
   obtain ⟨r, hr2⟩ := (h.prem ha).2.1 ((h.prem ha).2.2.1 (by omega))
   simp only [hr2, zob]
   cases hs : r.2.1 with
   | false =>
    simp only [Bool.not_false, if_true]
    rw [zTv h ha (by omega) hr2 hs]
   | true =>
    simp only [Bool.not_true, zbf, if_false]
    have hnr := h.nr
    have hL := yP (B := zH2 l i (zFr n) b) (fun q (s : List Int) => (s, (q : Int))) a.2.2.1 (fun q s => vJ yH s ∧ (∀ y, y ∈ s ↔ ∃ k ∈ a.2.2.1.take q, zLb b l k y) ∧ s.length ≤ q * 100)
     (fun r => vJ yH r ∧ ∀ y, y ∈ r ↔ zLb b l i y) (fun q k s hk hI => ?_) (fun s hI => ?_) [] (by simp)
    ·obtain ⟨r', e1, e2, e3⟩ := hL
     exact e1.trans (congrArg some (vJ.ext xE e2 (zPS b l i) fun j => by rw [e3, zJw h]))
    ·obtain ⟨g1, g2, g3⟩ := hI
     have hks := hsub k (yA hk)
     have hq := vH hk
     have hsl := zI1 b l k
     obtain ⟨r', e1, e2, e3, e4⟩ := zQT (l := s) (m := yZ b l k) (by omega) g1
     refine .inl ⟨r', ?_, e2, fun y => ?_, by omega⟩
     ·unfold zH2
      simp only [ha, zob, wW hk, if_true, wU hk]
      rw [ih k hks.1 (by omega) (by omega)]
      simp only [zob, e1, wV hk (by omega)]
     ·rw [e3, g2, zJw h, uL hk]
      simp only [List.mem_append, List.mem_singleton, or_and_right, exists_or, exists_eq_left]
    ·obtain ⟨g1, g2, g3⟩ := hI
     rw [List.take_length] at g2
     refine ⟨s, by unfold zH2; simp [ha, len], g1, fun y => by rw [g2, zSU ha (by omega) hr2 hs]⟩
theorem zYI (h : FormB b l) {i : Int} (h0 : 0 ≤ i) (h1 : i < l.length) : zLY b l i = some (yZ b l i) :=
 zLV (i.toNat + 1) fun m hm => zUw h m i h0 h1 (by omega)
end
section
def minF : List Int → Int
 | [] => 0
 | x :: r => r.foldl (fun m y => if y < m then y else m) x
def maxF : List Int → Int
 | [] => 0
 | x :: r => r.foldl (fun m y => if y > m then y else m) x
def zGj (x y : List Int) (o : Int) : Bool := (o == 1 || o == 2) && !x.isEmpty && (y.isEmpty || if o == 1 then decide (minF x < minF y) else decide (maxF x < maxF y))
theorem zQW {l : List Int} (h : l ≠ []) (hl : l.length < 4294967296) : zEu l = some (minF l) := by
 match l, h with
 | x :: r, _ =>
  have h1 : decide (len (x :: r) < 1) = false := by simp [len]; omega
  unfold zEu
  simp only [h1, zbf, if_false, zob, show zG (x :: r) 0 = some x from rfl]
  refine zQ2 (B := zEU (x :: r)) (x :: r) (fun m y => if y < m then y else m) (fun m => m) 1 (by simp) x (fun i y s hy => ?_) (fun s => ?_)
  ·unfold zEU
   simp only [wW hy, if_true, wU hy, zob, wV hy hl]
  ·unfold zEU
   simp only [yE, zbf, if_false]
theorem zQ9 {l : List Int} (h : l ≠ []) (hl : l.length < 4294967296) : zFB l = some (maxF l) := by
 match l, h with
 | x :: r, _ =>
  have h1 : decide (len (x :: r) < 1) = false := by simp [len]; omega
  unfold zFB
  simp only [h1, zbf, if_false, zob, show zG (x :: r) 0 = some x from rfl]
  refine zQ2 (B := zEG (x :: r)) (x :: r) (fun m y => if y > m then y else m) (fun m => m) 1 (by simp) x (fun i y s hy => ?_) (fun s => ?_)
  ·unfold zEG
   simp only [wW hy, if_true, wU hy, zob, wV hy hl]
  ·unfold zEG
   simp only [yE, zbf, if_false]
theorem zJ8 {l : List Int} (h : l ≠ []) (hl : l.length < 4294967296) : zEz l = some (minF l, maxF l) := by
 match l, h with
 | x :: r, _ =>
  unfold zEz
  simp only [zob, show zG (x :: r) 0 = some x from rfl]
  have key : ∀ (n i : Nat) (a b : Int), i + n = (x :: r).length → zW (zEX (x :: r)) (a, b, (i : Int)) = some (((x :: r).drop i).foldl (fun m y => if y < m then y else m) a, ((x :: r).drop i).foldl (fun m y => if y > m then y else m) b) := by
   intro n
   induction n with
   | zero =>
    intro i a b h
    rw [Nat.add_zero] at h
    subst h
    rw [yD]
    unfold zEX
    simp only [yE, zbf, if_false, List.drop_length]
    rfl
   | succ n ih =>
    intro i a b h
    have hx : (x :: r)[i]? = some (x :: r)[i] := List.getElem?_eq_getElem (by omega)
    rw [yD]
    unfold zEX
    simp only [wW hx, if_true, wU hx, zob, wV hx hl]
    rw [List.drop_eq_getElem_cons (by omega)]
    exact ih (i + 1) _ _ (by omega)
  exact key r.length 1 x x (by simp; omega)
theorem zZa {α : Type} (l : List α) : ((len l) == 0) = l.isEmpty := by
 cases l with
 | nil => rfl
 | cons x r => rw [beq_eq_false_iff_ne.2 (by simp [len]; omega)]; rfl
theorem isE {α : Type} {l : List α} (h : l.isEmpty = false) : l ≠ [] := fun e => by subst e; cases h
theorem zLn {x y : List Int} (o : Int) (hx : x.length < 4294967296) (hy : y.length < 4294967296) : zFD x y o = some (zGj x y o) := by
 unfold zFD zGj
 simp only [zZa]
 cases hxe : x.isEmpty with
 | true => simp
 | false =>
  by_cases h1 : o = 1
  ·subst h1
   cases hye : y.isEmpty with
   | true => simp
   | false => simp [zQW (isE hxe) hx, zQW (isE hye) hy]
  ·by_cases h2 : o = 2
   ·subst h2
    cases hye : y.isEmpty with
    | true => simp
    | false => simp [zQ9 (isE hxe) hx, zQ9 (isE hye) hy]
   ·simp [h1, h2]
theorem zMj {x y : List Int} (o : Int) (hx : x.length < 4294967296) (hy : y.length < 4294967296) : zDr x y o = some (zGj x y o) := by
 unfold zDr zGj
 simp only [zZa]
 cases hxe : x.isEmpty with
 | true => simp
 | false =>
  by_cases h1 : o = 1
  ·subst h1
   cases hye : y.isEmpty with
   | true => simp
   | false => simp [zJ8 (isE hxe) hx, zJ8 (isE hye) hy]
  ·by_cases h2 : o = 2
   ·subst h2
    cases hye : y.isEmpty with
    | true => simp
    | false => simp [zJ8 (isE hxe) hx, zJ8 (isE hye) hy]
   ·simp [h1, h2]
variable {b : zR} {l : List zL}
theorem zP8 (h : FormB b l) {i : Int} (h0 : 0 ≤ i) (h1 : i < l.length) {p : Int} (hp : p ∈ zGo l i) : ∃ q, zG b.1 p = some q := by
 obtain ⟨h2, h3⟩ := List.mem_filter.1 hp
 obtain ⟨a, ha⟩ := zJ6 h.toFormA h0 h1 h2
 simp only [ha, decide_eq_true_eq] at h3
 obtain ⟨e1, ⟨q, e2⟩, _⟩ := (h.prem ha).1 h3
 exact ⟨q, by rw [← e1]; exact e2⟩
theorem zUV (h : FormB b l) {i : Int} (h0 : 0 ≤ i) (h1 : i < l.length) {y : Int} (hy : y ∈ uJ b l i) : ∃ q, zG b.2.1 y = some q := by
 obtain ⟨j, _, a, ha, h3, _, rfl⟩ := (zN5 h h0 h1 y).1 hy
 exact (h.prem ha).2.1 ((h.prem ha).2.2.1 h3)
theorem zUG (h : FormB b l) {i y : Int} (hy : y ∈ yZ b l i) : ∃ q, zG b.2.1 y = some q := by
 have := ((zJw h i y).1 hy).rng h
 exact tS this.1 this.2
def zOn (b : zR) (k p : Int) : Bool := match zG b.1 p with | some q => q.2.1 == k | none => false
noncomputable def zIC (b : zR) (l : List zL) (i : Int) : Bool := (zGo l i).any (zOn b 3)
def zLu (b : zR) (p : Int) : List Int := match zG b.1 p with | some q => if q.2.1 == 2 then [q.2.2.1] else if q.2.1 == 3 then [-1] else [] | none => []
noncomputable def tG (b : zR) (l : List zL) (i : Int) : List Int := (zGo l i).flatMap (zLu b)
def zW5 (b : zR) (y : Int) : Int := match zG b.2.1 y with | some q => q.2.2.1 | none => 0
abbrev xO (b : zR) (rs : List Int) : List Int := rs.map (zW5 b)
theorem zLt {rs : List Int} (hl : rs.length < 4294967296) (h : ∀ y ∈ rs, ∃ q, zG b.2.1 y = some q) : zJf b rs = some (xO b rs) := by
 have hL := zBN (B := zH8 rs b) rs (fun s y => s ++ [zW5 b y]) (fun s => s) (fun q s => s.length = q) [] rfl (fun i y s hy hI => ?_) (fun s hI => ?_)
 ·obtain ⟨e1, _⟩ := hL
  rw [zHM] at e1
  exact e1
 ·obtain ⟨q, hq⟩ := h y (yA hy)
  have := vH hy
  unfold zH8
  simp only [wW hy, if_true, wU hy, zob, hq]
  rw [vT (by simp; omega)]
  exact ⟨by simp only [zob, wV hy hl, zW5, hq], by simp; omega⟩
 ·unfold zH8
  simp [len]
theorem zN8 (h : FormB b l) {i : Int} (h0 : 0 ≤ i) (h1 : i < l.length) : zDl b l i = some (xO b (yZ b l i)) := by
 have hll := zI1 b l i
 have hnr := h.nr
 unfold zDl
 rw [zYI h h0 h1]
 exact zLt (by omega) fun y hy => zUG h hy
theorem zII (h : FormB b l) {i : Int} (h0 : 0 ≤ i) (h1 : i < l.length) : zBt b l i = some (xO b (yZ b l i)) := by
 have hll := zI1 b l i
 have hnr := h.nr
 unfold zBt
 rw [zXf h h0 h1]
 simp only [zob, zLt (show (yZ b l i).length < 4294967296 by omega) fun y hy => zUG h hy]
theorem zNR (h : FormB b l) {i : Int} (h0 : 0 ≤ i) (h1 : i < l.length) : zDx b l i = some (xO b (uJ b l i)) := by
 have hll := zIK b l i
 have hnr := h.len
 unfold zDx
 rw [zMX h h0 h1]
 exact zLt (by omega) fun y hy => zUV h h0 h1 hy
theorem zHx (h : FormB b l) {i : Int} (h0 : 0 ≤ i) (h1 : i < l.length) : zBr b l i = some (xO b (uJ b l i)) := by
 have hll := zIK b l i
 have hnr := h.len
 unfold zBr
 rw [zMV h h0 h1]
 simp only [zob, zLt (show (uJ b l i).length < 4294967296 by omega) fun y hy => zUV h h0 h1 hy]
theorem zOA (b : zR) (p : Int) : (zLu b p).length ≤ 1 := by
 unfold zLu
 split
 ·split
  ·simp
  ·split <;> simp
 ·simp
theorem zDm (h : FormB b l) {i : Int} (h0 : 0 ≤ i) (h1 : i < l.length) : zAl b l i = some (tG b l i) := by
 have hpl := zKI l i
 have hl := h.len
 have hL := zBN (B := zB2 (zGo l i) b) (zGo l i) (fun s p => s ++ zLu b p) (fun s => s) (fun q s => s.length ≤ q) [] (by simp) (fun j p s hp hI => ?_) (fun s hI => ?_)
 ·obtain ⟨e1, _⟩ := hL
  rw [zGY] at e1
  unfold zAl
  rw [zLh h h0 h1]
  exact e1
 ·obtain ⟨q, hq⟩ := zP8 h h0 h1 (yA hp)
  have := vH hp
  have hpr := zOA b p
  unfold zB2
  simp only [wW hp, if_true, wU hp, zob, hq]
  refine ⟨?_, by rw [List.length_append]; omega⟩
  unfold zLu
  simp only [hq]
  cases hk2 : q.2.1 == 2 with
  | true =>
   simp only [if_true]
   rw [vT (by simp; omega)]
   simp only [zob, wV hp (by omega)]
  | false =>
   cases hk3 : q.2.1 == 3 with
   | true =>
    simp only [zbf, if_false, if_true]
    rw [vT (by simp; omega)]
    simp only [zob, wV hp (by omega)]
   | false => simp only [zbf, if_false, List.append_nil, wV hp (by omega)]
 ·unfold zB2
  simp [len]
theorem zKw (h : FormB b l) {i : Int} (h0 : 0 ≤ i) (h1 : i < l.length) : zAu b l i = some (tG b l i) := by
 have e := zDm h h0 h1
 unfold zAl at e
 unfold zAu
 rw [zLh h h0 h1] at e
 rw [zOL h h0 h1]
 simp only [zob] at e ⊢
 rw [← e]
 congr 1
 funext s
 unfold zHP zB2
 split
 ·cases h2 : zG (zGo l i) s.2 with
  | none => rfl
  | some p =>
   simp only [zob]
   cases h3 : zG b.1 p with
   | none => rfl
   | some q => rfl
 ·rfl
theorem zRv (h : FormB b l) {i : Int} (h0 : 0 ≤ i) (h1 : i < l.length) : zHv b l i = some (zIC b l i) := by
 have hpl := zKI l i
 have hl := h.len
 have key : ∃ r, zW (zAF (zGo l i) b) 0 = some r ∧ decide (0 ≤ r) = zIC b l i := by
  have hc : ∀ p ∈ zGo l i, zGb p b = some (zOn b 3 p) := fun p hp => by
   obtain ⟨q, hq⟩ := zP8 h h0 h1 hp
   simp [zGb, zOn, hq]
  have hL := yP (B := zAF (zGo l i) b) (fun q (_ : Unit) => (q : Int)) (zGo l i) (fun q _ => ∀ j x, j < q → (zGo l i)[j]? = some x → zOn b 3 x = false) (fun r => decide (0 ≤ r) = zIC b l i) ?_ ?_ () (by omega)
  ·exact hL
  ·intro q p s hp hI
   unfold zAF
   simp only [wW hp, if_true, wU hp, zob, hc p (yA hp)]
   cases hk : zOn b 3 p with
   | true =>
    refine .inr ⟨_, by simp only [if_true]; rfl, ?_⟩
    have : zIC b l i = true := List.any_eq_true.2 ⟨p, yA hp, hk⟩
    rw [this]; simp
   | false =>
    refine .inl ⟨(), by simp only [zbf, if_false, wV hp (by omega)], fun j x hj hx => ?_⟩
    rcases Nat.lt_succ_iff_lt_or_eq.1 hj with h | rfl
    ·exact hI j x h hx
    ·rw [hp] at hx; cases hx; exact hk
  ·intro s hI
   unfold zAF
   refine ⟨-1, by simp only [yE, zbf, if_false], ?_⟩
   have : zIC b l i = false := by
    rw [zIC, List.any_eq_false]
    intro p hp
    obtain ⟨j, hj⟩ := List.mem_iff_getElem?.1 hp
    simp [hI j p (vH hj) hj]
   rw [this]; rfl
 obtain ⟨r, h2, h3⟩ := key
 unfold zHv zAd zAr
 rw [zLh h h0 h1]
 simp only [zob, h2, h3]
theorem zTh (h : FormB b l) {i : Int} (h0 : 0 ≤ i) (h1 : i < l.length) : zGx b l i = some (zIC b l i) := by
 have hpl := zKI l i
 have hl := h.len
 unfold zGx
 rw [zOL h h0 h1]
 simp only [zob]
 refine zKY (B := zFN (zGo l i) b) (zGo l i) (zOn b 3) (fun q p hp => ?_) ?_
 ·obtain ⟨r, hr⟩ := zP8 h h0 h1 (yA hp)
  unfold zFN
  simp only [wW hp, if_true, wU hp, zob, hr, zOn, wV hp (by omega)]
  split <;> rfl
 ·unfold zFN
  simp only [yE, zbf, if_false]
noncomputable def zOV (b : zR) (l : List zL) (i k : Int) (o : vF) : Bool :=
 decide (0 ≤ i) && decide (i < l.length) && decide (0 ≤ k) && decide (k < l.length) && !zIC b l k &&
 let pr := zGj (tG b l i) (tG b l k) o.2
 if o.1 == 1 then zGj (xO b (yZ b l i)) (xO b (yZ b l k)) o.2 || ((yZ b l i).isEmpty && (yZ b l k).isEmpty && pr)
 else if o.1 == 2 then
  if (uJ b l i).isEmpty && (uJ b l k).isEmpty then pr
  else if (tG b l i).isEmpty && (tG b l k).isEmpty then zGj (xO b (uJ b l i)) (xO b (uJ b l k)) o.2
  else pr && zGj (xO b (uJ b l i)) (xO b (uJ b l k)) o.2
 else false
theorem zIn (b : zR) (l : List zL) (i : Int) : (tG b l i).length ≤ l.length := by
 have key : ∀ m : List Int, (m.flatMap (zLu b)).length ≤ m.length := by
  intro m
  induction m with
  | nil => simp
  | cons x m ih => have := zOA b x; simp only [List.flatMap_cons, List.length_append, List.length_cons]; omega
 exact Nat.le_trans (key _) (zKI l i)
theorem zM9 {α β : Type} (f : α → β) (l : List α) : (l.map f).isEmpty = l.isEmpty := by cases l <;> rfl
theorem zWf (h : FormB b l) (i k : Int) (o : vF) : zKc b l i k o = some (zOV b l i k o) := by
 have hl := h.len
 have hnr := h.nr
 unfold zKc
 by_cases hr : 0 ≤ i ∧ i < l.length ∧ 0 ≤ k ∧ k < l.length
 ·obtain ⟨i0, i1, k0, k1⟩ := hr
  have c1 : decide ((if k < i then k else i) < 0) = false := by simp; split <;> omega
  have c2 : decide (len l ≤ (if k > i then k else i)) = false := by simp [len]; split <;> omega
  simp only [c1, c2, zbf, if_false, zRv h k0 k1, zob]
  have f1 := zIn b l i
  have f2 := zIn b l k
  have f3 := zI1 b l i
  have f4 := zI1 b l k
  have f5 := zIK b l i
  have f6 := zIK b l k
  cases ha : zIC b l k with
  | true => simp [zOV, ha]
  | false =>
   have sP : zAI b l i k o = some (zGj (tG b l i) (tG b l k) o.2) := by
    unfold zAI
    simp only [zDm h i0 i1, zDm h k0 k1, zob, zLn o.2 (show (tG b l i).length < 4294967296 by omega) (show (tG b l k).length < 4294967296 by omega)]
   have sL : zBC b l i k o = some (zGj (xO b (yZ b l i)) (xO b (yZ b l k)) o.2) := by
    unfold zBC
    simp only [zII h i0 i1, zII h k0 k1, zob, zLn o.2 (show (xO b (yZ b l i)).length < 4294967296 by simp; omega) (show (xO b (yZ b l k)).length < 4294967296 by simp; omega)]
   have sR : zA8 b l i k o = some (zGj (xO b (uJ b l i)) (xO b (uJ b l k)) o.2) := by
    unfold zA8
    simp only [zHx h i0 i1, zHx h k0 k1, zob, zLn o.2 (show (xO b (uJ b l i)).length < 4294967296 by simp; omega) (show (xO b (uJ b l k)).length < 4294967296 by simp; omega)]
   have nL : zBB b l i k = some ((yZ b l i).isEmpty && (yZ b l k).isEmpty) := by
    unfold zBB
    simp only [zII h i0 i1, zII h k0 k1, zob, zZa, zM9]
    cases (yZ b l i).isEmpty <;> simp
   have nP : zAk b l i k = some ((tG b l i).isEmpty && (tG b l k).isEmpty) := by
    unfold zAk
    simp only [zDm h i0 i1, zDm h k0 k1, zob, zZa]
    cases (tG b l i).isEmpty <;> simp
   have nR : zBA b l i k = some ((uJ b l i).isEmpty && (uJ b l k).isEmpty) := by
    unfold zBA
    simp only [zHx h i0 i1, zHx h k0 k1, zob, zZa, zM9]
    cases (uJ b l i).isEmpty <;> simp
   simp only [zbf, if_false, zCo, zCr, sP, sL, sR, nL, nP, nR, zob, zOV, i0, i1, k0, k1, ha, decide_true, Bool.not_false, Bool.true_and]
   by_cases o1 : o.1 = 1
   ·simp only [o1, beq_self_eq_true, if_true]
    cases zGj (xO b (yZ b l i)) (xO b (yZ b l k)) o.2 <;> cases (yZ b l i).isEmpty <;> cases (yZ b l k).isEmpty <;> simp
   ·have o1' : (o.1 == 1) = false := beq_eq_false_iff_ne.2 o1
    simp only [o1', zbf, if_false]
    cases o.1 == 2
    ·simp
    ·cases (uJ b l i).isEmpty <;> cases (uJ b l k).isEmpty <;> cases (tG b l i).isEmpty <;> cases (tG b l k).isEmpty <;> cases zGj (tG b l i) (tG b l k) o.2 <;> simp
 ·have hf : zOV b l i k o = false := by
   unfold zOV
   by_cases a1 : 0 ≤ i <;> by_cases a2 : i < l.length <;> by_cases a3 : 0 ≤ k <;> by_cases a4 : k < l.length <;> simp [a1, a2, a3, a4]
   exact absurd ⟨a1, a2, a3, a4⟩ hr
  rw [hf]
  by_cases c1 : (if k < i then k else i) < 0
  ·simp [c1]
  ·have c2 : len l ≤ (if k > i then k else i) := by
    simp only [len]
    split at c1 <;> split <;> omega
   simp only [c1, c2, decide_true, decide_false, zbf, if_true, if_false, zob]
theorem zXt (h : FormB b l) (i k : Int) (o : vF) : zIQ b l i k o = some (zOV b l i k o) := by
 have hl := h.len
 have hnr := h.nr
 unfold zIQ
 by_cases hr : 0 ≤ i ∧ i < l.length ∧ 0 ≤ k ∧ k < l.length
 ·obtain ⟨i0, i1, k0, k1⟩ := hr
  have c1 : ¬ i < 0 := by omega
  have c2 : ¬ len l ≤ i := by simp [len]; omega
  have c3 : ¬ k < 0 := by omega
  have c4 : ¬ len l ≤ k := by simp [len]; omega
  simp only [c1, c2, c3, c4, decide_false, zbf, if_false, zTh h k0 k1, zob]
  have f1 := zIn b l i
  have f2 := zIn b l k
  have f3 := zI1 b l i
  have f4 := zI1 b l k
  have f5 := zIK b l i
  have f6 := zIK b l k
  cases ha : zIC b l k with
  | true => simp [zOV, ha]
  | false =>
   simp only [zbf, if_false, zKw h i0 i1, zKw h k0 k1, zN8 h i0 i1, zN8 h k0 k1, zNR h i0 i1, zNR h k0 k1, zob, zZa, zM9,
    zMj o.2 (show (tG b l i).length < 4294967296 by omega) (show (tG b l k).length < 4294967296 by omega),
    zMj o.2 (show (xO b (yZ b l i)).length < 4294967296 by simp; omega) (show (xO b (yZ b l k)).length < 4294967296 by simp; omega),
    zMj o.2 (show (xO b (uJ b l i)).length < 4294967296 by simp; omega) (show (xO b (uJ b l k)).length < 4294967296 by simp; omega), zOV, i0, i1, k0, k1, ha, decide_true, Bool.not_false, Bool.true_and]
   by_cases o1 : o.1 = 1
   ·simp only [o1, beq_self_eq_true, if_true]
    cases zGj (xO b (yZ b l i)) (xO b (yZ b l k)) o.2 <;> cases (yZ b l i).isEmpty <;> cases (yZ b l k).isEmpty <;> simp
   ·have o1' : (o.1 == 1) = false := beq_eq_false_iff_ne.2 o1
    simp only [o1', zbf, if_false]
    cases o.1 == 2
    ·simp
    ·cases (uJ b l i).isEmpty <;> cases (uJ b l k).isEmpty <;> cases (tG b l i).isEmpty <;> cases (tG b l k).isEmpty <;> cases zGj (tG b l i) (tG b l k) o.2 <;> simp
 ·have hf : zOV b l i k o = false := by
   unfold zOV
   by_cases a1 : 0 ≤ i <;> by_cases a2 : i < l.length <;> by_cases a3 : 0 ≤ k <;> by_cases a4 : k < l.length <;> simp [a1, a2, a3, a4]
   exact absurd ⟨a1, a2, a3, a4⟩ hr
  rw [hf]
  by_cases c1 : i < 0
  ·simp [c1]
  ·by_cases c2 : len l ≤ i
   ·simp [c1, c2]
   ·by_cases c3 : k < 0
    ·simp [c1, c2, c3]
    ·have c4 : len l ≤ k := by simp only [len] at c2 ⊢; omega
     simp [c1, c2, c3, c4]
end
section
variable {b : zR} {l : List zL}
def tR (b : zR) (l : List zL) (i c kd : Int) : Bool := match zG l i, zG l c with
 | some x, some a =>
  if decide (a.2.1 < 0) then kd == 1 && x.2.2.2 == zS7 a.2.2.2 && (match zG b.1 a.1 with | some p => p.2.1 != 1 | none => false)
  else match zG b.2.1 a.2.1 with
   | some r => !r.2.1 && ((kd == 2 && x.2.2.2 == zS7 a.2.2.2) || (kd == 3 && x.2.2.2 == (true, r.1)))
   | none => false
 | _, _ => false
theorem zPy (x : zM) : zHC x = some (zS7 x) := rfl
theorem zTG (h : FormB b l) {i c : Int} (i0 : 0 ≤ i) (i1 : i < l.length) (c0 : 0 ≤ c) (c1 : c < l.length) (kd : Int) : zHV b l i c kd = some (tR b l i c kd) := by
 obtain ⟨x, hx⟩ := tS i0 i1
 obtain ⟨a, ha⟩ := tS c0 c1
 unfold zHV tR
 simp only [hx, ha, zob, zPy]
 by_cases hr : a.2.1 < 0
 ·obtain ⟨_, ⟨p, hp⟩, _⟩ := (h.prem ha).1 (by have := (h.prem ha).2.2; omega)
  simp only [hr, decide_true, if_true, hp, zob]
  by_cases k1 : kd = 1
  ·simp only [k1, beq_self_eq_true, if_true, Bool.true_and]
   cases p.2.1 != 1 <;> simp
  ·simp [k1]
 ·obtain ⟨r, hr2⟩ := (h.prem ha).2.1 ((h.prem ha).2.2.1 (by omega))
  simp only [hr, decide_false, zbf, if_false, hr2, zob]
  by_cases k2 : kd = 2
  ·subst k2; simp
  ·by_cases k3 : kd = 3
   ·subst k3
    cases hs : r.2.1 <;> simp
   ·simp [k2, k3]
abbrev zLE (b : zR) (l : List zL) (i c : Int) : List Int := [1, 2, 3].filter (tR b l i c)
theorem zWg (h : FormB b l) {i c : Int} (i0 : 0 ≤ i) (i1 : i < l.length) (c0 : 0 ≤ c) (c1 : c < l.length) : zIG b l i c = some (zLE b l i c) := by
 obtain ⟨x, hx⟩ := tS i0 i1
 obtain ⟨a, ha⟩ := tS c0 c1
 unfold zIG zLE
 simp only [hx, ha, zob, zQB]
 by_cases hp : 0 ≤ a.1
 ·obtain ⟨_, ⟨p, hp2⟩, hr⟩ := (h.prem ha).1 hp
  have hk : ∀ kd, tR b l i c kd = (kd == 1 && x.2.2.2 == zS7 a.2.2.2 && p.2.1 != 1) := fun kd => by
   simp only [tR, hx, ha, hp2, hr]; rfl
  simp only [hp, decide_true, if_true, hp2, zob]
  rw [List.filter_cons, List.filter_cons, List.filter_cons, List.filter_nil, hk, hk, hk]
  cases x.2.2.2 == zS7 a.2.2.2 <;> cases p.2.1 != 1 <;> simp [wI]
 ·obtain ⟨r, hr2⟩ := (h.prem ha).2.1 (by omega)
  have hr : ¬ a.2.1 < 0 := by have := (h.prem ha).2.2; omega
  have hk : ∀ kd, tR b l i c kd = (!r.2.1 && ((kd == 2 && x.2.2.2 == zS7 a.2.2.2) || (kd == 3 && x.2.2.2 == (true, r.1)))) := fun kd => by
   simp only [tR, hx, ha, hr2, hr, decide_false, zbf, if_false]
  simp only [hp, decide_false, zbf, if_false, hr2, zob]
  rw [List.filter_cons, List.filter_cons, List.filter_cons, List.filter_nil, hk, hk, hk]
  have hlit : (x.2.2.2 == (true, r.1)) = (x.2.2.2.1 && x.2.2.2.2 == r.1) := by
   obtain ⟨_, _, _, g, nm⟩ := x
   show (g == true && nm == r.1) = (g && nm == r.1)
   cases g <;> rfl
  rw [hlit]
  cases hs : r.2.1
  ·cases x.2.2.2 == zS7 a.2.2.2 <;> cases x.2.2.2.1 <;> cases x.2.2.2.2 == r.1 <;> simp [wI]
  ·simp
abbrev xM (b : zR) (l : List zL) (i k c : Int) : List qZ := (zLE b l i c).map fun kd => (i, k, c, kd)
noncomputable def zMn (b : zR) (l : List zL) : List qZ := (wE l.length).flatMap fun i => (wE l.length).flatMap fun k => (vW l k).flatMap fun c => xM b l i k c
noncomputable def zVD (b : zR) (l : List zL) : List qZ := (wE l.length).flatMap fun c => (wE l.length).flatMap fun i => ((wE l.length).filter fun k => decide (c ∈ vW l k)).flatMap fun k => xM b l i k c
theorem zRu (b : zR) (l : List zL) (i c : Int) : vJ yH (zLE b l i c) := List.Pairwise.filter _ (by simp)
theorem zR9 (b : zR) (l : List zL) (i c : Int) : (zLE b l i c).length ≤ 3 := List.length_filter_le _ _
theorem zSp (y : qZ) : y ∈ zMn b l ↔ (0 ≤ y.1 ∧ y.1 < l.length) ∧ (0 ≤ y.2.1 ∧ y.2.1 < l.length) ∧ y.2.2.1 ∈ vW l y.2.1 ∧ y.2.2.2 ∈ zLE b l y.1 y.2.2.1 := by
 obtain ⟨i, k, c, kd⟩ := y
 simp only [zMn, List.mem_flatMap, List.mem_map, uF]
 constructor
 ·rintro ⟨i', h1, k', h2, c', h3, kd', h4, e⟩
  cases e
  exact ⟨h1, h2, h3, h4⟩
 ·rintro ⟨h1, h2, h3, h4⟩
  exact ⟨i, h1, k, h2, c, h3, kd, h4, rfl⟩
theorem zUM {k c : Int} (h : c ∈ vW l k) : 0 ≤ c ∧ c < l.length := by
 have := (List.mem_filter.1 h).1
 exact uF.1 this
theorem zWH (y : qZ) : y ∈ zVD b l ↔ y ∈ zMn b l := by
 rw [zSp]
 obtain ⟨i, k, c, kd⟩ := y
 simp only [zVD, List.mem_flatMap, List.mem_map, uF, List.mem_filter, decide_eq_true_eq]
 constructor
 ·rintro ⟨c', _, i', h1, k', ⟨h2, h3⟩, kd', h4, e⟩
  cases e
  exact ⟨h1, h2, h3, h4⟩
 ·rintro ⟨h1, h2, h3, h4⟩
  exact ⟨c, zUM h3, i, h1, k, ⟨h2, h3⟩, kd, h4, rfl⟩
theorem zSk (b : zR) (l : List zL) : vJ lt4 (zMn b l) := by
 refine List.pairwise_flatMap.2 ⟨fun i _ => List.pairwise_flatMap.2 ⟨fun k _ => List.pairwise_flatMap.2 ⟨fun c _ => ?_, ?_⟩, ?_⟩, ?_⟩
 ·rw [List.pairwise_map]
  exact (zRu b l i c).imp fun h => by simpa [lt4] using h
 ·refine (zKB l k).imp fun {c c'} h x hx y hy => ?_
  obtain ⟨_, _, rfl⟩ := List.mem_map.1 hx
  obtain ⟨_, _, rfl⟩ := List.mem_map.1 hy
  simp at h; simp [lt4]; omega
 ·refine (zHL _).imp fun {k k'} h x hx y hy => ?_
  obtain ⟨_, _, hx⟩ := List.mem_flatMap.1 hx
  obtain ⟨_, _, hy⟩ := List.mem_flatMap.1 hy
  obtain ⟨_, _, rfl⟩ := List.mem_map.1 hx
  obtain ⟨_, _, rfl⟩ := List.mem_map.1 hy
  simp at h; simp [lt4]; omega
 ·refine (zHL _).imp fun {i i'} h x hx y hy => ?_
  obtain ⟨_, _, hx⟩ := List.mem_flatMap.1 hx
  obtain ⟨_, _, hy⟩ := List.mem_flatMap.1 hy
  obtain ⟨_, _, hx⟩ := List.mem_flatMap.1 hx
  obtain ⟨_, _, hy⟩ := List.mem_flatMap.1 hy
  obtain ⟨_, _, rfl⟩ := List.mem_map.1 hx
  obtain ⟨_, _, rfl⟩ := List.mem_map.1 hy
  simp at h; simp [lt4]; omega
theorem zSz (b : zR) (l : List zL) : (zVD b l).Nodup := by
 have key : (zVD b l).Pairwise fun x y => x.2.2.1 < y.2.2.1 ∨ (x.2.2.1 = y.2.2.1 ∧ (x.1 < y.1 ∨ (x.1 = y.1 ∧ (x.2.1 < y.2.1 ∨ (x.2.1 = y.2.1 ∧ x.2.2.2 < y.2.2.2))))) := by
  refine List.pairwise_flatMap.2 ⟨fun c _ => List.pairwise_flatMap.2 ⟨fun i _ => List.pairwise_flatMap.2 ⟨fun k _ => ?_, ?_⟩, ?_⟩, ?_⟩
  ·rw [List.pairwise_map]
   exact (zRu b l i c).imp fun h => by simpa using h
  ·refine ((zHL _).filter _).imp fun {k k'} h x hx y hy => ?_
   obtain ⟨_, _, rfl⟩ := List.mem_map.1 hx
   obtain ⟨_, _, rfl⟩ := List.mem_map.1 hy
   simp at h; simp; omega
  ·refine (zHL _).imp fun {i i'} h x hx y hy => ?_
   obtain ⟨_, _, hx⟩ := List.mem_flatMap.1 hx
   obtain ⟨_, _, hy⟩ := List.mem_flatMap.1 hy
   obtain ⟨_, _, rfl⟩ := List.mem_map.1 hx
   obtain ⟨_, _, rfl⟩ := List.mem_map.1 hy
   simp at h; simp; omega
  ·refine (zHL _).imp fun {c c'} h x hx y hy => ?_
   obtain ⟨_, _, hx⟩ := List.mem_flatMap.1 hx
   obtain ⟨_, _, hy⟩ := List.mem_flatMap.1 hy
   obtain ⟨_, _, hx⟩ := List.mem_flatMap.1 hx
   obtain ⟨_, _, hy⟩ := List.mem_flatMap.1 hy
   obtain ⟨_, _, rfl⟩ := List.mem_map.1 hx
   obtain ⟨_, _, rfl⟩ := List.mem_map.1 hy
   simp at h; simp; omega
 exact key.imp fun {x y} h e => by subst e; omega
theorem zPs (b : zR) (l : List zL) (i k c : Int) : (xM b l i k c).length ≤ 3 := by rw [List.length_map]; exact zR9 b l i c
theorem zNS (h : l.length ≤ 100) : (zMn b l).length ≤ 3000000 := by
 have h1 : ∀ i k : Int, ((vW l k).flatMap fun c => xM b l i k c).length ≤ 300 := fun i k => by
  have := zJP (fun c => xM b l i k c) 3 (vW l k) fun c _ => zPs b l i k c
  have := zEo l k
  omega
 have h2 : ∀ i : Int, ((wE l.length).flatMap fun k => (vW l k).flatMap fun c => xM b l i k c).length ≤ 30000 := fun i => by
  have := zJP (fun k => (vW l k).flatMap fun c => xM b l i k c) 300 (wE l.length) fun k _ => h1 i k
  rw [yX] at this
  omega
 have := zJP (fun i => (wE l.length).flatMap fun k => (vW l k).flatMap fun c => xM b l i k c) 30000 (wE l.length) fun i _ => h2 i
 rw [yX] at this
 show ((wE l.length).flatMap _).length ≤ _
 omega
theorem ref_L4 (h : FormB b l) {acc0 : List qZ} {i k c : Int} (s3 : (List qZ) × Int) (i0 : 0 ≤ i) (i1 : i < l.length) (c0 : 0 ≤ c) (c1 : c < l.length) (acc : List qZ) (ha : acc.length < 4294960000) :
  zW (zDA b l (acc0, i) c (acc0, k) s3) (acc, 1) = some (.inl (acc ++ xM b l i k c, zQ (s3.2 + 1))) := by
 have step : ∀ (acc : List qZ) (kd : Int), acc.length < 4294967000 → 0 ≤ kd → kd ≤ 3 → zDA b l (acc0, i) c (acc0, k) s3 (acc, kd) = some (.inl (acc ++ (if tR b l i c kd then [(i, k, c, kd)] else []), kd + 1)) := fun acc kd h1 h2 h3 => by
  unfold zDA
  have hd : decide (kd ≤ 3) = true := by simpa using h3
  simp only [hd, if_true, zTG h i0 i1 c0 c1 kd, zob]
  rw [uM (by omega) (by omega)]
  cases tR b l i c kd with
  | true =>
   simp only [if_true]
   rw [vT (by simp; omega)]
   rfl
  | false => simp
 have l1 : ∀ (p : Bool) (x : qZ), (if p then [x] else []).length ≤ 1 := fun p x => by cases p <;> simp
 rw [yD, step acc 1 (by omega) (by omega) (by omega)]
 simp only
 rw [yD, step _ (1 + 1) (by have := l1 (tR b l i c 1) (i, k, c, 1); rw [List.length_append]; omega) (by omega) (by omega)]
 simp only
 rw [yD, step _ (1 + 1 + 1) (by have := l1 (tR b l i c 1) (i, k, c, 1); have := l1 (tR b l i c (1 + 1)) (i, k, c, 1 + 1); rw [List.length_append, List.length_append]; omega) (by omega) (by omega)]
 simp only
 rw [yD]
 unfold zDA
 have hd : decide ((1 + 1 + 1 + 1 : Int) ≤ 3) = false := by simp
 simp only [hd, zbf, if_false]
 congr 3
 rw [List.append_assoc, List.append_assoc]
 congr 1
 simp only [xM, zLE, List.filter_cons, List.filter_nil]
 show _ = List.map _ (if tR b l i c 1 then 1 :: (if tR b l i c 2 then 2 :: (if tR b l i c 3 then [3] else []) else (if tR b l i c 3 then [3] else [])) else (if tR b l i c 2 then 2 :: (if tR b l i c 3 then [3] else []) else (if tR b l i c 3 then [3] else [])))
 rw [show (1 + 1 : Int) = 2 from rfl, show (2 + 1 : Int) = 3 from rfl]
 cases tR b l i c 1 <;> cases tR b l i c 2 <;> cases tR b l i c 3 <;> rfl
theorem zT6 (h : FormB b l) : zHX b l = some (zMn b l) := by
 have hl := h.len
 have h1 : ∀ i k : Int, ((vW l k).flatMap fun c => xM b l i k c).length ≤ 300 := fun i k => by
  have := zJP (fun c => xM b l i k c) 3 (vW l k) fun c _ => zPs b l i k c
  have := zEo l k
  omega
 have h2 : ∀ i : Int, ((wE l.length).flatMap fun k => (vW l k).flatMap fun c => xM b l i k c).length ≤ 30000 := fun i => by
  have := zJP (fun k => (vW l k).flatMap fun c => xM b l i k c) 300 (wE l.length) fun k _ => h1 i k
  rw [yX] at this
  omega
 unfold zHX
 refine zGW (B := zFW l b) (wE l.length) (fun i => (wE l.length).flatMap fun k => (vW l k).flatMap fun c => xM b l i k c) (fun s => s) 30000 (fun i _ => h2 i) [] (fun q i s hi hs => ?_) (fun s => ?_)
 ·obtain ⟨rfl, hq⟩ := zHS hi
  have hd : decide ((q : Int) < len l) = true := by simp [len]; omega
  unfold zFW
  simp only [hd, if_true]
  refine (zGW (B := zF2 l b (s, (q : Int))) (wE l.length) (fun k => (vW l k).flatMap fun c => xM b l (q : Int) k c) (fun r => .inl (r, zQ ((q : Int) + 1))) 300 (fun k _ => h1 _ k) s (fun u k s' hk hs' => ?_) (fun s' => ?_)).trans ?_
  ·obtain ⟨rfl, hu⟩ := zHS hk
   have hd : decide ((u : Int) < len l) = true := by simp [len]; omega
   unfold zF2
   simp only [hd, if_true, zRG h.toFormA (show (0 : Int) ≤ u by omega) (by omega), zob]
   simp only [List.length_nil] at hs
   refine (zGW (B := zFZ (vW l u) b l (s, (q : Int)) (s', (u : Int))) (vW l u) (fun c => xM b l (q : Int) (u : Int) c) (fun r => .inl (r, zQ ((u : Int) + 1))) 3 (fun c _ => zPs b l _ _ c) s' (fun v c s'' hc hs'' => ?_) (fun s'' => ?_)).trans ?_
   ·have hcr := zUM (yA hc)
    have hv := vH hc
    have := zEo l u
    unfold zFZ
    simp only [wW hc, if_true, wU hc, zob]
    refine (ref_L4 h (s'', (v : Int)) (by omega) (by omega) hcr.1 hcr.2 s'' (by omega)).trans ?_
    simp only [wV hc (by omega)]
   ·unfold zFZ
    simp only [yE, zbf, if_false]
   ·simp only [vY u (by omega)]
  ·unfold zF2
   have hd : decide (((wE l.length).length : Int) < len l) = false := by rw [yX]; exact yE l
   simp only [hd, zbf, if_false]
  ·simp only [vY q (by omega)]
 ·unfold zFW
  have hd : decide (((wE l.length).length : Int) < len l) = false := by rw [yX]; exact yE l
  simp only [hd, zbf, if_false]
theorem zLR (m : List Int) (x : Int) (hb : m.length < 9223372036854775807) : zBG m x = some (decide (x ∈ m)) := by
 obtain ⟨r, h1, h2⟩ := zPl m x hb
 unfold zBG zGy
 rw [show zW (zIV m x) 0 = some r from h1]
 simp only [zob]
 congr 1
 rw [decide_eq_decide, h2]
 simp
theorem zT3 (h : FormB b l) : zG3 b l = some (zMn b l) := by
 have hl := h.len
 have h1 : ∀ i c : Int, (((wE l.length).filter fun k => decide (c ∈ vW l k)).flatMap fun k => xM b l i k c).length ≤ 300 := fun i c => by
  have := zJP (fun k => xM b l i k c) 3 ((wE l.length).filter fun k => decide (c ∈ vW l k)) fun k _ => zPs b l i k c
  have := List.length_filter_le (fun k => decide (c ∈ vW l k)) (wE l.length)
  rw [yX] at this
  omega
 have h2 : ∀ c : Int, ((wE l.length).flatMap fun i => ((wE l.length).filter fun k => decide (c ∈ vW l k)).flatMap fun k => xM b l i k c).length ≤ 30000 := fun c => by
  have := zJP (fun i => ((wE l.length).filter fun k => decide (c ∈ vW l k)).flatMap fun k => xM b l i k c) 300 (wE l.length) fun i _ => h1 i c
  rw [yX] at this
  omega
 have hL : zW (zCY l b) ([], 0) = some (zVD b l) := by
  refine zGW (B := zCY l b) (wE l.length) (fun c => (wE l.length).flatMap fun i => ((wE l.length).filter fun k => decide (c ∈ vW l k)).flatMap fun k => xM b l i k c) (fun s => s) 30000 (fun c _ => h2 c) [] (fun q c s hc hs => ?_) (fun s => ?_)
  ·obtain ⟨rfl, hq⟩ := zHS hc
   have hd : decide ((q : Int) < len l) = true := by simp [len]; omega
   simp only [List.length_nil] at hs
   unfold zCY
   simp only [hd, if_true]
   refine (zGW (B := zEQ l b (s, (q : Int))) (wE l.length) (fun i => ((wE l.length).filter fun k => decide ((q : Int) ∈ vW l k)).flatMap fun k => xM b l i k (q : Int)) (fun r => .inl (r, zQ ((q : Int) + 1))) 300 (fun i _ => h1 i _) s (fun u i s' hi hs' => ?_) (fun s' => ?_)).trans ?_
   ·obtain ⟨rfl, hu⟩ := zHS hi
    have hd : decide ((u : Int) < len l) = true := by simp [len]; omega
    unfold zEQ
    simp only [hd, if_true, zWg h (show (0 : Int) ≤ u by omega) (by omega) (show (0 : Int) ≤ q by omega) (by omega), zob, zZa]
    cases hk : (zLE b l u q).isEmpty with
    | true =>
     have : zLE b l u q = [] := List.isEmpty_iff.1 hk
     have hz : (((wE l.length).filter fun k => decide ((q : Int) ∈ vW l k)).flatMap fun k => xM b l u k (q : Int)) = [] := by
      rw [List.flatMap_eq_nil_iff]
      intro k _
      simp only [xM, this, List.map_nil]
     simp only [if_true, vY u (by omega), hz, List.append_nil]
    | false =>
     simp only [zbf, if_false]
     rw [zPY]
     refine (zGW (B := zEL l (s, (q : Int)) (zLE b l u q) (s', (u : Int))) (wE l.length) (fun k => if decide ((q : Int) ∈ vW l k) then xM b l u k (q : Int) else []) (fun r => .inl (r, zQ ((u : Int) + 1))) 3 (fun k _ => by
      split
      ·exact zPs b l _ _ _
      ·simp) s' (fun v k s'' hk2 hs'' => ?_) (fun s'' => ?_)).trans ?_
     ·obtain ⟨rfl, hv⟩ := zHS hk2
      have hd : decide ((v : Int) < len l) = true := by simp [len]; omega
      have hsl := zEo l v
      unfold zEL
      simp only [hd, if_true, zRC h.toFormA (show (0 : Int) ≤ v by omega) (by omega), zob, zLR (vW l v) q (by omega)]
      cases hm : decide ((q : Int) ∈ vW l v) with
      | false => simp only [Bool.not_false, if_true, vY v (by omega), zbf, if_false, List.append_nil]
      | true =>
       simp only [Bool.not_true, zbf, if_false, if_true]
       have hkl := zR9 b l u q
       refine (zGW (B := zE1 (zLE b l u q) (s', (u : Int)) (s'', (v : Int)) (s, (q : Int))) (zLE b l u q) (fun kd => [((u : Int), (v : Int), (q : Int), kd)]) (fun r => .inl (r, zQ ((v : Int) + 1))) 1 (fun _ _ => by simp) s'' (fun w kd s3 hw hs3 => ?_) (fun s3 => ?_)).trans ?_
       ·have := vH hw
        unfold zE1
        simp only [wW hw, if_true, wU hw, zob]
        rw [vT (by rw [List.length_singleton]; omega)]
        simp only [zob, wV hw (by omega)]
       ·unfold zE1
        simp only [yE, zbf, if_false]
       ·simp only [vY v (by omega), xM, List.map_eq_flatMap]
     ·unfold zEL
      have hd : decide (((wE l.length).length : Int) < len l) = false := by rw [yX]; exact yE l
      simp only [hd, zbf, if_false]
     ·simp only [vY u (by omega)]
   ·unfold zEQ
    have hd : decide (((wE l.length).length : Int) < len l) = false := by rw [yX]; exact yE l
    simp only [hd, zbf, if_false]
   ·simp only [vY q (by omega)]
  ·unfold zCY
   have hd : decide (((wE l.length).length : Int) < len l) = false := by rw [yX]; exact yE l
   simp only [hd, zbf, if_false]
 have hPS : (zVD b l).Perm (zMn b l) := by
  refine (List.perm_ext_iff_of_nodup (zSz b l) ?_).2 fun y => zWH y
  exact (zSk b l).imp fun {x y} h e => by subst e; rw [ord4.irrefl] at h; cases h
 unfold zG3
 rw [hL]
 simp only [zob]
 have hlen := zNS (b := b) hl
 rw [zSi (by rw [hPS.length_eq]; omega)]
 simp only [zob]
 congr 1
 refine List.Perm.eq_of_pairwise (le := fun x y => lt4 y x = false) (fun x y _ _ g1 g2 => ?_) (zJ5 ord4 _) ((zSk b l).imp fun h => ord4.asymm h) ((List.mergeSort_perm _ _).trans hPS)
 rcases ord4.tri x y with h | h | h
 ·rw [h] at g2; cases g2
 ·exact h
 ·rw [h] at g1; cases g1
noncomputable def zK2 (b : zR) (l : List zL) (o : vF) (y : qZ) : Bool := y.2.2.2 == 3 || !zOV b l y.1 y.2.2.1 o
noncomputable def zHy (b : zR) (l : List zL) (o : vF) : List qZ := (zMn b l).filter (zK2 b l o)
theorem zPT (h : FormB b l) (o : vF) : zEd b l o = some (zHy b l o) := by
 have hlen := zNS (b := b) h.len
 unfold zEd
 rw [zT3 h]
 simp only [zob]
 have hd := zNb (fun x => zBm x b l o) (fun x => x.2.2.2 != 3 && zOV b l x.1 x.2.2.1 o) (0, 0, 0, 0) (zMn b l) (by omega) (fun x _ => by
  simp only [zBm]
  cases hx : x.2.2.2 != 3 with
  | true => simp [zWf h]
  | false => simp)
 rw [show zAZ (zMn b l) b l o = zQt (fun x => zBm x b l o) (0, 0, 0, 0) (zMn b l) from rfl, hd]
 simp only [zob, zHy]
 congr 1
 refine List.filter_congr fun x _ => ?_
 simp only [zK2]
 cases hx : x.2.2.2 == 3 <;> simp [bne, hx]
theorem zPa (h : FormB b l) (o : vF) : zFo b l o = some (zHy b l o) := by
 have hlen := zNS (b := b) h.len
 unfold zFo
 rw [zT6 h]
 simp only [zob]
 have hL := zBN (B := zFV (zMn b l) b l o) (zMn b l) (fun s x => if zK2 b l o x then s ++ [x] else s) (fun s => s) (fun q s => s.length ≤ q) [] (by simp) (fun i x s hx hI => ?_) (fun s hI => ?_)
 ·have e := zBv (zK2 b l o) (fun x => x) (zMn b l) []
  rw [hL.1, e]
  simp [zHy]
 ·have hi := vH hx
  unfold zFV
  have hc : (if x.2.2.2 == 3 then some true else (zIQ b l x.1 x.2.2.1 o).bind fun r2 => some (!r2)) = some (zK2 b l o x) := by
   simp only [zK2, zXt h, zob]
   cases x.2.2.2 == 3 <;> simp
  simp only [wW hx, if_true, wU hx, zob]
  rw [hc]
  simp only [zob]
  cases hd : zK2 b l o x with
  | true =>
   simp only [if_true]
   rw [vT (by simp; omega)]
   exact ⟨by simp only [zob, wV hx (by omega)], by simp; omega⟩
  | false => exact ⟨by simp only [zbf, if_false, wV hx (by omega)], by simp only [zbf, if_false]; omega⟩
 ·unfold zFV
  simp [len]
end
section
section
variable {α ρ : Type}
def zUU (q : α → Bool) (l : List α) : Int := if l.any q then (l.findIdx q : Int) else -1
theorem zNM {B : Int → Option (Int ⊕ ρ)} (q : α → Bool) (l : List α) (no : ρ) (yes : Int → ρ) (hB : ∀ (i : Nat) x, l[i]? = some x → B (i : Int) = some (if q x then .inr (yes (i : Int)) else .inl ((i + 1 : Nat) : Int))) (he : B (l.length : Int) = some (.inr no)) :
  zW B 0 = some (if l.any q then yes (zUU q l) else no) := by
 have key : ∀ (n i : Nat), i + n = l.length → zW B (i : Int) = some (if (l.drop i).any q then yes ((i + (l.drop i).findIdx q : Nat) : Int) else no) := by
  intro n
  induction n with
  | zero =>
   intro i h
   rw [Nat.add_zero] at h
   subst h
   rw [yD, he, List.drop_length]
   rfl
  | succ n ih =>
   intro i h
   have hx : l[i]? = some l[i] := List.getElem?_eq_getElem (by omega)
   rw [yD, hB i _ hx, List.drop_eq_getElem_cons (by omega)]
   cases hp : q l[i] with
   | true => simp only [if_true, List.any_cons, hp, Bool.true_or, List.findIdx_cons, cond_true, Nat.add_zero]
   | false =>
    simp only [zbf, if_false, List.any_cons, hp, Bool.false_or, List.findIdx_cons, cond_false]
    rw [ih (i + 1) (by omega)]
    rw [show i + 1 + (l.drop (i + 1)).findIdx q = i + ((l.drop (i + 1)).findIdx q + 1) by omega]
 have h := key l.length 0 (by omega)
 simp only [List.drop_zero, Nat.zero_add] at h
 rw [show zW B 0 = _ from h, zUU]
 cases l.any q <;> rfl
theorem zQc {q : α → Bool} {l : List α} {i : Nat} {x : α} (hx : l[i]? = some x) (hq : q x = true) : 0 ≤ zUU q l ∧ zUU q l ≤ i := by
 have ha : l.any q = true := List.any_eq_true.2 ⟨x, yA hx, hq⟩
 rw [zUU, if_pos ha]
 refine ⟨by omega, ?_⟩
 have hi := vH hx
 rw [List.getElem?_eq_getElem hi] at hx
 have hq' : q l[i] = true := by rw [Option.some.inj hx]; exact hq
 have : l.findIdx q ≤ i := by
  refine Nat.le_of_not_lt fun h => ?_
  have := List.not_of_lt_findIdx h
  rw [hq'] at this; simp at this
 omega
theorem zTd {q : α → Bool} {l : List α} (h : 0 ≤ zUU q l) : ∃ (k : Nat) (x : α), zUU q l = (k : Int) ∧ l[k]? = some x ∧ q x = true ∧ ∀ j y, j < k → l[j]? = some y → q y = false := by
 unfold zUU at h ⊢
 split at h
 ·rename_i ha
  rw [if_pos ha]
  obtain ⟨x, hx, hq⟩ := List.any_eq_true.1 ha
  have hlt : l.findIdx q < l.length := List.findIdx_lt_length_of_exists ⟨x, hx, hq⟩
  refine ⟨_, l[l.findIdx q], rfl, List.getElem?_eq_getElem hlt, List.findIdx_getElem, fun j y hj hy => ?_⟩
  have hjl := vH hy
  rw [List.getElem?_eq_getElem hjl] at hy
  have := List.not_of_lt_findIdx hj
  rw [← Option.some.inj hy]
  simpa using this
 ·omega
def tN (e : Nat → α → Int) : Nat → List α → Int
 | _, [] => 0
 | i, x :: r => if e i x != 0 then e i x else tN e (i + 1) r
theorem zKH {B : Int → Option (Int ⊕ ρ)} (l : List α) (e : Nat → α → Int) (yes : Int → ρ) (no : ρ) (hB : ∀ (i : Nat) x, l[i]? = some x → B (i : Int) = some (if e i x != 0 then .inr (yes (e i x)) else .inl ((i + 1 : Nat) : Int))) (he : B (l.length : Int) = some (.inr no)) :
  zW B 0 = some (if tN e 0 l != 0 then yes (tN e 0 l) else no) := by
 have key : ∀ (n i : Nat), i + n = l.length → zW B (i : Int) = some (if tN e i (l.drop i) != 0 then yes (tN e i (l.drop i)) else no) := by
  intro n
  induction n with
  | zero =>
   intro i h
   rw [Nat.add_zero] at h
   subst h
   rw [yD, he, List.drop_length]
   rfl
  | succ n ih =>
   intro i h
   have hx : l[i]? = some l[i] := List.getElem?_eq_getElem (by omega)
   rw [yD, hB i _ hx, List.drop_eq_getElem_cons (by omega)]
   simp only [tN]
   by_cases hp : e i l[i] = 0
   ·simp only [hp, bne_self_eq_false, zbf, if_false]; exact ih (i + 1) (by omega)
   ·have hp' : (e i l[i] != 0) = true := by simpa using hp
    simp only [hp', if_true]
 have h := key l.length 0 (by omega)
 simpa using h
theorem zOp {e : Nat → α → Int} : ∀ {l : List α} {k : Nat}, tN e k l = 0 ↔ ∀ (i : Nat) x, l[i]? = some x → e (k + i) x = 0
 | [], k => by simp [tN]
 | x :: r, k => by
  simp only [tN]
  constructor
  ·intro h
   cases hx : e k x != 0 with
   | true => rw [hx] at h; simp only [if_true] at h; rw [h] at hx; simp at hx
   | false =>
    rw [hx] at h
    simp only [zbf, if_false] at h
    intro i y hy
    cases i with
    | zero => simp at hy; subst hy; simpa using hx
    | succ i => rw [show k + (i + 1) = k + 1 + i by omega]; exact zOp.1 h i y (by simpa using hy)
  ·intro h
   have h0 := h 0 x rfl
   rw [Nat.add_zero] at h0
   rw [h0]
   simp only [bne_self_eq_false, zbf, if_false]
   exact zOp.2 fun i y hy => by rw [show k + 1 + i = k + (i + 1) by omega]; exact h (i + 1) y (by simpa using hy)
end
abbrev tY (n : Int) : Bool := decide (0 ≤ n) && decide (n ≤ 9)
def tH (p : vM) : Int :=
 if p.2.1 == 1 || p.2.1 == 2 || p.2.1 == 3 then
  if vName p.1.2 && tY p.2.2.1 && (p.2.1 == 2 || p.2.2.1 == 0) && (p.2.2.2 == [] || vName p.2.2.2) then 0 else 1
 else 4
def zYn : List zM → Bool
 | a :: b :: r => vR a b && zYn (b :: r)
 | _ => true
def xP (r : wK) : Int :=
 if 4 < r.2.2.2.1.length then 2
 else if vName r.1 && vName r.2.2.2.2.2 && tY r.2.2.1 && (!r.2.1 || r.2.2.1 == 0) && r.2.2.2.1.all (fun x => vName x.2) then (if zYn r.2.2.2.1 then 0 else 8) else 1
def zJu (b : zR) (nm : vD) : Int := zUU (fun r : wK => r.1 == nm) b.2.1
def zPj (b : zR) (x : zM) : Int := zUU (fun p : vM => p.1 == x) b.1
def zOT (b : zR) (p : yV) : Int :=
 if tY p.2.1 && vName p.2.2.2 then (if zJu b p.1 < 0 then 6 else match zG b.2.1 (zJu b p.1) with | some r => if r.2.1 then 4 else 0 | none => 0) else 1
def zJM (b : zR) : Int :=
 if 16 < b.1.length || 24 < b.2.1.length || 8 < b.2.2.length then 2
 else
  let e1 := tN (fun i p => if tH p != 0 then tH p else if zPj b p.1 < (i : Int) then 5 else 0) 0 b.1
  if e1 != 0 then e1 else
  let e2 := tN (fun i r => if xP r != 0 then xP r else if zJu b r.1 < (i : Int) then 5 else 0) 0 b.2.1
  if e2 != 0 then e2 else tN (fun _ p => zOT b p) 0 b.2.2
theorem zVE (p : vM) : zFM p = some (tH p) := by
 unfold zFM zB7 zHO tH
 simp only [zJx, zPN, zob]
 by_cases k1 : p.2.1 = 1
 ·by_cases h0 : p.2.2.1 = 0
  ·cases vName p.1.2 <;> cases p.2.2.2 == [] <;> cases vName p.2.2.2 <;> simp [k1, h0, yO]
  ·simp [k1, h0, yO]
 ·by_cases k3 : p.2.1 = 3
  ·by_cases h0 : p.2.2.1 = 0
   ·cases vName p.1.2 <;> cases p.2.2.2 == [] <;> cases vName p.2.2.2 <;> simp [k3, h0, yO]
   ·simp [k3, h0, yO]
  ·by_cases k2 : p.2.1 = 2
   ·cases hr : tY p.2.2.1 <;> cases vName p.1.2 <;> cases p.2.2.2 == [] <;> cases vName p.2.2.2 <;> simp [k2, yO, hr]
   ·simp [k1, k2, k3, yO]
theorem zTt (p : vM) : zHB p = some (tH p) := by
 unfold zHB zFc tH
 simp only [zKA, zKg, zob]
 by_cases k1 : p.2.1 = 1
 ·by_cases h0 : p.2.2.1 = 0
  ·cases vName p.1.2 <;> cases p.2.2.2 == [] <;> cases vName p.2.2.2 <;> simp [k1, h0]
  ·cases hr : tY p.2.2.1 <;> cases hv : vName p.1.2 <;> simp [k1, h0, hr]
 ·by_cases k3 : p.2.1 = 3
  ·by_cases h0 : p.2.2.1 = 0
   ·cases vName p.1.2 <;> cases p.2.2.2 == [] <;> cases vName p.2.2.2 <;> simp [k3, h0]
   ·cases hr : tY p.2.2.1 <;> cases hv : vName p.1.2 <;> simp [k3, h0, hr]
  ·by_cases k2 : p.2.1 = 2
   ·cases hr : tY p.2.2.1 <;> cases vName p.1.2 <;> cases p.2.2.2 == [] <;> cases vName p.2.2.2 <;> simp [k2, hr]
   ·have : (decide (p.2.1 < 1) || decide (3 < p.2.1)) = true := by simp; omega
    simp [k1, k2, k3, this]
theorem zR5 {B : Int → Option (Int ⊕ Int)} (l : List zM) (hl : l.length < 4294967296)
  (hB : ∀ (i : Nat) x y, l[i]? = some x → l[i + 1]? = some y → B ((i + 1 : Nat) : Int) = some (if decide (0 ≤ zKz x y) then .inr 8 else .inl ((i + 1 + 1 : Nat) : Int))) (he : ∀ k : Nat, l.length ≤ k → B (k : Int) = some (.inr 0)) :
  zW B 1 = some (if zYn l then 0 else 8) := by
 have key : ∀ (n i : Nat), i + 1 + n = l.length → zW B ((i + 1 : Nat) : Int) = some (if zYn (l.drop i) then 0 else 8) := by
  intro n
  induction n with
  | zero =>
   intro i h
   rw [yD, he (i + 1) (by omega), List.drop_eq_getElem_cons (by omega), List.drop_of_length_le (by omega)]
   rfl
  | succ n ih =>
   intro i h
   have hx : l[i]? = some l[i] := List.getElem?_eq_getElem (by omega)
   have hy : l[i + 1]? = some l[i + 1] := List.getElem?_eq_getElem (by omega)
   rw [yD, hB i _ _ hx hy, List.drop_eq_getElem_cons (by omega), List.drop_eq_getElem_cons (by omega)]
   have hc : decide (0 ≤ zKz l[i] l[i + 1]) = !vR l[i] l[i + 1] := by
    unfold zKz
    cases vR l[i] l[i + 1] with
    | true => simp
    | false =>
     simp only [zbf, if_false]
     split <;> simp
   rw [hc]
   cases hlt : vR l[i] l[i + 1] with
   | true =>
    simp only [Bool.not_true, zbf, if_false]
    rw [ih (i + 1) (by omega), List.drop_eq_getElem_cons (show i + 1 < l.length by omega)]
    simp only [zYn, hlt, Bool.true_and]
   | false => simp only [Bool.not_false, if_true, zYn, hlt, Bool.false_and, zbf, if_false]
 match l, hl, hB, he, key with
 | [], _, _, he, _ => rw [yD, show (1 : Int) = ((1 : Nat) : Int) from rfl, he 1 (by simp)]; rfl
 | x :: r, _, _, _, key => exact key r.length 0 (by simp; omega)
theorem zZE (r : wK) : zHW r = some (xP r) := by
 unfold zHW xP
 by_cases h4 : 4 < r.2.2.2.1.length
 ·have : decide (4 < len r.2.2.2.1) = true := by simp [len]; omega
  simp only [this, if_true, h4]
 have hr : r.2.2.2.1.length < 4294967296 := by omega
 have : decide (4 < len r.2.2.2.1) = false := by simp [len]; omega
 simp only [this, zbf, if_false, h4, zPN, zJx, zB7, zob]
 have hc : (if (!vName r.1) = true then some true else if (!vName r.2.2.2.2.2) = true then some true else if (!(decide (0 ≤ r.2.2.1) && decide (r.2.2.1 ≤ 9))) = true then some true else if r.2.1 = true then some (r.2.2.1 != 0) else some false)
   = some (!(vName r.1 && vName r.2.2.2.2.2 && tY r.2.2.1 && (!r.2.1 || r.2.2.1 == 0))) := by
  cases vName r.1 <;> cases vName r.2.2.2.2.2 <;> cases hk : tY r.2.2.1 <;> cases r.2.1 <;> simp [hk, bne]
 rw [hc]
 simp only [zob]
 cases hg : (vName r.1 && vName r.2.2.2.2.2 && tY r.2.2.1 && (!r.2.1 || r.2.2.1 == 0)) with
 | false => simp
 | true =>
  simp only [Bool.not_true, zbf, if_false, Bool.true_and]
  have h1 := zNQ (B := zFS r) r.2.2.2.1 (fun x => !vName x.2) (.inr 1 : Unit ⊕ Int) (.inl ()) (fun i x hx => by
   unfold zFS
   simp only [wW hx, if_true, wU hx, zob, zJx, wV hx hr]
   cases vName x.2 <;> rfl) (by unfold zFS; simp only [yE, zbf, if_false])
  rw [h1]
  have hall : r.2.2.2.1.all (fun x => vName x.2) = !r.2.2.2.1.any (fun x => !vName x.2) := by rw [List.all_eq_not_any_not]
  rw [hall]
  cases r.2.2.2.1.any (fun x => !vName x.2) with
  | true => rfl
  | false =>
   simp only [yO, zob, zbf, if_false, Bool.not_false, if_true]
   refine zR5 (B := zFP r) r.2.2.2.1 hr (fun i x y hx hy => ?_) (fun k hk => ?_)
   ·unfold zFP
    have e1 : zQ (((i + 1 : Nat) : Int) - 1) = (i : Int) := by have := vH hy; rw [uM (by omega) (by omega)]; omega
    simp only [wW hy, if_true, wU hy, e1, wU hx, zob, zKd, wV hy hr]
    split <;> rfl
   ·unfold zFP
    have : decide ((k : Int) < len r.2.2.2.1) = false := by simp [len]; omega
    simp only [this, zbf, if_false]
theorem zY3 (r : wK) : zJh r = some (xP r) := by
 unfold zJh xP
 by_cases h4 : 4 < r.2.2.2.1.length
 ·have : decide (4 < len r.2.2.2.1) = true := by simp [len]; omega
  simp only [this, if_true, h4]
 have hr : r.2.2.2.1.length < 4294967296 := by omega
 have : decide (4 < len r.2.2.2.1) = false := by simp [len]; omega
 simp only [this, zbf, if_false, h4, zKg, zKA, zFc, zob]
 have hc : (if vName r.1 = true then if (decide (0 ≤ r.2.2.1) && decide (r.2.2.1 ≤ 9)) = true then if (!r.2.1) = true then some (vName r.2.2.2.2.2) else if (r.2.2.1 == 0) = true then some (vName r.2.2.2.2.2) else some false else some false else some false)
   = some (vName r.1 && vName r.2.2.2.2.2 && tY r.2.2.1 && (!r.2.1 || r.2.2.1 == 0)) := by
  cases vName r.1 <;> cases vName r.2.2.2.2.2 <;> cases hk : tY r.2.2.1 <;> cases r.2.1 <;> cases hz : r.2.2.1 == 0 <;> simp [hk]
 rw [hc]
 simp only [zob]
 have h1 := zBN (B := zHA r) r.2.2.2.1 (fun s x => s && vName x.2) (fun s => s) (fun _ _ => True) (vName r.1 && vName r.2.2.2.2.2 && tY r.2.2.1 && (!r.2.1 || r.2.2.1 == 0)) trivial (fun i x s hx _ => ⟨by
  unfold zHA
  simp only [wW hx, if_true, wU hx, zob, zKA]
  cases s <;> simp only [zbf, if_false, if_true, zob, wV hx hr, Bool.false_and, Bool.true_and], trivial⟩) (fun s _ => by unfold zHA; simp only [yE, zbf, if_false])
 rw [h1.1]
 have hf : ∀ (l : List zM) (g : Bool), l.foldl (fun s x => s && vName x.2) g = (g && l.all (fun x => vName x.2)) := by
  intro l
  induction l with
  | nil => intro g; simp
  | cons x l ih => intro g; rw [List.foldl_cons, ih, List.all_cons, Bool.and_assoc]
 rw [hf]
 simp only [zob]
 cases hg : (vName r.1 && vName r.2.2.2.2.2 && tY r.2.2.1 && (!r.2.1 || r.2.2.1 == 0) && r.2.2.2.1.all (fun x => vName x.2)) with
 | false => rfl
 | true =>
  simp only [Bool.not_true, zbf, if_false, if_true]
  refine zR5 (B := zHD r) r.2.2.2.1 hr (fun i x y hx hy => ?_) (fun k hk => ?_)
  ·unfold zHD
   have e1 : zQ (((i + 1 : Nat) : Int) - 1) = (i : Int) := by have := vH hy; rw [uM (by omega) (by omega)]; omega
   simp only [wW hy, if_true, wU hy, e1, wU hx, zob, zPo, wV hy hr]
   split <;> rfl
  ·unfold zHD
   have : decide ((k : Int) < len r.2.2.2.1) = false := by simp [len]; omega
   simp only [this, zbf, if_false]
theorem zQi {α : Type} (q : α → Bool) (l : List α) : (if l.any q then zUU q l else -1) = zUU q l := by unfold zUU; split <;> rfl
theorem zUZ (b : zR) (nm : vD) (h : b.2.1.length < 4294967296) : zJ3 b nm = some (zJu b nm) := by
 have := zNM (B := zHI b nm) (fun r : wK => r.1 == nm) b.2.1 (-1 : Int) (fun i => i) (fun i x hx => by
  unfold zHI
  simp only [wW hx, if_true, wU hx, zob, wV hx h]
  split <;> rfl) (by unfold zHI; simp only [yE, zbf, if_false])
 rw [zQi] at this
 exact this
theorem zTl (b : zR) (x : zM) (h : b.1.length < 4294967296) : zJE b x = some (zPj b x) := by
 have := zNM (B := zFL b x) (fun r : vM => r.1 == x) b.1 (-1 : Int) (fun i => i) (fun i x hx => by
  unfold zFL
  simp only [wW hx, if_true, wU hx, zob, wV hx h]
  split <;> rfl) (by unfold zFL; simp only [yE, zbf, if_false])
 rw [zQi] at this
 exact this
theorem zXW (b : zR) (nm : vD) (h : b.2.1.length < 4294967296) : zFe b nm = some (zJu b nm) := by
 have := zNM (B := zAK b.2.1 nm) (fun r : wK => r.1 == nm) b.2.1 (-1 : Int) (fun i => i) (fun i x hx => by
  unfold zAK zHn
  simp only [wW hx, if_true, wU hx, zob, wV hx h]
  split <;> rfl) (by unfold zAK; simp only [yE, zbf, if_false])
 rw [zQi] at this
 unfold zFe zAh
 rw [this]
 rfl
theorem zVI (b : zR) (x : zM) (h : b.1.length < 4294967296) : zF1 b x = some (zPj b x) := by
 have := zNM (B := zAE b.1 x) (fun r : vM => r.1 == x) b.1 (-1 : Int) (fun i => i) (fun i x hx => by
  unfold zAE zGM
  simp only [wW hx, if_true, wU hx, zob, wV hx h]
  split <;> rfl) (by unfold zAE; simp only [yE, zbf, if_false])
 rw [zQi] at this
 unfold zF1 zAV
 rw [this]
 rfl
theorem zSf {b : zR} {nm : vD} (h : ¬ zJu b nm < 0) : ∃ r, zG b.2.1 (zJu b nm) = some r := by
 obtain ⟨k, x, h1, h2, _⟩ := zTd (q := fun r : wK => r.1 == nm) (l := b.2.1) (by unfold zJu at h; omega)
 exact ⟨x, by rw [zJu, h1]; exact wU h2⟩
theorem zSV (b : zR) (p : yV) (h : b.2.1.length < 4294967296) : zD9 b p = some (zOT b p) := by
 unfold zD9 zOT zB7
 simp only [zJx, zXW b p.1 h, zob, tY]
 by_cases hr : (decide (0 ≤ p.2.1) && decide (p.2.1 ≤ 9)) = true
 ·simp only [hr, Bool.true_and, Bool.not_true, zbf, if_false]
  cases hv : vName p.2.2.2 with
  | false => rfl
  | true =>
   simp only [Bool.not_true, zbf, if_false, zob, if_true]
   by_cases hn : zJu b p.1 < 0
   ·simp [hn]
   ·obtain ⟨r, hr2⟩ := zSf hn
    simp only [hn, decide_false, zbf, if_false, hr2, zob]
    split <;> rfl
 ·rw [Bool.not_eq_true] at hr
  simp only [hr, Bool.false_and, Bool.not_false, if_true, zob, zbf, if_false]
structure Cnt (b : zR) : Prop where
 p : b.1.length < 4294967296
 r : b.2.1.length < 4294967296
 m : b.2.2.length < 4294967296
 q : ∀ r ∈ b.2.1, r.2.2.2.1.length < 4294967296
structure zVh (b : zR) : Prop where
 p : b.1.length < 4294967296
 r : b.2.1.length < 4294967296
 m : b.2.2.length < 4294967296
theorem Cnt.c3 {b : zR} (h : Cnt b) : zVh b := ⟨h.p, h.r, h.m⟩
theorem zNW {b : zR} (h : zVh b) : zEp b = some (zJM b) := by
 unfold zEp zJM
 have h0 : (decide (16 < len b.1) || (decide (24 < len b.2.1) || decide (8 < len b.2.2))) = (decide (16 < b.1.length) || decide (24 < b.2.1.length) || decide (8 < b.2.2.length)) := by
  rw [Bool.eq_iff_iff]; simp [len]; omega
 rw [h0]
 cases hc : (decide (16 < b.1.length) || decide (24 < b.2.1.length) || decide (8 < b.2.2.length)) with
 | true => simp
 | false =>
  simp only [zbf, if_false]
  rw [zKH (B := zEN b) b.1 (fun i p => if tH p != 0 then tH p else if zPj b p.1 < (i : Int) then 5 else 0) (fun e => (.inr e : Unit ⊕ Int)) (.inl ()) (fun i x hx => by
   unfold zEN
   simp only [wW hx, if_true, wU hx, zob, zTt, zTl b x.1 h.p, wV hx h.p]
   cases hp : tH x != 0 with
   | true => simp only [if_true, hp]
   | false =>
    by_cases hq : zPj b x.1 < (i : Int)
    ·simp [hq]
    ·simp [hq]) (by unfold zEN; simp only [yE, zbf, if_false])]
  cases he : tN (fun i p => if tH p != 0 then tH p else if zPj b p.1 < (i : Int) then 5 else 0) 0 b.1 != 0 with
  | true => simp [yO]
  | false =>
   simp only [zbf, if_false, yO, zob]
   rw [zKH (B := zEV b) b.2.1 (fun i r => if xP r != 0 then xP r else if zJu b r.1 < (i : Int) then 5 else 0) (fun e => (.inr e : Unit ⊕ Int)) (.inl ()) (fun i x hx => by
    unfold zEV
    simp only [wW hx, if_true, wU hx, zob, zY3 x, zUZ b x.1 h.r, wV hx h.r]
    cases hp : xP x != 0 with
    | true => simp only [if_true, hp]
    | false =>
     by_cases hq : zJu b x.1 < (i : Int)
     ·simp [hq]
     ·simp [hq]) (by unfold zEV; simp only [yE, zbf, if_false])]
   cases he2 : tN (fun i r => if xP r != 0 then xP r else if zJu b r.1 < (i : Int) then 5 else 0) 0 b.2.1 != 0 with
   | true => simp
   | false =>
    simp only [zbf, if_false, zob]
    rw [zKH (B := zET b) b.2.2 (fun _ p => zOT b p) (fun e => e) 0 (fun i x hx => by
     unfold zET zOT zFc
     simp only [wW hx, if_true, wU hx, zob, zKA, zUZ b x.1 h.r, wV hx h.m, tY]
     by_cases hr : (decide (0 ≤ x.2.1) && decide (x.2.1 ≤ 9)) = true
     ·simp only [hr, Bool.true_and, Bool.not_true, zbf, if_false]
      cases hv : vName x.2.2.2 with
      | false => rfl
      | true =>
       simp only [Bool.not_true, zbf, if_false, zob, if_true]
       by_cases hn : zJu b x.1 < 0
       ·simp [hn]
       ·obtain ⟨r, hr2⟩ := zSf hn
        simp only [hn, decide_false, zbf, if_false, hr2, zob]
        cases r.2.1 <;> simp
     ·rw [Bool.not_eq_true] at hr
      simp only [hr, Bool.false_and, Bool.not_false, if_true, zob, zbf, if_false]
      rfl) (by unfold zET; simp only [yE, zbf, if_false])]
    cases hz : tN (fun _ p => zOT b p) 0 b.2.2 != 0 with
    | true => simp
    | false => simp only [zbf, if_false]; congr 1; exact (by simpa using hz : _ = (0 : Int)).symm
theorem zOH {b : zR} (h : zVh b) : zCZ b = some (zJM b) := by
 unfold zCZ zJM
 have h0 : (decide (16 < len b.1) || (decide (24 < len b.2.1) || decide (8 < len b.2.2))) = (decide (16 < b.1.length) || decide (24 < b.2.1.length) || decide (8 < b.2.2.length)) := by
  rw [Bool.eq_iff_iff]; simp [len]; omega
 rw [h0]
 cases hc : (decide (16 < b.1.length) || decide (24 < b.2.1.length) || decide (8 < b.2.2.length)) with
 | true => simp
 | false =>
  simp only [zbf, if_false]
  rw [zKH (B := zCg b) b.1 (fun i p => if tH p != 0 then tH p else if zPj b p.1 < (i : Int) then 5 else 0) (fun e => (.inr e : Unit ⊕ Int)) (.inl ()) (fun i x hx => by
   unfold zCg
   simp only [wW hx, if_true, wU hx, zob, zVE, zVI b x.1 h.p, wV hx h.p]
   cases hp : tH x != 0 with
   | true => simp only [if_true, hp]
   | false =>
    by_cases hq : zPj b x.1 < (i : Int)
    ·simp [hq]
    ·simp [hq]) (by unfold zCg; simp only [yE, zbf, if_false])]
  cases he : tN (fun i p => if tH p != 0 then tH p else if zPj b p.1 < (i : Int) then 5 else 0) 0 b.1 != 0 with
  | true => simp [yO]
  | false =>
   simp only [zbf, if_false, yO, zob]
   rw [zKH (B := zCf b) b.2.1 (fun i r => if xP r != 0 then xP r else if zJu b r.1 < (i : Int) then 5 else 0) (fun e => (.inr e : Unit ⊕ Int)) (.inl ()) (fun i x hx => by
    unfold zCf
    simp only [wW hx, if_true, wU hx, zob, zZE x, zXW b x.1 h.r, wV hx h.r]
    cases hp : xP x != 0 with
    | true => simp only [if_true, hp]
    | false =>
     by_cases hq : zJu b x.1 < (i : Int)
     ·simp [hq]
     ·simp [hq]) (by unfold zCf; simp only [yE, zbf, if_false])]
   cases he2 : tN (fun i r => if xP r != 0 then xP r else if zJu b r.1 < (i : Int) then 5 else 0) 0 b.2.1 != 0 with
   | true => simp
   | false =>
    simp only [zbf, if_false, zob]
    rw [zKH (B := zCb b) b.2.2 (fun _ p => zOT b p) (fun e => e) 0 (fun i x hx => by
     unfold zCb
     simp only [wW hx, if_true, wU hx, zob, zSV b x h.r, wV hx h.m]
     split <;> rfl) (by unfold zCb; simp only [yE, zbf, if_false])]
    cases hz : tN (fun _ p => zOT b p) 0 b.2.2 != 0 with
    | true => simp
    | false => simp only [zbf, if_false]; congr 1; exact (by simpa using hz : _ = (0 : Int)).symm
theorem zR8 {b : zR} (h : Cnt b) : zEp b = some (zJM b) := zNW h.c3
theorem zTJ {b : zR} (h : Cnt b) : zCZ b = some (zJM b) := zOH h.c3
structure zIU (b : zR) : Prop where
 np : b.1.length ≤ 16
 nr : b.2.1.length ≤ 24
 nm : b.2.2.length ≤ 8
 prem : ∀ p ∈ b.1, tH p = 0
 rule : ∀ r ∈ b.2.1, xP r = 0
 dp : ∀ (i j : Nat) p q, b.1[i]? = some p → b.1[j]? = some q → p.1 = q.1 → i = j
 dr : ∀ (i j : Nat) p q, b.2.1[i]? = some p → b.2.1[j]? = some q → p.1 = q.1 → i = j
 prom : ∀ p ∈ b.2.2, zOT b p = 0
theorem zQX {α β : Type} [BEq β] [LawfulBEq β] (g : α → β) (l : List α) : (∀ (i : Nat) p, l[i]? = some p → ¬ zUU (fun x => g x == g p) l < (i : Int)) ↔ ∀ (i j : Nat) p q, l[i]? = some p → l[j]? = some q → g p = g q → i = j := by
 constructor
 ·intro h i j p q hp hq e
  have h1 := h i p hp
  have h2 := h j q hq
  have h3 := (zQc (q := fun x => g x == g p) hq (by simp [e])).2
  have h4 := (zQc (q := fun x => g x == g q) hp (by simp [e])).2
  rw [e] at h1 h3
  omega
 ·intro h i p hp hlt
  have h1 := zQc (q := fun x => g x == g p) hp (by simp)
  obtain ⟨k, x, e1, e2, e3, _⟩ := zTd h1.1
  have := h k i x p e2 hp (by simpa using e3)
  omega
theorem zHr {b : zR} : zJM b = 0 ↔ zIU b := by
 have hcnd : ∀ (a c : Int) (p : Prop) [Decidable p], (if a != 0 then a else if p then 5 else 0) = (0 : Int) ↔ a = 0 ∧ ¬ p := fun a c p _ => by
  by_cases ha : a = 0
  ·by_cases hp : p <;> simp [ha, hp]
  ·simp [ha]
 have h1 : tN (fun i p => if tH p != 0 then tH p else if zPj b p.1 < (i : Int) then 5 else 0) 0 b.1 = 0 ↔ (∀ p ∈ b.1, tH p = 0) ∧ ∀ (i j : Nat) p q, b.1[i]? = some p → b.1[j]? = some q → p.1 = q.1 → i = j := by
  rw [zOp, ← zQX (fun p : vM => p.1)]
  simp only [Nat.zero_add, hcnd _ 0]
  exact ⟨fun h => ⟨fun p hp => by obtain ⟨i, hi⟩ := List.mem_iff_getElem?.1 hp; exact (h i p hi).1, fun i p hp => (h i p hp).2⟩, fun h i p hp => ⟨h.1 p (yA hp), h.2 i p hp⟩⟩
 have h2 : tN (fun i r => if xP r != 0 then xP r else if zJu b r.1 < (i : Int) then 5 else 0) 0 b.2.1 = 0 ↔ (∀ p ∈ b.2.1, xP p = 0) ∧ ∀ (i j : Nat) p q, b.2.1[i]? = some p → b.2.1[j]? = some q → p.1 = q.1 → i = j := by
  rw [zOp, ← zQX (fun p : wK => p.1)]
  simp only [Nat.zero_add, hcnd _ 0]
  exact ⟨fun h => ⟨fun p hp => by obtain ⟨i, hi⟩ := List.mem_iff_getElem?.1 hp; exact (h i p hi).1, fun i p hp => (h i p hp).2⟩, fun h i p hp => ⟨h.1 p (yA hp), h.2 i p hp⟩⟩
 have h3 : tN (fun _ p => zOT b p) 0 b.2.2 = 0 ↔ ∀ p ∈ b.2.2, zOT b p = 0 := by
  rw [zOp]
  exact ⟨fun h p hp => by obtain ⟨i, hi⟩ := List.mem_iff_getElem?.1 hp; exact h i p hi, fun h i p hp => h p (yA hp)⟩
 unfold zJM
 cases hc : (decide (16 < b.1.length) || decide (24 < b.2.1.length) || decide (8 < b.2.2.length)) with
 | true =>
  simp only [if_true]
  refine ⟨fun h => (by cases h), fun h => ?_⟩
  simp at hc
  have := h.np; have := h.nr; have := h.nm
  omega
 | false =>
  simp at hc
  simp only [zbf, if_false]
  constructor
  ·intro h
   have e1 : tN (fun i p => if tH p != 0 then tH p else if zPj b p.1 < (i : Int) then 5 else 0) 0 b.1 = 0 := by
    refine Decidable.byContradiction fun hn => ?_
    rw [if_pos (by simpa using hn)] at h
    exact hn h
   rw [if_neg (by rw [e1]; simp)] at h
   have e2 : tN (fun i r => if xP r != 0 then xP r else if zJu b r.1 < (i : Int) then 5 else 0) 0 b.2.1 = 0 := by
    refine Decidable.byContradiction fun hn => ?_
    rw [if_pos (by simpa using hn)] at h
    exact hn h
   rw [if_neg (by rw [e2]; simp)] at h
   exact ⟨by omega, by omega, by omega, (h1.1 e1).1, (h2.1 e2).1, (h1.1 e1).2, (h2.1 e2).2, h3.1 h⟩
  ·intro h
   rw [if_neg (by rw [h1.2 ⟨h.prem, h.dp⟩]; simp), if_neg (by rw [h2.2 ⟨h.rule, h.dr⟩]; simp)]
   exact h3.2 h.prom
end
section
variable {b : zR} {l m : List zL}
structure FormC (b : zR) (l : List zL) : Prop extends FormB b l where
 l41 : l.length ≤ 41
 pr : ∀ (i : Nat) a p, l[i]? = some a → 0 ≤ a.1 → zG b.1 a.1 = some p → a.2.2.2 = p.1 ∧ a.2.2.1 = []
 ru : ∀ (i : Nat) a r, l[i]? = some a → 0 ≤ a.2.1 → zG b.2.1 a.2.1 = some r → a.2.2.2 = r.2.2.2.2 ∧ a.2.2.1.length = r.2.2.2.1.length ∧ ∀ (j : Nat) k y, a.2.2.1[j]? = some k → r.2.2.2.1[j]? = some y → ∃ a', zG l k = some a' ∧ a'.2.2.2 = y
structure zXl (b : zR) (l : List zL) (a : zL) : Prop where
 p : a.1 = -1
 r : ∃ q, zG b.2.1 a.2.1 = some q ∧ a.2.2.2 = q.2.2.2.2 ∧ a.2.2.1.length = q.2.2.2.1.length ∧ a.2.2.1.length ≤ 100 ∧ ∀ (j : Nat) k y, a.2.2.1[j]? = some k → q.2.2.2.1[j]? = some y → ∃ a', zG l k = some a' ∧ a'.2.2.2 = y
theorem zUS {α : Type} {l : List α} {i : Int} {x : α} (h : zG l i = some x) : 0 ≤ i ∧ i < l.length := by
 obtain ⟨n, rfl, hn⟩ := zMW h
 exact ⟨by omega, by have := vH hn; omega⟩
theorem zNx {α : Type} {l m : List α} {i : Int} {x : α} (h : zG l i = some x) : zG (l ++ m) i = some x := by
 obtain ⟨n, rfl, hn⟩ := zMW h
 rw [xI, List.getElem?_append_left (vH hn)]
 exact hn
theorem zIt {α : Type} {l m : List α} {i : Int} (h1 : i < l.length) : zG (l ++ m) i = zG l i := by
 unfold zG
 split
 ·rw [List.getElem?_append_left (by omega)]
 ·rfl
theorem zXl.sub {a : zL} (h : zXl b l a) : ∀ k ∈ a.2.2.1, 0 ≤ k ∧ k < l.length := by
 intro k hk
 obtain ⟨q, _, _, h3, _, h5⟩ := h.r
 obtain ⟨j, hj⟩ := List.mem_iff_getElem?.1 hk
 have hjl := vH hj
 obtain ⟨a', h6, _⟩ := h5 j k _ hj (List.getElem?_eq_getElem (by omega))
 exact zUS h6
theorem zXl.more {a : zL} (h : zXl b l a) : zXl b (l ++ m) a := by
 obtain ⟨q, h1, h2, h3, h4, h5⟩ := h.r
 exact ⟨h.p, q, h1, h2, h3, h4, fun j k y hk hy => by obtain ⟨a', h6, h7⟩ := h5 j k y hk hy; exact ⟨a', zNx h6, h7⟩⟩
theorem FormC.app (h : FormC b l) (hm : ∀ a ∈ m, zXl b l a) (hl : l.length + m.length ≤ 41) : FormC b (l ++ m) := by
 have hlen : (l ++ m).length ≤ 41 := by rw [List.length_append]; exact hl
 have key : ∀ (i : Nat) a, (l ++ m)[i]? = some a → (l[i]? = some a ∧ i < l.length) ∨ (l.length ≤ i ∧ a ∈ m) := fun i a ha => by
  by_cases hi : i < l.length
  ·rw [List.getElem?_append_left hi] at ha; exact .inl ⟨ha, hi⟩
  ·rw [List.getElem?_append_right (by omega)] at ha; exact .inr ⟨by omega, yA ha⟩
 refine ⟨⟨⟨by omega, fun a ha => ?_, fun i a ha k hk => ?_⟩, h.np, h.nr, fun i a ha => ?_⟩, hlen, fun i a p ha h0 hp => ?_, fun i a r ha h0 hr => ?_⟩
 ·rcases List.mem_append.1 ha with ha | ha
  ·exact h.nsub a ha
  ·obtain ⟨q, _, _, _, h4, _⟩ := (hm a ha).r; exact h4
 ·rcases key i a ha with ⟨h1, _⟩ | ⟨h1, h2⟩
  ·exact h.sub i a h1 k hk
  ·have := (hm a h2).sub k hk; omega
 ·rcases key i a ha with ⟨h1, _⟩ | ⟨h1, h2⟩
  ·exact h.kind i a h1
  ·obtain ⟨q, h3, _⟩ := (hm a h2).r
   have := zUS h3
   exact .inr ⟨(hm a h2).p, this⟩
 ·rcases key i a ha with ⟨h1, _⟩ | ⟨h1, h2⟩
  ·exact h.pr i a p h1 h0 hp
  ·rw [(hm a h2).p] at h0; omega
 ·rcases key i a ha with ⟨h1, _⟩ | ⟨h1, h2⟩
  ·obtain ⟨g1, g2, g3⟩ := h.ru i a r h1 h0 hr
   exact ⟨g1, g2, fun j k y hk hy => by obtain ⟨a', h6, h7⟩ := g3 j k y hk hy; exact ⟨a', zNx h6, h7⟩⟩
  ·obtain ⟨q, g1, g2, g3, _, g5⟩ := (hm a h2).r
   rw [hr] at g1
   cases g1
   exact ⟨g2, g3, fun j k y hk hy => by obtain ⟨a', h6, h7⟩ := g5 j k y hk hy; exact ⟨a', zNx h6, h7⟩⟩
theorem zZd (h : FormA l) {i j : Int} (h0 : 0 ≤ i) (h1 : i < l.length) : zJv (l ++ m) i j ↔ zJv l i j := by
 constructor
 ·intro hs
  induction hs with
  | self i => exact .self i
  | step hi hk _ ih =>
   rw [zIt h1] at hi
   have := (h.at hi).2.2.2 _ hk
   exact .step hi hk (ih this.1 (by omega))
 ·intro hs
  clear h0 h1
  induction hs with
  | self i => exact .self i
  | step hi hk _ ih => exact .step (zNx hi) hk ih
theorem zYB (h : FormA l) (h' : FormA (l ++ m)) {i : Int} (h0 : 0 ≤ i) (h1 : i < l.length) : vW (l ++ m) i = vW l i := by
 refine vJ.ext xE (zKB _ i) (zKB _ i) fun j => ?_
 rw [zIR h h0 h1, zIR h' h0 (by rw [List.length_append]; omega), zZd h h0 h1]
theorem zYY (h : FormC b l) (h' : FormC b (l ++ m)) {i : Int} (h0 : 0 ≤ i) (h1 : i < l.length) : uJ b (l ++ m) i = uJ b l i := by
 refine vJ.ext xE (zTc _) (zTc _) fun y => ?_
 rw [zN5 h.toFormB h0 h1, zN5 h'.toFormB h0 (by rw [List.length_append]; omega), zYB h.toFormA h'.toFormA h0 h1]
 refine exists_congr fun j => and_congr_right fun hj => ?_
 have := ((zIR h.toFormA h0 h1 j).1 hj).le h.toFormA h0
 rw [zIt (by omega)]
inductive zLO (b : zR) (l : List zL) : Int → zM → Prop
 | here {i : Int} {a : zL} : zG l i = some a → zLO b l i a.2.2.2
 | step {i k : Int} {a : zL} {r : wK} {y : zM} : zG l i = some a → 0 ≤ a.2.1 → zG b.2.1 a.2.1 = some r → r.2.1 = true → k ∈ a.2.2.1 → zLO b l k y → zLO b l i y
theorem zZJ (h : FormA l) {i : Int} {y : zM} (h0 : 0 ≤ i) (h1 : i < l.length) : zLO b (l ++ m) i y ↔ zLO b l i y := by
 constructor
 ·intro hs
  induction hs with
  | here hi => rw [zIt h1] at hi; exact .here hi
  | step hi hr hq hs hk _ ih =>
   rw [zIt h1] at hi
   have := (h.at hi).2.2.2 _ hk
   exact .step hi hr hq hs hk (ih this.1 (by omega))
 ·intro hs
  clear h0 h1
  induction hs with
  | here hi => exact .here (zNx hi)
  | step hi hr hq hs hk _ ih => exact .step (zNx hi) hr hq hs hk ih
structure zZI (b : zR) (l : List zL) : Prop where
 ref : ∀ i : Int, 0 ≤ i → i < l.length → ∃ r, zHk b l i = some r ∧ r.length < 4294967296 ∧ ∀ y, y ∈ r ↔ zLO b l i y
structure zYz (b : zR) (l : List zL) : Prop where
 arg : ∀ i : Int, 0 ≤ i → i < l.length → ∃ r, zGZ b l i = some r ∧ r.length < 4294967296 ∧ ∀ y, y ∈ r ↔ zLO b l i y
structure zWo (b : zR) (l : List zL) (sz : Int → Nat) : Prop where
 one : ∀ i, 1 ≤ sz i
 big : ∀ i : Int, 0 ≤ i → i < l.length → sz i < 4294967296
 step : ∀ i a r, zG l i = some a → 0 ≤ a.2.1 → zG b.2.1 a.2.1 = some r → r.2.1 = true → 1 + (a.2.2.1.map sz).sum ≤ sz i
theorem zTe (f : Int → Nat) (l : List Int) (q : Nat) : ((l.take q).map f).sum ≤ (l.map f).sum := by
 have h := congrArg (fun x => (x.map f).sum) (List.take_append_drop q l)
 simp only [List.map_append, List.sum_append] at h
 omega
theorem zWB {sz : Int → Nat} (h : FormB b l) (hz : zWo b l sz) : ∀ (n : Nat) (i : Int), 0 ≤ i → i < l.length → i < n → ∃ r, zAc n b l i = some r ∧ r.length ≤ sz i ∧ ∀ y, y ∈ r ↔ zLO b l i y := by
 intro n
 induction n with
 | zero => intro i h0 _ h2; omega
 | succ n ih =>
  intro i h0 h1 h2
  obtain ⟨a, ha⟩ := tS h0 h1
  obtain ⟨hn, _, _, hsub⟩ := h.toFormA.at ha
  have h1z := hz.one i
  show ∃ r, zEM (zAc n) b l i = some r ∧ _
  unfold zEM
  simp only [ha, zob]
  have hone : ∀ (hno : ∀ r, 0 ≤ a.2.1 → zG b.2.1 a.2.1 = some r → r.2.1 = false) y, y ∈ [a.2.2.2] ↔ zLO b l i y := fun hno y => by
   rw [List.mem_singleton]
   constructor
   ·rintro rfl; exact .here ha
   ·intro hr
    cases hr with
    | here h1 => rw [ha] at h1; cases h1; rfl
    | step h1 h2 h3 h4 _ _ => rw [ha] at h1; cases h1; rw [hno _ h2 h3] at h4; cases h4
  by_cases hr : 0 ≤ a.2.1
  ·obtain ⟨r, hr2⟩ := (h.prem ha).2.1 ((h.prem ha).2.2.1 hr)
   simp only [hr, decide_true, if_true, hr2, zob]
   cases hs : r.2.1 with
   | false =>
    exact ⟨_, rfl, by simpa using h1z, hone fun r' _ h3 => by rw [hr2] at h3; cases h3; exact hs⟩
   | true =>
    simp only [if_true]
    have hst := hz.step i a r ha hr hr2 hs
    have hbig := hz.big i h0 h1
    refine (yP (B := zDR l i (zAc n) b) (fun q (s : List zM) => (s, (q : Int))) a.2.2.1 (fun q s => s.length ≤ 1 + ((a.2.2.1.take q).map sz).sum ∧ ∀ y, y ∈ s ↔ y = a.2.2.2 ∨ ∃ k ∈ a.2.2.1.take q, zLO b l k y)
     (fun r => r.length ≤ sz i ∧ ∀ y, y ∈ r ↔ zLO b l i y) (fun q k s hk hI => ?_) (fun s hI => ?_) [a.2.2.2] (by simp))
    ·obtain ⟨g1, g2⟩ := hI
     have hks := hsub k (yA hk)
     obtain ⟨r1, e1, e2, e3⟩ := ih k hks.1 (by omega) (by omega)
     have hq := zTe sz a.2.2.1 (q + 1)
     rw [uL hk, List.map_append, List.sum_append] at hq
     simp only [List.map_cons, List.map_nil, List.sum_cons, List.sum_nil] at hq
     refine .inl ⟨s ++ r1, ?_, ?_, fun y => ?_⟩
     ·unfold zDR
      simp only [ha, zob, wW hk, if_true, wU hk, e1]
      rw [vT (by omega)]
      simp only [zob, wV hk (show a.2.2.1.length < 4294967296 by omega)]
     ·rw [uL hk, List.map_append, List.sum_append, List.length_append]
      simp only [List.map_cons, List.map_nil, List.sum_cons, List.sum_nil]
      omega
     ·rw [List.mem_append, g2, e3, uL hk]
      simp only [List.mem_append, List.mem_singleton, or_and_right, exists_or, exists_eq_left, or_assoc]
    ·obtain ⟨g1, g2⟩ := hI
     rw [List.take_length] at g1 g2
     refine ⟨s, by unfold zDR; simp only [ha, zob, yE, zbf, if_false], by omega, fun y => ?_⟩
     rw [g2]
     constructor
     ·rintro (rfl | ⟨k, h1, h2⟩)
      ·exact .here ha
      ·exact .step ha hr hr2 hs h1 h2
     ·intro hrun
      cases hrun with
      | here h1 => rw [ha] at h1; cases h1; exact .inl rfl
      | step h1 _ _ _ h5 h6 => rw [ha] at h1; cases h1; exact .inr ⟨_, h5, h6⟩
  ·simp only [hr, decide_false, zbf, if_false, zob]
   exact ⟨_, rfl, by simpa using h1z, hone fun r' h2 _ => absurd h2 hr⟩
theorem zRx {n n' : Nat} (b : zR) (l : List zL) : n ≤ n' → ∀ i r, zAc n b l i = some r → zAc n' b l i = some r := by
 intro hn i r h
 have key : ∀ n n', n ≤ n' → ∀ i r, zAc n b l i = some r → zAc n' b l i = some r := by
  intro n
  induction n with
  | zero => intro n' _ i r h; cases h
  | succ n ih =>
   intro n' hn i r h
   obtain ⟨n', rfl⟩ : ∃ q, n' = q + 1 := ⟨n' - 1, by omega⟩
   have hle : Le (zEM (zAc n) b l i) (zEM (zAc n') b l i) := by
    have hrec : ∀ x, Le (zAc n b l x) (zAc n' b l x) := fun x => ⟨fun r hr => ih n' (by omega) x r hr⟩
    unfold zEM
    refine Le.bind (Le.refl _) fun x1 => Le.bind (Le.refl _) fun s1 => ?_
    refine Le.ite ?_ (Le.refl _)
    refine ⟨fun r hr => ?_⟩
    obtain ⟨q, hq⟩ := zGn hr
    refine (Le.lp (B := zDR l i (zAc n) b) (fun s => ?_) q _).el r hq
    unfold zDR
    refine Le.bind (Le.refl _) fun x5 => ?_
    refine Le.ite ?_ (Le.refl _)
    refine Le.bind (Le.refl _) fun x6 => Le.bind (Le.refl _) fun x7 => Le.bind (hrec _) fun r1 => Le.refl _
   exact hle.el r h
 exact key n n' hn i r h
theorem zWn {sz : Int → Nat} (h : FormB b l) (hz : zWo b l sz) {i : Int} (h0 : 0 ≤ i) (h1 : i < l.length) : ∃ r, zHk b l i = some r ∧ r.length < 4294967296 ∧ ∀ y, y ∈ r ↔ zLO b l i y := by
 obtain ⟨r, e1, e2, e3⟩ := zWB h hz (i.toNat + 1) i h0 h1 (by omega)
 have := hz.big i h0 h1
 exact ⟨r, zLV (i.toNat + 1) fun m hm => zRx b l hm i r e1, by omega, e3⟩
theorem zSD (b : zR) (l : List zL) (_h : FormB b l) : ∀ (n : Nat) (i : Int), zCK n b l i = zAc n b l i := by
 intro n
 induction n with
 | zero => intro i; rfl
 | succ n ih =>
  intro i
  have hrec : zCK n = zCK n := rfl
  show zIB (zCK n) b l i = zEM (zAc n) b l i
  unfold zIB zEM
  cases ha : zG l i with
  | none => rfl
  | some a =>
   simp only [zob]
   congr 1
   funext s1
   split
   ·congr 1
    funext s
    unfold zKO zDR
    simp only [ha, zob, ih]
   ·rfl
theorem zZb (h : FormB b l) (i : Int) : zGZ b l i = zHk b l i := by
 unfold zGZ zHk
 congr 1
 funext k
 exact zSD b l h k i
theorem runsB {sz : Int → Nat} (h : FormB b l) (hz : zWo b l sz) : zZI b l :=
 ⟨fun _ h0 h1 => zWn h hz h0 h1⟩
theorem zYp {sz : Int → Nat} (h : FormB b l) (hz : zWo b l sz) : zYz b l :=
 ⟨fun _ h0 h1 => by rw [zZb h]; exact zWn h hz h0 h1⟩
open Classical in
noncomputable def zX9 (b : zR) (l : List zL) (q : Int) (r : wK) (k : Int) : Bool := if r.2.1 then decide (zLO b l k r.2.2.2.2) else decide (q ∈ uJ b l k)
noncomputable def xZ (b : zR) (l : List zL) (q : Int) (r : wK) (subs : List Int) : Bool := !subs.any (zX9 b l q r)
theorem zJz (h : FormC b l) (h' : FormC b (l ++ m)) {q : Int} {r : wK} {subs : List Int} (hs : ∀ k ∈ subs, 0 ≤ k ∧ k < l.length) : xZ b (l ++ m) q r subs = xZ b l q r subs := by
 unfold xZ
 congr 1
 rw [Bool.eq_iff_iff, List.any_eq_true, List.any_eq_true]
 refine exists_congr fun k => and_congr_right fun hk => ?_
 have := hs k hk
 unfold zX9
 rw [zYY h h' this.1 this.2]
 split
 ·simp only [decide_eq_true_eq]; exact zZJ h.toFormA this.1 this.2
 ·exact Iff.rfl
theorem ref_in (m : List Int) (x : Int) (hb : m.length < 4294967296) : zLw m x = some (decide (x ∈ m)) := by
 have h := zKY (B := zIk m x) m (fun y => y == x) (fun i y hy => by
  unfold zIk
  simp only [wW hy, if_true, wU hy, zob, wV hy hb]
  split <;> rfl) (by unfold zIk; simp only [yE, zbf, if_false])
 refine h.trans ?_
 congr 1
 rw [Bool.eq_iff_iff]
 simp
theorem zVU (h : FormC b l) (hr : zZI b l) {q : Int} {r : wK} {subs : List Int} (hq : zG b.2.1 q = some r) (hs : ∀ k ∈ subs, 0 ≤ k ∧ k < l.length) (hn : subs.length < 4294967296) : zFE b l q subs = some (xZ b l q r subs) := by
 have hl := h.len
 unfold zFE
 simp only [hq, zob]
 have hL := zNQ (B := zFw subs r b l q) subs (zX9 b l q r) false true (fun i k hk => ?_) (by unfold zFw; simp only [yE, zbf, if_false])
 ·rw [hL]
  unfold xZ
  cases subs.any (zX9 b l q r) <;> rfl
 ·have hks := hs k (yA hk)
  unfold zFw
  simp only [wW hk, if_true, wU hk, zob, wV hk hn]
  unfold zX9
  cases hst : r.2.1 with
  | true =>
   obtain ⟨ru, e1, e2, e3⟩ := hr.ref k hks.1 hks.2
   simp only [if_true, e1, zob, zVo r.2.2.2.2 (show ru.length < 9223372036854775807 by omega), Bool.not_true, zbf, if_false]
   by_cases hm : zLO b l k r.2.2.2.2
   ·simp [(e3 _).2 hm, hm]
   ·have : ¬ r.2.2.2.2 ∈ ru := fun hc => hm ((e3 _).1 hc)
    simp [this, hm]
  | false =>
   have hd := zIK b l k
   simp only [zbf, if_false, Bool.not_false, if_true, zMX h.toFormB hks.1 hks.2, zob, ref_in (uJ b l k) q (by omega)]
   by_cases hm : q ∈ uJ b l k <;> simp [hm]
theorem zVd (h : FormC b l) (hr : zYz b l) {q : Int} {r : wK} {subs : List Int} (hq : zG b.2.1 q = some r) (hs : ∀ k ∈ subs, 0 ≤ k ∧ k < l.length) (hn : subs.length < 4294967296) : zFv b l q subs = some (xZ b l q r subs) := by
 have hl := h.len
 unfold zFv
 have hL := zNQ (B := zD8 subs b q l) subs (zX9 b l q r) false true (fun i k hk => ?_) (by unfold zD8; simp only [yE, zbf, if_false])
 ·rw [hL]
  unfold xZ
  cases subs.any (zX9 b l q r) <;> rfl
 ·have hks := hs k (yA hk)
  unfold zD8
  simp only [wW hk, if_true, wU hk, zob, wV hk hn, hq]
  unfold zX9
  cases hst : r.2.1 with
  | true =>
   obtain ⟨ru, e1, e2, e3⟩ := hr.arg k hks.1 hks.2
   simp only [if_true, e1, zob, zQo r.2.2.2.2 (show ru.length < 9223372036854775807 by omega)]
   by_cases hm : zLO b l k r.2.2.2.2
   ·simp [(e3 _).2 hm, hm]
   ·have : ¬ r.2.2.2.2 ∈ ru := fun hc => hm ((e3 _).1 hc)
    simp [this, hm]
  | false =>
   have hd := zIK b l k
   simp only [zbf, if_false, zMV h.toFormB hks.1 hks.2, zob, zLR (uJ b l k) q (by omega)]
   by_cases hm : q ∈ uJ b l k <;> simp [hm]
def xS (l : List zL) (n : Nat) : List zM → List Int → List (List Int)
 | [], sofar => [sofar]
 | y :: ys, sofar => (wE n).flatMap fun i => match zG l i with
  | some a => if a.2.2.2 == y then xS l n ys (sofar ++ [i]) else []
  | none => []
theorem zQf (l : List zL) (n : Nat) : ∀ (ys : List zM) (sofar : List Int), (xS l n ys sofar).length ≤ n ^ ys.length
 | [], sofar => by simp [xS]
 | y :: ys, sofar => by
  have := zJP (fun i => match zG l i with | some a => if a.2.2.2 == y then xS l n ys (sofar ++ [i]) else [] | none => []) (n ^ ys.length) (wE n) (fun i _ => by
   split
   ·split
    ·exact zQf l n ys _
    ·simp
   ·simp)
  rw [yX] at this
  simp only [xS, List.length_cons, Nat.pow_succ]
  rw [Nat.mul_comm]; exact this
theorem zMc (l : List zL) (n : Nat) : ∀ (ys : List zM) (sofar s : List Int), s ∈ xS l n ys sofar ↔ ∃ t, s = sofar ++ t ∧ t.length = ys.length ∧ ∀ (j : Nat) k y, t[j]? = some k → ys[j]? = some y → 0 ≤ k ∧ k < n ∧ ∃ a, zG l k = some a ∧ a.2.2.2 = y
 | [], sofar, s => by
  simp only [xS, List.mem_singleton]
  constructor
  ·rintro rfl; exact ⟨[], by simp, rfl, fun j k y h _ => by simp at h⟩
  ·rintro ⟨t, rfl, h2, _⟩; have := List.eq_nil_of_length_eq_zero h2; subst this; simp
 | y :: ys, sofar, s => by
  simp only [xS, List.mem_flatMap, uF]
  constructor
  ·rintro ⟨i, hi, hs⟩
   split at hs
   ·rename_i a ha
    split at hs
    ·rename_i hc
     obtain ⟨t, h1, h2, h3⟩ := (zMc l n ys _ s).1 hs
     refine ⟨i :: t, by rw [h1]; simp, by simp [h2], fun j k z hk hz => ?_⟩
     cases j with
     | zero =>
      simp at hk hz
      subst hk hz
      exact ⟨hi.1, hi.2, a, ha, by simpa using hc⟩
     | succ j => exact h3 j k z (by simpa using hk) (by simpa using hz)
    ·cases hs
   ·cases hs
  ·rintro ⟨t, h1, h2, h3⟩
   cases t with
   | nil => simp at h2
   | cons i t =>
    obtain ⟨i0, i1, a, ha, hay⟩ := h3 0 i y rfl rfl
    refine ⟨i, ⟨i0, i1⟩, ?_⟩
    simp only [ha]
    rw [if_pos (by simp [hay])]
    exact (zMc l n ys _ s).2 ⟨t, by rw [h1]; simp, by simpa using h2, fun j k z hk hz => h3 (j + 1) k z (by simpa using hk) (by simpa using hz)⟩
theorem zRT {k : Nat} (hl : l.length ≤ 100) {n : Nat} (hn : n ≤ l.length) (body : List zM) (hb : body.length ≤ 4) : ∀ (ys : List zM) (sofar : List Int), ys = body.drop sofar.length → sofar.length ≤ body.length → ys.length < k → zB8 k l (n : Int) body sofar = some (xS l n ys sofar) := by
 induction k with
 | zero => intro ys _ _ _ h; omega
 | succ k ih =>
  intro ys sofar hys hle hk
  show zFx (zB8 k) l n body sofar = _
  unfold zFx
  have hyl : ys.length = body.length - sofar.length := by rw [hys, List.length_drop]
  cases ys with
  | nil =>
   have : (len sofar == len body) = true := by simp [len] at hyl ⊢; omega
   simp only [this, if_true]
   rw [vT (by simp; omega)]
   rfl
  | cons y ys =>
   have hlt : sofar.length < body.length := by simp at hyl; omega
   have : (len sofar == len body) = false := by rw [beq_eq_false_iff_ne]; simp [len]; omega
   simp only [this, zbf, if_false]
   have hy : body[sofar.length]? = some y := by
    have := congrArg (·[0]?) hys
    simp only [List.getElem?_cons_zero, List.getElem?_drop, Nat.add_zero] at this
    exact this.symm
   have hys2 : ys = body.drop (sofar.length + 1) := by
    have := congrArg List.tail hys
    simpa [List.tail_drop] using this
   have hpow : n ^ ys.length ≤ 1000000 := by
    have h1 : ys.length ≤ 3 := by simp at hyl; omega
    calc n ^ ys.length ≤ 100 ^ ys.length := Nat.pow_le_pow_left (by omega) _
     _ ≤ 100 ^ 3 := Nat.pow_le_pow_right (by omega) h1
   refine (zGW (B := zD6 n l body sofar (zB8 k)) (wE n) (fun i => match zG l i with | some a => if a.2.2.2 == y then xS l n ys (sofar ++ [i]) else [] | none => []) (fun s => s) 1000000 (fun i _ => by
    split
    ·split
     ·exact Nat.le_trans (zQf l n ys _) hpow
     ·simp
    ·simp) [] (fun q i s hi hs => ?_) (fun s => ?_))
   ·obtain ⟨rfl, hq⟩ := zHS hi
    obtain ⟨a, ha⟩ := tS (l := l) (show (0 : Int) ≤ q by omega) (by omega)
    have hd : decide ((q : Int) < (n : Int)) = true := by simp; omega
    have hw : zQ ((q : Int) + 1) = ((q + 1 : Nat) : Int) := vY q (by omega)
    unfold zD6
    simp only [hd, if_true, ha, zob, show zG body (len sofar) = some y from by rw [show len sofar = ((sofar.length : Nat) : Int) from rfl, xI]; exact hy]
    cases hc : a.2.2.2 == y with
    | false => simp only [zbf, if_false, List.append_nil, hw]
    | true =>
     simp only [if_true]
     rw [zK6 (by simp [len]) (by simp [len])]
     simp only [zob, len, Int.toNat_natCast, List.take_length]
     rw [vT (by simp; omega)]
     simp only [zob]
     have hcl := Nat.le_trans (zQf l n ys (sofar ++ [(q : Int)])) hpow
     rw [ih ys (sofar ++ [(q : Int)]) (by simpa using hys2) (by simp; omega) (by simp at hk; omega)]
     simp only [zob]
     simp only [List.length_nil] at hs
     rw [vT (by omega)]
     simp only [zob, hw]
   ·unfold zD6
    have hd : decide (((wE n).length : Int) < (n : Int)) = false := by rw [yX]; simp
    simp only [hd, zbf, if_false]
theorem zTU (hl : l.length ≤ 100) {n : Nat} (hn : n ≤ l.length) (body : List zM) (hb : body.length ≤ 4) : zHo l (n : Int) body [] = some (xS l n body []) :=
 zLV 5 fun k hk => zRT hl hn body hb body [] (by simp) (by simp) (by omega)
theorem zXH {n : Nat} (hn : n ≤ l.length) : ∀ (ys : List zM) (sofar : List Int), xS (l ++ m) n ys sofar = xS l n ys sofar
 | [], _ => rfl
 | y :: ys, sofar => by
  simp only [xS]
  have key : ∀ is : List Int, (∀ i ∈ is, 0 ≤ i ∧ i < n) → is.flatMap (fun i => match zG (l ++ m) i with | some a => if a.2.2.2 == y then xS (l ++ m) n ys (sofar ++ [i]) else [] | none => []) = is.flatMap (fun i => match zG l i with | some a => if a.2.2.2 == y then xS l n ys (sofar ++ [i]) else [] | none => []) := by
   intro is
   induction is with
   | nil => intro _; rfl
   | cons i is ih =>
    intro h
    have h1 := h i List.mem_cons_self
    rw [List.flatMap_cons, List.flatMap_cons, ih fun j hj => h j (List.mem_cons_of_mem _ hj), zIt (by omega)]
    congr 1
    split
    ·split
     ·exact zXH hn ys _
     ·rfl
    ·rfl
  exact key _ fun i hi => uF.1 hi
theorem zUy (subs : List Int) (f : Int) (h : subs.length < 4294967296) : zJp subs f = some (subs.any fun k => decide (f ≤ k)) :=
 zKY (B := zGG subs f) subs (fun k => decide (f ≤ k)) (fun i k hk => by
  unfold zGG
  simp only [wW hk, if_true, wU hk, zob, wV hk h]
  split <;> rfl) (by unfold zGG; simp only [yE, zbf, if_false])
end
section
variable {b : zR} {l m : List zL}
structure uP (b : zR) (l : List zL) : Prop extends FormC b l where
 cut : ∀ (i : Nat) a r, l[i]? = some a → 0 ≤ a.2.1 → zG b.2.1 a.2.1 = some r → xZ b l a.2.1 r a.2.2.1 = true
structure zKj (b : zR) (D : List zM) (c : Nat) : Prop where
 valid : zIU b
 rule : ∀ r ∈ b.2.1, r.2.2.2.2 ∈ D ∧ r.2.2.2.1.length ≤ c
 sz : (c + 1) ^ D.length < 4294967296
theorem zNc {r : wK} (h : xP r = 0) : r.2.2.2.1.length ≤ 4 := by
 unfold xP at h
 split at h
 ·cases h
 ·omega
theorem zKj.body {D : List zM} {c : Nat} (h : zKj b D c) {q : Int} {r : wK} (hq : zG b.2.1 q = some r) : r.2.2.2.1.length ≤ 4 := by
 obtain ⟨n, rfl, hn⟩ := zMW hq
 exact zNc (h.valid.rule r (yA hn))
theorem FormC.ruI (h : FormC b l) {i : Int} {a : zL} (ha : zG l i = some a) {r : wK} (h0 : 0 ≤ a.2.1) (hr : zG b.2.1 a.2.1 = some r) : a.2.2.2 = r.2.2.2.2 ∧ a.2.2.1.length = r.2.2.2.1.length ∧ ∀ (j : Nat) k y, a.2.2.1[j]? = some k → r.2.2.2.1[j]? = some y → ∃ a', zG l k = some a' ∧ a'.2.2.2 = y := by
 obtain ⟨n, rfl, hn⟩ := zMW ha
 exact h.ru n a r hn h0 hr
theorem uP.cutI (h : uP b l) {i : Int} {a : zL} (ha : zG l i = some a) {r : wK} (h0 : 0 ≤ a.2.1) (hr : zG b.2.1 a.2.1 = some r) : xZ b l a.2.1 r a.2.2.1 = true := by
 obtain ⟨n, rfl, hn⟩ := zMW ha
 exact h.cut n a r hn h0 hr
theorem zUK {α : Type} {p q : α → Bool} : ∀ (D : List α), (∀ x, p x = true → q x = true) → ∀ x ∈ D, q x = true → p x = false → (D.filter p).length < (D.filter q).length
 | [], _, x, hx, _, _ => by cases hx
 | d :: D, h, x, hx, h1, h2 => by
  have hle : (D.filter p).length ≤ (D.filter q).length := by
   rw [← List.countP_eq_length_filter, ← List.countP_eq_length_filter]
   exact List.countP_mono_left fun y _ => h y
  rcases List.mem_cons.1 hx with rfl | hx
  ·rw [List.filter_cons_of_neg (by simp [h2]), List.filter_cons_of_pos h1, List.length_cons]
   omega
  ·have ih := zUK D h x hx h1 h2
   rw [List.filter_cons, List.filter_cons]
   cases hp : p d with
   | true => simp [h d hp]; omega
   | false => cases hq : q d <;> simp <;> omega
theorem zSo (f : Int → Nat) (c : Nat) : ∀ (l : List Int), (∀ k ∈ l, f k ≤ c) → (l.map f).sum ≤ l.length * c
 | [], _ => by simp
 | k :: l, h => by
  have h1 := h k List.mem_cons_self
  have h2 := zSo f c l fun j hj => h j (List.mem_cons_of_mem _ hj)
  simp only [List.map_cons, List.sum_cons, List.length_cons, Nat.add_mul, Nat.one_mul]
  omega
open Classical in
noncomputable def zYd (b : zR) (l : List zL) (D : List zM) (i : Int) : Nat := (D.filter fun y => decide (zLO b l i y)).length
open Classical in
theorem runSz {D : List zM} {c : Nat} (hs : zKj b D c) (h : uP b l) : zWo b l fun i => (c + 1) ^ zYd b l D i := by
 refine ⟨fun i => Nat.pow_pos (by omega), fun i _ _ => ?_, fun i a r ha h0 hr hst => ?_⟩
 ·refine Nat.lt_of_le_of_lt (Nat.pow_le_pow_right (by omega) ?_) hs.sz
  exact List.length_filter_le _ _
 ·have hcut := h.cutI ha h0 hr
  obtain ⟨g1, g2, _⟩ := h.toFormC.ruI ha h0 hr
  obtain ⟨n, hn1, hn2⟩ := zMW hr
  obtain ⟨hD, hc⟩ := hs.rule r (yA hn2)
  have hlt : ∀ k ∈ a.2.2.1, zYd b l D k < zYd b l D i := fun k hk => by
   refine zUK D (fun y hy => ?_) r.2.2.2.2 hD ?_ ?_
   ·exact decide_eq_true (zLO.step ha h0 hr hst hk (of_decide_eq_true hy))
   ·exact decide_eq_true (by have := zLO.here (b := b) ha; rwa [g1] at this)
   ·unfold xZ at hcut
    have hc2 : (a.2.2.1.any (zX9 b l a.2.1 r)) = false := by simpa using hcut
    have := List.any_eq_false.1 hc2 k hk
    simpa [zX9, hst] using this
  cases hv : a.2.2.1 with
  | nil =>
   have := Nat.pow_pos (n := zYd b l D i) (show 0 < c + 1 by omega)
   simp only [List.map_nil, List.sum_nil]
   omega
  | cons k ks =>
   rw [← hv]
   have hpos : 0 < zYd b l D i := by have := hlt k (by rw [hv]; exact List.mem_cons_self); omega
   obtain ⟨u, hu⟩ : ∃ u, zYd b l D i = u + 1 := ⟨zYd b l D i - 1, by omega⟩
   have hsum := zSo (fun k => (c + 1) ^ zYd b l D k) ((c + 1) ^ u) a.2.2.1 fun k hk => Nat.pow_le_pow_right (by omega) (by have := hlt k hk; omega)
   have h3 : a.2.2.1.length * (c + 1) ^ u ≤ c * (c + 1) ^ u := Nat.mul_le_mul_right _ (by rw [g2]; exact hc)
   have h4 : 0 < (c + 1) ^ u := Nat.pow_pos (by omega)
   rw [hu, Nat.pow_succ, Nat.mul_add, Nat.mul_one, Nat.mul_comm ((c + 1) ^ u) c]
   omega
theorem uP.runs {D : List zM} {c : Nat} (h : uP b l) (hs : zKj b D c) : zZI b l := runsB h.toFormB (runSz hs h)
theorem uP.app (h : uP b l) (hm : ∀ a ∈ m, zXl b l a ∧ ∀ r, zG b.2.1 a.2.1 = some r → xZ b l a.2.1 r a.2.2.1 = true) (hl : l.length + m.length ≤ 41) : uP b (l ++ m) := by
 have h' := h.toFormC.app (fun a ha => (hm a ha).1) hl
 refine ⟨h', fun i a r ha h0 hr => ?_⟩
 by_cases hi : i < l.length
 ·rw [List.getElem?_append_left hi] at ha
  rw [zJz h.toFormC h' fun k hk => by have := h.sub i a ha k hk; omega]
  exact h.cut i a r ha h0 hr
 ·rw [List.getElem?_append_right (by omega)] at ha
  obtain ⟨g1, g2⟩ := hm a (yA ha)
  rw [zJz h.toFormC h' g1.sub]
  exact g2 r hr
def zNO (f : Int) (first : Bool) (s : List Int) : Bool := s.any (fun k => decide (f ≤ k)) || (first && s.isEmpty)
noncomputable def zGs (b : zR) (l : List zL) (f : Int) (first : Bool) (q : Int) : List zL :=
 match zG b.2.1 q with
 | some r => ((xS l l.length r.2.2.2.1 []).filter fun s => zNO f first s && xZ b l q r s).map fun s => (-1, q, s, r.2.2.2.2)
 | none => []
noncomputable def xC (b : zR) (l : List zL) (f : Int) (first : Bool) : List zL := (wE b.2.1.length).flatMap (zGs b l f first)
noncomputable def zN3 (b : zR) : Nat → List zL → Int → Bool → Option (List zL)
 | 0, _, _, _ => none
 | k + 1, l, f, first =>
  if 40 < (l ++ xC b l f first).length then none
  else if xC b l f first = [] then some l
  else zN3 b k (l ++ xC b l f first) l.length false
def zMm (b : zR) : List zL := b.1.mapIdx fun i p => ((i : Int), -1, [], p.1)
theorem zUx {f : Int} {first : Bool} {a : zL} : a ∈ xC b l f first ↔ a.1 = -1 ∧ ∃ r, zG b.2.1 a.2.1 = some r ∧ a.2.2.2 = r.2.2.2.2 ∧ zNO f first a.2.2.1 = true ∧ xZ b l a.2.1 r a.2.2.1 = true ∧ a.2.2.1.length = r.2.2.2.1.length ∧ ∀ (j : Nat) k y, a.2.2.1[j]? = some k → r.2.2.2.1[j]? = some y → ∃ a', zG l k = some a' ∧ a'.2.2.2 = y := by
 unfold xC zGs
 simp only [List.mem_flatMap, uF]
 constructor
 ·rintro ⟨q, hq, ha⟩
  cases hr : zG b.2.1 q with
  | none => rw [hr] at ha; cases ha
  | some r =>
   rw [hr] at ha
   obtain ⟨s, hs, rfl⟩ := List.mem_map.1 ha
   obtain ⟨hs1, hs2⟩ := List.mem_filter.1 hs
   rw [Bool.and_eq_true] at hs2
   obtain ⟨t, rfl, ht1, ht2⟩ := (zMc l l.length r.2.2.2.1 [] s).1 hs1
   exact ⟨rfl, r, hr, rfl, hs2.1, hs2.2, ht1, fun j k y hk hy => (ht2 j k y hk hy).2.2⟩
 ·rintro ⟨h1, r, hr, h2, h3, h4, h5, h6⟩
  refine ⟨a.2.1, by have := zUS hr; omega, ?_⟩
  rw [hr]
  refine List.mem_map.2 ⟨a.2.2.1, List.mem_filter.2 ⟨(zMc l l.length r.2.2.2.1 [] _).2 ⟨a.2.2.1, rfl, h5, fun j k y hk hy => ?_⟩, by rw [h3, h4]; rfl⟩, ?_⟩
  ·obtain ⟨a', e1, e2⟩ := h6 j k y hk hy
   have := zUS e1
   exact ⟨this.1, this.2, a', e1, e2⟩
  ·rw [← h1, ← h2]
theorem zQ4 {D : List zM} {c : Nat} (hs : zKj b D c) {f : Int} {first : Bool} : ∀ a ∈ xC b l f first, zXl b l a ∧ ∀ r, zG b.2.1 a.2.1 = some r → xZ b l a.2.1 r a.2.2.1 = true := fun a ha => by
 obtain ⟨h1, r, hr, h2, h3, h4, h5, h6⟩ := zUx.1 ha
 refine ⟨⟨h1, r, hr, h2, h5, ?_, h6⟩, fun r' hr' => ?_⟩
 ·have := hs.body hr; omega
 ·rw [hr] at hr'; cases hr'; exact h4
theorem uP.round {D : List zM} {c : Nat} (h : uP b l) (hs : zKj b D c) {f : Int} {first : Bool} (hl : (l ++ xC b l f first).length ≤ 41) : uP b (l ++ xC b l f first) :=
 h.app (zQ4 hs) (by rw [List.length_append] at hl; exact hl)
theorem zKM (b : zR) : (zMm b).length = b.1.length := by simp [zMm]
theorem zJg {i : Nat} {a : zL} (h : (zMm b)[i]? = some a) : ∃ p, b.1[i]? = some p ∧ a = ((i : Int), -1, [], p.1) := by
 unfold zMm at h
 rw [List.getElem?_mapIdx] at h
 cases hp : b.1[i]? with
 | none => rw [hp] at h; cases h
 | some p => rw [hp] at h; exact ⟨p, rfl, by cases h; rfl⟩
theorem zNy (h : zIU b) : uP b (zMm b) := by
 have hl := zKM b
 have hn := h.np
 have hr := h.nr
 refine ⟨⟨⟨⟨by omega, fun a ha => ?_, fun i a ha => ?_⟩, by omega, by omega, fun i a ha => ?_⟩, by omega, fun i a p ha h0 hp => ?_, fun i a r ha h0 hr => ?_⟩, fun i a r ha h0 hr => ?_⟩
 ·obtain ⟨i, hi⟩ := List.mem_iff_getElem?.1 ha
  obtain ⟨p, _, rfl⟩ := zJg hi
  simp
 ·obtain ⟨p, _, rfl⟩ := zJg ha
  intro k hk
  cases hk
 ·obtain ⟨p, h1, rfl⟩ := zJg ha
  exact .inl ⟨rfl, vH h1, rfl⟩
 ·obtain ⟨p', h1, rfl⟩ := zJg ha
  rw [xI, h1] at hp
  cases hp
  exact ⟨rfl, rfl⟩
 ·obtain ⟨p', h1, rfl⟩ := zJg ha
  exact absurd h0 (by simp)
 ·obtain ⟨p', h1, rfl⟩ := zJg ha
  exact absurd h0 (by simp)
theorem zOw {D : List zM} {c : Nat} (hs : zKj b D c) : ∀ (k : Nat) (l : List zL) (f : Int) (first : Bool) (x : List zL), uP b l → l.length ≤ 40 → zN3 b k l f first = some x → uP b x ∧ x.length ≤ 40
 | 0, _, _, _, _, _, _, h => by cases h
 | k + 1, l, f, first, x, h, hl, hx => by
  unfold zN3 at hx
  split at hx
  ·cases hx
  ·rename_i hlim
   split at hx
   ·cases hx
    exact ⟨h, hl⟩
   ·exact zOw hs k _ _ _ x (h.round hs (by omega)) (by omega) hx
theorem zUX {α β σ ρ : Type} {B : σ → Option (σ ⊕ ρ)} (xs : List α) (h : α → List β) (st : List β → Int → σ) (e : ρ) (fin : List β → ρ) (N : Nat) (acc : List β) (h0 : acc.length ≤ N)
  (hB : ∀ (q : Nat) x n, xs[q]? = some x → n = (xs.take q).flatMap h → (acc ++ n).length ≤ N → B (st (acc ++ n) q) = some (if N < (acc ++ (n ++ h x)).length then .inr e else .inl (st (acc ++ (n ++ h x)) ((q + 1 : Nat) : Int))))
  (hE : (acc ++ xs.flatMap h).length ≤ N → B (st (acc ++ xs.flatMap h) (xs.length : Int)) = some (.inr (fin (acc ++ xs.flatMap h)))) :
  zW B (st acc 0) = some (if N < (acc ++ xs.flatMap h).length then e else fin (acc ++ xs.flatMap h)) := by
 have key : ∀ (n i : Nat), i + n = xs.length → (acc ++ (xs.take i).flatMap h).length ≤ N → zW B (st (acc ++ (xs.take i).flatMap h) (i : Int)) = some (if N < (acc ++ xs.flatMap h).length then e else fin (acc ++ xs.flatMap h)) := by
  intro n
  induction n with
  | zero =>
   intro i hi hn
   rw [Nat.add_zero] at hi
   subst hi
   rw [List.take_length] at hn ⊢
   rw [yD, hE hn, if_neg (by omega)]
  | succ n ih =>
   intro i hi hn
   have hx : xs[i]? = some xs[i] := List.getElem?_eq_getElem (by omega)
   have ht : (xs.take (i + 1)).flatMap h = (xs.take i).flatMap h ++ h xs[i] := by rw [uL hx, List.flatMap_append, List.flatMap_singleton]
   rw [yD, hB i _ _ hx rfl hn, ← ht]
   by_cases hN : N < (acc ++ (xs.take (i + 1)).flatMap h).length
   ·rw [if_pos hN]
    have : (acc ++ (xs.take (i + 1)).flatMap h).length ≤ (acc ++ xs.flatMap h).length := by
     conv => rhs; rw [← List.take_append_drop (i + 1) xs, List.flatMap_append]
     simp only [List.length_append]
     omega
    rw [if_pos (by omega)]
   ·rw [if_neg hN]
    exact ih (i + 1) (by omega) (by omega)
 have := key xs.length 0 (by omega) (by simpa using h0)
 simpa using this
end
section
variable {b : zR} {l : List zL} {D : List zM} {c : Nat}
def ansB : Option (List zL) → List zL × Int
 | some x => (x, 0)
 | none => ([], 2)
theorem zS3 (h : zIU b) : zW (zEj b) (([] : List zL), 0) = some (zMm b) := by
 have hn := h.np
 have := zGW (B := zEj b) (zMm b) (fun a => [a]) (fun s => s) 1 (fun _ _ => by simp) [] (fun i a s hi hs => by
  obtain ⟨p, hp, rfl⟩ := zJg hi
  have hlt := vH hp
  unfold zEj
  simp only [wW hp, if_true, wU hp, zob]
  rw [vT (by simp at hs ⊢; omega)]
  simp only [zob, wV hp (by omega)]) (fun s => by
  unfold zEj
  rw [zKM]
  simp only [yE, zbf, if_false])
 rw [this]
 simp
theorem zS0 (hs : zKj b D c) (h : uP b l) (hl : l.length ≤ 40) {f : Int} {r : Nat} {q : Nat} (hq : q < b.2.1.length) (n : List zL) (hn : (l ++ n).length ≤ 40) (hf : uP b (l ++ n))
  {ru : wK} (hr : zG b.2.1 (q : Int) = some ru) :
  zW (zFC (xS l l.length ru.2.2.2.1 []) (l, f, (r : Int)) b (l ++ n, (q : Int))) (l ++ n, 0) =
   some (if 40 < (l ++ (n ++ zGs b l f (decide (r ≤ 1)) q)).length then .inr (.inr (([] : List zL), 2)) else .inl (l ++ (n ++ zGs b l f (decide (r ≤ 1)) q), ((q + 1 : Nat) : Int))) := by
 have hb := hs.body hr
 have hcl : (xS l l.length ru.2.2.2.1 []).length < 4294967296 := by
  have h1 := zQf l l.length ru.2.2.2.1 []
  have h2 : l.length ^ ru.2.2.2.1.length ≤ 100 ^ 4 := Nat.le_trans (Nat.pow_le_pow_left (by omega) _) (Nat.pow_le_pow_right (by omega) hb)
  have h3 : (100 : Nat) ^ 4 = 100000000 := rfl
  omega
 have hnr := hs.valid.nr
 have key := zUX (B := zFC (xS l l.length ru.2.2.2.1 []) (l, f, (r : Int)) b (l ++ n, (q : Int))) (xS l l.length ru.2.2.2.1 [])
  (fun s => if zNO f (decide (r ≤ 1)) s && xZ b l q ru s then [((-1 : Int), (q : Int), s, ru.2.2.2.2)] else []) (fun s i => (s, i))
  (.inr (.inr (([] : List zL), 2))) (fun s => .inl (s, ((q + 1 : Nat) : Int))) 40 (l ++ n) hn (fun i s acc hi hacc hlen => ?_) (fun _ => ?_)
 ·rw [key]
  have : (xS l l.length ru.2.2.2.1 []).flatMap (fun s => if zNO f (decide (r ≤ 1)) s && xZ b l q ru s then [((-1 : Int), (q : Int), s, ru.2.2.2.2)] else []) = zGs b l f (decide (r ≤ 1)) q := by
   unfold zGs
   rw [hr]
   rw [← zPY]
   rw [← List.map_eq_flatMap]
  rw [this, List.append_assoc]
 ·have hs1 := (zMc l l.length ru.2.2.2.1 [] s).1 (yA hi)
  obtain ⟨t, ht, htl, htm⟩ := hs1
  rw [List.nil_append] at ht
  subst ht
  have hsub : ∀ k ∈ s, 0 ≤ k ∧ k < l.length := fun k hk => by
   obtain ⟨j, hj⟩ := List.mem_iff_getElem?.1 hk
   have := vH hj
   have := htm j k _ hj (List.getElem?_eq_getElem (by omega))
   omega
  have hnow : uP b (l ++ n ++ acc) := by
   refine hf.app (fun a ha => ?_) (by rw [List.length_append] at hlen; omega)
   rw [hacc] at ha
   obtain ⟨s', hs', ha⟩ := List.mem_flatMap.1 ha
   split at ha
   ·rename_i hc
    rw [Bool.and_eq_true] at hc
    simp only [List.mem_singleton] at ha
    subst ha
    obtain ⟨t, ht, htl, htm⟩ := (zMc l l.length ru.2.2.2.1 [] s').1 (List.mem_of_mem_take hs')
    rw [List.nil_append] at ht
    subst ht
    have hg : zXl b l ((-1 : Int), (q : Int), s', ru.2.2.2.2) := ⟨rfl, ru, hr, rfl, htl, by simp only; omega, fun j k y hk hy => (htm j k y hk hy).2.2⟩
    refine ⟨hg.more, fun r' hr' => ?_⟩
    rw [hr] at hr'
    cases hr'
    rw [zJz h.toFormC hf.toFormC hg.sub]
    exact hc.2
   ·cases ha
  have hw : zFE b (l ++ n ++ acc) q s = some (xZ b l q ru s) := by
   rw [zVU hnow.toFormC (hnow.runs hs) hr (fun k hk => by have := hsub k hk; simp only [List.length_append]; omega) (by omega)]
   rw [List.append_assoc, zJz h.toFormC (by rw [← List.append_assoc]; exact hnow.toFormC) hsub]
  unfold zFC
  simp only [wW hi, if_true, wU hi, zob, wV hi hcl]
  rw [zUy s f (by omega)]
  simp only [zob, hw, hr]
  have hdec : (if (!s.any fun k => decide (f ≤ k)) = true then (if decide (1 < (r : Int)) = true then some true else if decide (0 < len s) = true then some true else some (!xZ b l q ru s)) else some (!xZ b l q ru s)) = some (!(zNO f (decide (r ≤ 1)) s && xZ b l q ru s)) := by
   unfold zNO
   cases ha : s.any fun k => decide (f ≤ k) with
   | true => simp
   | false =>
    by_cases h1 : r ≤ 1
    ·have : ¬ (1 < (r : Int)) := by omega
     cases s with
     | nil => simp [this, h1, len]
     | cons k s => simp [this, h1, len]
    ·have : 1 < (r : Int) := by omega
     simp [this, h1]
  rw [hdec]
  simp only [zob]
  cases hc : zNO f (decide (r ≤ 1)) s && xZ b l q ru s with
  | false =>
   simp only [Bool.not_false, if_true, zbf, if_false, List.append_nil]
   rw [if_neg (by omega)]
  | true =>
   simp only [Bool.not_true, zbf, if_false, if_true]
   rw [vT (by simp only [List.length_singleton]; omega)]
   simp only [zob, List.append_assoc, len]
   by_cases h40 : 40 < (l ++ (n ++ (acc ++ [((-1 : Int), (q : Int), s, ru.2.2.2.2)]))).length
   ·rw [if_pos (by simpa using (by omega : (40 : Int) < ((l ++ (n ++ (acc ++ [((-1 : Int), (q : Int), s, ru.2.2.2.2)]))).length : Int))), if_pos h40]
   ·rw [if_neg (by simpa using (by omega : ¬ (40 : Int) < ((l ++ (n ++ (acc ++ [((-1 : Int), (q : Int), s, ru.2.2.2.2)]))).length : Int))), if_neg h40]
 ·unfold zFC
  simp only [yE, zbf, if_false, vY q (by omega)]
theorem zSP (hs : zKj b D c) (h : uP b l) (hl : l.length ≤ 40) {f : Int} {r : Nat} (hr : r < 1000) :
  zW (zE6 b (l, f, (r : Int))) (l, 0) =
   some (if 40 < (l ++ xC b l f (decide (r ≤ 1))).length then .inr (([] : List zL), 2) else .inl (l ++ xC b l f (decide (r ≤ 1)), (l.length : Int), ((r + 1 : Nat) : Int))) := by
 have hnr := hs.valid.nr
 refine zUX (B := zE6 b (l, f, (r : Int))) (wE b.2.1.length) (zGs b l f (decide (r ≤ 1))) (fun s i => (s, i)) (.inr (([] : List zL), 2)) (fun s => .inl (s, (l.length : Int), ((r + 1 : Nat) : Int))) 40 l hl (fun q x n hq hn hlen => ?_) (fun _ => ?_)
 ·obtain ⟨rfl, hqn⟩ := zHS hq
  obtain ⟨ru, hru⟩ := tS (l := b.2.1) (j := (q : Int)) (by omega) (by omega)
  have hd : decide ((q : Int) < len b.2.1) = true := by simp [len]; omega
  have hf : uP b (l ++ n) := by
   refine h.app (fun a ha => zQ4 hs a ?_ (f := f) (first := decide (r ≤ 1))) (by rw [List.length_append] at hlen; omega)
   rw [hn] at ha
   obtain ⟨q', hq', ha⟩ := List.mem_flatMap.1 ha
   exact List.mem_flatMap.2 ⟨q', List.mem_of_mem_take hq', ha⟩
  unfold zE6
  simp only [hd, if_true, hru, zob]
  have hch := zTU (l := l ++ n) (n := l.length) (by omega) (by simp) ru.2.2.2.1 (hs.body hru)
  rw [show len l = ((l.length : Nat) : Int) from rfl, hch]
  simp only [zob]
  rw [zXH (Nat.le_refl _), zS0 hs h hl hqn n hlen hf hru]
 ·unfold zE6
  have hd : decide (((wE b.2.1.length).length : Int) < len b.2.1) = false := by rw [yX]; simp [len]
  simp only [hd, zbf, if_false, vY r (by omega)]
theorem zSZ (hs : zKj b D c) : ∀ (k : Nat) (l : List zL) (f : Int) (r : Nat), uP b l → l.length ≤ 40 → 41 ≤ l.length + k → r + k ≤ 900 → 1 ≤ r → (r = 1 ∨ f < l.length) →
  zW (zCs b) (l, f, (r : Int)) = some (ansB (zN3 b k l f (decide (r ≤ 1)))) := by
 intro k
 induction k with
 | zero => intros; omega
 | succ k ih =>
  intro l f r h hl hk hr h1 hgo
  have hc : (((r : Int) == 1) || decide (f < len l)) = true := by
   rw [Bool.or_eq_true]
   rcases hgo with rfl | hgo
   ·exact .inl rfl
   ·exact .inr (by simpa [len] using hgo)
  have hstep : zCs b (l, f, (r : Int)) = some (if 40 < (l ++ xC b l f (decide (r ≤ 1))).length then .inr (([] : List zL), 2) else .inl (l ++ xC b l f (decide (r ≤ 1)), (l.length : Int), ((r + 1 : Nat) : Int))) := by
   unfold zCs
   simp only [hc, if_true]
   exact zSP hs h hl (by omega)
  rw [yD, hstep]
  unfold zN3
  by_cases hlim : 40 < (l ++ xC b l f (decide (r ≤ 1))).length
  ·simp only [if_pos hlim]
   rfl
  ·simp only [if_neg hlim]
   by_cases hn : xC b l f (decide (r ≤ 1)) = []
   ·rw [if_pos hn, hn, List.append_nil]
    have hstep2 : zCs b (l, (l.length : Int), ((r + 1 : Nat) : Int)) = some (.inr (l, 0)) := by
     unfold zCs
     have hc2 : ((((r + 1 : Nat) : Int) == 1) || decide ((l.length : Int) < len l)) = false := by
      rw [Bool.or_eq_false_iff]
      exact ⟨by simp only [beq_eq_false_iff_ne]; omega, by simp [len]⟩
     simp only [hc2, zbf, if_false]
    rw [yD, hstep2]
    rfl
   ·rw [if_neg hn]
    have hpos : 0 < (xC b l f (decide (r ≤ 1))).length := List.length_pos_iff.2 hn
    have := ih (l ++ xC b l f (decide (r ≤ 1))) l.length (r + 1) (h.round hs (by omega)) (by omega) (by rw [List.length_append]; omega) (by omega) (by omega) (.inr (by rw [List.length_append]; omega))
    rw [show decide (r + 1 ≤ 1) = false from by simp; omega] at this
    exact this
theorem zIP (h : zIU b) : Cnt b := by
 have h1 := h.np
 have h2 := h.nr
 have h3 := h.nm
 exact ⟨by omega, by omega, by omega, fun r hr => by have := zNc (h.rule r hr); omega⟩
noncomputable def zNa (b : zR) : Option (List zL) := zN3 b 50 (zMm b) 0 true
theorem zVs (hs : zKj b D c) : zGC b = some (ansB (zNa b)) := by
 unfold zGC
 rw [zR8 (zIP hs.valid), zHr.2 hs.valid]
 simp only [zob, bne_self_eq_false, zbf, if_false]
 rw [zS3 hs.valid]
 have hn := hs.valid.np
 exact zSZ hs 50 (zMm b) 0 1 (zNy hs.valid) (by rw [zKM]; omega) (by omega) (by omega) (by omega) (.inl rfl)
theorem zQF (hc : zVh b) (h : ¬ zIU b) : zGC b = some ([], zJM b) := by
 unfold zGC
 rw [zNW hc]
 have : (zJM b != 0) = true := by
  rw [bne_iff_ne]
  exact fun h' => h (zHr.1 h')
 simp only [zob, this, if_true]
end
section
theorem zXE {s : uO} {m n : Int} (h : uG s) (h0 : 0 ≤ m) (hm : m ≤ 1000000) (h1 : 1 ≤ n) (h2 : n ≤ 26) : ∃ (l : List zM) (k : Int), zE2 s m n = some (l, k) ∧ (l.length : Int) ≤ m ∧ (∀ x ∈ l, ∃ j : Nat, (j : Int) < n ∧ x.2 = uZ j) ∧ uG (s.1, k) := by
 obtain ⟨v, k, hr, hv0, hv1, hk⟩ := zI0 (n := m + 1) h (by omega) (by omega)
 unfold zE2
 rw [uM (x := m + 1) (by omega) (by omega), hr]
 simp only [zob]
 obtain ⟨r, h3, h4⟩ := zLZ (B := zFJ s n) (fun t => 0 ≤ t.2.1 ∧ (t.1.length : Int) + t.2.1 = v ∧ (∀ x ∈ t.1, ∃ j : Nat, (j : Int) < n ∧ x.2 = uZ j) ∧ uG (s.1, t.2.2)) (fun t => t.2.1.toNat)
  (fun r => (r.1.length : Int) ≤ m ∧ (∀ x ∈ r.1, ∃ j : Nat, (j : Int) < n ∧ x.2 = uZ j) ∧ uG (s.1, r.2)) (fun t ht => by
   obtain ⟨l, q, k⟩ := t
   obtain ⟨t1, t2, t3, t4⟩ := ht
   dsimp only at t1 t2 t3 t4
   unfold zFJ
   by_cases hq : 0 < q
   ·obtain ⟨g, j, k', h5, hj, hk'⟩ := zIS t4 h1 h2
    refine .inl ⟨(l ++ [(g, uZ j)], q - 1, k'), ?_, ⟨by show 0 ≤ q - 1; omega, by simp; omega, fun x hx => ?_, hk'⟩, by show (q - 1).toNat < q.toNat; omega⟩
    ·simp only [hq, decide_true, if_true, h5, zob]
     rw [vT (by simp; omega), uM (by omega) (by omega)]
     rfl
    ·rcases List.mem_append.1 hx with hx | hx
     ·exact t3 x hx
     ·simp at hx; subst hx; exact ⟨j, hj, rfl⟩
   ·refine .inr ⟨(l, k), by simp [hq], by dsimp only; omega, t3, t4⟩) (([] : List zM), v, k) ⟨hv0, by simp, by simp, hk⟩
 obtain ⟨l, k'⟩ := r
 exact ⟨l, k', h3, h4.1, h4.2.1, h4.2.2⟩
theorem zWQ (s : List zM) (hs : s.length < 1000000) (x : zM) (n : Int) : ∃ k : Nat, zW (zEt (s, n) x) 0 = some (k : Int) ∧ k ≤ s.length ∧ (∀ j y, j < k → s[j]? = some y → vR y x = true) ∧ ∀ y, s[k]? = some y → vR y x = false := by
 obtain ⟨r, h1, k, h2, h3⟩ := yP (B := zEt (s, n) x) (fun i (_ : Unit) => (i : Int)) s (fun i _ => ∀ j y, j < i → s[j]? = some y → vR y x = true)
  (fun r => ∃ k : Nat, r = (k : Int) ∧ k ≤ s.length ∧ (∀ j y, j < k → s[j]? = some y → vR y x = true) ∧ ∀ y, s[k]? = some y → vR y x = false) (fun i y _ hi hI => by
  have hlt := vH hi
  unfold zEt
  simp only [wW hi, if_true, wU hi, zob, wV hi (show s.length < 4294967296 by omega)]
  have hcond : (if uB y.2 x.2 = true then some true else if (y.2 == x.2) = true then if (!y.1) = true then some x.1 else some false else some false) = some (vR y x) := by
   unfold vR
   cases uB y.2 x.2 <;> cases y.2 == x.2 <;> cases y.1 <;> cases x.1 <;> rfl
  rw [hcond]
  simp only [zob]
  cases hc : vR y x with
  | true =>
   simp only [if_true]
   exact .inl ⟨(), by trivial, fun j z hj hz => by
    by_cases hji : j = i
    ·subst hji; rw [hi] at hz; cases hz; exact hc
    ·exact hI j z (by omega) hz⟩
  | false =>
   simp only [zbf, if_false]
   exact .inr ⟨_, rfl, i, rfl, by omega, hI, fun z hz => by rw [hi] at hz; cases hz; exact hc⟩) (fun _ hI => ⟨_, by
  unfold zEt
  simp only [yE, zbf, if_false, zob], s.length, rfl, Nat.le_refl _, hI, fun y hy => by have := vH hy; omega⟩) () (fun j y hj => by omega)
 rw [show ((0 : Nat) : Int) = 0 from rfl] at h1
 subst h2
 exact ⟨k, h1, h3⟩
theorem zZH {s : List zM} (hs : vJ vR s) {k : Nat} {x : zM} (h1 : ∀ j y, j < k → s[j]? = some y → vR y x = true) (h2 : ∀ y, s[k]? = some y → vR x y = true) : vJ vR (s.take k ++ x :: s.drop k) := by
 have hsplit := List.take_append_drop k s
 rw [← hsplit] at hs
 obtain ⟨p1, p2, p3⟩ := List.pairwise_append.1 hs
 refine List.pairwise_append.2 ⟨p1, List.pairwise_cons.2 ⟨fun y hy => ?_, p2⟩, fun y hy z hz => ?_⟩
 ·cases hd : s.drop k with
  | nil => rw [hd] at hy; cases hy
  | cons z r =>
   have hz : s[k]? = some z := by
    have := congrArg (fun l => l[0]?) hd
    simpa using this
   rw [hd] at hy p2
   rcases List.mem_cons.1 hy with rfl | hy
   ·exact h2 _ hz
   ·exact zJD (h2 _ hz) ((List.pairwise_cons.1 p2).1 y hy)
 ·have hyx : vR y x = true := by
   obtain ⟨j, hj⟩ := List.mem_iff_getElem?.1 hy
   rw [List.getElem?_take] at hj
   split at hj
   ·rename_i hjk; exact h1 j y hjk hj
   ·cases hj
  rcases List.mem_cons.1 hz with rfl | hz
  ·exact hyx
  ·exact p3 y hy z hz
theorem zXq {α : Type} (s : List α) (z x : α) (k : Nat) (hk : k ≤ s.length) : (zGq (s ++ [z]) (((k + 1 : Nat)) : Int) ((s ++ [z]).drop k)).set k x = s.take k ++ x :: s.drop k := by
 have h1 : (s ++ [z]).drop k = s.drop k ++ [z] := List.drop_append_of_le_length hk
 unfold zGq
 rw [h1, Int.toNat_natCast]
 have h2 : (s.drop k ++ [z]).take ((s ++ [z]).length - (k + 1)) = s.drop k := by
  rw [show (s ++ [z]).length - (k + 1) = (s.drop k).length by simp, List.take_left']
  rfl
 have h3 : (s ++ [z]).drop (k + 1 + (s.drop k ++ [z]).length) = [] := List.drop_eq_nil_of_le (by simp; omega)
 rw [h2, h3, List.append_nil]
 cases hd : s.drop k with
 | nil =>
  have : k = s.length := by
   have := congrArg List.length hd
   simp at this
   omega
  subst this
  rw [List.take_of_length_le (l := s ++ [z]) (by simp), List.append_nil, List.set_append_right _ _ (by simp)]
  simp
 | cons y r =>
  have hk2 : k < s.length := by
   have := congrArg List.length hd
   simp at this
   omega
  have h4 : (s ++ [z]).take (k + 1) = s.take k ++ [s[k]] := by
   rw [List.take_append_of_le_length (by omega), List.take_add_one, List.getElem?_eq_getElem hk2]
   rfl
  rw [h4, List.append_assoc, List.set_append_right _ _ (by rw [List.length_take]; omega)]
  simp [Nat.min_eq_left (Nat.le_of_lt hk2)]
theorem zPv (l : List zM) (hl : l.length ≤ 1000) : ∃ r, zIm l = some r ∧ r.length ≤ l.length ∧ vJ vR r ∧ ∀ y ∈ r, y ∈ l := by
 unfold zIm
 refine yP (B := zGa l) (fun i s => (s, (i : Int))) l (fun i s => s.length ≤ i ∧ vJ vR s ∧ ∀ y ∈ s, y ∈ l) (fun r => r.length ≤ l.length ∧ vJ vR r ∧ ∀ y ∈ r, y ∈ l) (fun i x s hi hs => .inl ?_) (fun s hs => ⟨s, ?_, hs⟩) [] ⟨by simp, List.Pairwise.nil, by simp⟩
 ·have hlt := vH hi
  obtain ⟨hs1, hs2, hs3⟩ := hs
  unfold zGa
  obtain ⟨k, h1, h2, h3, h4⟩ := zWQ s (by omega) x i
  simp only [wW hi, if_true, wU hi, zob, h1, wV hi (show l.length < 4294967296 by omega)]
  by_cases hex : s[k]? = some x
  ·simp only [wW hex, if_true, wU hex, zob, beq_self_eq_true]
   exact ⟨s, rfl, by omega, hs2, hs3⟩
  ·have hc : (if decide ((k : Int) < len s) = true then (zG s (k : Int)).bind fun x5 => some (x5 == x) else some false) = some false := by
    by_cases hk : k < s.length
    ·have hx : s[k]? = some s[k] := List.getElem?_eq_getElem hk
     simp only [wW hx, if_true, wU hx, zob]
     congr 1
     rw [beq_eq_false_iff_ne]
     intro e
     rw [e] at hx
     exact hex hx
    ·have : decide ((k : Int) < len s) = false := by simp [len]; omega
     simp only [this, zbf, if_false]
   rw [hc]
   simp only [zob, zbf, if_false]
   rw [vT (by simp; omega)]
   have hr1 : zQ ((k : Int) + 1) = ((k + 1 : Nat) : Int) := vY k (by omega)
   have hc1 : (decide (0 ≤ ((k + 1 : Nat) : Int)) && decide (((k + 1 : Nat) : Int) ≤ len (s ++ [((false, []) : zM)]))) = true := by simp [len]; omega
   have hc2 : (decide (0 ≤ (k : Int)) && decide ((k : Int) ≤ len (s ++ [((false, []) : zM)]))) = true := by simp [len]; omega
   obtain ⟨z, hz⟩ := tS (l := zGq (s ++ [((false, []) : zM)]) ((k + 1 : Nat) : Int) (List.drop k (s ++ [((false, []) : zM)]))) (j := (k : Int)) (by omega) (by rw [zKp]; simp; omega)
   simp only [zob, hr1, uH, hc1, hc2, if_true, Int.toNat_natCast, hz, zXq s _ x k h2]
   refine ⟨_, rfl, ?_, zZH hs2 h3 fun y hy => ?_, fun y hy => ?_⟩
   ·simp; omega
   ·rcases zL3 y x with h | h | h
    ·rw [h4 y hy] at h; cases h
    ·subst h; exact absurd hy hex
    ·exact h
   ·rcases List.mem_append.1 hy with hy | hy
    ·exact hs3 y (List.mem_of_mem_take hy)
    ·rcases List.mem_cons.1 hy with rfl | hy
     ·exact yA hi
     ·exact hs3 y (List.mem_of_mem_drop hy)
 ·unfold zGa
  simp only [yE, zbf, if_false]
theorem zX4 : ∀ {l : List zM}, vJ vR l → zYn l = true
 | [], _ => rfl
 | [_], _ => rfl
 | x :: y :: r, h => by
  obtain ⟨h1, h2⟩ := List.pairwise_cons.1 h
  unfold zYn
  rw [h1 y List.mem_cons_self, zX4 h2]
  rfl
theorem zVM {s : uO} {l : List Int} (h : uG s) (h0 : l ≠ []) (h1 : l.length ≤ 1000) : ∃ x k, zGz s l = some (x, k) ∧ x ∈ l ∧ uG (s.1, k) := by
 have hp := List.length_pos_iff.2 h0
 obtain ⟨v, k, hr, h2, h3, hk⟩ := zI0 (n := len l) h (by simp [len]; omega) (by simp [len]; omega)
 obtain ⟨x, hx, hx2⟩ := zMo h2 h3
 exact ⟨x, k, by simp [zGz, hr, hx], List.mem_of_getElem? hx2, hk⟩
theorem zKP {j : Nat} (h : j < 26) : vName (uZ j) = true := by
 have : ∀ j, j < 26 → vName (uZ j) = true := by decide
 exact this j h
def zPe (n : Nat) : vD := [114, UInt8.ofNat (97 + n)]
theorem zOu {n : Nat} (h : n < 26) : vName (zPe n) = true := by
 have : ∀ n, n < 26 → vName (zPe n) = true := by decide
 exact this n h
theorem zVm {n m : Nat} (h : n < 26) (h' : m < 26) (he : zPe n = zPe m) : n = m := by
 have : ∀ n, n < 26 → ∀ m, m < 26 → zPe n = zPe m → n = m := by decide
 exact this n h m h' he
theorem zMv {n : Nat} (h : n < 26) : zDg (n : Int) = some (zPe n) := by
 have : ∀ n : Nat, n < 26 → zDg (n : Int) = some (zPe n) := by decide
 exact this n h
theorem zZD {α β : Type} (g : α → β) {l : List α} {y : α} (h : ∀ (i j : Nat) p q, l[i]? = some p → l[j]? = some q → g p = g q → i = j) (hy : ∀ x ∈ l, g x ≠ g y) : ∀ (i j : Nat) p q, (l ++ [y])[i]? = some p → (l ++ [y])[j]? = some q → g p = g q → i = j := by
 intro i j p q hp hq he
 have key : ∀ (i : Nat) p, (l ++ [y])[i]? = some p → (l[i]? = some p) ∨ (i = l.length ∧ p = y) := fun i p hp => by
  by_cases hi : i < l.length
  ·rw [List.getElem?_append_left hi] at hp; exact .inl hp
  ·rw [List.getElem?_append_right (by omega)] at hp
   have hi2 := vH hp
   simp at hi2
   have : i = l.length := by omega
   subst this
   simp at hp
   exact .inr ⟨rfl, hp.symm⟩
 rcases key i p hp with h1 | ⟨h1, h2⟩ <;> rcases key j q hq with h3 | ⟨h3, h4⟩
 ·exact h i j p q h1 h3 he
 ·subst h4; exact absurd he (hy p (yA h1))
 ·subst h2; exact absurd he.symm (hy q (yA h3))
 ·omega
structure zWN (n : Int) (l : List vM) : Prop where
 ok : ∀ p ∈ l, tH p = 0
 at_ : ∀ p ∈ l, ∃ j : Nat, (j : Int) < n ∧ p.1.2 = uZ j
 inj : ∀ (i j : Nat) p q, l[i]? = some p → l[j]? = some q → p.1 = q.1 → i = j
theorem zZQ {s : uO} {n : Int} (h1 : 1 ≤ n) (h2 : n ≤ 26) {v k : Int} (hv0 : 0 ≤ v) (hv1 : v ≤ 100) (hk : uG (s.1, k)) : ∃ r, zW (zF0 s n) (v, k, []) = some r ∧ uG (s.1, r.1) ∧ (r.2.length : Int) ≤ v ∧ zWN n r.2 := by
 refine zLZ (B := zF0 s n) (fun t => 0 ≤ t.1 ∧ (t.2.2.length : Int) + t.1 ≤ v ∧ uG (s.1, t.2.1) ∧ zWN n t.2.2) (fun t => t.1.toNat) (fun r => uG (s.1, r.1) ∧ (r.2.length : Int) ≤ v ∧ zWN n r.2) (fun t ht => ?_) _ ⟨hv0, by simp, hk, by simp, by simp, by simp⟩
 obtain ⟨q, k, l⟩ := t
 obtain ⟨t1, t2, t3, t4⟩ := ht
 dsimp only at t1 t2 t3 t4
 unfold zF0
 by_cases hq : 0 < q
 ·obtain ⟨g, j, k1, e1, hj, hk1⟩ := zIS t3 h1 h2
  obtain ⟨p, k2, e2, hp, hk2⟩ := zVM (l := [1, 2, 2, 2, 3]) hk1 (by simp) (by simp)
  obtain ⟨x, k3, e3, hx, hk3⟩ := zXL (l := [[], [], [97, 110, 110], [98, 111, 98]]) hk2 (by simp) (by simp)
  obtain ⟨u, k4, e4, hu0, hu1, hk4⟩ := zI0 (n := 4) hk3 (by omega) (by omega)
  have hr : zW (zDB (q, k, l) ((g, uZ j), k1)) (false, 0) = some (l.any fun p => p.1 == (g, uZ j)) := by
   obtain ⟨r, hr, hr2⟩ := yP (B := zDB (q, k, l) ((g, uZ j), k1)) (fun i s => (s, (i : Int))) l (fun i s => s = (l.take i).any fun p => p.1 == (g, uZ j)) (fun r => r = l.any fun p => p.1 == (g, uZ j)) (fun i x s hi hs => .inl (by
    unfold zDB
    simp only [wW hi, if_true, wU hi, zob, wV hi (show l.length < 4294967296 by omega)]
    exact ⟨_, rfl, by rw [uL hi, List.any_append, ← hs]; simp⟩)) (fun s hs => by
    unfold zDB
    simp only [yE, zbf, if_false]
    exact ⟨_, rfl, by rw [hs, List.take_length]⟩) false (by simp)
   rw [← hr2]
   exact hr
  dsimp only at e2 e3 e4 hk2 hk3 hk4
  have hq1 : zQ (q - 1) = q - 1 := uM (by omega) (by omega)
  have hmid : ∃ w z, (if (p == 2) = true then (xQ (s.1, k3) 4).bind fun r5 => some (r5.2, r5.1) else some (k3, 0) : Option (Int × Int)) = some (w, z) ∧ uG (s.1, w) ∧ tY z = true ∧ (p == 2 || z == 0) = true := by
   split
   ·rename_i hp2
    exact ⟨k4, u, by rw [e4]; rfl, hk4, by simp; omega, by simp [hp2]⟩
   ·exact ⟨k3, 0, rfl, hk3, by simp, by simp⟩
  obtain ⟨w, z, hm, hw, hz1, hz2⟩ := hmid
  simp only [hq, decide_true, if_true, e1, zob, e2, e3, hm, hr, hq1]
  cases hany : l.any fun p => p.1 == (g, uZ j) with
  | true => exact .inl ⟨_, rfl, ⟨by show 0 ≤ q - 1; omega, by show (l.length : Int) + (q - 1) ≤ v; omega, hw, t4⟩, by show (q - 1).toNat < q.toNat; omega⟩
  | false =>
   simp only [Bool.not_false, if_true]
   rw [vT (by simp; omega)]
   refine .inl ⟨_, rfl, ⟨by show 0 ≤ q - 1; omega, by show ((l ++ [((g, uZ j), p, z, x)]).length : Int) + (q - 1) ≤ v; simp; omega, hw, fun p' hp' => ?_, fun p' hp' => ?_, zZD _ t4.inj fun p' hp' he => ?_⟩, by show (q - 1).toNat < q.toNat; omega⟩
   ·rcases List.mem_append.1 hp' with hp' | hp'
    ·exact t4.ok p' hp'
    ·simp only [List.mem_singleton] at hp'
     subst hp'
     have hpk : (p == 1 || p == 2 || p == 3) = true := by
      simp only [List.mem_cons, List.not_mem_nil, or_false] at hp
      rcases hp with rfl | rfl | rfl | rfl | rfl <;> rfl
     have hsx : (x == ([] : vD) || vName x) = true := by
      simp only [List.mem_cons, List.not_mem_nil, or_false] at hx
      rcases hx with rfl | rfl | rfl | rfl <;> decide
     unfold tH
     dsimp only
     rw [if_pos hpk, zKP (by omega), hz1, hz2, hsx]
     rfl
   ·rcases List.mem_append.1 hp' with hp' | hp'
    ·exact t4.at_ p' hp'
    ·simp only [List.mem_singleton] at hp'
     subst hp'
     exact ⟨j, hj, rfl⟩
   ·rw [List.any_eq_false] at hany
    exact hany p' hp' (by rw [beq_iff_eq]; exact he)
 ·simp only [hq, decide_false, zbf, if_false]
  exact .inr ⟨_, rfl, t3, by show (l.length : Int) ≤ v; omega, t4⟩
structure zX7 (l : List wK) : Prop where
 bd : ∀ r ∈ l, r.2.2.2.1.length ≤ 2
 ok : ∀ r ∈ l, xP r = 0
 nm : ∀ (i : Nat) r, l[i]? = some r → r.1 = zPe i
theorem zZ9 {s : uO} {n m : Int} (h1 : 1 ≤ n) (h2 : n ≤ 26) (hm : 1 ≤ m) (hm2 : m ≤ 26) {v k : Int} (hv0 : 0 ≤ v) (hv1 : v ≤ 24) (hk : uG (s.1, k)) : ∃ r, zW (zFQ s n m) (v, k, []) = some r ∧ uG (s.1, r.1) ∧ (r.2.length : Int) ≤ v ∧ zX7 r.2 := by
 refine zLZ (B := zFQ s n m) (fun t => 0 ≤ t.1 ∧ (t.2.2.length : Int) + t.1 ≤ v ∧ uG (s.1, t.2.1) ∧ zX7 t.2.2) (fun t => t.1.toNat) (fun r => uG (s.1, r.1) ∧ (r.2.length : Int) ≤ v ∧ zX7 r.2) (fun t ht => ?_) _ ⟨hv0, by simp, hk, by simp, by simp, by simp⟩
 obtain ⟨q, k, l⟩ := t
 obtain ⟨t1, t2, t3, t4⟩ := ht
 dsimp only at t1 t2 t3 t4
 unfold zFQ
 by_cases hq : 0 < q
 ·have e0 := zMv (n := l.length) (by omega)
  obtain ⟨u, k1, e1, _, _, hk1⟩ := zI0 (n := 3) t3 (by omega) (by omega)
  obtain ⟨bd, k2, e2, hb2, hbn, hk2⟩ := zXE (m := 2) hk1 (by omega) (by omega) h1 h2
  obtain ⟨bs, e3, hb3, hb4, hb5⟩ := zPv bd (by omega)
  obtain ⟨g, j, k3, e4, hj, hk3⟩ := zIS hk2 h1 h2
  obtain ⟨u5, k5, e5, hu5, hu5', hk5⟩ := zI0 (n := 4) hk3 (by omega) (by omega)
  dsimp only at e1 e2 e3 e4 e5 hk1 hk2 hk3 hk5
  have hmid : ∃ w z, (if (!(u == 0)) = true then (xQ (s.1, k3) 4).bind fun r12 => some (r12.2, r12.1) else some (k3, 0) : Option (Int × Int)) = some (w, z) ∧ uG (s.1, w) ∧ tY z = true ∧ (!(u == 0) || z == 0) = true := by
   split
   ·rename_i hu
    exact ⟨k5, u5, by rw [e5]; rfl, hk5, by simp; omega, by rw [hu]; rfl⟩
   ·exact ⟨k3, 0, rfl, hk3, by simp, by simp⟩
  obtain ⟨w, z, hmm, hw, hz1, hz2⟩ := hmid
  obtain ⟨u6, k6, e6, _, _, hk6⟩ := zI0 (n := 6) hw (by omega) (by omega)
  obtain ⟨u7, k7, e7, _, _, hk7⟩ := zI0 (n := 4) hk6 (by omega) (by omega)
  obtain ⟨u8, k8, e8, hu8, hu8', hk8⟩ := zI0 (n := m) hk7 (by omega) (by omega)
  obtain ⟨n8, rfl⟩ := Int.eq_ofNat_of_zero_le hu8
  have e9 := zMv (n := n8) (by omega)
  dsimp only at e6 e7 e8 hk6 hk7 hk8
  have hend : ∃ w2 z2 y2, ((xQ (s.1, w) 6).bind fun r13 => if (r13.1 == 5) = true then (xQ (s.1, r13.2) 4).bind fun r14 => (xQ (s.1, r14.2) m).bind fun r15 => (zDg r15.1).bind fun r16 => some (r15.2, decide (0 < r14.1), r16) else some (r13.2, g, uZ j) : Option (Int × Bool × vD)) = some (w2, z2, y2) ∧ uG (s.1, w2) ∧ vName y2 = true := by
   rw [e6]
   simp only [zob]
   split
   ·exact ⟨k8, decide (0 < u7), zPe n8, by rw [e7]; simp only [zob, e8, e9], hk8, zOu (by omega)⟩
   ·exact ⟨k6, g, uZ j, rfl, hk6, zKP (by omega)⟩
  obtain ⟨w2, z2, y2, he, hw2, hy2⟩ := hend
  have hq1 : zQ (q - 1) = q - 1 := uM (by omega) (by omega)
  rw [show len l = ((l.length : Nat) : Int) from rfl]
  simp only [hq, decide_true, if_true, e0, e1, zob, e2, e3, e4, hmm, he, hq1]
  rw [vT (by simp; omega)]
  refine .inl ⟨_, rfl, ⟨by show 0 ≤ q - 1; omega, by show ((l ++ [_]).length : Int) + (q - 1) ≤ v; simp; omega, hw2, fun r hr => ?_, fun r hr => ?_, fun i r hr => ?_⟩, by show (q - 1).toNat < q.toNat; omega⟩
  ·rcases List.mem_append.1 hr with hr | hr
   ·exact t4.bd r hr
   ·simp only [List.mem_singleton] at hr
    subst hr
    show bs.length ≤ 2
    omega
  ·rcases List.mem_append.1 hr with hr | hr
   ·exact t4.ok r hr
   ·simp only [List.mem_singleton] at hr
    subst hr
    unfold xP
    dsimp only
    have hall : (bs.all fun x => vName x.2) = true := List.all_eq_true.2 fun x hx => by
     obtain ⟨j, hj, hx2⟩ := hbn x (hb5 x hx)
     rw [hx2]
     exact zKP (by omega)
    rw [if_neg (by omega), zOu (by omega), hy2, hz1, hz2, hall, zX4 hb4]
    rfl
  ·by_cases hi : i < l.length
   ·rw [List.getElem?_append_left hi] at hr
    exact t4.nm i r hr
   ·rw [List.getElem?_append_right (by omega)] at hr
    have := vH hr
    simp at this
    have hi2 : i = l.length := by omega
    subst hi2
    simp at hr
    rw [← hr]
 ·simp only [hq, decide_false, zbf, if_false]
  exact .inr ⟨_, rfl, t3, by show (l.length : Int) ≤ v; omega, t4⟩
theorem zZT {s : uO} {n : Int} (h1 : 1 ≤ n) (h2 : n ≤ 26) (o : Int) (rs : List wK) (hrs : rs.length ≤ 100) {v k : Int} (hv0 : 0 ≤ v) (hv1 : v ≤ 100) (hk : uG (s.1, k)) : ∃ r, zW (zFX (o, rs) s n) (v, k, []) = some r ∧ uG (s.1, r.1) ∧ (r.2.length : Int) ≤ v ∧ ∀ p ∈ r.2, tY p.2.1 = true ∧ vName p.2.2.2 = true ∧ ∃ q ∈ rs, q.1 = p.1 ∧ q.2.1 = false := by
 refine zLZ (B := zFX (o, rs) s n) (fun t => 0 ≤ t.1 ∧ (t.2.2.length : Int) + t.1 ≤ v ∧ uG (s.1, t.2.1) ∧ ∀ p ∈ t.2.2, tY p.2.1 = true ∧ vName p.2.2.2 = true ∧ ∃ q ∈ rs, q.1 = p.1 ∧ q.2.1 = false) (fun t => t.1.toNat) (fun r => uG (s.1, r.1) ∧ (r.2.length : Int) ≤ v ∧ ∀ p ∈ r.2, tY p.2.1 = true ∧ vName p.2.2.2 = true ∧ ∃ q ∈ rs, q.1 = p.1 ∧ q.2.1 = false) (fun t ht => ?_) _ ⟨hv0, by simp, hk, by simp⟩
 obtain ⟨q, k, l⟩ := t
 obtain ⟨t1, t2, t3, t4⟩ := ht
 dsimp only at t1 t2 t3 t4
 unfold zFX
 by_cases hq : 0 < q ∧ 0 < rs.length
 ·have hc : (decide (0 < q) && decide (0 < len rs)) = true := by simp [len]; omega
  obtain ⟨u, k1, e1, hu0, hu1, hk1⟩ := zI0 (n := len rs) t3 (by simp [len]; omega) (by simp [len]; omega)
  obtain ⟨r, hr⟩ := tS (l := rs) hu0 hu1
  obtain ⟨u2, k2, e2, hu2, hu2', hk2⟩ := zI0 (n := 10) hk1 (by omega) (by omega)
  obtain ⟨g, j, k3, e3, hj, hk3⟩ := zIS hk2 h1 h2
  dsimp only at e1 e2 e3 hk1 hk2 hk3
  have hq1 : zQ (q - 1) = q - 1 := uM (by omega) (by omega)
  simp only [hc, if_true, e1, zob, hr, hq1]
  cases hst : r.2.1 with
  | true =>
   simp only [Bool.not_true, zbf, if_false]
   exact .inl ⟨_, rfl, ⟨by show 0 ≤ q - 1; omega, by show (l.length : Int) + (q - 1) ≤ v; omega, hk1, t4⟩, by show (q - 1).toNat < q.toNat; omega⟩
  | false =>
   simp only [Bool.not_false, if_true, e2, e3, zob]
   rw [vT (by simp; omega)]
   refine .inl ⟨_, rfl, ⟨by show 0 ≤ q - 1; omega, by show ((l ++ [_]).length : Int) + (q - 1) ≤ v; simp; omega, hk3, fun p hp => ?_⟩, by show (q - 1).toNat < q.toNat; omega⟩
   rcases List.mem_append.1 hp with hp | hp
   ·exact t4 p hp
   ·simp only [List.mem_singleton] at hp
    subst hp
    obtain ⟨i, _, hi⟩ := zMW hr
    exact ⟨by simp; omega, zKP (by omega), r, yA hi, rfl, hst⟩
 ·have hc : (decide (0 < q) && decide (0 < len rs)) = false := by
   rw [Bool.and_eq_false_iff]
   by_cases h : 0 < q
   ·have h0 : ¬ 0 < rs.length := fun h3 => hq ⟨h, h3⟩
    exact .inr (decide_eq_false (by show ¬ (0 : Int) < (rs.length : Int); omega))
   ·exact .inl (by simpa using h)
  simp only [hc, zbf, if_false]
  exact .inr ⟨_, rfl, t3, by show (l.length : Int) ≤ v; omega, t4⟩
structure Drawn (b : zR) (n p q : Int) : Prop where
 np : (b.1.length : Int) ≤ p
 nr : (b.2.1.length : Int) ≤ q
 nm : b.2.2.length ≤ 2
 bd : ∀ r ∈ b.2.1, r.2.2.2.1.length ≤ 2
 valid : zIU b
 names : ∀ (i : Nat) r, b.2.1[i]? = some r → r.1 = zPe i
 at_ : ∀ p ∈ b.1, ∃ j : Nat, (j : Int) < n ∧ p.1.2 = uZ j
theorem zXX {s : uO} (h : uG s) {n p q : Int} (h1 : 1 ≤ n) (h2 : n ≤ 26) (hp : 0 ≤ p) (hp2 : p ≤ 16) (hq : 1 ≤ q) (hq2 : q ≤ 24) : ∃ b k, zHT s n p q = some (b, k) ∧ uG (s.1, k) ∧ Drawn b n p q := by
 unfold zHT
 obtain ⟨u1, k1, e1, a1, b1, hk1⟩ := zI0 (n := p + 1) h (by omega) (by omega)
 obtain ⟨⟨o1, ps⟩, e2, hk2, hl2, hp2'⟩ := zZQ (s := s) h1 h2 a1 (by omega) hk1
 obtain ⟨u3, k3, e3, a3, b3, hk3⟩ := zI0 (n := q + 1) hk2 (by omega) (by omega)
 obtain ⟨⟨o4, rs⟩, e4, hk4, hl4, hb4⟩ := zZ9 (s := s) h1 h2 hq (by omega) a3 (by omega) hk3
 obtain ⟨u5, k5, e5, a5, b5, hk5⟩ := zI0 (n := 3) hk4 (by omega) (by omega)
 dsimp only at hl2 hl4 hb4 hp2'
 obtain ⟨⟨o6, ms⟩, e6, hk6, hl6, hm6⟩ := zZT (s := s) h1 h2 o4 rs (by omega) a5 (by omega) hk5
 dsimp only at e3 e5 hl6 hm6
 rw [uM (x := p + 1) (by omega) (by omega), uM (x := q + 1) (by omega) (by omega)]
 have hinj : ∀ (i j : Nat) p q, rs[i]? = some p → rs[j]? = some q → p.1 = q.1 → i = j := fun i j p q hp hq he => by
  have := vH hp
  have := vH hq
  rw [hb4.nm i p hp, hb4.nm j q hq] at he
  exact zVm (by omega) (by omega) he
 refine ⟨(ps, rs, ms), o6, ?_, hk6, by show (ps.length : Int) ≤ p; omega, by show (rs.length : Int) ≤ q; omega, by show ms.length ≤ 2; omega, hb4.bd, ⟨by show ps.length ≤ 16; omega, by show rs.length ≤ 24; omega, by show ms.length ≤ 8; omega, hp2'.ok, hb4.ok, hp2'.inj, hinj, fun m hm => ?_⟩, hb4.nm, hp2'.at_⟩
 ·simp only [e1, zob, e2, e3, e4, e5, e6]
 ·obtain ⟨g1, g2, r, g3, g4, g5⟩ := hm6 m hm
  obtain ⟨i, hi⟩ := List.mem_iff_getElem?.1 g3
  have hf := zQc (q := fun r : wK => r.1 == m.1) hi (by simp [g4])
  obtain ⟨k, r', f1, f2, f3, _⟩ := zTd hf.1
  have hki := hinj k i r' r f2 hi (by rw [g4]; simpa using f3)
  subst hki
  rw [f2] at hi
  cases hi
  unfold zOT zJu
  dsimp only
  rw [g1, g2, f1]
  have : ¬ ((k : Int) < 0) := by omega
  simp [this, xI, f2, g5]
end
section
def Ok {α : Type} (x : Option α) (Q : α → Prop) : Prop := ∃ a, x = some a ∧ Q a
section
variable {α β : Type}
theorem Ok.ret {a : α} {Q : α → Prop} (h : Q a) : Ok (some a) Q := ⟨a, rfl, h⟩
theorem Ok.bind {x : Option α} {f : α → Option β} {I : α → Prop} {Q : β → Prop} (h : Ok x I) (k : ∀ a, I a → Ok (f a) Q) : Ok (x.bind f) Q := by
 obtain ⟨a, rfl, ha⟩ := h; exact k a ha
theorem Ok.ite {c : Bool} {x y : Option α} {Q : α → Prop} (hx : c = true → Ok x Q) (hy : c = false → Ok y Q) : Ok (if c = true then x else y) Q := by
 cases c with
 | true => exact hx rfl
 | false => exact hy rfl
theorem Ok.imp {x : Option α} {I Q : α → Prop} (h : Ok x I) (k : ∀ a, I a → Q a) : Ok x Q := by
 obtain ⟨a, h1, h2⟩ := h; exact ⟨a, h1, k a h2⟩
theorem Ok.of {x : Option α} {a : α} (h : x = some a) : Ok x fun b => b = a := ⟨a, h, rfl⟩
theorem Ok.idx {l : List α} {i : Int} (h0 : 0 ≤ i) (h1 : i < l.length) : Ok (zG l i) fun x => x ∈ l ∧ l[i.toNat]? = some x := by
 obtain ⟨x, h2, h3⟩ := zMo h0 h1
 exact ⟨x, h2, List.mem_of_getElem? h3, h3⟩
theorem Ok.app {l m : List α} (h : l.length + m.length < 4294967296) : Ok (wI l m) fun z => z = l ++ m := ⟨_, vT h, rfl⟩
end
section
variable {s : uO}
theorem Ok.N {n : Int} (h : uG s) (h0 : 0 ≤ n) (h1 : n ≤ 4611686018427387904) : Ok (xQ s n) fun r => 0 ≤ r.1 ∧ (1 ≤ n → r.1 < n) ∧ uG (s.1, r.2) := by
 by_cases hn : 1 ≤ n
 ·obtain ⟨v, k, e, a, b, c⟩ := zI0 h hn h1
  exact ⟨_, e, a, fun _ => b, c⟩
 ·obtain ⟨v, k, hr, hk⟩ := zUY h
  have hn1 : n < 1 := by omega
  refine ⟨(0, k), ?_, Int.le_refl _, fun h => absurd h hn, hk⟩
  simp [xQ, hr, zIw, hn1]
end
section
variable {α β σ τ ρ : Type}
def Nx (mk : Nat → σ → τ) (I : Nat → σ → Prop) (Q : ρ → Prop) (i : Nat) : τ ⊕ ρ → Prop
 | .inl t => ∃ s, t = mk i s ∧ I i s
 | .inr r => Q r
def Fin (Q : ρ → Prop) : τ ⊕ ρ → Prop
 | .inl _ => False
 | .inr r => Q r
theorem Ok.forI {B : τ → Option (τ ⊕ ρ)} (mk : Nat → σ → τ) (l : List α) (I : Nat → σ → Prop) (Q : ρ → Prop) (hB : ∀ i x s, l[i]? = some x → I i s → Ok (B (mk i s)) (Nx mk I Q (i + 1)))
  (he : ∀ s, I l.length s → Ok (B (mk l.length s)) (Fin Q)) (s : σ) (h : I 0 s) : Ok (zW B (mk 0 s)) Q := by
 refine yP mk l I Q (fun i x s hx hI => ?_) (fun s hI => ?_) s h
 ·obtain ⟨o, h1, h2⟩ := hB i x s hx hI
  cases o with
  | inl t => obtain ⟨s', rfl, h3⟩ := h2; exact .inl ⟨s', h1, h3⟩
  | inr r => exact .inr ⟨r, h1, h2⟩
 ·obtain ⟨o, h1, h2⟩ := he s hI
  cases o with
  | inl t => exact h2.elim
  | inr r => exact ⟨r, h1, h2⟩
theorem Ok.seqE {x : Option (σ ⊕ α)} {f : σ → Option α} {I : σ ⊕ α → Prop} {Q : α → Prop} (h : Ok x I) (k : ∀ a, I (.inl a) → Ok (f a) Q) (k2 : ∀ r, I (.inr r) → Q r) : Ok (yO x f) Q := by
 obtain ⟨a, rfl, ha⟩ := h
 cases a with
 | inl a => exact k a ha
 | inr r => exact ⟨r, rfl, k2 r ha⟩
end
theorem zRe {α : Type} {l : List α} {i : Nat} {x : α} (h : l[i]? = some x) : decide ((i : Int) < len l) = true := decide_eq_true (show (i : Int) < (l.length : Int) by have := (List.getElem?_eq_some_iff.1 h).1; omega)
theorem zQp {α : Type} {l : List α} : decide ((l.length : Int) < len l) = false := decide_eq_false (show ¬ (l.length : Int) < (l.length : Int) by omega)
theorem zYG {α : Type} {l : List α} {i : Nat} {x : α} (h : l[i]? = some x) : l.set i x = l := by
 apply List.ext_getElem?
 intro j
 by_cases hj : i = j
 ·subst hj; rw [List.getElem?_set_self (List.getElem?_eq_some_iff.1 h).1, h]
 ·rw [List.getElem?_set_ne hj]
theorem zIu {α : Type} {l : List α} (h : l.length < 4294967296) : wI ([] : List α) l = some l := by rw [vT (by simpa using h), List.nil_append]
theorem zQP {α : Type} : ∀ (l m : List α), l.foldl (fun s x => s ++ [x]) m = m ++ l
 | [], m => by simp
 | x :: l, m => by rw [List.foldl_cons, zQP l]; simp
end
end Go.GD
