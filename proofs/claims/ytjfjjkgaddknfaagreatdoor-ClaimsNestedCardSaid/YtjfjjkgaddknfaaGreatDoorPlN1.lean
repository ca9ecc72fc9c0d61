/- A part. Conditions: none. -/
import Derived.Test.YtjfjjkgaddknfaaGreatDoorLib
import Derived.Test.YtjfjjkgaddknfaaGreatDoorModels
import Derived.Lib.TrailingZeros
import Derived.Shelf.Strings.FieldsAny
import Derived.Test.YtjfjjkgaddknfaaGreatDoorJoin
namespace Go.GD
set_option autoImplicit false
set_option linter.unusedVariables false
section
theorem xQ {x : Int} (h1 : -9223372036854775808 ≤ x) (h2 : x < 9223372036854775808) : zR x = x := by
 simp only [zR, IntKind.wrap, IntKind.signed, IntKind.bits]
 simp; omega
theorem zWS (n : Nat) (h : n < 9223372036854775808) : zR (n : Int) = n := xQ (by omega) (by omega)
theorem uF (n : Nat) (h : n + 1 < 9223372036854775808) : zR ((n : Int) + 1) = ((n + 1 : Nat) : Int) := by rw [xQ (by omega) (by omega)]; omega
theorem xZ {α : Type} (l : List α) (i : Nat) : zI l (i : Int) = l[i]? := by simp [zI]
theorem z3N (l : qI) (i : Nat) : tP l (i : Int) = (l[i]?).map (fun b => (b.toNat : Int)) := by simp [tP]
theorem zRp {α : Type} {l : List α} {i : Int} (h0 : 0 ≤ i) (h1 : i < l.length) : ∃ x, zI l i = some x ∧ l[i.toNat]? = some x := by
 have : l[i.toNat]? = some l[i.toNat] := List.getElem?_eq_getElem (by omega)
 exact ⟨_, by simp [zI, h0, this], this⟩
theorem yP {α : Type} {l m : List α} (h : l.length + m.length < 4294967296) : wE l m = some (l ++ m) := by simp [wE, h]
theorem zM7 {α : Type} {l : List α} {j : Int} (h1 : 0 ≤ j) (h2 : j ≤ l.length) : sub l 0 j = some (l.take j.toNat) := by simp [sub, h1, h2]
theorem z2W {α : Type} {l : List α} {i : Int} (h1 : 0 ≤ i) (h2 : i ≤ l.length) : sub l i (len l) = some (l.drop i.toNat) := by simp [sub, h1, h2]
def z0H {σ ρ α : Type} (step : Nat → σ → α → Option (σ ⊕ ρ)) (fin : σ → Option ρ) : Nat → List α → σ → Option ρ
 | _, [], s => fin s
 | i, x :: l, s => match step i s x with
  | none => none
  | some (.inl s') => z0H step fin (i + 1) l s'
  | some (.inr r) => some r
theorem z1F {σ ρ α τ : Type} {B : τ → Option (τ ⊕ ρ)} (mk : Nat → σ → τ) (l : List α) (step : Nat → σ → α → Option (σ ⊕ ρ)) (fin : σ → Option ρ)
  (hB : ∀ i x s, l[i]? = some x → B (mk i s) = (step i s x).map fun o => match o with | .inl s' => .inl (mk (i + 1) s') | .inr r => .inr r)
  (he : ∀ s, B (mk l.length s) = (fin s).map .inr) : ∀ (n i : Nat) (s : σ), i + n = l.length → zV B (mk i s) = z0H step fin i (l.drop i) s := by
 intro n
 induction n with
 | zero =>
  intro i s h
  rw [Nat.add_zero] at h
  subst h
  rw [yH, he, List.drop_length]
  cases hf : fin s <;> simp [z0H, hf]
 | succ n ih =>
  intro i s h
  have hx : l[i]? = some l[i] := List.getElem?_eq_getElem (by omega)
  rw [yH, hB i _ s hx, List.drop_eq_getElem_cons (by omega)]
  cases hs : step i s l[i] with
  | none => simp [z0H, hs]
  | some o =>
   cases o with
   | inl s' => simp only [Option.map_some, z0H, hs]; exact ih (i + 1) s' (by omega)
   | inr r => simp [z0H, hs]
theorem zRs {σ ρ α τ : Type} {B : τ → Option (τ ⊕ ρ)} (mk : Nat → σ → τ) (l : List α) (step : Nat → σ → α → Option (σ ⊕ ρ)) (fin : σ → Option ρ)
  (hB : ∀ i x s, l[i]? = some x → B (mk i s) = (step i s x).map fun o => match o with | .inl s' => .inl (mk (i + 1) s') | .inr r => .inr r)
  (he : ∀ s, B (mk l.length s) = (fin s).map .inr) (s : σ) : zV B (mk 0 s) = z0H step fin 0 l s := by
 have := z1F mk l step fin hB he l.length 0 s (by omega)
 simpa using this
theorem zQp {ρ α : Type} {B : Int → Option (Int ⊕ ρ)} {l : List α} {r : ρ} (hB : ∀ (i : Nat) (x : α), l[i]? = some x → B (i : Int) = some (.inl ((i + 1 : Nat) : Int)))
  (he : B (l.length : Int) = some (.inr r)) : zV B 0 = some r := by
 have h := zRs (B := B) (fun i (_ : Unit) => (i : Int)) l (fun _ _ _ => some (.inl ())) (fun _ => some r) (fun i x s hx => by simp [hB i x hx]) (fun s => by simp [he]) ()
 have key : ∀ (l : List α) (i : Nat), z0H (fun _ (_ : Unit) (_ : α) => some (.inl ())) (fun _ => some r) i l () = some r := by
  intro l
  induction l with
  | nil => intro i; rfl
  | cons x l ih => intro i; exact ih (i + 1)
 rw [key] at h
 exact h
theorem uR {ρ α σ τ : Type} {B : τ → Option (τ ⊕ ρ)} (mk : Nat → σ → τ) (l : List α) (I : Nat → σ → Prop) (Q : ρ → Prop)
  (hB : ∀ i x s, l[i]? = some x → I i s → (∃ s', B (mk i s) = some (.inl (mk (i + 1) s')) ∧ I (i + 1) s') ∨ ∃ r, B (mk i s) = some (.inr r) ∧ Q r)
  (he : ∀ s, I l.length s → ∃ r, B (mk l.length s) = some (.inr r) ∧ Q r) : ∀ s, I 0 s → ∃ r, zV B (mk 0 s) = some r ∧ Q r := by
 have key : ∀ n i s, i + n = l.length → I i s → ∃ r, zV B (mk i s) = some r ∧ Q r := by
  intro n
  induction n with
  | zero =>
   intro i s h hI
   rw [Nat.add_zero] at h
   subst h
   obtain ⟨r, h1, h2⟩ := he s hI
   exact ⟨r, by rw [yH, h1], h2⟩
  | succ n ih =>
   intro i s h hI
   have hx : l[i]? = some l[i] := List.getElem?_eq_getElem (by omega)
   rcases hB i _ s hx hI with ⟨s', h1, h2⟩ | ⟨r, h1, h2⟩
   ·obtain ⟨r, h3, h4⟩ := ih (i + 1) s' (by omega) h2
    exact ⟨r, by rw [yH, h1]; exact h3, h4⟩
   ·exact ⟨r, by rw [yH, h1], h2⟩
 exact fun s hI => key l.length 0 s (by omega) hI
theorem zVt {ρ τ : Type} {B : τ → Option (τ ⊕ ρ)} (μ : τ → Nat) (I : τ → Prop) (Q : ρ → Prop)
  (step : ∀ s, I s → (∃ s', B s = some (.inl s') ∧ I s' ∧ μ s' < μ s) ∨ (∃ r, B s = some (.inr r) ∧ Q r)) (s : τ) (h : I s) : ∃ r, zV B s = some r ∧ Q r := zMm I μ Q step s h
end
section
structure uS (s : uQ) : Prop where
 lo : 0 ≤ s.2
 hi : s.2 ≤ s.1.length
 small : s.1.length ≤ 2000
theorem z3d (l : List Int) : zPc l = some (l.take 2000, 0) := by
 unfold zPc
 by_cases h : 2000 < len l
 ·rw [if_pos h, zM7 (by omega) (by simp [len] at h; omega)]; rfl
 ·rw [if_neg h, zM7 (by simp [len]) (by simp [len])]
  simp only [zob]
  rw [List.take_of_length_le (by simp), List.take_of_length_le (by simp [len] at h; omega)]
theorem z1y (l : List Int) : uS (l.take 2000, 0) := ⟨Int.le_refl _, by simp, by simp; omega⟩
theorem zZT {s : uQ} (h : uS s) : ∃ v k, zKI s = some (v, k) ∧ uS (s.1, k) := by
 obtain ⟨h1, h2, h3⟩ := h
 unfold zKI
 by_cases hk : len s.1 ≤ s.2
 ·exact ⟨0, s.2, by simp [hk], h1, h2, h3⟩
 ·have hk' : s.2 < s.1.length := by simpa [len] using hk
  obtain ⟨x, hx, _⟩ := zRp h1 hk'
  refine ⟨x, s.2 + 1, ?_, by show (0 : Int) ≤ s.2 + 1; omega, by show s.2 + 1 ≤ (s.1.length : Int); omega, h3⟩
  simp only [hk, decide_false, zbf, if_false]
  rw [xQ (x := s.2 + 1) (by omega) (by omega), show s.2 + 1 - 1 = s.2 by omega, xQ (by omega) (by omega), hx]; rfl
theorem z3w {x n : Int} (h0 : 1 ≤ n) (h1 : n ≤ 4611686018427387904) : ∃ v, zLQ x n = some v ∧ 0 ≤ v ∧ v < n := by
 unfold zLQ
 have hn : ¬ n < 1 := by omega
 have hn0 : n ≠ 0 := by omega
 simp only [hn, decide_false, zbf, if_false, remK, hn0, zob]
 have ha := Int.tmod_lt_of_pos x (show 0 < n by omega)
 have hb : -n < x.tmod n := by
  have := Int.lt_tmod_of_pos x (show 0 < n by omega)
  exact this
 by_cases hx : x.tmod n < 0
 ·exact ⟨x.tmod n + n, by simp [hx, xQ (x := x.tmod n + n) (by omega) (by omega)], by omega, by omega⟩
 ·exact ⟨x.tmod n, by simp [hx], by omega, ha⟩
theorem zKy {s : uQ} {n : Int} (h : uS s) (h0 : 1 ≤ n) (h1 : n ≤ 4611686018427387904) : ∃ v k, xR s n = some (v, k) ∧ 0 ≤ v ∧ v < n ∧ uS (s.1, k) := by
 obtain ⟨v, k, hr, hk⟩ := zZT h
 obtain ⟨u, hu, h2, h3⟩ := z3w (x := v) h0 h1
 exact ⟨u, k, by simp [xR, hr, hu], h2, h3, hk⟩
theorem z2c {s : uQ} {l : List qI} (h : uS s) (h0 : l ≠ []) (h1 : l.length ≤ 1000) : ∃ x k, zJ0 s l = some (x, k) ∧ x ∈ l ∧ uS (s.1, k) := by
 have hp := List.length_pos_iff.2 h0
 obtain ⟨v, k, hr, h2, h3, hk⟩ := zKy (n := len l) h (by simp [len]; omega) (by simp [len]; omega)
 obtain ⟨x, hx, hx2⟩ := zRp h2 h3
 exact ⟨x, k, by simp [zJ0, hr, hx], List.mem_of_getElem? hx2, hk⟩
def zO0 (k : Nat) : qI := [UInt8.ofNat (97 + k)]
theorem zMX {s : uQ} {n : Int} (h : uS s) (h0 : 1 ≤ n) (h1 : n ≤ 26) : ∃ (g : Bool) (j : Nat) (k : Int), zCW s n = some ((g, zO0 j), k) ∧ (j : Int) < n ∧ uS (s.1, k) := by
 obtain ⟨v, k, hr, h2, h3, hk⟩ := zKy (n := 2 * n) h (by omega) (by omega)
 obtain ⟨m, rfl⟩ := Int.eq_ofNat_of_zero_le h2
 refine ⟨yE .i64 m 1 == 1, m / 2, k, ?_, by omega, hk⟩
 unfold zCW
 rw [xQ (x := 2 * n) (by omega) (by omega), hr]
 have hq : quoK .i64 (m : Int) 2 = some ((m / 2 : Nat) : Int) := by
  simp only [quoK]
  rw [if_neg (by omega)]
  show some (zR _) = _
  have : (m : Int).tdiv 2 = ((m / 2 : Nat) : Int) := by
   rw [Int.tdiv_eq_ediv_of_nonneg (by omega)]; omega
  rw [this, xQ (by omega) (by omega)]
 simp only [zob, hq]
 have hw : IntKind.u8.wrap (zR (97 + ((m / 2 : Nat) : Int))) = ((97 + m / 2 : Nat) : Int) := by
  rw [xQ (by omega) (by omega)]
  simp only [IntKind.wrap, IntKind.signed, IntKind.bits]
  simp; omega
 rw [hw]
 rfl
end
section
theorem z3Q {α : Type} (l : List α) (i k : Nat) : tY l (i : Int) (k : Int) = l[i + k]? := by
 simp only [tY]
 rw [if_pos (by omega), show ((i : Int) + (k : Int)) = ((i + k : Nat) : Int) by omega, xZ]
section
variable {α : Type} [BEq α]
noncomputable def zPK (y0 : List α) (s1 : Int) (s3 : (List α) × Int × Int) : Option (((List α) × Int × Int) ⊕ ((List α) × Int)) :=
 if decide (s3.2.2 < ((Int.toNat (((List.length y0 : Nat) : Int) - s1) : Nat) : Int)) then
  (tY s3.1 s1 s3.2.2).bind fun x3 =>
  (tY s3.1 s1 (zR (s3.2.2 - 1))).bind fun x4 =>
  if !(x3 == x4) then
   (tY s3.1 s1 s3.2.2).bind fun x5 =>
   (zI s3.1 s3.2.1).bind fun _ =>
   some (.inl (List.set s3.1 (Int.toNat s3.2.1) x5, zR (s3.2.1 + 1), zR (s3.2.2 + 1)))
  else
   some (.inl (s3.1, s3.2.1, zR (s3.2.2 + 1)))
 else
  some (.inr (s3.1, s3.2.1))
noncomputable def zQx (z : α) (y0 : List α) (s1 : Int) : Option (Int ⊕ (List α)) :=
 if decide (s1 < (len y0)) then
  (zI y0 s1).bind fun x1 =>
  (zI y0 (zR (s1 - 1))).bind fun x2 =>
  if x1 == x2 then
   (yG (decide (0 ≤ s1) && decide (s1 ≤ len y0))).bind fun _ =>
   (zV (zPK y0 s1) (y0, s1, 1) : Option ((List α) × Int)).bind fun s2 =>
   (yG (decide (0 ≤ s2.2) && decide (s2.2 ≤ len s2.1))).bind fun _ =>
   (sub (zCk s2.1 s2.2 z) 0 s2.2).bind fun x7 =>
   some (.inr x7)
  else
   some (.inl (zR (s1 + 1)))
 else
  some (.inr y0)
noncomputable def zVm (z : α) (y0 : List α) : Option (List α) :=
 if decide ((len y0) < 2) then
  some y0
 else
  zV (zQx z y0) 1
def dd (a : α) : List α → List α
 | [] => []
 | b :: r => if a == b then dd b r else b :: dd b r
def tH : List α → List α
 | [] => []
 | a :: r => a :: dd a r
theorem zXd : ∀ (r s : List α) (a : α), dd a (r ++ s) = dd a r ++ dd (r.getLastD a) s
 | [], s, a => rfl
 | b :: r, s, a => by
  simp only [List.cons_append, dd, zXd r s b, List.getLastD_cons]
  split <;> simp
theorem zV4 {l : List α} {j : Nat} {y x : α} (h1 : l[j]? = some y) (h2 : l[j + 1]? = some x) : tH (l.take (j + 2)) = tH (l.take (j + 1)) ++ if y == x then [] else [x] := by
 have e1 : l.take (j + 2) = l.take (j + 1) ++ [x] := by
  rw [List.take_add_one (i := j + 1), h2]; rfl
 have e2 : l.take (j + 1) = l.take j ++ [y] := by rw [List.take_add_one, h1]; rfl
 rw [e1]
 cases hl : l.take (j + 1) with
 | nil => rw [hl] at e2; cases h3 : l.take j <;> simp [h3] at e2
 | cons a r =>
  have hlast : r.getLastD a = y := by
   have : (a :: r).getLast? = some y := by rw [← hl, e2]; simp
   rw [← List.getLastD_cons (a := a) (b := a) (l := r), List.getLastD_eq_getLast?, this]; rfl
  simp only [List.cons_append, tH, zXd, hlast, dd]
theorem z4C : ∀ (r : List α) (a : α), (dd a r).length ≤ r.length
 | [], _ => Nat.le_refl _
 | b :: r, a => by
  simp only [dd]
  have := z4C r b
  split <;> simp <;> omega
theorem z2C (l : List α) : (tH l).length ≤ l.length := by
 cases l with
 | nil => simp [tH]
 | cons a r => have := z4C r a; simp [tH]; omega
theorem zUs [LawfulBEq α] (l : List α) (i0 : Nat) (h0 : 1 ≤ i0) (hi : i0 < l.length) (hbig : l.length < 9223372036854775807) (hd : tH (l.take (i0 + 1)) = tH (l.take i0)) (hk : tH (l.take i0) = l.take i0) :
  ∃ c k, zV (zPK l (i0 : Int)) (l, (i0 : Int), 1) = some (c, ((k : Nat) : Int)) ∧ c.length = l.length ∧ k ≤ l.length ∧ c.take k = tH l := by
 have key : ∀ n k2 (c : List α) (k : Nat), i0 + k2 + n = l.length → 1 ≤ k2 → c.length = l.length → k + 1 ≤ i0 + k2 → (∀ j, i0 + k2 ≤ j + 1 → c[j]? = l[j]?) → c.take k = tH (l.take (i0 + k2)) →
   ∃ c' k', zV (zPK l (i0 : Int)) (c, (k : Int), (k2 : Int)) = some (c', ((k' : Nat) : Int)) ∧ c'.length = l.length ∧ k' ≤ l.length ∧ c'.take k' = tH l := by
  intro n
  induction n with
  | zero =>
   intro k2 c k hn h1 hc hk1 hsame htake
   refine ⟨c, k, ?_, hc, by omega, ?_⟩
   ·rw [yH]
    unfold zPK
    have : decide ((k2 : Int) < ((Int.toNat (((List.length l : Nat) : Int) - (i0 : Int)) : Nat) : Int)) = false := by simp; omega
    simp only [this, zbf, if_false]
   ·rw [htake, List.take_of_length_le (by omega)]
  | succ n ih =>
   intro k2 c k hn h1 hc hk1 hsame htake
   have hx : l[i0 + k2]? = some l[i0 + k2] := List.getElem?_eq_getElem (by omega)
   have hy : l[i0 + k2 - 1]? = some l[i0 + k2 - 1] := List.getElem?_eq_getElem (by omega)
   have hcx : c[i0 + k2]? = some l[i0 + k2] := by rw [hsame _ (by omega)]; exact hx
   have hcy : c[i0 + (k2 - 1)]? = some l[i0 + k2 - 1] := by rw [hsame _ (by omega), ← hy]; congr 1; omega
   have hlt : decide ((k2 : Int) < ((Int.toNat (((List.length l : Nat) : Int) - (i0 : Int)) : Nat) : Int)) = true := by simp; omega
   have hw1 : zR ((k2 : Int) - 1) = ((k2 - 1 : Nat) : Int) := by rw [xQ (by omega) (by omega)]; omega
   have hdt := zV4 (l := l) (j := i0 + k2 - 1) (y := l[i0 + k2 - 1]) (x := l[i0 + k2]) hy (by rw [show i0 + k2 - 1 + 1 = i0 + k2 by omega]; exact hx)
   rw [show i0 + k2 - 1 + 2 = i0 + (k2 + 1) by omega, show i0 + k2 - 1 + 1 = i0 + k2 by omega] at hdt
   have hklt : k < c.length := by omega
   rw [yH]
   unfold zPK
   simp only [hlt, if_true, z3Q, hcx, zob, hw1, hcy]
   rw [BEq.comm]
   have hklt' : zI c (k : Int) = some c[k] := by rw [xZ]; exact List.getElem?_eq_getElem hklt
   cases hb : l[i0 + k2 - 1] == l[i0 + k2] with
   | true =>
    simp only [Bool.not_true, zbf, if_false]
    rw [uF k2 (by omega)]
    have := ih (k2 + 1) c k (by omega) (by omega) hc (by omega) (fun j hj => hsame j (by omega)) (by rw [hdt, hb]; simpa using htake)
    exact this
   | false =>
    simp only [Bool.not_false, if_true, hklt', zob]
    rw [uF k2 (by omega), uF k (by omega), Int.toNat_natCast]
    refine ih (k2 + 1) (c.set k l[i0 + k2]) (k + 1) (by omega) (by omega) (by simp [hc]) (by omega) (fun j hj => ?_) ?_
    ·rw [List.getElem?_set_ne (by omega)]; exact hsame j (by omega)
    ·rw [hdt, hb, ← htake]
     rw [List.take_add_one, List.getElem?_set_self hklt, List.take_set_of_le (Nat.le_refl _)]
     rfl
 have hsome : l[i0]? = some l[i0] := List.getElem?_eq_getElem hi
 refine key (l.length - (i0 + 1)) 1 l i0 (by omega) (Nat.le_refl _) rfl (by omega) (fun j _ => rfl) ?_
 rw [hd, hk]
theorem zQq [LawfulBEq α] (z : α) (l : List α) (hbig : l.length < 9223372036854775807) : zVm z l = some (tH l) := by
 unfold zVm
 by_cases h2 : l.length < 2
 ·have : decide (len l < 2) = true := by simp [len]; omega
  simp only [this, if_true]
  match l, h2 with
  | [], _ => rfl
  | [a], _ => rfl
 ·have : decide (len l < 2) = false := by simp [len]; omega
  simp only [this, zbf, if_false]
  have key : ∀ n k, k + n = l.length → 1 ≤ k → tH (l.take k) = l.take k → zV (zQx z l) (k : Int) = some (tH l) := by
   intro n
   induction n with
   | zero =>
    intro k hn h1 hp
    rw [yH]
    unfold zQx
    have : decide ((k : Int) < len l) = false := by simp [len]; omega
    simp only [this, zbf, if_false]
    rw [List.take_of_length_le (by omega)] at hp
    rw [hp]
   | succ n ih =>
    intro k hn h1 hp
    have hx : l[k]? = some l[k] := List.getElem?_eq_getElem (by omega)
    have hy : l[k - 1]? = some l[k - 1] := List.getElem?_eq_getElem (by omega)
    have hlt : decide ((k : Int) < len l) = true := by simp [len]; omega
    have hw1 : zR ((k : Int) - 1) = ((k - 1 : Nat) : Int) := by rw [xQ (by omega) (by omega)]; omega
    have hdt := zV4 (l := l) (j := k - 1) (y := l[k - 1]) (x := l[k]) hy (by rw [show k - 1 + 1 = k by omega]; exact hx)
    rw [show k - 1 + 2 = k + 1 by omega, show k - 1 + 1 = k by omega, hp] at hdt
    rw [yH]
    unfold zQx
    simp only [hlt, if_true, xZ, hx, hw1, hy, zob]
    rw [BEq.comm]
    cases hb : l[k - 1] == l[k] with
    | true =>
     have hc1 : (decide (0 ≤ (k : Int)) && decide ((k : Int) ≤ len l)) = true := by simp [len]; omega
     obtain ⟨c, q, hl, hcl, hq, htk⟩ := zUs l k h1 (by omega) hbig (by rw [hdt, hb, hp]; simp) hp
     have hc2 : (decide (0 ≤ ((q : Nat) : Int)) && decide (((q : Nat) : Int) ≤ len c)) = true := by simp [len]; omega
     simp only [if_true, hc1, yG, zob, hl, hc2]
     rw [zM7 (by omega) (by rw [zIS, hcl]; omega)]
     simp only [zob, Int.toNat_natCast, zCk, htk]
     have hdl : (tH l).length = q := by rw [← htk, List.length_take]; omega
     rw [← hdl, List.take_left]
    | false =>
     simp only [zbf, if_false]
     rw [uF k (by omega)]
     refine ih (k + 1) (by omega) (by omega) ?_
     rw [hdt, hb, List.take_add_one, hx]; rfl
  exact key (l.length - 1) 1 (by omega) (Nat.le_refl _) (by match l, h2 with | a :: r, _ => rfl)
end
section
variable {α : Type} {lt : α → α → Bool}
structure tV (lt : α → α → Bool) : Prop where
 irrefl : ∀ x, lt x x = false
 trans : ∀ x y z, lt x y = true → lt y z = true → lt x z = true
 tri : ∀ x y, lt x y = true ∨ x = y ∨ lt y x = true
abbrev vY (lt : α → α → Bool) (l : List α) : Prop := l.Pairwise fun x y => lt x y = true
theorem tV.asymm (O : tV lt) {x y : α} (h : lt x y = true) : lt y x = false := by
 cases hb : lt y x with
 | false => rfl
 | true => have := O.trans _ _ _ h hb; rw [O.irrefl] at this; cases this
theorem vY.ext (O : tV lt) : ∀ {l m : List α}, vY lt l → vY lt m → (∀ x, x ∈ l ↔ x ∈ m) → l = m
 | [], [], _, _, _ => rfl
 | [], y :: m, _, _, h => by have := (h y).2 (List.mem_cons_self); cases this
 | x :: l, [], _, _, h => by have := (h x).1 (List.mem_cons_self); cases this
 | x :: l, y :: m, hl, hm, h => by
  obtain ⟨h1, h2⟩ := List.pairwise_cons.1 hl
  obtain ⟨h3, h4⟩ := List.pairwise_cons.1 hm
  have hxy : x = y := by
   rcases List.mem_cons.1 ((h x).1 (List.mem_cons_self)) with h5 | h5
   ·exact h5
   ·rcases List.mem_cons.1 ((h y).2 (List.mem_cons_self)) with h6 | h6
    ·exact h6.symm
    ·have := O.asymm (h3 x h5); rw [h1 y h6] at this; cases this
  subst hxy
  congr 1
  refine vY.ext O h2 h4 fun z => ⟨fun hz => ?_, fun hz => ?_⟩
  ·rcases List.mem_cons.1 ((h z).1 (List.mem_cons_of_mem _ hz)) with rfl | h5
   ·have := h1 z hz; rw [O.irrefl] at this; cases this
   ·exact h5
  ·rcases List.mem_cons.1 ((h z).2 (List.mem_cons_of_mem _ hz)) with rfl | h5
   ·have := h3 z hz; rw [O.irrefl] at this; cases this
   ·exact h5
theorem zXP [BEq α] [LawfulBEq α] (O : tV lt) : ∀ {l : List α}, l.Pairwise (fun x y => lt y x = false) → vY lt (tH l) ∧ ∀ x, x ∈ tH l ↔ x ∈ l := by
 have key : ∀ (r : List α) (a : α), (a :: r).Pairwise (fun x y => lt y x = false) → vY lt (a :: dd a r) ∧ ∀ x, x ∈ a :: dd a r ↔ x ∈ a :: r := by
  intro r
  induction r with
  | nil => intro a _; simp [dd]
  | cons b r ih =>
   intro a h
   obtain ⟨h1, h2⟩ := List.pairwise_cons.1 h
   obtain ⟨i1, i2⟩ := ih b h2
   by_cases hab : a = b
   ·subst hab
    simp only [dd, beq_self_eq_true, if_true]
    refine ⟨i1, fun x => ?_⟩
    rw [i2]; simp
   ·have hb : (a == b) = false := beq_eq_false_iff_ne.2 hab
    simp only [dd, hb, zbf, if_false]
    have hlt : lt a b = true := by
     rcases O.tri a b with h | h | h
     ·exact h
     ·exact absurd h hab
     ·rw [h1 b (List.mem_cons_self)] at h; cases h
    refine ⟨List.pairwise_cons.2 ⟨fun y hy => ?_, i1⟩, fun x => ?_⟩
    ·rcases List.mem_cons.1 hy with rfl | hy
     ·exact hlt
     ·exact O.trans _ _ _ hlt ((List.pairwise_cons.1 i1).1 y hy)
    ·rw [List.mem_cons, i2]; simp
 intro l h
 cases l with
 | nil => simp [tH]
 | cons a r => exact key r a h
theorem zO6 (O : tV lt) (l : List α) : (l.mergeSort fun x y => !lt y x).Pairwise (fun x y => lt y x = false) := by
 have h := List.pairwise_mergeSort (le := fun x y => !lt y x) (fun a b c h1 h2 => ?_) (fun a b => ?_) l
 ·exact h.imp fun h => by simpa using h
 ·simp only [Bool.not_eq_true'] at *
  cases h3 : lt c a with
  | false => rfl
  | true =>
   rcases O.tri a b with h | rfl | h
   ·have := O.trans _ _ _ h3 h; rw [this] at h2; cases h2
   ·rw [h3] at h2; cases h2
   ·rw [h] at h1; cases h1
 ·cases h : lt b a with
  | false => simp
  | true => simp [O.asymm h]
def tD [BEq α] (lt : α → α → Bool) (l : List α) : List α := tH (l.mergeSort fun x y => !lt y x)
theorem zNd [BEq α] [LawfulBEq α] (O : tV lt) (l : List α) : vY lt (tD lt l) ∧ ∀ x, x ∈ tD lt l ↔ x ∈ l := by
 obtain ⟨h1, h2⟩ := zXP O (zO6 O l)
 exact ⟨h1, fun x => by rw [tD, h2, List.mem_mergeSort]⟩
theorem zWu [BEq α] [LawfulBEq α] (O : tV lt) {l m : List α} (h1 : vY lt m) (h2 : ∀ x, x ∈ m ↔ x ∈ l) : tD lt l = m := by
 obtain ⟨h3, h4⟩ := zNd O l
 exact vY.ext O h3 h1 fun x => by rw [h4, h2]
theorem zW1 [BEq α] (lt : α → α → Bool) (l : List α) : (tD lt l).length ≤ l.length := by
 have := z2C (l.mergeSort fun x y => !lt y x)
 simpa [tD] using this
end
section
variable {α : Type} [BEq α]
noncomputable def zZL (y0 : List α) (y1 : α) (s1 : Int) : Option (Int ⊕ Int) :=
 if decide (s1 < (len y0)) then
  (zI y0 s1).bind fun x1 =>
  if y1 == x1 then
   some (.inr s1)
  else
   some (.inl (zR (s1 + 1)))
 else
  some (.inr (-1))
noncomputable def z4K (y0 : List α) (y1 : α) : Option Int := zV (zZL y0 y1) 0
theorem zTu (l : List α) (x : α) (hb : l.length < 9223372036854775807) : ∃ r, z4K l x = some r ∧ (0 ≤ r ↔ ∃ y ∈ l, x == y) := by
 have h := uR (B := zZL l x) (fun i (_ : Unit) => (i : Int)) l (fun i _ => ∀ j y, j < i → l[j]? = some y → (x == y) = false) (fun r => (0 ≤ r ↔ ∃ y ∈ l, x == y)) ?_ ?_ () (by simp)
 ·exact h
 ·intro i y s hy hI
  have hi := (List.getElem?_eq_some_iff.1 hy).1
  have hlt : decide ((i : Int) < len l) = true := by simp [len]; omega
  unfold zZL
  simp only [hlt, if_true, xZ, hy, zob]
  cases hxy : x == y with
  | true => exact .inr ⟨_, rfl, ⟨fun _ => ⟨y, List.mem_of_getElem? hy, hxy⟩, fun _ => by omega⟩⟩
  | false =>
   refine .inl ⟨(), by simp [uF i (by omega)], fun j z hj hz => ?_⟩
   rcases Nat.lt_succ_iff_lt_or_eq.1 hj with h | rfl
   ·exact hI j z h hz
   ·rw [hy] at hz; cases hz; exact hxy
 ·intro s hI
  unfold zZL
  refine ⟨-1, by simp [len], ⟨fun h => by omega, fun ⟨y, hy, hxy⟩ => ?_⟩⟩
  obtain ⟨j, hj⟩ := List.mem_iff_getElem?.1 hy
  rw [hI j y (List.getElem?_eq_some_iff.1 hj).1 hj] at hxy
  cases hxy
end
end
section
structure Le {α : Type} (a b : Option α) : Prop where
 el : ∀ r, a = some r → b = some r
theorem Le.refl {α : Type} (a : Option α) : Le a a := ⟨fun _ h => h⟩
theorem Le.bind {α β : Type} {a b : Option α} {f g : α → Option β} (h : Le a b) (k : ∀ x, Le (f x) (g x)) : Le (a.bind f) (b.bind g) := ⟨fun r hr => by
 cases a with
 | none => cases hr
 | some x => rw [h.el x rfl]; exact (k x).el r hr⟩
theorem Le.ite {α : Type} {c : Prop} [Decidable c] {a b a' b' : Option α} (h : Le a b) (k : Le a' b') : Le (if c then a else a') (if c then b else b') := by
 split
 ·exact h
 ·exact k
theorem Le.seqE {σ α : Type} {a b : Option (σ ⊕ α)} {f g : σ → Option α} (h : Le a b) (k : ∀ x, Le (f x) (g x)) : Le (yZ a f) (yZ b g) :=
 Le.bind h fun o => by
  cases o with
  | inl s => exact k s
  | inr r => exact Le.refl _
theorem Le.none {α : Type} (b : Option α) : Le none b := ⟨fun _ h => nomatch h⟩
abbrev lp {σ ρ : Type} (n : Nat) (B : σ → Option (σ ⊕ ρ)) (s : σ) : Option ρ := tE B n s
theorem Le.lp {σ ρ : Type} {B C : σ → Option (σ ⊕ ρ)} (h : ∀ s, Le (B s) (C s)) (n : Nat) (s : σ) : Le (lp n B s) (zV C s) := by
 refine ⟨fun r hr => ?_⟩
 refine zKW (n := n) ?_
 revert s
 induction n with
 | zero => intro s hr; cases hr
 | succ n ih =>
  intro s hr
  simp only [tE] at hr ⊢
  cases hb : B s with
  | none => rw [hb] at hr; cases hr
  | some o =>
   rw [hb] at hr
   rw [(h s).el o hb]
   cases o with
   | inl s' => exact ih s' hr
   | inr r' => exact hr
theorem Le.lim {α : Type} {a : Option α} {f : Nat → Option α} (n : Nat) (h : ∀ m, n ≤ m → Le a (f m)) : Le a (zYF f) := ⟨fun r hr => zQd n fun m hm => (h m hm).el r hr⟩
def ins {α : Type} (lt : α → α → Bool) (x : α) : List α → List α
 | [] => [x]
 | y :: r => if lt y x then y :: ins lt x r else x :: y :: r
def zTY {α : Type} (lt : α → α → Bool) : List α → List α
 | [] => []
 | x :: r => ins lt x (zTY lt r)
end
section
def Tw {α : Type} (m : Option α) : Type := { r : Option α // Le r m }
def td {α : Type} (m : Option α) : Tw m := ⟨m, Le.refl m⟩
def tb {α β : Type} {a : Option α} {f : α → Option β} (h : Tw a) (k : ∀ x, Tw (f x)) : Tw (a.bind f) := ⟨h.1.bind fun x => (k x).1, Le.bind h.2 fun x => (k x).2⟩
def ti {α : Type} {c : Prop} [Decidable c] {a b : Option α} (h : Tw a) (k : Tw b) : Tw (if c then a else b) := ⟨if c then h.1 else k.1, Le.ite h.2 k.2⟩
def ts {σ α : Type} {a : Option (σ ⊕ α)} {f : σ → Option α} (h : Tw a) (k : ∀ x, Tw (f x)) : Tw (yZ a f) := ⟨Go.GD.yZ h.1 fun x => (k x).1, Le.seqE h.2 fun x => (k x).2⟩
def tl {σ ρ : Type} {C : σ → Option (σ ⊕ ρ)} (n : Nat) (h : ∀ s, Tw (C s)) (s : σ) : Tw (zV C s) := ⟨Go.GD.lp n (fun s => (h s).1) s, Le.lp (fun s => (h s).2) n s⟩
theorem Tw.el {α : Type} {m : Option α} (w : Tw m) {r : α} (h : w.1 = some r) : m = some r := w.2.el r h
end
section
abbrev yV (x y : Int) : Bool := decide (x < y)
abbrev zXr (x y : Int) : Int := if x < y then -1 else if y < x then 1 else 0
def orF : List Int → Int
 | [] => 0
 | x :: r => if x != 0 then x else orF r
abbrev zWJ {α β : Type} [BEq α] (lt1 : α → α → Bool) (xO : β → β → Bool) (x y : α × β) : Bool := lt1 x.1 y.1 || (x.1 == y.1 && xO x.2 y.2)
theorem xM : tV yV := ⟨fun x => by simp, fun x y z h1 h2 => by simp at *; omega, fun x y => by simp; omega⟩
theorem zVq {α β : Type} [BEq α] [LawfulBEq α] {lt1 : α → α → Bool} {xO : β → β → Bool} (O1 : tV lt1) (O2 : tV xO) : tV (zWJ lt1 xO) := by
 refine ⟨fun x => by simp [O1.irrefl, O2.irrefl], fun x y z h1 h2 => ?_, fun x y => ?_⟩
 ·simp only [zWJ, Bool.or_eq_true, Bool.and_eq_true, beq_iff_eq] at *
  rcases h1 with h1 | ⟨h1, h1'⟩ <;> rcases h2 with h2 | ⟨h2, h2'⟩
  ·exact .inl (O1.trans _ _ _ h1 h2)
  ·exact .inl (h2 ▸ h1)
  ·exact .inl (h1 ▸ h2)
  ·exact .inr ⟨h1.trans h2, O2.trans _ _ _ h1' h2'⟩
 ·obtain ⟨a, b⟩ := x; obtain ⟨c, d⟩ := y
  simp only [zWJ, Bool.or_eq_true, Bool.and_eq_true, beq_iff_eq, Prod.mk.injEq]
  rcases O1.tri a c with h | rfl | h
  ·exact .inl (.inl h)
  ·rcases O2.tri b d with h | rfl | h
   ·exact .inl (.inr ⟨rfl, h⟩)
   ·exact .inr (.inl ⟨rfl, rfl⟩)
   ·exact .inr (.inr (.inr ⟨rfl, h⟩))
  ·exact .inr (.inr (.inl h))
theorem OrdF.of {α : Type} {f : α → α → Option Int} {lt : α → α → Bool} (O : tV lt) (ht : ∀ x y, ∃ n, f x y = some n) (h : ∀ x y, uI f x y = lt x y) : OrdF f := by
 refine ⟨ht, fun x => by rw [h, O.irrefl], fun x y z h1 h2 => ?_, fun x y z h1 h2 => ?_, fun x y h1 h2 => ?_⟩
 ·rw [h] at *; exact O.trans _ _ _ h1 h2
 ·rw [h] at *
  cases h3 : lt x z with
  | false => rfl
  | true =>
   rcases O.tri x y with h4 | rfl | h4
   ·rw [h4] at h1; cases h1
   ·rw [h3] at h2; cases h2
   ·have := O.trans _ _ _ h4 h3; rw [this] at h2; cases h2
 ·rw [h] at *
  rcases O.tri x y with h4 | h4 | h4
  ·rw [h4] at h1; cases h1
  ·exact h4
  ·rw [h4] at h2; cases h2
theorem zWP {α : Type} {f : α → α → Option Int} {lt : α → α → Bool} (O : tV lt) (ht : ∀ x y, ∃ n, f x y = some n) (h : ∀ x y, uI f x y = lt x y) {l : List α} (hl : l.length < 4294967296) :
  zWH f l = some (l.mergeSort fun x y => !lt y x) := by
 unfold zWH
 rw [if_pos ⟨OrdF.of O ht h, hl⟩]
 have : (fun x y => !uI f y x) = fun x y => !lt y x := by funext x y; rw [h]
 rw [this]
noncomputable def orL (y0 : List Int) (s1 : Int) : Option (Int ⊕ Int) :=
 if decide (s1 < (len y0)) then
  (zI y0 s1).bind fun x1 =>
  if x1 != 0 then
   some (.inr x1)
  else
   some (.inl (zR (s1 + 1)))
 else
  some (.inr 0)
theorem z2m (l : List Int) (hb : l.length < 9223372036854775807) : zV (orL l) 0 = some (orF l) := by
 have h := zRs (B := orL l) (fun i (_ : Unit) => (i : Int)) l (fun _ _ x => if x != 0 then some (.inr x) else some (.inl ())) (fun _ => some 0) (fun i x s hx => ?_) (fun s => by simp [orL, len]) ()
 ·have key : ∀ (l : List Int) (i : Nat), z0H (fun _ (_ : Unit) (x : Int) => if x != 0 then some (Sum.inr x) else some (.inl ())) (fun _ => some 0) i l () = some (orF l) := by
   intro l
   induction l with
   | nil => intro i; rfl
   | cons x l ih =>
    intro i
    by_cases hx : x = 0
    ·subst hx; exact ih (i + 1)
    ·simp [z0H, orF, hx]
  rw [key] at h
  exact h
 ·have hi := (List.getElem?_eq_some_iff.1 hx).1
  unfold orL
  have hlt : decide ((i : Int) < len l) = true := by simp [len]; omega
  simp only [hlt, if_true, xZ, hx, zob]
  by_cases h0 : x = 0
  ·subst h0; simp [uF i (by omega)]
  ·simp [h0]
section
variable {α : Type} {lt : α → α → Bool}
theorem zWN (x : α) : ∀ l : List α, (ins lt x l).Perm (x :: l)
 | [] => List.Perm.refl _
 | y :: r => by
  unfold ins
  split
  ·exact ((zWN x r).cons y).trans (List.Perm.swap x y r)
  ·exact List.Perm.refl _
theorem zNM : ∀ l : List α, (zTY lt l).Perm l
 | [] => List.Perm.refl _
 | x :: r => (zWN x _).trans ((zNM r).cons x)
theorem zVR (O : tV lt) (x : α) : ∀ l : List α, l.Pairwise (fun x y => lt y x = false) → (ins lt x l).Pairwise (fun x y => lt y x = false)
 | [], _ => by simp [ins]
 | y :: r, h => by
  obtain ⟨h1, h2⟩ := List.pairwise_cons.1 h
  unfold ins
  split
  ·rename_i hlt
   refine List.pairwise_cons.2 ⟨fun z hz => ?_, zVR O x r h2⟩
   rcases List.mem_cons.1 ((zWN x r).mem_iff.1 hz) with rfl | hz
   ·exact O.asymm hlt
   ·exact h1 z hz
  ·rename_i hlt
   have hyx : lt y x = false := by simpa using hlt
   refine List.pairwise_cons.2 ⟨fun z hz => ?_, h⟩
   rcases List.mem_cons.1 hz with rfl | hz
   ·exact hyx
   ·cases hzx : lt z x with
    | false => rfl
    | true =>
     have hzy := h1 z hz
     rcases O.tri x y with h3 | rfl | h3
     ·rw [O.trans _ _ _ hzx h3] at hzy; cases hzy
     ·rw [hzx] at hzy; cases hzy
     ·rw [h3] at hyx; cases hyx
theorem zMO (O : tV lt) : ∀ l : List α, (zTY lt l).Pairwise (fun x y => lt y x = false)
 | [] => List.Pairwise.nil
 | x :: r => zVR O x _ (zMO O r)
theorem zNr (O : tV lt) (l : List α) : (l.mergeSort fun x y => !lt y x) = zTY lt l := by
 refine List.Perm.eq_of_pairwise (le := fun x y => lt y x = false) (fun a b _ _ h1 h2 => ?_) (zO6 O l) (zMO O l) ((List.mergeSort_perm _ _).trans (zNM l).symm)
 rcases O.tri a b with h | h | h
 ·rw [h] at h2; cases h2
 ·exact h
 ·rw [h] at h1; cases h1
end
theorem zUW {l : List Int} (h : l.length < 4294967296) : z3p l = some (zTY yV l) := by
 unfold z3p
 rw [if_pos h, ← zNr xM]
 have : (fun x y : Int => decide (x ≤ y)) = fun x y => !yV y x := by
  funext x y
  rw [Bool.eq_iff_iff]; simp
 rw [this]
end
section
section
variable {α : Type} {l : List α} {i : Nat} {x : α}
theorem vQ (h : l[i]? = some x) : i < l.length := (List.getElem?_eq_some_iff.1 h).1
theorem wZ (h : l[i]? = some x) : decide ((i : Int) < len l) = true := by have := vQ h; simp [len]; omega
theorem xD (l : List α) : decide (((l.length : Nat) : Int) < len l) = false := by simp [len]
theorem wV (h : l[i]? = some x) : zI l (i : Int) = some x := by rw [xZ]; exact h
theorem wY (h : l[i]? = some x) (hl : l.length < 4294967296) : zR ((i : Int) + 1) = ((i + 1 : Nat) : Int) := uF i (by have := vQ h; omega)
theorem zQL {j : Int} (h : zI l j = some x) : ∃ n : Nat, j = (n : Int) ∧ l[n]? = some x := by
 unfold zI at h
 split at h
 ·rename_i h0; exact ⟨j.toNat, by omega, h⟩
 ·cases h
theorem zJH {j : Int} (h0 : 0 ≤ j) (h1 : j < l.length) : ∃ x, zI l j = some x := by obtain ⟨x, h, _⟩ := zRp h0 h1; exact ⟨x, h⟩
theorem xF (h : l[i]? = some x) : l.take (i + 1) = l.take i ++ [x] := by rw [List.take_add_one, h]; rfl
theorem vK (h : l[i]? = some x) : x ∈ l := List.mem_of_getElem? h
end
section
variable {α σ ρ : Type}
theorem zCf {B : σ × Int → Option ((σ × Int) ⊕ ρ)} (l : List α) (f : σ → α → σ) (fin : σ → ρ) (I : Nat → σ → Prop) (s : σ) (h0 : I 0 s)
  (hB : ∀ (i : Nat) x s, l[i]? = some x → I i s → B (s, (i : Int)) = some (.inl (f s x, ((i + 1 : Nat) : Int))) ∧ I (i + 1) (f s x))
  (he : ∀ s, I l.length s → B (s, (l.length : Int)) = some (.inr (fin s))) : zV B (s, 0) = some (fin (l.foldl f s)) ∧ I l.length (l.foldl f s) := by
 have key : ∀ (n i : Nat) (s : σ), i + n = l.length → I i s → zV B (s, (i : Int)) = some (fin ((l.drop i).foldl f s)) ∧ I l.length ((l.drop i).foldl f s) := by
  intro n
  induction n with
  | zero =>
   intro i s h hI
   rw [Nat.add_zero] at h
   subst h
   rw [yH, he s hI, List.drop_length]
   exact ⟨rfl, hI⟩
  | succ n ih =>
   intro i s h hI
   have hx : l[i]? = some l[i] := List.getElem?_eq_getElem (by omega)
   obtain ⟨h1, h2⟩ := hB i _ s hx hI
   rw [yH, h1, List.drop_eq_getElem_cons (by omega)]
   exact ih (i + 1) _ (by omega) h2
 have := key l.length 0 s (by omega) h0
 simpa using this
theorem zSZ {B : Int × σ → Option ((Int × σ) ⊕ ρ)} (l : List α) (f : σ → α → σ) (fin : σ → ρ) (I : Nat → σ → Prop) (s : σ) (h0 : I 0 s)
  (hB : ∀ (i : Nat) x s, l[i]? = some x → I i s → B ((i : Int), s) = some (.inl (((i + 1 : Nat) : Int), f s x)) ∧ I (i + 1) (f s x))
  (he : ∀ s, I l.length s → B ((l.length : Int), s) = some (.inr (fin s))) : zV B (0, s) = some (fin (l.foldl f s)) ∧ I l.length (l.foldl f s) := by
 have key : ∀ (n i : Nat) (s : σ), i + n = l.length → I i s → zV B ((i : Int), s) = some (fin ((l.drop i).foldl f s)) ∧ I l.length ((l.drop i).foldl f s) := by
  intro n
  induction n with
  | zero =>
   intro i s h hI
   rw [Nat.add_zero] at h
   subst h
   rw [yH, he s hI, List.drop_length]
   exact ⟨rfl, hI⟩
  | succ n ih =>
   intro i s h hI
   have hx : l[i]? = some l[i] := List.getElem?_eq_getElem (by omega)
   obtain ⟨h1, h2⟩ := hB i _ s hx hI
   rw [yH, h1, List.drop_eq_getElem_cons (by omega)]
   exact ih (i + 1) _ (by omega) h2
 have := key l.length 0 s (by omega) h0
 simpa using this
theorem zXU {B : Int → Option (Int ⊕ ρ)} (l : List α) (p : α → Bool) (yes no : ρ)
  (hB : ∀ (i : Nat) x, l[i]? = some x → B (i : Int) = some (if p x then .inr yes else .inl ((i + 1 : Nat) : Int))) (he : B (l.length : Int) = some (.inr no)) :
  zV B 0 = some (if l.any p then yes else no) := by
 have key : ∀ (n i : Nat), i + n = l.length → zV B (i : Int) = some (if (l.drop i).any p then yes else no) := by
  intro n
  induction n with
  | zero =>
   intro i h
   rw [Nat.add_zero] at h
   subst h
   rw [yH, he, List.drop_length]
   rfl
  | succ n ih =>
   intro i h
   have hx : l[i]? = some l[i] := List.getElem?_eq_getElem (by omega)
   rw [yH, hB i _ hx, List.drop_eq_getElem_cons (by omega)]
   cases hp : p l[i] with
   | true => simp only [if_true, List.any_cons, hp, Bool.true_or]
   | false =>
    simp only [zbf, if_false, List.any_cons, hp, Bool.false_or]
    exact ih (i + 1) (by omega)
 have := key l.length 0 (by omega)
 simpa using this
theorem zVw {B : Int → Option (Int ⊕ Bool)} (l : List α) (p : α → Bool) (hB : ∀ (i : Nat) x, l[i]? = some x → B (i : Int) = some (if p x then .inr true else .inl ((i + 1 : Nat) : Int))) (he : B (l.length : Int) = some (.inr false)) :
  zV B 0 = some (l.any p) := by
 rw [zXU l p true false hB he]
 cases l.any p <;> rfl
end
theorem zDH {α β : Type} (p : α → Bool) (g : α → β) : ∀ (l : List α) (acc : List β), l.foldl (fun s x => if p x then s ++ [g x] else s) acc = acc ++ (l.filter p).map g
 | [], acc => by simp
 | x :: l, acc => by
  simp only [List.foldl_cons, zDH p g l]
  cases hp : p x <;> simp [hp]
theorem zJL {α β : Type} (g : α → β) : ∀ (l : List α) (acc : List β), l.foldl (fun s x => s ++ [g x]) acc = acc ++ l.map g
 | [], acc => by simp
 | x :: l, acc => by simp only [List.foldl_cons, zJL g l]; simp
theorem zKM {α β : Type} (g : α → List β) : ∀ (l : List α) (acc : List β), l.foldl (fun s x => s ++ g x) acc = acc ++ l.flatMap g
 | [], acc => by simp
 | x :: l, acc => by simp only [List.foldl_cons, zKM g l]; simp
theorem z0X {l r : List Int} (h : r.Perm l) (hs : r.Pairwise (fun x y => yV y x = false)) : tH r = tD yV l := by
 obtain ⟨h1, h2⟩ := zXP xM hs
 exact (zWu xM h1 (fun x => by rw [h2]; exact h.mem_iff)).symm
end
section
def vT (n : Nat) : List Int := (List.range n).map Int.ofNat
theorem xX (n : Nat) : (vT n).length = n := by simp [vT]
theorem zQM {n i : Nat} {x : Int} (h : (vT n)[i]? = some x) : x = (i : Int) ∧ i < n := by
 have h1 := vQ h
 rw [xX] at h1
 simp only [vT, List.getElem?_map, List.getElem?_range h1, Option.map_some, Option.some.injEq] at h
 exact ⟨h.symm, h1⟩
theorem uL {n : Nat} {x : Int} : x ∈ vT n ↔ 0 ≤ x ∧ x < n := by
 simp only [vT, List.mem_map, List.mem_range]
 exact ⟨fun ⟨a, h1, h2⟩ => by subst h2; simp; omega, fun h => ⟨x.toNat, by omega, by simp; omega⟩⟩
theorem zPY (n : Nat) : vY yV (vT n) := by
 rw [vT, vY, List.pairwise_map]
 exact List.pairwise_lt_range.imp fun {a b} h => by simp; omega
theorem zMn {α β ρ : Type} {B : List β × Int → Option ((List β × Int) ⊕ ρ)} (l : List α) (g : α → List β) (fin : List β → ρ) (c : Nat) (hg : ∀ x ∈ l, (g x).length ≤ c) (acc : List β)
  (hB : ∀ (i : Nat) x s, l[i]? = some x → s.length ≤ acc.length + c * i → B (s, (i : Int)) = some (.inl (s ++ g x, ((i + 1 : Nat) : Int))))
  (he : ∀ s, B (s, (l.length : Int)) = some (.inr (fin s))) : zV B (acc, 0) = some (fin (acc ++ l.flatMap g)) := by
 have h := zCf (B := B) l (fun s x => s ++ g x) fin (fun i s => s.length ≤ acc.length + c * i) acc (by simp) (fun i x s hx hI => ⟨hB i x s hx hI, by
  have := hg x (vK hx)
  rw [List.length_append, Nat.mul_add]; omega⟩) (fun s _ => he s)
 rw [zKM] at h
 exact h.1
theorem zNu {α β : Type} (g : α → List β) (c : Nat) : ∀ (l : List α), (∀ x ∈ l, (g x).length ≤ c) → (l.flatMap g).length ≤ l.length * c
 | [], _ => by simp
 | x :: l, h => by
  have h1 := zNu g c l fun y hy => h y (List.mem_cons_of_mem _ hy)
  have h2 := h x List.mem_cons_self
  simp only [List.flatMap_cons, List.length_append, List.length_cons, Nat.add_mul, Nat.one_mul]
  omega
theorem zYa {α β : Type} (p : α → Bool) (g : α → List β) (l : List α) : (l.filter p).flatMap g = l.flatMap fun x => if p x then g x else [] := by
 induction l with
 | nil => rfl
 | cons x l ih =>
  rw [List.filter_cons, List.flatMap_cons]
  cases hp : p x with
  | true => simp [ih]
  | false => simp [ih]
section
variable {α : Type}
noncomputable def zQS (p : α → Option Bool) (y0 : List α) (s1 : Int) : Option (Int ⊕ Int) :=
 if decide (s1 < (len y0)) then
  (zI y0 s1).bind fun x1 =>
  (p x1).bind fun r1 =>
  if r1 then
   some (.inr s1)
  else
   some (.inl (zR (s1 + 1)))
 else
  some (.inr (-1))
theorem zSa (p : α → Option Bool) (q : α → Bool) (l : List α) (hb : l.length < 4294967296) (hp : ∀ x ∈ l, p x = some (q x)) :
  (l.any q = false ∧ zV (zQS p l) 0 = some (-1)) ∨ ∃ (k : Nat) (x : α), zV (zQS p l) 0 = some (k : Int) ∧ l[k]? = some x ∧ q x = true ∧ ∀ j y, j < k → l[j]? = some y → q y = false := by
 have h := uR (B := zQS p l) (fun i (_ : Unit) => (i : Int)) l (fun i _ => ∀ j y, j < i → l[j]? = some y → q y = false)
  (fun r => (l.any q = false ∧ r = -1) ∨ ∃ (k : Nat) (x : α), r = (k : Int) ∧ l[k]? = some x ∧ q x = true ∧ ∀ j y, j < k → l[j]? = some y → q y = false) ?_ ?_ () (by omega)
 ·obtain ⟨r, h1, ⟨h2, rfl⟩ | ⟨k, x, rfl, h2⟩⟩ := h
  ·exact .inl ⟨h2, h1⟩
  ·exact .inr ⟨k, x, h1, h2⟩
 ·intro i x s hx hI
  unfold zQS
  simp only [wZ hx, if_true, wV hx, zob, hp x (vK hx)]
  cases hq : q x with
  | true => exact .inr ⟨_, by simp only [if_true], .inr ⟨i, x, rfl, hx, hq, hI⟩⟩
  | false =>
   refine .inl ⟨(), by simp only [zbf, if_false, wY hx hb], fun j y hj hy => ?_⟩
   rcases Nat.lt_succ_iff_lt_or_eq.1 hj with h | rfl
   ·exact hI j y h hy
   ·rw [hx] at hy; cases hy; exact hq
 ·intro s hI
  unfold zQS
  refine ⟨-1, by simp only [xD, zbf, if_false], .inl ⟨?_, rfl⟩⟩
  rw [List.any_eq_false]
  intro x hx
  obtain ⟨j, hj⟩ := List.mem_iff_getElem?.1 hx
  simp [hI j x (vQ hj) hj]
theorem z1l (p : α → Option Bool) (q : α → Bool) (l : List α) (hb : l.length < 4294967296) (hp : ∀ x ∈ l, p x = some (q x)) : ((zV (zQS p l) 0).bind fun r1 => some (decide (0 ≤ r1))) = some (l.any q) := by
 rcases zSa p q l hb hp with ⟨h1, h2⟩ | ⟨k, x, h1, h2, h3, _⟩
 ·rw [h2, h1]; rfl
 ·rw [h1, List.any_eq_true.2 ⟨x, vK h2, h3⟩]; simp
noncomputable def zTU (p : α → Option Bool) (y0 : List α) (s2 : (List α) × Int × Int) : Option (((List α) × Int × Int) ⊕ ((List α) × Int)) :=
 if decide (s2.2.2 < (len y0)) then
  (zI s2.1 s2.2.2).bind fun x1 =>
  (p x1).bind fun r2 =>
  if !r2 then
   (zI s2.1 s2.2.1).bind fun _ =>
   some (.inl (List.set s2.1 (Int.toNat s2.2.1) x1, zR (s2.2.1 + 1), zR (s2.2.2 + 1)))
  else
   some (.inl (s2.1, s2.2.1, zR (s2.2.2 + 1)))
 else
  some (.inr (s2.1, s2.2.1))
noncomputable def zZa (p : α → Option Bool) (z : α) (y0 : List α) : Option (List α) :=
 (zV (zQS p y0) 0).bind fun r1 =>
 if r1 == (-1) then
  some y0
 else
  (zV (zTU p y0) (y0, r1, zR (r1 + 1)) : Option ((List α) × Int)).bind fun s1 =>
  (yG (decide (0 ≤ s1.2) && decide (s1.2 ≤ len s1.1))).bind fun _ =>
  (sub (zCk s1.1 s1.2 z) 0 s1.2).bind fun x3 =>
  some x3
theorem zWQ (p : α → Option Bool) (q : α → Bool) (z : α) (l : List α) (hb : l.length < 4294967296) (hp : ∀ x ∈ l, p x = some (q x)) : zZa p z l = some (l.filter fun x => !q x) := by
 unfold zZa
 rcases zSa p q l hb hp with ⟨h1, h2⟩ | ⟨k, x, h1, h2, h3, h4⟩
 ·rw [h2]
  simp only [zob, beq_self_eq_true, if_true]
  congr 1
  symm
  rw [List.filter_eq_self]
  intro y hy
  have := List.any_eq_false.1 h1 y hy
  simpa using this
 ·rw [h1]
  have hne : ((k : Int) == -1) = false := beq_eq_false_iff_ne.2 (by omega)
  have hkl := vQ h2
  simp only [zob, hne, zbf, if_false, uF k (by omega)]
  have key : ∀ n i j (c : List α), i + n = l.length → j < i → c.length = l.length → (∀ u, i ≤ u → c[u]? = l[u]?) → c.take j = (l.take i).filter (fun x => !q x) →
    ∃ c' j', zV (zTU p l) (c, (j : Int), (i : Int)) = some (c', ((j' : Nat) : Int)) ∧ c'.length = l.length ∧ j' ≤ l.length ∧ c'.take j' = l.filter fun x => !q x := by
   intro n
   induction n with
   | zero =>
    intro i j c hn hj hc hs ht
    rw [Nat.add_zero] at hn
    subst hn
    rw [List.take_length] at ht
    refine ⟨c, j, ?_, hc, by omega, ht⟩
    rw [yH]
    unfold zTU
    simp only [xD, zbf, if_false]
   | succ n ih =>
    intro i j c hn hj hc hs ht
    have hx : l[i]? = some l[i] := List.getElem?_eq_getElem (by omega)
    have hcx : zI c (i : Int) = some l[i] := by rw [xZ, hs i (Nat.le_refl _)]; exact hx
    rw [yH]
    unfold zTU
    simp only [wZ hx, if_true, hcx, zob, hp _ (vK hx)]
    cases hq : q l[i] with
    | true =>
     simp only [Bool.not_true, zbf, if_false, wY hx hb]
     refine ih (i + 1) j c (by omega) (by omega) hc (fun u hu => hs u (by omega)) ?_
     rw [xF hx, List.filter_append, ht]
     simp [hq]
    | false =>
     have hcj : zI c (j : Int) = some c[j] := by rw [xZ]; exact List.getElem?_eq_getElem (by omega)
     simp only [Bool.not_false, if_true, hcj, zob, wY hx hb, Int.toNat_natCast]
     rw [uF j (by omega)]
     refine ih (i + 1) (j + 1) (c.set j l[i]) (by omega) (by omega) (by simp [hc]) (fun u hu => ?_) ?_
     ·rw [List.getElem?_set_ne (by omega)]; exact hs u (by omega)
     ·rw [xF hx, List.filter_append, ← ht, List.take_add_one, List.getElem?_set_self (by omega), List.take_set_of_le (Nat.le_refl _)]
      simp [hq]
  obtain ⟨c, j, e1, e2, e3, e4⟩ := key (l.length - (k + 1)) (k + 1) k l (by omega) (by omega) rfl (fun u _ => rfl) (by
   rw [xF h2, List.filter_append]
   have : (l.take k).filter (fun x => !q x) = l.take k := by
    rw [List.filter_eq_self]
    intro y hy
    obtain ⟨u, hu⟩ := List.mem_iff_getElem?.1 hy
    rw [List.getElem?_take] at hu
    split at hu
    ·rename_i huk; simp [h4 u y huk hu]
    ·cases hu
   simp [this, h3])
  rw [e1]
  have hc1 : (decide (0 ≤ ((j : Nat) : Int)) && decide (((j : Nat) : Int) ≤ len c)) = true := by simp [len]; omega
  simp only [zob, hc1, yG, if_true]
  rw [zM7 (by omega) (by rw [zIS, e2]; omega)]
  simp only [zob, Int.toNat_natCast, zCk, e4]
  have hdl : (l.filter fun x => !q x).length = j := by rw [← e4, List.length_take]; omega
  rw [← hdl, List.take_left]
end
end
section
theorem zOw (x y : Int) : zB2 x y = some (zXr x y) := by
 unfold zB2 zXr
 by_cases h1 : x < y
 ·simp [zHD, h1]
 ·by_cases h2 : y < x <;> simp [zHD, h1, h2]
theorem z11 (l : List Int) (hb : l.length < 9223372036854775807) : zHE l = some (orF l) := z2m l hb
abbrev xO : qW → qW → Bool := zWJ yV yV
abbrev lt4 : wA → wA → Bool := zWJ yV (zWJ yV (zWJ yV yV))
theorem z2g : tV xO := zVq xM xM
theorem ord4 : tV lt4 := zVq xM (zVq xM (zVq xM xM))
theorem z1a (x y : qW) : zDk x y = some (orF [zXr x.1 y.1, zXr x.2 y.2]) := by
 unfold zDk
 rw [zOw, zOw]
 simp only [zob]
 rw [z11 _ (by simp)]
 rfl
theorem zWn (x y : wA) : zCx x y = some (orF [zXr x.1 y.1, zXr x.2.1 y.2.1, zXr x.2.2.1 y.2.2.1, zXr x.2.2.2 y.2.2.2]) := by
 unfold zCx
 rw [zOw, zOw, zOw, zOw]
 simp only [zob]
 rw [z11 _ (by simp)]
 rfl
theorem zQB {x y : Int} {r : List Int} {b : Bool} (h : decide (orF r < 0) = b) : decide (orF (zXr x y :: r) < 0) = (yV x y || (x == y && b)) := by
 unfold orF zXr
 by_cases h1 : x < y
 ·simp [h1]
 ·by_cases h2 : y < x
  ·have h3 : (x == y) = false := by simp; omega
   simp [h1, h2, h3]
  ·have h3 : x = y := by omega
   subst h3
   simp [h]
theorem z0V (x y : qW) : uI zDk x y = xO x y := by
 simp only [uI, z1a, Option.getD_some]
 exact zQB (by rw [zQB (r := []) (b := false) (by simp [orF])]; simp)
theorem zXh (x y : wA) : uI zCx x y = lt4 x y := by
 simp only [uI, zWn, Option.getD_some]
 exact zQB (zQB (zQB (by rw [zQB (r := []) (b := false) (by simp [orF])]; simp)))
theorem zZu {l : List qW} (hl : l.length < 4294967296) : zAp l = some (l.mergeSort fun x y => !xO y x) :=
 zWP z2g (fun x y => ⟨_, z1a x y⟩) z0V hl
theorem zXF {l : List wA} (hl : l.length < 4294967296) : zA4 l = some (l.mergeSort fun x y => !lt4 y x) :=
 zWP ord4 (fun x y => ⟨_, zWn x y⟩) zXh hl
def zWv (n : Int) (a : wA) : Bool := decide (a.1 < 0) || decide (n ≤ a.1) || decide (a.2.1 < 0) || decide (n ≤ a.2.1)
def zU0 (l : List wA) : List qW := l.map fun a => (a.1, a.2.1)
def zT8 (n : Int) (l : List wA) : wH × Int :=
 if decide (n < 0) || decide (40 < n) then ((0, []), 1) else if l.any (zWv n) then ((0, []), 1) else ((n, tD xO (zU0 l)), 0)
theorem zNm {α : Type} {l : List α} {i : Nat} {x : α} (p : α → Bool) (hx : l[i]? = some x) : (l.take (i + 1)).any p = ((l.take i).any p || p x) := by
 rw [List.take_add_one, hx]; simp
abbrev z5h (l : List wA) (i j : Int) : Bool := l.any fun a => a.1 == i && a.2.1 == j
abbrev z0i (l : List wA) (N : Nat) (i : Nat) : List qW := ((List.range N).filter fun (j : Nat) => z5h l (i : Int) (j : Int)).map fun (j : Nat) => ((i : Int), (j : Int))
abbrev z4Z (l : List wA) (N : Nat) (k : Nat) : List qW := (List.range k).flatMap (z0i l N)
theorem z1I {n : Int} {l : List wA} (h0 : 0 ≤ n) (hb : l.any (zWv n) = false) : tD xO (zU0 l) = z4Z l n.toNat n.toNat := by
 apply zWu z2g
 ·refine List.pairwise_flatMap.2 ⟨fun i _ => ?_, ?_⟩
  ·rw [List.pairwise_map]
   refine (List.pairwise_lt_range.filter _).imp fun {a b} h => ?_
   simp; omega
  ·refine List.pairwise_lt_range.imp fun {a b} h x hx y hy => ?_
   obtain ⟨j, _, rfl⟩ := List.mem_map.1 hx
   obtain ⟨k, _, rfl⟩ := List.mem_map.1 hy
   simp; omega
 ·rintro ⟨i, j⟩
  constructor
  ·intro h
   obtain ⟨a, _, hx⟩ := List.mem_flatMap.1 h
   obtain ⟨b, hb2, he⟩ := List.mem_map.1 hx
   obtain ⟨hb3, hb4⟩ := List.mem_filter.1 hb2
   obtain ⟨z, hz, hz2⟩ := List.any_eq_true.1 hb4
   simp only [Bool.and_eq_true, beq_iff_eq] at hz2
   refine List.mem_map.2 ⟨z, hz, ?_⟩
   rw [hz2.1, hz2.2]; exact he
  ·intro h
   obtain ⟨z, hz, he⟩ := List.mem_map.1 h
   have hzb : zWv n z = false := by
    cases hq : zWv n z with
    | false => rfl
    | true => rw [List.any_eq_true.2 ⟨z, hz, hq⟩] at hb; cases hb
   simp only [zWv, Bool.or_eq_false_iff, decide_eq_false_iff_not] at hzb
   obtain ⟨⟨⟨h1, h2⟩, h3⟩, h4⟩ := hzb
   refine List.mem_flatMap.2 ⟨z.1.toNat, List.mem_range.2 (by omega), List.mem_map.2 ⟨z.2.1.toNat, List.mem_filter.2 ⟨List.mem_range.2 (by omega), ?_⟩, ?_⟩⟩
   ·refine List.any_eq_true.2 ⟨z, hz, ?_⟩
    simp; omega
   ·rw [← he]; simp; omega
theorem zYZ (n : Int) (l : List wA) (hl : l.length < 4294967000) :
  zV (zFr l n) 0 = some (if l.any (zWv n) then .inr ((0, []), 1) else .inl ()) := by
 have h := uR (B := zFr l n) (fun i (_ : Unit) => (i : Int)) l (fun i _ => (l.take i).any (zWv n) = false)
  (fun r => r = if l.any (zWv n) then .inr ((0, []), 1) else .inl ()) ?_ ?_ () (by simp)
 ·obtain ⟨r, h1, rfl⟩ := h; exact h1
 ·intro i x s hx hI
  have hi := (List.getElem?_eq_some_iff.1 hx).1
  unfold zFr
  have hlt : decide ((i : Int) < len l) = true := by simp [len]; omega
  simp only [hlt, if_true, xZ, hx, zob]
  have hc : (if decide (x.1 < 0) = true then some true else if decide (n ≤ x.1) = true then some true else if decide (x.2.1 < 0) = true then some true else some (decide (n ≤ x.2.1)) : Option Bool) = some (zWv n x) := by
   unfold zWv
   cases decide (x.1 < 0) <;> cases decide (n ≤ x.1) <;> cases decide (x.2.1 < 0) <;> simp
  rw [hc]
  simp only [zob]
  cases hb : zWv n x with
  | true =>
   refine .inr ⟨_, rfl, ?_⟩
   have : l.any (zWv n) = true := List.any_eq_true.2 ⟨x, List.mem_of_getElem? hx, hb⟩
   simp [this]
  | false => exact .inl ⟨(), by simp [uF i (by omega)], by rw [zNm _ hx, hI, hb]; rfl⟩
 ·intro s hI
  unfold zFr
  rw [List.take_length] at hI
  simp [hI, len]
theorem zYe (l : List wA) (s5 s6 : Int × List qW) (hl : l.length < 4294967000) : zV (zGK l s5 s6) (false, 0) = some (z5h l s5.1 s6.1) := by
 have h := uR (B := zGK l s5 s6) (fun i (b : Bool) => (b, (i : Int))) l (fun i b => b = (l.take i).any fun a => a.1 == s5.1 && a.2.1 == s6.1) (fun r => r = z5h l s5.1 s6.1) ?_ ?_ false (by simp)
 ·obtain ⟨r, h1, rfl⟩ := h; exact h1
 ·rintro i x s hx rfl
  have hi := (List.getElem?_eq_some_iff.1 hx).1
  unfold zGK
  have hlt : decide ((i : Int) < len l) = true := by simp [len]; omega
  simp only [hlt, if_true, xZ, hx, zob]
  refine .inl ⟨_, ?_, rfl⟩
  rw [zNm _ hx, uF i (by omega)]
  cases (l.take i).any fun a => a.1 == s5.1 && a.2.1 == s6.1 <;> cases x.1 == s5.1 <;> simp
 ·rintro s rfl
  unfold zGK
  simp [len]
theorem zYl (n : Int) (l : List wA) (k : Nat) (acc : List qW) (h0 : 0 ≤ n) (h1 : n ≤ 40) (hl : l.length < 4294967000) (hk : k < 40) (ha : acc.length ≤ 1600) :
  zV (zGQ n l ((k : Int), acc)) (0, acc) = some (.inl (((k + 1 : Nat) : Int), acc ++ z0i l n.toNat k)) := by
 have h := uR (B := zGQ n l ((k : Int), acc)) (fun i (s : List qW) => ((i : Int), s)) (List.range n.toNat) (fun i s => s = acc ++ z0i l i k) (fun r => r = .inl (((k + 1 : Nat) : Int), acc ++ z0i l n.toNat k)) ?_ ?_ acc (by simp)
 ·obtain ⟨r, h1, rfl⟩ := h; exact h1
 ·rintro i x s hx rfl
  have hi := (List.getElem?_eq_some_iff.1 hx).1
  rw [List.length_range] at hi
  unfold zGQ
  have hlt : decide ((i : Int) < n) = true := by simp; omega
  simp only [hlt, if_true, zYe l _ _ hl, zob]
  have hrow : z0i l (i + 1) k = z0i l i k ++ if z5h l k i then [((k : Int), (i : Int))] else [] := by
   unfold z0i
   rw [List.range_succ, List.filter_append, List.map_append]
   congr 1
   by_cases hh : z5h l k i = true <;> simp [hh]
  have hlen : (z0i l i k).length ≤ i := by
   unfold z0i
   rw [List.length_map]
   exact Nat.le_trans (List.length_filter_le _ _) (by simp)
  refine .inl ⟨_, ?_, rfl⟩
  rw [hrow, uF i (by omega)]
  cases z5h l k i with
  | true => rw [yP (by rw [List.length_append, List.length_singleton]; omega)]; simp
  | false => simp
 ·rintro s rfl
  unfold zGQ
  have hlt : decide (((List.range n.toNat).length : Int) < n) = false := by simp; omega
  rw [List.length_range] at *
  simp only [hlt, zbf, if_false]
  exact ⟨_, rfl, by rw [uF k (by omega)]⟩
theorem zY5 (n : Int) (l : List wA) (h0 : 0 ≤ n) (h1 : n ≤ 40) (hl : l.length < 4294967000) : zV (zFk n l) (0, []) = some (z4Z l n.toNat n.toNat) := by
 have h := uR (B := zFk n l) (fun i (s : List qW) => ((i : Int), s)) (List.range n.toNat) (fun i s => s = z4Z l n.toNat i ∧ s.length ≤ 40 * i) (fun r => r = z4Z l n.toNat n.toNat) ?_ ?_ [] (by simp)
 ·obtain ⟨r, h1, rfl⟩ := h; exact h1
 ·rintro i x s hx ⟨rfl, hs⟩
  have hi := (List.getElem?_eq_some_iff.1 hx).1
  rw [List.length_range] at hi
  unfold zFk
  have hlt : decide ((i : Int) < n) = true := by simp; omega
  simp only [hlt, if_true]
  have hlen : (z0i l n.toNat i).length ≤ 40 := by
   unfold z0i
   rw [List.length_map]
   exact Nat.le_trans (List.length_filter_le _ _) (by simp; omega)
  have hm : z4Z l n.toNat (i + 1) = z4Z l n.toNat i ++ z0i l n.toNat i := by
   unfold z4Z
   rw [List.range_succ, List.flatMap_append]; simp
  refine .inl ⟨_, zYl n l i _ h0 h1 hl (by omega) (by omega), hm.symm, ?_⟩
  rw [List.length_append]; omega
 ·rintro s ⟨rfl, hs⟩
  unfold zFk
  rw [List.length_range]
  have hlt : decide (((n.toNat : Nat) : Int) < n) = false := by simp; omega
  simp only [hlt, zbf, if_false]
  exact ⟨_, rfl, rfl⟩
theorem zXI (n : Int) (l : List wA) (hl : l.length < 4294967000) : zJR n l = some (zT8 n l) := by
 unfold zJR zT8
 cases h0 : (decide (n < 0) || decide (40 < n)) with
 | true => simp
 | false =>
  simp only [Bool.or_eq_false_iff, decide_eq_false_iff_not] at h0
  simp only [zbf, if_false]
  rw [zYZ n l hl]
  cases hb : l.any (zWv n) with
  | true => simp [yZ]
  | false =>
   simp only [zbf, if_false, yZ, zob]
   rw [zY5 n l (by omega) (by omega) hl, z1I (by omega) hb]
   rfl
end
section
theorem zIo : ∀ a : qI, uM a a = false
 | [] => rfl
 | a :: x => by simp [uM, zIo x, UInt8.lt_irrefl]
theorem zUU : ∀ {a b c : qI}, uM a b = true → uM b c = true → uM a c = true
 | _, _, [], _, h => by simp [uM] at h
 | _, [], _ :: _, h, _ => by simp [uM] at h
 | [], _ :: _, _ :: _, _, _ => rfl
 | a :: x, b :: y, c :: z, h1, h2 => by
  simp only [uM, Bool.or_eq_true, decide_eq_true_eq, Bool.and_eq_true, beq_iff_eq] at *
  rcases h1 with h1 | ⟨rfl, h1⟩ <;> rcases h2 with h2 | ⟨rfl, h2⟩
  ·exact .inl (UInt8.lt_trans h1 h2)
  ·exact .inl h1
  ·exact .inl h2
  ·exact .inr ⟨rfl, zUU h1 h2⟩
theorem zXD : ∀ a b : qI, uM a b = true ∨ a = b ∨ uM b a = true
 | [], [] => .inr (.inl rfl)
 | [], _ :: _ => .inl rfl
 | _ :: _, [] => .inr (.inr rfl)
 | a :: x, b :: y => by
  simp only [uM, Bool.or_eq_true, decide_eq_true_eq, Bool.and_eq_true, beq_iff_eq, List.cons.injEq]
  rcases UInt8.lt_or_lt_of_ne (a := a) (b := b) |> fun f => (Classical.em (a = b)).imp id f with rfl | h | h
  ·rcases zXD x y with h | rfl | h
   ·exact .inl (.inr ⟨rfl, h⟩)
   ·exact .inr (.inl ⟨rfl, rfl⟩)
   ·exact .inr (.inr (.inr ⟨rfl, h⟩))
  ·exact .inl (.inl h)
  ·exact .inr (.inr (.inl h))
theorem z0F (a b : qI) : zE6 a b = some (if uM a b then -1 else if a = b then 0 else 1) := by
 have hn : ∀ x : qI, zEI x = some false := fun x => by simp [zEI]
 simp only [zE6, hn, zob, zbf, if_false]
 by_cases h1 : uM a b = true
 ·simp [h1]
 ·by_cases h2 : a = b
  ·simp [h2, zIo]
  ·simp [h1, h2]
def loB (b : UInt8) : Bool := decide (97 ≤ (b.toNat : Int)) && decide ((b.toNat : Int) ≤ 122)
def okB (b : UInt8) : Bool := loB b || (if decide (48 ≤ (b.toNat : Int)) then decide ((b.toNat : Int) ≤ 57) || (b.toNat : Int) == 95 else (b.toNat : Int) == 95)
def vName : qI → Bool
 | [] => false
 | c :: r => decide (r.length + 1 ≤ 12) && loB c && r.all okB
theorem zN3 (s : qI) : zCi s = some (vName s) := by
 unfold zCi
 cases s with
 | nil => rfl
 | cons c r =>
  have h0 : decide ((len (c :: r)) < 1) = false := by simp [len]; omega
  have hs0 : tP (c :: r) 0 = some (c.toNat : Int) := rfl
  rw [h0]
  by_cases hl : r.length + 1 ≤ 12
  ·have h1 : decide (12 < len (c :: r)) = false := by simp [len]; omega
   rw [h1]
   simp only [zbf, if_false, hs0, zob]
   by_cases hlo : loB c = true
   ·have ha : decide ((c.toNat : Int) < 97) = false := by simp [loB] at hlo ⊢; omega
    have hb : decide (122 < (c.toNat : Int)) = false := by simp [loB] at hlo ⊢; omega
    simp only [ha, hb, zbf, if_false, zob]
    have h := zRs (B := zE8 (c :: r)) (fun i (_ : Unit) => (i : Int)) (c :: r)
     (fun _ _ b => some (if okB b then .inl () else .inr false)) (fun _ => some true) ?_ ?_ ()
    ·rw [show ((0 : Nat) : Int) = 0 from rfl] at h
     rw [h]
     have key : ∀ (l : List UInt8) (i : Nat), z0H (fun (_ : Nat) (_ : Unit) (b : UInt8) => some (if okB b then .inl () else .inr false)) (fun _ => some true) i l () = some (l.all okB) := by
      intro l
      induction l with
      | nil => intro i; rfl
      | cons b l ih =>
       intro i
       by_cases hb : okB b = true
       ·simp only [z0H, hb, if_true]; rw [ih (i + 1)]; simp [hb]
       ·simp [z0H, hb]
     rw [key]
     simp [vName, hlo, hl, okB]
    ·intro i x s hx
     have hi := (List.getElem?_eq_some_iff.1 hx).1
     have hlt : decide ((i : Int) < len (c :: r)) = true := by simp [len] at hi ⊢; omega
     unfold zE8
     rw [z3N, hx, uF i (by simp at hi; omega)]
     simp only [hlt, if_true, Option.map_some, zob]
     have hok : okB x = !(if decide ((x.toNat : Int) < 97) then (if decide ((x.toNat : Int) < 48) then ((x.toNat : Int) != 95) else if decide (57 < (x.toNat : Int)) then ((x.toNat : Int) != 95) else false)
       else if decide (122 < (x.toNat : Int)) then (if decide ((x.toNat : Int) < 48) then ((x.toNat : Int) != 95) else if decide (57 < (x.toNat : Int)) then ((x.toNat : Int) != 95) else false) else false) := by
      unfold okB loB
      generalize (x.toNat : Int) = n
      rw [Bool.eq_iff_iff]
      simp
      constructor
      ·intro h
       by_cases h1 : n < 97 <;> by_cases h2 : n < 48 <;> by_cases h3 : 57 < n <;> by_cases h4 : 122 < n <;> simp [h1, h2, h3, h4] <;> (split at h <;> (try simp at h) <;> omega)
      ·intro h
       by_cases h1 : n < 97 <;> by_cases h2 : n < 48 <;> by_cases h3 : 57 < n <;> by_cases h4 : 122 < n <;> simp [h1, h2, h3, h4] at h <;> (split <;> (try simp) <;> omega)
     rw [hok]
     cases decide ((x.toNat : Int) < 97) <;> cases decide ((x.toNat : Int) < 48) <;> cases decide (57 < (x.toNat : Int)) <;> cases decide (122 < (x.toNat : Int)) <;> cases ((x.toNat : Int) != 95) <;> rfl
    ·intro s
     unfold zE8
     simp [len]
   ·have hor : (decide ((c.toNat : Int) < 97) || decide (122 < (c.toNat : Int))) = true := by simp [loB] at hlo ⊢; omega
    have hv : vName (c :: r) = false := by simp [vName, hlo]
    rw [hv]
    cases h1 : decide ((c.toNat : Int) < 97) with
    | true => rfl
    | false => rw [h1] at hor; simp only [Bool.false_or] at hor; simp only [zbf, if_false, hor, zob, if_true]
  ·have h1 : decide (12 < len (c :: r)) = true := by simp [len]; omega
   rw [h1]
   simp [vName, hl]
theorem zRa (x : zO) : zDy x = some (vName x.2) := by simp [zDy, zN3]
def vV (a b : zO) : Bool := uM a.2 b.2 || (a.2 == b.2 && (!a.1 && b.1))
def zOK (a b : zO) : Int := if vV a b then -1 else if a = b then 0 else 1
theorem zSf (a : zO) : vV a a = false := by simp [vV, zIo]
theorem zLn {a b c : zO} (h1 : vV a b = true) (h2 : vV b c = true) : vV a c = true := by
 obtain ⟨g, a⟩ := a; obtain ⟨g', b⟩ := b; obtain ⟨g'', c⟩ := c
 simp only [vV, Bool.or_eq_true, Bool.and_eq_true, beq_iff_eq, Bool.not_eq_true'] at *
 rcases h1 with h1 | ⟨rfl, h1, h1'⟩ <;> rcases h2 with h2 | ⟨rfl, h2, h2'⟩
 ·exact .inl (zUU h1 h2)
 ·exact .inl h1
 ·exact .inl h2
 ·rw [h1'] at h2; cases h2
theorem zOy (a b : zO) : vV a b = true ∨ a = b ∨ vV b a = true := by
 obtain ⟨g, a⟩ := a; obtain ⟨g', b⟩ := b
 simp only [vV, Bool.or_eq_true, Bool.and_eq_true, beq_iff_eq, Bool.not_eq_true', Prod.mk.injEq]
 rcases zXD a b with h | rfl | h
 ·exact .inl (.inl h)
 ·cases g <;> cases g' <;> simp
 ·exact .inr (.inr (.inl h))
theorem zQT (a b : zO) : zBz a b = some (zOK a b) := by
 obtain ⟨g, a⟩ := a; obtain ⟨g', b⟩ := b
 unfold zBz zOK vV
 rw [z0F]
 by_cases h1 : uM a b = true
 ·simp [h1]
 ·by_cases h2 : a = b
  ·subst h2
   cases g <;> cases g' <;> simp [zIo]
  ·simp [h1, h2]
theorem zUI (a b : zO) : zHU a b = some (zOK a b) := by
 obtain ⟨g, a⟩ := a; obtain ⟨g', b⟩ := b
 unfold zHU zOK vV
 by_cases h1 : uM a b = true
 ·have h2 : a ≠ b := fun e => by subst e; rw [zIo] at h1; cases h1
  simp [h1, h2]
 ·by_cases h2 : a = b
  ·subst h2
   cases g <;> cases g' <;> simp [zIo]
  ·simp [h1, h2]
theorem z30 : OrdF zBz := by
 have hlt : ∀ x y, uI zBz x y = vV x y := fun x y => by
  simp only [uI, zQT, zOK, Option.getD_some]
  cases h : vV x y with
  | true => simp
  | false => by_cases he : x = y <;> simp [he]
 refine ⟨fun x y => ⟨_, zQT x y⟩, fun x => by rw [hlt, zSf], fun x y z h1 h2 => ?_, fun x y z h1 h2 => ?_, fun x y h1 h2 => ?_⟩
 ·rw [hlt] at *; exact zLn h1 h2
 ·rw [hlt] at *
  cases h3 : vV x z with
  | false => rfl
  | true =>
   rcases zOy x y with h | rfl | h
   ·rw [h] at h1; cases h1
   ·rw [h3] at h2; cases h2
   ·have := zLn h h3; rw [this] at h2; cases h2
 ·rw [hlt] at *
  rcases zOy x y with h | h | h
  ·rw [h] at h1; cases h1
  ·exact h
  ·rw [h] at h2; cases h2
theorem z5Z (x y : zO) : uI zBz x y = vV x y := by
 simp only [uI, zQT, zOK, Option.getD_some]
 cases h : vV x y with
 | true => simp
 | false => by_cases he : x = y <;> simp [he]
end
section
theorem zTg : tV vV := ⟨zSf, fun _ _ _ => zLn, zOy⟩
theorem z2K {l : List zO} (h : l.length < 4294967296) : zCd l = some l := by
 simp [zCd, yP (l := ([] : List zO)) (m := l) (by simpa using h)]
theorem zZN {l : List zO} (h : l.length < 4294967296) : zAJ l = some (l.mergeSort fun x y => !vV y x) := by
 simp only [zAJ, zWH]
 rw [if_pos ⟨z30, h⟩]
 simp only [z5Z]
theorem zYQ {l : List zO} (h : l.length < 4294967296) : zBg l = some (tH l) :=
 (show zBg l = zVm (false, []) l from rfl).trans (zQq _ l (by omega))
theorem zVP {l : List zO} (h : l.length < 4294967296) : zDE l = some (tD vV l) := by
 simp only [zDE, z2K h, zZN h, zob]
 rw [zYQ (by simpa using h)]
 rfl
theorem z5B {l : List zO} (x : zO) (h : l.length < 9223372036854775807) : zDz l x = some (decide (x ∈ l)) := by
 obtain ⟨r, hr, hi⟩ := zTu l x h
 have e : zCI l x = some r := (show zCI l x = z4K l x from rfl).trans hr
 simp only [zDz, zCJ, e, zob]
 congr 1
 rw [decide_eq_decide, hi]
 simp
def z59 (x : zO) : zO := (!x.1, x.2)
end
section
theorem z0b {l : List zO} (x : zO) (h : l.length < 1073741824) (ha : vY vV l) : ∃ r, zKP l x = some r ∧ vY vV r ∧ (∀ y, y ∈ r ↔ y = x ∨ y ∈ l) ∧ r.length ≤ l.length + 1 := by
 have hloop : ∃ k, zV (zEo l x) 0 = some k ∧ ∃ n : Nat, k = n ∧ n ≤ l.length ∧ (∀ j y, j < n → l[j]? = some y → vV y x = true) ∧ ∀ y, l[n]? = some y → vV y x = false := by
  refine uR (B := zEo l x) (fun i (_ : Unit) => (i : Int)) l (fun i _ => ∀ j y, j < i → l[j]? = some y → vV y x = true) _ ?_ ?_ () (by simp)
  ·intro i y s hy hI
   have hi := (List.getElem?_eq_some_iff.1 hy).1
   have hlt : decide ((i : Int) < len l) = true := by simp [len]; omega
   unfold zEo
   simp only [hlt, if_true, xZ, hy, zob, zUI]
   cases hc : vV y x with
   | true =>
    refine .inl ⟨(), by simp [zOK, hc, uF i (by omega)], fun j z hj hz => ?_⟩
    rcases Nat.lt_succ_iff_lt_or_eq.1 hj with h | rfl
    ·exact hI j z h hz
    ·rw [hy] at hz; cases hz; exact hc
   | false =>
    refine .inr ⟨(i : Int), ?_, i, rfl, by omega, hI, fun z hz => by rw [hy] at hz; cases hz; exact hc⟩
    have : decide (zOK y x < 0) = false := by simp [zOK, hc]; split <;> omega
    simp only [this, zbf, if_false]
  ·intro s hI
   refine ⟨(l.length : Int), by unfold zEo; simp [len], l.length, rfl, Nat.le_refl _, hI, fun y hy => by simp at hy⟩
 obtain ⟨_, hk, n, rfl, hn, hlo, hhi⟩ := hloop
 unfold zKP
 rw [hk]
 simp only [zob]
 by_cases hx : l[n]? = some x
 ·have hlt : decide ((n : Int) < len l) = true := by have := (List.getElem?_eq_some_iff.1 hx).1; simp [len]; omega
  refine ⟨l, by simp only [hlt, if_true, xZ, hx, zob, beq_self_eq_true], ha, fun y => ⟨.inr, fun h => ?_⟩, by omega⟩
  rcases h with rfl | h
  ·exact List.mem_of_getElem? hx
  ·exact h
 ·have hcond : ((if decide ((n : Int) < len l) = true then (zI l (n : Int)).bind fun x2 => some (x2 == x) else some false : Option Bool)) = some false := by
   by_cases hlt : n < l.length
   ·have hy : l[n]? = some l[n] := List.getElem?_eq_getElem hlt
    have h1 : decide ((n : Int) < len l) = true := by simp [len]; omega
    have h2 : (l[n] == x) = false := beq_eq_false_iff_ne.2 (fun e => hx (by rw [hy, e]))
    simp only [h1, if_true, xZ, hy, zob, h2]
   ·have h1 : decide ((n : Int) < len l) = false := by simp [len]; omega
    simp only [h1, zbf, if_false]
  rw [hcond]
  simp only [zob, zbf, if_false]
  rw [zM7 (by omega) (by omega), z2W (by omega) (by omega)]
  simp only [zob, Int.toNat_natCast]
  rw [yP (by simp; omega)]
  simp only [zob, List.nil_append]
  rw [yP (by simp; omega)]
  simp only [zob]
  rw [yP (by simp; omega)]
  refine ⟨_, rfl, ?_, fun y => ?_, by simp; omega⟩
  ·have hsplit := List.take_append_drop n l
   rw [← hsplit] at ha
   obtain ⟨h1, h2, h3⟩ := List.pairwise_append.1 ha
   have hlow : ∀ y ∈ l.take n, vV y x = true := fun y hy => by
    obtain ⟨j, hj⟩ := List.mem_iff_getElem?.1 hy
    rw [List.getElem?_take] at hj
    split at hj
    ·exact hlo j y ‹_› hj
    ·cases hj
   have hhigh : ∀ y ∈ l.drop n, vV x y = true := fun y hy => by
    by_cases hlt : n < l.length
    ·have hfirst : vV x l[n] = true := by
      rcases zOy x l[n] with h | h | h
      ·exact h
      ·exact absurd (by rw [List.getElem?_eq_getElem hlt, ← h]) hx
      ·rw [hhi _ (List.getElem?_eq_getElem hlt)] at h; cases h
     rw [List.drop_eq_getElem_cons hlt] at hy h2
     rcases List.mem_cons.1 hy with rfl | hy
     ·exact hfirst
     ·exact zLn hfirst ((List.pairwise_cons.1 h2).1 y hy)
    ·rw [List.drop_of_length_le (by omega)] at hy; cases hy
   rw [List.append_assoc]
   refine List.pairwise_append.2 ⟨h1, List.pairwise_append.2 ⟨by simp, h2, fun a ha b hb => ?_⟩, fun a ha b hb => ?_⟩
   ·simp at ha; subst ha; exact hhigh b hb
   ·rcases List.mem_append.1 hb with hb | hb
    ·simp at hb; subst hb; exact hlow a ha
    ·exact h3 a ha b hb
  ·rw [List.mem_append, List.mem_append, List.mem_singleton]
   have : y ∈ l ↔ y ∈ l.take n ∨ y ∈ l.drop n := by rw [← List.mem_append, List.take_append_drop]
   rw [this]
   constructor
   ·rintro ((h | h) | h)
    ·exact .inr (.inl h)
    ·exact .inl h
    ·exact .inr (.inr h)
   ·rintro (h | h | h)
    ·exact .inl (.inr h)
    ·exact .inl (.inl h)
    ·exact .inr h
theorem zY0 {l : List zO} (x : zO) (h : l.length < 9223372036854775807) : zHS l x = some (decide (x ∈ l)) := by
 have hh := uR (B := zKL l x) (fun i (_ : Unit) => (i : Int)) l (fun i _ => ∀ j, j < i → l[j]? ≠ some x) (fun r => r = decide (x ∈ l)) ?_ ?_ () (by simp)
 ·obtain ⟨r, h1, rfl⟩ := hh; exact h1
 ·intro i y s hy hI
  have hi := (List.getElem?_eq_some_iff.1 hy).1
  have hlt : decide ((i : Int) < len l) = true := by simp [len]; omega
  unfold zKL
  simp only [hlt, if_true, xZ, hy, zob]
  by_cases hxy : y = x
  ·subst hxy
   refine .inr ⟨true, by simp, ?_⟩
   simp [List.mem_of_getElem? hy]
  ·refine .inl ⟨(), by simp [hxy, uF i (by omega)], fun j hj => ?_⟩
   rcases Nat.lt_succ_iff_lt_or_eq.1 hj with h | rfl
   ·exact hI j h
   ·rw [hy]; simpa using hxy
 ·intro s hI
  refine ⟨false, by unfold zKL; simp [len], ?_⟩
  symm
  rw [decide_eq_false_iff_not]
  intro hm
  obtain ⟨j, hj⟩ := List.mem_iff_getElem?.1 hm
  exact hI j (List.getElem?_eq_some_iff.1 hj).1 hj
end
section
theorem z1v (l : List Int) (n : Int) (hl : l.length < 4294967290) : ∃ k : Nat, zV (zEb l n) 0 = some (k : Int) ∧ k ≤ l.length ∧ (∀ j x, j < k → l[j]? = some x → x < n) ∧ ∀ x, l[k]? = some x → n ≤ x := by
 have h := uR (B := zEb l n) (fun i (_ : Unit) => (i : Int)) l (fun i _ => ∀ j x, j < i → l[j]? = some x → x < n)
  (fun r => ∃ k : Nat, r = (k : Int) ∧ k ≤ l.length ∧ (∀ j x, j < k → l[j]? = some x → x < n) ∧ ∀ x, l[k]? = some x → n ≤ x) ?_ ?_ () (by omega)
 ·obtain ⟨r, h1, k, rfl, h2⟩ := h; exact ⟨k, h1, h2⟩
 ·intro i x s hx hI
  unfold zEb
  simp only [wZ hx, if_true, wV hx, zob]
  by_cases hlt : x < n
  ·refine .inl ⟨(), by simp [hlt, wY hx (by omega)], fun j y hj hy => ?_⟩
   rcases Nat.lt_succ_iff_lt_or_eq.1 hj with h | rfl
   ·exact hI j y h hy
   ·rw [hx] at hy; cases hy; exact hlt
  ·exact .inr ⟨i, by simp [hlt], i, rfl, by have := vQ hx; omega, hI, fun y hy => by rw [hx] at hy; cases hy; omega⟩
 ·intro s hI
  unfold zEb
  exact ⟨(l.length : Int), by simp [len], l.length, rfl, Nat.le_refl _, hI, fun x hx => by simp at hx⟩
theorem zQY {l : List Int} (n : Int) (hl : l.length < 4294967000) (ha : vY yV l) : ∃ r, zGU l n = some r ∧ vY yV r ∧ (∀ y, y ∈ r ↔ y = n ∨ y ∈ l) ∧ r.length ≤ l.length + 1 := by
 obtain ⟨k, h1, h2, h3, h4⟩ := z1v l n (by omega)
 have hsplit : l = l.take k ++ l.drop k := (List.take_append_drop k l).symm
 have hlo : ∀ x ∈ l.take k, x < n := fun x hx => by
  obtain ⟨j, hj⟩ := List.mem_iff_getElem?.1 hx
  rw [List.getElem?_take] at hj
  split at hj
  ·rename_i hjk; exact h3 j x hjk hj
  ·cases hj
 have hhi : ∀ x ∈ l.drop k, n ≤ x := fun x hx => by
  obtain ⟨j, hj⟩ := List.mem_iff_getElem?.1 hx
  rw [List.getElem?_drop] at hj
  cases j with
  | zero => exact h4 x hj
  | succ j =>
   have hk : k < l.length := by have := vQ hj; omega
   have h5 := h4 l[k] (List.getElem?_eq_getElem hk)
   have h6 := List.pairwise_iff_getElem.1 ha k (k + (j + 1)) hk (vQ hj) (by omega)
   rw [List.getElem?_eq_getElem (vQ hj)] at hj
   have hj := Option.some.inj hj
   simp at h6; omega
 unfold zGU
 rw [h1]
 simp only [zob]
 by_cases he : ∃ x, l[k]? = some x ∧ x = n
 ·obtain ⟨x, hx, rfl⟩ := he
  refine ⟨l, by simp only [wZ hx, if_true, wV hx, zob, beq_self_eq_true], ha, fun y => ⟨.inr, fun h => by rcases h with rfl | h; exact vK hx; exact h⟩, by omega⟩
 ·have hc : (if decide ((k : Int) < len l) = true then (zI l (k : Int)).bind fun x2 => some (x2 == n) else some false) = some false := by
   by_cases hk : k < l.length
   ·have hx : l[k]? = some l[k] := List.getElem?_eq_getElem hk
    simp only [wZ hx, if_true, wV hx, zob]
    congr 1
    rw [beq_eq_false_iff_ne]
    exact fun e => he ⟨_, hx, e⟩
   ·have : decide ((k : Int) < len l) = false := by simp [len]; omega
    simp only [this, zbf, if_false]
  rw [hc]
  simp only [zob, zbf, if_false]
  rw [zM7 (by omega) (by omega), z2W (by omega) (by omega)]
  simp only [zob, Int.toNat_natCast]
  have l1 : (l.take k).length = k := by simp; omega
  have l2 : (l.drop k).length = l.length - k := by simp
  rw [yP (by simp; omega)]
  simp only [zob, List.nil_append]
  rw [yP (by simp; omega)]
  simp only [zob]
  rw [yP (by simp; omega)]
  refine ⟨_, rfl, ?_, fun y => ?_, by simp; omega⟩
  ·rw [List.append_assoc]
   refine List.pairwise_append.2 ⟨ha.sublist (List.take_sublist k l), ?_, fun x hx y hy => ?_⟩
   ·refine List.pairwise_append.2 ⟨by simp, ha.sublist (List.drop_sublist k l), fun x hx y hy => ?_⟩
    simp only [List.mem_singleton] at hx
    subst hx
    have h5 := hhi y hy
    have h6 : y ≠ x := fun e => by
     subst e
     obtain ⟨j, hj⟩ := List.mem_iff_getElem?.1 hy
     rw [List.getElem?_drop] at hj
     cases j with
     | zero => exact he ⟨_, hj, rfl⟩
     | succ j =>
      have hk : k < l.length := by have := vQ hj; omega
      have h5 := h4 l[k] (List.getElem?_eq_getElem hk)
      have h6 := List.pairwise_iff_getElem.1 ha k (k + (j + 1)) hk (vQ hj) (by omega)
      rw [List.getElem?_eq_getElem (vQ hj)] at hj
      have hj := Option.some.inj hj
      simp at h6; omega
    simp; omega
   ·have h5 := hlo x hx
    rcases List.mem_append.1 hy with h | h
    ·simp at h; subst h; simpa using h5
    ·have := hhi y h; simp; omega
  ·have hm : y ∈ l ↔ y ∈ l.take k ∨ y ∈ l.drop k := by rw [← List.mem_append, List.take_append_drop]
   rw [hm]
   simp only [List.mem_append, List.mem_singleton]
   constructor
   ·rintro ((h | h) | h)
    ·exact .inr (.inl h)
    ·exact .inl h
    ·exact .inr (.inr h)
   ·rintro (h | h | h)
    ·exact .inl (.inr h)
    ·exact .inl (.inl h)
    ·exact .inr h
theorem zV8 {l m : List Int} (hl : l.length + m.length < 4294966000) (ha : vY yV l) : ∃ r, zLG l m = some r ∧ vY yV r ∧ (∀ y, y ∈ r ↔ y ∈ l ∨ y ∈ m) ∧ r.length ≤ l.length + m.length := by
 have h := uR (B := zI1 m) (fun i (s : List Int) => (s, (i : Int))) m (fun i s => vY yV s ∧ (∀ y, y ∈ s ↔ y ∈ l ∨ y ∈ m.take i) ∧ s.length ≤ l.length + i)
  (fun r => vY yV r ∧ (∀ y, y ∈ r ↔ y ∈ l ∨ y ∈ m) ∧ r.length ≤ l.length + m.length) ?_ ?_ l ⟨ha, by simp, by omega⟩
 ·exact h
 ·rintro i x s hx ⟨h1, h2, h3⟩
  have hi := vQ hx
  obtain ⟨r, e1, e2, e3, e4⟩ := zQY x (by omega) h1
  refine .inl ⟨r, ?_, e2, fun y => ?_, by omega⟩
  ·unfold zI1
   simp only [wZ hx, if_true, wV hx, zob, e1, wY hx (by omega)]
  ·rw [e3, h2, xF hx]
   simp only [List.mem_append, List.mem_singleton]
   constructor
   ·rintro (h | h | h)
    ·exact .inr (.inr h)
    ·exact .inl h
    ·exact .inr (.inl h)
   ·rintro (h | h | h)
    ·exact .inr (.inl h)
    ·exact .inr (.inr h)
    ·exact .inl h
 ·rintro s ⟨h1, h2, h3⟩
  refine ⟨s, by unfold zI1; simp [len], h1, fun y => by rw [h2, List.take_length], h3⟩
theorem zWj {l : List Int} (h : l.length < 4294967296) : zBY l = some (zTY yV l) := zUW h
theorem zYR {l : List Int} (h : l.length < 4294967296) : zBU l = some (tH l) := zQq 0 l (by omega)
theorem z2n {β : Type} {l : List Int} (h : l.length < 4294967296) (k : List Int → Option β) : ((zBY l).bind fun r3 => (zBU r3).bind fun r4 => k r4) = k (tD yV l) := by
 rw [zWj h]
 simp only [zob]
 rw [zYR (by rw [(zNM l).length_eq]; exact h)]
 simp only [zob]
 rw [z0X (zNM l) (zMO xM l)]
theorem zXx (l : List Int) : vY yV (tD yV l) := (zNd xM l).1
theorem z5O (l : List Int) (x : Int) : x ∈ tD yV l ↔ x ∈ l := (zNd xM l).2 x
inductive zNO (l : List zK) : Int → Int → Prop
 | self (i : Int) : zNO l i i
 | step {i k j : Int} {a : zK} : zI l i = some a → k ∈ a.2.2.1 → zNO l k j → zNO l i j
structure FormA (l : List zK) : Prop where
 len : l.length ≤ 100
 nsub : ∀ a ∈ l, a.2.2.1.length ≤ 100
 sub : ∀ (i : Nat) a, l[i]? = some a → ∀ k ∈ a.2.2.1, 0 ≤ k ∧ k < i
theorem FormA.at {l : List zK} (h : FormA l) {i : Int} {a : zK} (hi : zI l i = some a) : a.2.2.1.length ≤ 100 ∧ 0 ≤ i ∧ i < l.length ∧ ∀ k ∈ a.2.2.1, 0 ≤ k ∧ k < i := by
 obtain ⟨n, rfl, hn⟩ := zQL hi
 exact ⟨h.nsub a (vK hn), by omega, by have := vQ hn; omega, h.sub n a hn⟩
theorem zNO.le {l : List zK} (h : FormA l) {i j : Int} (hs : zNO l i j) : 0 ≤ i → 0 ≤ j ∧ j ≤ i := by
 induction hs with
 | self i => intro h0; omega
 | step hi hk _ ih => intro h0; have := (h.at hi).2.2.2 _ hk; have := ih this.1; omega
theorem zNO.trans {l : List zK} {i j k : Int} (h : zNO l i j) (h2 : zNO l j k) : zNO l i k := by
 induction h with
 | self i => exact h2
 | step hi hk _ ih => exact .step hi hk (ih h2)
theorem zNO.iff {l : List zK} {i j : Int} {a : zK} (hi : zI l i = some a) : zNO l i j ↔ j = i ∨ ∃ k ∈ a.2.2.1, zNO l k j := by
 constructor
 ·intro h
  cases h with
  | self => exact .inl rfl
  | step h1 h2 h3 => rw [hi] at h1; cases h1; exact .inr ⟨_, h2, h3⟩
 ·rintro (rfl | ⟨k, h1, h2⟩)
  ·exact .self _
  ·exact .step hi h1 h2
open Classical in
noncomputable def uC (l : List zK) (i : Int) : List Int := ((List.range l.length).map Int.ofNat).filter fun j => decide (zNO l i j)
theorem zPJ (l : List zK) (i : Int) : vY yV (uC l i) := by
 refine List.Pairwise.filter _ ?_
 rw [List.pairwise_map]
 exact List.pairwise_lt_range.imp fun {a b} h => by simp; omega
theorem zII (l : List zK) (i : Int) : (uC l i).length ≤ l.length := Nat.le_trans (List.length_filter_le _ _) (by simp)
theorem zK0 {l : List zK} (h : FormA l) {i : Int} (h0 : 0 ≤ i) (h1 : i < l.length) (j : Int) : j ∈ uC l i ↔ zNO l i j := by
 simp only [uC, List.mem_filter, List.mem_map, List.mem_range, decide_eq_true_eq]
 constructor
 ·exact fun h => h.2
 ·intro hs
  have := hs.le h h0
  exact ⟨⟨j.toNat, by omega, by simp; omega⟩, hs⟩
theorem z0N {l : List zK} (h : FormA l) : ∀ (n : Nat) (i : Int), 0 ≤ i → i < l.length → i < n → zCp n l i = some (uC l i) := by
 intro n
 induction n with
 | zero => intro i h0 _ h2; omega
 | succ n ih =>
  intro i h0 h1 h2
  obtain ⟨a, ha⟩ := zJH h0 h1
  obtain ⟨hn, _, _, hsub⟩ := h.at ha
  show zEw (zCp n) l i = _
  have hL := zCf (B := zCt a (zCp n) l) a.2.2.1 (fun s k => s ++ uC l k) (fun s => s) (fun q s => s.length ≤ 1 + q * 100) [i] (by simp) (fun q k s hk hI => ?_) (fun s hI => ?_)
  ·obtain ⟨e1, e2⟩ := hL
   rw [zKM] at e1 e2
   unfold zEw zB0
   have hin : (decide (0 ≤ i) && decide (i < len l)) = true := by simp [len]; omega
   simp only [hin, zob, Bool.not_true, zbf, if_false, ha, e1]
   have hlen : ([i] ++ a.2.2.1.flatMap (uC l)).length < 4294967296 := by omega
   refine (z2n hlen some).trans ?_
   congr 1
   refine zWu xM (zPJ l i) fun j => ?_
   rw [zK0 h h0 h1, zNO.iff ha]
   simp only [List.singleton_append, List.mem_cons, List.mem_flatMap]
   refine or_congr Iff.rfl (exists_congr fun k => and_congr_right fun hk => ?_)
   have := hsub k hk
   rw [zK0 h this.1 (by omega)]
  ·have hks := hsub k (vK hk)
   have hq := vQ hk
   have hsl := zII l k
   have hl := h.len
   unfold zCt
   simp only [wZ hk, if_true, wV hk, zob]
   rw [ih k hks.1 (by omega) (by omega)]
   simp only [zob]
   rw [yP (by omega)]
   refine ⟨by simp only [zob, wY hk (by omega)], by rw [List.length_append]; omega⟩
  ·unfold zCt
   simp [len]
theorem z3E {l : List zK} (h : FormA l) {i : Int} (h0 : 0 ≤ i) (h1 : i < l.length) : zD7 l i = some (uC l i) :=
 zQd (i.toNat + 1) fun m hm => z0N h m i h0 h1 (by omega)
theorem zZs {l : List zK} (h : FormA l) : ∀ (n : Nat) (i : Int), 0 ≤ i → i < l.length → i < n → zHH n l i = some (uC l i) := by
 intro n
 induction n with
 | zero => intro i h0 _ h2; omega
 | succ n ih =>
  intro i h0 h1 h2
  obtain ⟨a, ha⟩ := zJH h0 h1
  obtain ⟨hn, _, _, hsub⟩ := h.at ha
  have hl := h.len
  show zMT (zHH n) l i = _
  have hL := uR (B := zJV l i (zHH n)) (fun q (s : List Int) => (s, (q : Int))) a.2.2.1 (fun q s => vY yV s ∧ (∀ y, y ∈ s ↔ y = i ∨ ∃ k ∈ a.2.2.1.take q, zNO l k y) ∧ s.length ≤ 1 + q * 100)
   (fun r => vY yV r ∧ ∀ y, y ∈ r ↔ zNO l i y) (fun q k s hk hI => ?_) (fun s hI => ?_) [i] ⟨by simp, by simp, by simp⟩
  ·obtain ⟨r, e1, e2, e3⟩ := hL
   unfold zMT
   have hin : (decide (i < 0) || decide (len l ≤ i)) = false := by simp [len]; omega
   simp only [hin, zbf, if_false]
   exact e1.trans (congrArg some (vY.ext xM e2 (zPJ l i) fun j => by rw [e3, zK0 h h0 h1]))
  ·obtain ⟨g1, g2, g3⟩ := hI
   have hks := hsub k (vK hk)
   have hq := vQ hk
   have hsl := zII l k
   obtain ⟨r, e1, e2, e3, e4⟩ := zV8 (l := s) (m := uC l k) (by omega) g1
   refine .inl ⟨r, ?_, e2, fun y => ?_, by omega⟩
   ·unfold zJV
    simp only [ha, zob, wZ hk, if_true, wV hk]
    rw [ih k hks.1 (by omega) (by omega)]
    simp only [zob, e1, wY hk (by omega)]
   ·rw [e3, g2, zK0 h hks.1 (by omega), xF hk]
    simp only [List.mem_append, List.mem_singleton, or_and_right, exists_or, exists_eq_left, or_assoc]
  ·obtain ⟨g1, g2, g3⟩ := hI
   rw [List.take_length] at g2
   refine ⟨s, by unfold zJV; simp [ha, len], g1, fun y => by rw [g2, zNO.iff ha]⟩
theorem zVl {l : List zK} (h : FormA l) {i : Int} (h0 : 0 ≤ i) (h1 : i < l.length) : zK2 l i = some (uC l i) :=
 zQd (i.toNat + 1) fun m hm => zZs h m i h0 h1 (by omega)
structure FormB (b : zT) (l : List zK) : Prop extends FormA l where
 np : b.1.length ≤ 100
 nr : b.2.1.length ≤ 100
 kind : ∀ (i : Nat) a, l[i]? = some a → (a.1 = (i : Int) ∧ i < b.1.length ∧ a.2.1 = -1) ∨ (a.1 = -1 ∧ 0 ≤ a.2.1 ∧ a.2.1 < b.2.1.length)
variable {b : zT} {l : List zK}
theorem FormB.prem (h : FormB b l) {j : Int} {a : zK} (hj : zI l j = some a) : (0 ≤ a.1 → a.1 = j ∧ (∃ p, zI b.1 a.1 = some p) ∧ a.2.1 = -1) ∧ (a.1 < 0 → ∃ r, zI b.2.1 a.2.1 = some r) ∧ (0 ≤ a.2.1 ↔ a.1 < 0) := by
 obtain ⟨n, rfl, hn⟩ := zQL hj
 rcases h.kind n a hn with ⟨h1, h2, h3⟩ | ⟨h1, h2, h3⟩
 ·exact ⟨fun _ => ⟨h1, zJH (by omega) (by omega), h3⟩, fun h => by omega, by omega⟩
 ·exact ⟨fun h => by omega, fun _ => zJH h2 h3, by omega⟩
noncomputable def zLS (l : List zK) (i : Int) : List Int := (uC l i).filter fun j => match zI l j with | some a => decide (0 ≤ a.1) | none => false
theorem zV3 (l : List zK) (i : Int) : vY yV (zLS l i) := (zPJ l i).filter _
theorem zP0 (l : List zK) (i : Int) : (zLS l i).length ≤ l.length := Nat.le_trans (List.length_filter_le _ _) (zII l i)
theorem zN2 (h : FormA l) {i : Int} (h0 : 0 ≤ i) (h1 : i < l.length) {j : Int} (hj : j ∈ uC l i) : ∃ a, zI l j = some a := by
 have := ((zK0 h h0 h1 j).1 hj).le h h0
 exact zJH this.1 (by omega)
theorem z2e {m : List Int} (h : vY yV m) : zTY yV m = m := by
 refine List.Perm.eq_of_pairwise (le := fun x y => yV y x = false) (fun a c _ _ h1 h2 => ?_) (zMO xM m) (h.imp fun h => by simp at h ⊢; omega) (zNM m)
 simp at h1 h2; omega
theorem zXY (h : FormB b l) {i : Int} (h0 : 0 ≤ i) (h1 : i < l.length) : ∀ (m acc : List Int), (∀ j ∈ m, j ∈ uC l i) →
  m.foldl (fun s j => match zI l j with | some a => if decide (0 ≤ a.1) then s ++ [a.1] else s | none => s) acc = acc ++ m.filter fun j => match zI l j with | some a => decide (0 ≤ a.1) | none => false
 | [], acc, _ => by simp
 | j :: m, acc, hm => by
  obtain ⟨a, ha⟩ := zN2 h.toFormA h0 h1 (hm j List.mem_cons_self)
  rw [List.foldl_cons, zXY h h0 h1 m _ fun q hq => hm q (List.mem_cons_of_mem _ hq), List.filter_cons]
  simp only [ha]
  by_cases hp : 0 ≤ a.1
  ·have := (((h.prem ha).1 hp).1)
   rw [if_pos (by simpa using hp), if_pos (by simpa using hp), this]
   simp
  ·simp [hp]
theorem zSh (h : FormB b l) {i : Int} (h0 : 0 ≤ i) (h1 : i < l.length) : zCQ l i = some (zLS l i) := by
 have hl := h.len
 have hsl := zII l i
 have hL := zCf (B := zDa (uC l i) l) (uC l i) (fun s j => match zI l j with | some a => if decide (0 ≤ a.1) then s ++ [a.1] else s | none => s) (fun s => s) (fun q s => s.length ≤ q) [] (by simp) (fun q j s hj hI => ?_) (fun s hI => ?_)
 ·unfold zCQ
  rw [z3E h.toFormA h0 h1]
  simp only [zob]
  rw [hL.1, zXY h h0 h1 _ _ fun j hj => hj]
  simp only [zob, List.nil_append]
  show (zBY (zLS l i)).bind _ = _
  have := zP0 l i
  rw [zWj (by omega)]
  rw [z2e (zV3 l i)]
  rfl
 ·obtain ⟨a, ha⟩ := zN2 h.toFormA h0 h1 (vK hj)
  have hq := vQ hj
  unfold zDa
  simp only [wZ hj, if_true, wV hj, zob, ha]
  by_cases hp : 0 ≤ a.1
  ·simp only [hp, decide_true, if_true]
   rw [yP (by simp; omega)]
   exact ⟨by simp only [zob, wY hj (by omega)], by simp; omega⟩
  ·simp only [hp, decide_false, zbf, if_false]
   exact ⟨by simp only [wY hj (by omega)], by omega⟩
 ·unfold zDa
  simp [len]
theorem zS9 (h : FormB b l) {i : Int} (h0 : 0 ≤ i) (h1 : i < l.length) : zGJ l i = some (zLS l i) := by
 have hl := h.len
 have hsl := zII l i
 have hL := uR (B := zFe (uC l i) l) (fun q (s : List Int) => (s, (q : Int))) (uC l i) (fun q s => vY yV s ∧ (∀ y, y ∈ s ↔ y ∈ (uC l i).take q ∧ ∃ a, zI l y = some a ∧ 0 ≤ a.1) ∧ s.length ≤ q)
  (fun r => r = zLS l i) (fun q j s hj hI => ?_) (fun s hI => ?_) [] (by simp)
 ·obtain ⟨r, e1, rfl⟩ := hL
  unfold zGJ
  rw [zVl h.toFormA h0 h1]
  exact e1
 ·obtain ⟨g1, g2, g3⟩ := hI
  obtain ⟨a, ha⟩ := zN2 h.toFormA h0 h1 (vK hj)
  have hq := vQ hj
  unfold zFe
  simp only [wZ hj, if_true, wV hj, zob, ha]
  by_cases hp : 0 ≤ a.1
  ·have haj := ((h.prem ha).1 hp).1
   obtain ⟨r, e1, e2, e3, e4⟩ := zQY (l := s) a.1 (by omega) g1
   simp only [hp, decide_true, if_true, e1, zob]
   refine .inl ⟨r, by simp only [wY hj (by omega)], e2, fun y => ?_, by omega⟩
   rw [e3, g2, xF hj, haj]
   simp only [List.mem_append, List.mem_singleton]
   constructor
   ·rintro (rfl | ⟨h1, h2⟩)
    ·exact ⟨.inr rfl, a, ha, hp⟩
    ·exact ⟨.inl h1, h2⟩
   ·rintro ⟨h1 | rfl, h2⟩
    ·exact .inr ⟨h1, h2⟩
    ·exact .inl rfl
  ·simp only [hp, decide_false, zbf, if_false]
   refine .inl ⟨s, by simp only [wY hj (by omega)], g1, fun y => ?_, by omega⟩
   rw [g2, xF hj]
   simp only [List.mem_append, List.mem_singleton]
   constructor
   ·rintro ⟨h1, h2⟩; exact ⟨.inl h1, h2⟩
   ·rintro ⟨h1 | rfl, a', ha', hp'⟩
    ·exact ⟨h1, a', ha', hp'⟩
    ·rw [ha] at ha'; cases ha'; exact absurd hp' hp
 ·obtain ⟨g1, g2, g3⟩ := hI
  rw [List.take_length] at g2
  refine ⟨s, by unfold zFe; simp [len], vY.ext xM g1 (zV3 l i) fun y => ?_⟩
  rw [g2]
  simp only [zLS, List.mem_filter]
  refine and_congr_right fun hy => ?_
  obtain ⟨a, ha⟩ := zN2 h.toFormA h0 h1 hy
  simp [ha]
abbrev z03 (b : zT) (a : zK) : Bool := match zI b.2.1 a.2.1 with | some r => !r.2.1 | none => false
noncomputable def tM (b : zT) (l : List zK) (i : Int) : List Int := tD yV (((uC l i).filter fun j => match zI l j with | some a => decide (0 ≤ a.2.1) && z03 b a | none => false).map fun j => match zI l j with | some a => a.2.1 | none => 0)
theorem zRS (h : FormB b l) {i : Int} (h0 : 0 ≤ i) (h1 : i < l.length) (y : Int) : y ∈ tM b l i ↔ ∃ j ∈ uC l i, ∃ a, zI l j = some a ∧ 0 ≤ a.2.1 ∧ z03 b a = true ∧ y = a.2.1 := by
 rw [tM, z5O]
 simp only [List.mem_map, List.mem_filter]
 constructor
 ·rintro ⟨j, ⟨h2, h3⟩, h4⟩
  obtain ⟨a, ha⟩ := zN2 h.toFormA h0 h1 h2
  simp only [ha, Bool.and_eq_true, decide_eq_true_eq] at h3 h4
  exact ⟨j, h2, a, ha, h3.1, h3.2, h4.symm⟩
 ·rintro ⟨j, h2, a, ha, h3, h4, rfl⟩
  exact ⟨j, ⟨h2, by simp only [ha, Bool.and_eq_true, decide_eq_true_eq]; exact ⟨h3, h4⟩⟩, by simp only [ha]⟩
theorem zR6 (b : zT) (l : List zK) (i : Int) : (tM b l i).length ≤ l.length := by
 refine Nat.le_trans (zW1 yV _) ?_
 rw [List.length_map]
 exact Nat.le_trans (List.length_filter_le _ _) (zII l i)
theorem zQD (h : FormB b l) {i : Int} (h0 : 0 ≤ i) (h1 : i < l.length) : zCs b l i = some (tM b l i) := by
 have hl := h.len
 have hsl := zII l i
 have hL := uR (B := zDv (uC l i) l b) (fun q (s : List Int) => (s, (q : Int))) (uC l i) (fun q s => vY yV s ∧ (∀ y, y ∈ s ↔ ∃ j ∈ (uC l i).take q, ∃ a, zI l j = some a ∧ 0 ≤ a.2.1 ∧ z03 b a = true ∧ y = a.2.1) ∧ s.length ≤ q)
  (fun r => r = tM b l i) (fun q j s hj hI => ?_) (fun s hI => ?_) [] (by simp)
 ·obtain ⟨r, e1, rfl⟩ := hL
  unfold zCs
  rw [zVl h.toFormA h0 h1]
  exact e1
 ·obtain ⟨g1, g2, g3⟩ := hI
  obtain ⟨a, ha⟩ := zN2 h.toFormA h0 h1 (vK hj)
  have hq := vQ hj
  have hc : (if decide (0 ≤ a.2.1) = true then (zI b.2.1 a.2.1).bind fun x3 => some (!x3.2.1) else some false) = some (decide (0 ≤ a.2.1) && z03 b a) := by
   by_cases hr : 0 ≤ a.2.1
   ·obtain ⟨r, hr2⟩ := (h.prem ha).2.1 ((h.prem ha).2.2.1 hr)
    simp [hr, z03, hr2]
   ·simp [hr]
  unfold zDv
  simp only [wZ hj, if_true, wV hj, zob, ha, hc]
  cases hd : (decide (0 ≤ a.2.1) && z03 b a) with
  | true =>
   obtain ⟨r, e1, e2, e3, e4⟩ := zQY (l := s) a.2.1 (by omega) g1
   simp only [if_true, e1, zob]
   simp only [Bool.and_eq_true, decide_eq_true_eq] at hd
   refine .inl ⟨r, by simp only [wY hj (by omega)], e2, fun y => ?_, by omega⟩
   rw [e3, g2, xF hj]
   simp only [List.mem_append, List.mem_singleton, or_and_right, exists_or, exists_eq_left]
   rw [or_comm]
   refine or_congr Iff.rfl ⟨fun h => ⟨a, ha, hd.1, hd.2, h⟩, fun ⟨a', h1, _, _, h2⟩ => ?_⟩
   rw [ha] at h1; cases h1; exact h2
  | false =>
   simp only [zbf, if_false]
   refine .inl ⟨s, by simp only [wY hj (by omega)], g1, fun y => ?_, by omega⟩
   rw [g2, xF hj]
   simp only [List.mem_append, List.mem_singleton, or_and_right, exists_or, exists_eq_left]
   refine ⟨.inl, fun h => h.elim (fun h => h) fun ⟨a', h1, h2, h3, _⟩ => ?_⟩
   rw [ha] at h1; cases h1
   simp [h2, h3] at hd
 ·obtain ⟨g1, g2, g3⟩ := hI
  rw [List.take_length] at g2
  refine ⟨s, by unfold zDv; simp [len], vY.ext xM g1 (zXx _) fun y => ?_⟩
  rw [g2]
  exact (zRS h h0 h1 y).symm
inductive zOn (b : zT) (l : List zK) : Int → Int → Prop
 | here {i : Int} {a : zK} {r : wC} : zI l i = some a → 0 ≤ a.2.1 → zI b.2.1 a.2.1 = some r → r.2.1 = false → zOn b l i a.2.1
 | step {i k y : Int} {a : zK} {r : wC} : zI l i = some a → 0 ≤ a.2.1 → zI b.2.1 a.2.1 = some r → r.2.1 = true → k ∈ a.2.2.1 → zOn b l k y → zOn b l i y
theorem zOn.rng (_h : FormB b l) {i y : Int} (hs : zOn b l i y) : 0 ≤ y ∧ y < b.2.1.length := by
 induction hs with
 | here h1 h2 h3 h4 => obtain ⟨n, hn, h5⟩ := zQL h3; have := vQ h5; omega
 | step _ _ _ _ _ _ ih => exact ih
open Classical in
noncomputable def tN (b : zT) (l : List zK) (i : Int) : List Int := ((List.range b.2.1.length).map Int.ofNat).filter fun y => decide (zOn b l i y)
theorem zWb (b : zT) (l : List zK) (i : Int) : vY yV (tN b l i) := by
 refine List.Pairwise.filter _ ?_
 rw [List.pairwise_map]
 exact List.pairwise_lt_range.imp fun {a b} h => by simp; omega
theorem zRH (b : zT) (l : List zK) (i : Int) : (tN b l i).length ≤ b.2.1.length := Nat.le_trans (List.length_filter_le _ _) (by simp)
theorem zRF (h : FormB b l) (i y : Int) : y ∈ tN b l i ↔ zOn b l i y := by
 simp only [tN, List.mem_filter, List.mem_map, List.mem_range, decide_eq_true_eq]
 exact ⟨fun h => h.2, fun hs => by have := hs.rng h; exact ⟨⟨y.toNat, by omega, by simp; omega⟩, hs⟩⟩
theorem z2R {i : Int} {a : zK} (ha : zI l i = some a) (hr : a.2.1 < 0) : tN b l i = [] := by
 simp only [tN, List.filter_eq_nil_iff, decide_eq_true_eq]
 intro y _ hy
 cases hy with
 | here h1 h2 _ _ => rw [ha] at h1; cases h1; omega
 | step h1 h2 _ _ _ _ => rw [ha] at h1; cases h1; omega
theorem z3v (h : FormB b l) {i : Int} {a : zK} {r : wC} (ha : zI l i = some a) (h0 : 0 ≤ a.2.1) (hr : zI b.2.1 a.2.1 = some r) (hs : r.2.1 = false) : tN b l i = [a.2.1] := by
 refine vY.ext xM (zWb b l i) (by simp) fun y => ?_
 rw [zRF h, List.mem_singleton]
 constructor
 ·intro hy
  cases hy with
  | here h1 _ _ _ => rw [ha] at h1; cases h1; rfl
  | step h1 _ h3 h4 _ _ => rw [ha] at h1; cases h1; rw [hr] at h3; cases h3; rw [hs] at h4; cases h4
 ·rintro rfl; exact .here ha h0 hr hs
theorem z16 {i y : Int} {a : zK} {r : wC} (ha : zI l i = some a) (h0 : 0 ≤ a.2.1) (hr : zI b.2.1 a.2.1 = some r) (hs : r.2.1 = true) : zOn b l i y ↔ ∃ k ∈ a.2.2.1, zOn b l k y := by
 constructor
 ·intro hy
  cases hy with
  | here h1 _ h3 h4 => rw [ha] at h1; cases h1; rw [hr] at h3; cases h3; rw [hs] at h4; cases h4
  | step h1 _ _ _ h5 h6 => rw [ha] at h1; cases h1; exact ⟨_, h5, h6⟩
 ·rintro ⟨k, h1, h2⟩; exact .step ha h0 hr hs h1 h2
theorem z0Z (h : FormB b l) : ∀ (n : Nat) (i : Int), 0 ≤ i → i < l.length → i < n → zH4 n b l i = some (tN b l i) := by
 intro n
 induction n with
 | zero => intro i h0 _ h2; omega
 | succ n ih =>
  intro i h0 h1 h2
  obtain ⟨a, ha⟩ := zJH h0 h1
  obtain ⟨hn, _, _, hsub⟩ := h.toFormA.at ha
  have hi0 : ¬ i < 0 := by omega
  have hi1 : ¬ len l ≤ i := by simp [len]; omega
  show zMK (zH4 n) b l i = _
  unfold zMK
  simp only [hi0, hi1, decide_false, zob, zbf, if_false, ha]
  by_cases hr : a.2.1 < 0
  ·simp only [hr, decide_true, if_true]
   rw [z2R ha hr]
  ·simp only [hr, decide_false, zbf, if_false]
   obtain ⟨r, hr2⟩ := (h.prem ha).2.1 ((h.prem ha).2.2.1 (by omega))
   simp only [hr2, zob]
   cases hs : r.2.1 with
   | false =>
    simp only [Bool.not_false, if_true]
    rw [z3v h ha (by omega) hr2 hs]
   | true =>
    simp only [Bool.not_true, zbf, if_false]
    have hnr := h.nr
    have hL := uR (B := zJK l i (zH4 n) b) (fun q (s : List Int) => (s, (q : Int))) a.2.2.1 (fun q s => vY yV s ∧ (∀ y, y ∈ s ↔ ∃ k ∈ a.2.2.1.take q, zOn b l k y) ∧ s.length ≤ q * 100)
     (fun r => vY yV r ∧ ∀ y, y ∈ r ↔ zOn b l i y) (fun q k s hk hI => ?_) (fun s hI => ?_) [] (by simp)
    ·obtain ⟨r', e1, e2, e3⟩ := hL
     exact e1.trans (congrArg some (vY.ext xM e2 (zWb b l i) fun j => by rw [e3, zRF h]))
    ·obtain ⟨g1, g2, g3⟩ := hI
     have hks := hsub k (vK hk)
     have hq := vQ hk
     have hsl := zRH b l k
     obtain ⟨r', e1, e2, e3, e4⟩ := zV8 (l := s) (m := tN b l k) (by omega) g1
     refine .inl ⟨r', ?_, e2, fun y => ?_, by omega⟩
     ·unfold zJK
      simp only [ha, zob, wZ hk, if_true, wV hk]
      rw [ih k hks.1 (by omega) (by omega)]
      simp only [zob, e1, wY hk (by omega)]
     ·rw [e3, g2, zRF h, xF hk]
      simp only [List.mem_append, List.mem_singleton, or_and_right, exists_or, exists_eq_left]
    ·obtain ⟨g1, g2, g3⟩ := hI
     rw [List.take_length] at g2
     refine ⟨s, by unfold zJK; simp [ha, len], g1, fun y => by rw [g2, z16 ha (by omega) hr2 hs]⟩
theorem z3L (h : FormB b l) {i : Int} (h0 : 0 ≤ i) (h1 : i < l.length) : zOd b l i = some (tN b l i) :=
 zQd (i.toNat + 1) fun m hm => z0Z h m i h0 h1 (by omega)
end
section
def minF : List Int → Int
 | [] => 0
 | x :: r => r.foldl (fun m y => if y < m then y else m) x
def maxF : List Int → Int
 | [] => 0
 | x :: r => r.foldl (fun m y => if y > m then y else m) x
def zOk (x y : List Int) (o : Int) : Bool := (o == 1 || o == 2) && !x.isEmpty && (y.isEmpty || if o == 1 then decide (minF x < minF y) else decide (maxF x < maxF y))
theorem zMM {l : List Int} (h : l ≠ []) (hl : l.length < 4294967296) : zFt l = some (minF l, maxF l) := by
 match l, h with
 | x :: r, _ =>
  unfold zFt
  simp only [zob, show zI (x :: r) 0 = some x from rfl]
  have key : ∀ (n i : Nat) (a b : Int), i + n = (x :: r).length → zV (zFX (x :: r)) (a, b, (i : Int)) = some (((x :: r).drop i).foldl (fun m y => if y < m then y else m) a, ((x :: r).drop i).foldl (fun m y => if y > m then y else m) b) := by
   intro n
   induction n with
   | zero =>
    intro i a b h
    rw [Nat.add_zero] at h
    subst h
    rw [yH]
    unfold zFX
    simp only [xD, zbf, if_false, List.drop_length]
    rfl
   | succ n ih =>
    intro i a b h
    have hx : (x :: r)[i]? = some (x :: r)[i] := List.getElem?_eq_getElem (by omega)
    rw [yH]
    unfold zFX
    simp only [wZ hx, if_true, wV hx, zob, wY hx hl]
    rw [List.drop_eq_getElem_cons (by omega)]
    exact ih (i + 1) _ _ (by omega)
  exact key r.length 1 x x (by simp; omega)
theorem len0 {α : Type} (l : List α) : ((len l) == 0) = l.isEmpty := by
 cases l with
 | nil => rfl
 | cons x r => rw [beq_eq_false_iff_ne.2 (by simp [len]; omega)]; rfl
theorem isE {α : Type} {l : List α} (h : l.isEmpty = false) : l ≠ [] := fun e => by subst e; cases h
theorem zQe {x y : List Int} (o : Int) (hx : x.length < 4294967296) (hy : y.length < 4294967296) : zEk x y o = some (zOk x y o) := by
 unfold zEk zOk
 simp only [len0]
 cases hxe : x.isEmpty with
 | true => simp
 | false =>
  by_cases h1 : o = 1
  ·subst h1
   cases hye : y.isEmpty with
   | true => simp
   | false => simp [zMM (isE hxe) hx, zMM (isE hye) hy]
  ·by_cases h2 : o = 2
   ·subst h2
    cases hye : y.isEmpty with
    | true => simp
    | false => simp [zMM (isE hxe) hx, zMM (isE hye) hy]
   ·simp [h1, h2]
variable {b : zT} {l : List zK}
theorem zXH (h : FormB b l) {i : Int} (h0 : 0 ≤ i) (h1 : i < l.length) {p : Int} (hp : p ∈ zLS l i) : ∃ q, zI b.1 p = some q := by
 obtain ⟨h2, h3⟩ := List.mem_filter.1 hp
 obtain ⟨a, ha⟩ := zN2 h.toFormA h0 h1 h2
 simp only [ha, decide_eq_true_eq] at h3
 obtain ⟨e1, ⟨q, e2⟩, _⟩ := (h.prem ha).1 h3
 exact ⟨q, by rw [← e1]; exact e2⟩
theorem z3A (h : FormB b l) {i : Int} (h0 : 0 ≤ i) (h1 : i < l.length) {y : Int} (hy : y ∈ tM b l i) : ∃ q, zI b.2.1 y = some q := by
 obtain ⟨j, _, a, ha, h3, _, rfl⟩ := (zRS h h0 h1 y).1 hy
 exact (h.prem ha).2.1 ((h.prem ha).2.2.1 h3)
theorem z3y (h : FormB b l) {i y : Int} (hy : y ∈ tN b l i) : ∃ q, zI b.2.1 y = some q := by
 have := ((zRF h i y).1 hy).rng h
 exact zJH this.1 this.2
def z2E (b : zT) (k p : Int) : Bool := match zI b.1 p with | some q => q.2.1 == k | none => false
noncomputable def zW5 (b : zT) (l : List zK) (i : Int) : Bool := (zLS l i).any (z2E b 3)
def zPa (b : zT) (p : Int) : List Int := match zI b.1 p with | some q => if q.2.1 == 2 then [q.2.2.1] else if q.2.1 == 3 then [-1] else [] | none => []
noncomputable def zDT (b : zT) (l : List zK) (i : Int) : List Int := (zLS l i).flatMap (zPa b)
def z2J (b : zT) (y : Int) : Int := match zI b.2.1 y with | some q => q.2.2.1 | none => 0
abbrev zL9 (b : zT) (rs : List Int) : List Int := rs.map (z2J b)
theorem zVH {rs : List Int} (hl : rs.length < 4294967296) (h : ∀ y ∈ rs, ∃ q, zI b.2.1 y = some q) : zIl b rs = some (zL9 b rs) := by
 have hL := zCf (B := zIz rs b) rs (fun s y => s ++ [z2J b y]) (fun s => s) (fun q s => s.length = q) [] rfl (fun i y s hy hI => ?_) (fun s hI => ?_)
 ·obtain ⟨e1, _⟩ := hL
  rw [zJL] at e1
  exact e1
 ·obtain ⟨q, hq⟩ := h y (vK hy)
  have := vQ hy
  unfold zIz
  simp only [wZ hy, if_true, wV hy, zob, hq]
  rw [yP (by simp; omega)]
  exact ⟨by simp only [zob, wY hy hl, z2J, hq], by simp; omega⟩
 ·unfold zIz
  simp [len]
theorem zR7 (h : FormB b l) {i : Int} (h0 : 0 ≤ i) (h1 : i < l.length) : zEr b l i = some (zL9 b (tN b l i)) := by
 have hll := zRH b l i
 have hnr := h.nr
 unfold zEr
 rw [z3L h h0 h1]
 exact zVH (by omega) fun y hy => z3y h hy
theorem zRG (h : FormB b l) {i : Int} (h0 : 0 ≤ i) (h1 : i < l.length) : zEt b l i = some (zL9 b (tM b l i)) := by
 have hll := zR6 b l i
 have hnr := h.len
 unfold zEt
 rw [zQD h h0 h1]
 exact zVH (by omega) fun y hy => z3A h h0 h1 hy
theorem zS8 (b : zT) (p : Int) : (zPa b p).length ≤ 1 := by
 unfold zPa
 split
 ·split
  ·simp
  ·split <;> simp
 ·simp
theorem zSH (h : FormB b l) {i : Int} (h0 : 0 ≤ i) (h1 : i < l.length) : zBP b l i = some (zDT b l i) := by
 have hpl := zP0 l i
 have hl := h.len
 have hL := zCf (B := zCe (zLS l i) b) (zLS l i) (fun s p => s ++ zPa b p) (fun s => s) (fun q s => s.length ≤ q) [] (by simp) (fun j p s hp hI => ?_) (fun s hI => ?_)
 ·obtain ⟨e1, _⟩ := hL
  rw [zKM] at e1
  unfold zBP
  rw [zSh h h0 h1]
  exact e1
 ·obtain ⟨q, hq⟩ := zXH h h0 h1 (vK hp)
  have := vQ hp
  have hpr := zS8 b p
  unfold zCe
  simp only [wZ hp, if_true, wV hp, zob, hq]
  refine ⟨?_, by rw [List.length_append]; omega⟩
  unfold zPa
  simp only [hq]
  cases hk2 : q.2.1 == 2 with
  | true =>
   simp only [if_true]
   rw [yP (by simp; omega)]
   simp only [zob, wY hp (by omega)]
  | false =>
   cases hk3 : q.2.1 == 3 with
   | true =>
    simp only [zbf, if_false, if_true]
    rw [yP (by simp; omega)]
    simp only [zob, wY hp (by omega)]
   | false => simp only [zbf, if_false, List.append_nil, wY hp (by omega)]
 ·unfold zCe
  simp [len]
theorem zOH (h : FormB b l) {i : Int} (h0 : 0 ≤ i) (h1 : i < l.length) : zCE b l i = some (zDT b l i) := by
 have e := zSH h h0 h1
 unfold zBP at e
 unfold zCE
 rw [zSh h h0 h1] at e
 rw [zS9 h h0 h1]
 simp only [zob] at e ⊢
 rw [← e]
 congr 1
 funext s
 unfold zJN zCe
 split
 ·cases h2 : zI (zLS l i) s.2 with
  | none => rfl
  | some p =>
   simp only [zob]
   cases h3 : zI b.1 p with
   | none => rfl
   | some q => rfl
 ·rfl
theorem zYc (h : FormB b l) {i : Int} (h0 : 0 ≤ i) (h1 : i < l.length) : zJX b l i = some (zW5 b l i) := by
 have hpl := zP0 l i
 have hl := h.len
 unfold zJX
 rw [zS9 h h0 h1]
 simp only [zob]
 refine zVw (B := zGe (zLS l i) b) (zLS l i) (z2E b 3) (fun q p hp => ?_) ?_
 ·obtain ⟨r, hr⟩ := zXH h h0 h1 (vK hp)
  unfold zGe
  simp only [wZ hp, if_true, wV hp, zob, hr, z2E, wY hp (by omega)]
  split <;> rfl
 ·unfold zGe
  simp only [xD, zbf, if_false]
noncomputable def z02 (b : zT) (l : List zK) (i k : Int) (o : yB) : Bool :=
 decide (0 ≤ i) && decide (i < l.length) && decide (0 ≤ k) && decide (k < l.length) && !zW5 b l k &&
 let pr := zOk (zDT b l i) (zDT b l k) o.2
 if o.1 == 1 then zOk (zL9 b (tN b l i)) (zL9 b (tN b l k)) o.2 || ((tN b l i).isEmpty && (tN b l k).isEmpty && pr)
 else if o.1 == 2 then
  if (tM b l i).isEmpty && (tM b l k).isEmpty then pr
  else if (zDT b l i).isEmpty && (zDT b l k).isEmpty then zOk (zL9 b (tM b l i)) (zL9 b (tM b l k)) o.2
  else pr && zOk (zL9 b (tM b l i)) (zL9 b (tM b l k)) o.2
 else false
theorem zR3 (b : zT) (l : List zK) (i : Int) : (zDT b l i).length ≤ l.length := by
 have key : ∀ m : List Int, (m.flatMap (zPa b)).length ≤ m.length := by
  intro m
  induction m with
  | nil => simp
  | cons x m ih => have := zS8 b x; simp only [List.flatMap_cons, List.length_append, List.length_cons]; omega
 exact Nat.le_trans (key _) (zP0 l i)
theorem zYG {α β : Type} (f : α → β) (l : List α) : (l.map f).isEmpty = l.isEmpty := by cases l <;> rfl
theorem z3t (h : FormB b l) (i k : Int) (o : yB) : zK5 b l i k o = some (z02 b l i k o) := by
 have hl := h.len
 have hnr := h.nr
 unfold zK5
 by_cases hr : 0 ≤ i ∧ i < l.length ∧ 0 ≤ k ∧ k < l.length
 ·obtain ⟨i0, i1, k0, k1⟩ := hr
  have c1 : ¬ i < 0 := by omega
  have c2 : ¬ len l ≤ i := by simp [len]; omega
  have c3 : ¬ k < 0 := by omega
  have c4 : ¬ len l ≤ k := by simp [len]; omega
  simp only [c1, c2, c3, c4, decide_false, zbf, if_false, zYc h k0 k1, zob]
  have f1 := zR3 b l i
  have f2 := zR3 b l k
  have f3 := zRH b l i
  have f4 := zRH b l k
  have f5 := zR6 b l i
  have f6 := zR6 b l k
  cases ha : zW5 b l k with
  | true => simp [z02, ha]
  | false =>
   simp only [zbf, if_false, zOH h i0 i1, zOH h k0 k1, zR7 h i0 i1, zR7 h k0 k1, zRG h i0 i1, zRG h k0 k1, zob, len0, zYG,
    zQe o.2 (show (zDT b l i).length < 4294967296 by omega) (show (zDT b l k).length < 4294967296 by omega),
    zQe o.2 (show (zL9 b (tN b l i)).length < 4294967296 by simp; omega) (show (zL9 b (tN b l k)).length < 4294967296 by simp; omega),
    zQe o.2 (show (zL9 b (tM b l i)).length < 4294967296 by simp; omega) (show (zL9 b (tM b l k)).length < 4294967296 by simp; omega), z02, i0, i1, k0, k1, ha, decide_true, Bool.not_false, Bool.true_and]
   by_cases o1 : o.1 = 1
   ·simp only [o1, beq_self_eq_true, if_true]
    cases zOk (zL9 b (tN b l i)) (zL9 b (tN b l k)) o.2 <;> cases (tN b l i).isEmpty <;> cases (tN b l k).isEmpty <;> simp
   ·have o1' : (o.1 == 1) = false := beq_eq_false_iff_ne.2 o1
    simp only [o1', zbf, if_false]
    cases o.1 == 2
    ·simp
    ·cases (tM b l i).isEmpty <;> cases (tM b l k).isEmpty <;> cases (zDT b l i).isEmpty <;> cases (zDT b l k).isEmpty <;> cases zOk (zDT b l i) (zDT b l k) o.2 <;> simp
 ·have hf : z02 b l i k o = false := by
   unfold z02
   by_cases a1 : 0 ≤ i <;> by_cases a2 : i < l.length <;> by_cases a3 : 0 ≤ k <;> by_cases a4 : k < l.length <;> simp [a1, a2, a3, a4]
   exact absurd ⟨a1, a2, a3, a4⟩ hr
  rw [hf]
  by_cases c1 : i < 0
  ·simp [c1]
  ·by_cases c2 : len l ≤ i
   ·simp [c1, c2]
   ·by_cases c3 : k < 0
    ·simp [c1, c2, c3]
    ·have c4 : len l ≤ k := by simp only [len] at c2 ⊢; omega
     simp [c1, c2, c3, c4]
end
section
variable {b : zT} {l : List zK}
def zW7 (b : zT) (l : List zK) (i c kd : Int) : Bool := match zI l i, zI l c with
 | some x, some a =>
  if decide (a.2.1 < 0) then kd == 1 && x.2.2.2 == z59 a.2.2.2 && (match zI b.1 a.1 with | some p => p.2.1 != 1 | none => false)
  else match zI b.2.1 a.2.1 with
   | some r => !r.2.1 && ((kd == 2 && x.2.2.2 == z59 a.2.2.2) || (kd == 3 && x.2.2.2 == (true, r.1)))
   | none => false
 | _, _ => false
theorem zUm (x : zO) : zJ5 x = some (z59 x) := rfl
theorem zYp (h : FormB b l) {i c : Int} (i0 : 0 ≤ i) (i1 : i < l.length) (c0 : 0 ≤ c) (c1 : c < l.length) (kd : Int) : zJA b l i c kd = some (zW7 b l i c kd) := by
 obtain ⟨x, hx⟩ := zJH i0 i1
 obtain ⟨a, ha⟩ := zJH c0 c1
 unfold zJA zW7
 simp only [hx, ha, zob, zUm]
 by_cases hr : a.2.1 < 0
 ·obtain ⟨_, ⟨p, hp⟩, _⟩ := (h.prem ha).1 (by have := (h.prem ha).2.2; omega)
  simp only [hr, decide_true, if_true, hp, zob]
  by_cases k1 : kd = 1
  ·simp only [k1, beq_self_eq_true, if_true, Bool.true_and]
   cases p.2.1 != 1 <;> simp
  ·simp [k1]
 ·obtain ⟨r, hr2⟩ := (h.prem ha).2.1 ((h.prem ha).2.2.1 (by omega))
  simp only [hr, decide_false, zbf, if_false, hr2, zob]
  by_cases k2 : kd = 2
  ·subst k2; simp
  ·by_cases k3 : kd = 3
   ·subst k3
    cases hs : r.2.1 <;> simp
   ·simp [k2, k3]
abbrev zZ4 (b : zT) (l : List zK) (i c : Int) : List Int := [1, 2, 3].filter (zW7 b l i c)
abbrev zXs (b : zT) (l : List zK) (i k c : Int) : List wA := (zZ4 b l i c).map fun kd => (i, k, c, kd)
noncomputable def zWg (b : zT) (l : List zK) : List wA := (vT l.length).flatMap fun i => (vT l.length).flatMap fun k => (uC l k).flatMap fun c => zXs b l i k c
theorem z0l (b : zT) (l : List zK) (i c : Int) : (zZ4 b l i c).length ≤ 3 := List.length_filter_le _ _
theorem z0n (y : wA) : y ∈ zWg b l ↔ (0 ≤ y.1 ∧ y.1 < l.length) ∧ (0 ≤ y.2.1 ∧ y.2.1 < l.length) ∧ y.2.2.1 ∈ uC l y.2.1 ∧ y.2.2.2 ∈ zZ4 b l y.1 y.2.2.1 := by
 obtain ⟨i, k, c, kd⟩ := y
 simp only [zWg, List.mem_flatMap, List.mem_map, uL]
 constructor
 ·rintro ⟨i', h1, k', h2, c', h3, kd', h4, e⟩
  cases e
  exact ⟨h1, h2, h3, h4⟩
 ·rintro ⟨h1, h2, h3, h4⟩
  exact ⟨i, h1, k, h2, c, h3, kd, h4, rfl⟩
theorem z2t {k c : Int} (h : c ∈ uC l k) : 0 ≤ c ∧ c < l.length := by
 have := (List.mem_filter.1 h).1
 exact uL.1 this
theorem zYW (b : zT) (l : List zK) (i k c : Int) : (zXs b l i k c).length ≤ 3 := by rw [List.length_map]; exact z0l b l i c
theorem zXq (h : l.length ≤ 100) : (zWg b l).length ≤ 3000000 := by
 have h1 : ∀ i k : Int, ((uC l k).flatMap fun c => zXs b l i k c).length ≤ 300 := fun i k => by
  have := zNu (fun c => zXs b l i k c) 3 (uC l k) fun c _ => zYW b l i k c
  have := zII l k
  omega
 have h2 : ∀ i : Int, ((vT l.length).flatMap fun k => (uC l k).flatMap fun c => zXs b l i k c).length ≤ 30000 := fun i => by
  have := zNu (fun k => (uC l k).flatMap fun c => zXs b l i k c) 300 (vT l.length) fun k _ => h1 i k
  rw [xX] at this
  omega
 have := zNu (fun i => (vT l.length).flatMap fun k => (uC l k).flatMap fun c => zXs b l i k c) 30000 (vT l.length) fun i _ => h2 i
 rw [xX] at this
 show ((vT l.length).flatMap _).length ≤ _
 omega
theorem ref_L4 (h : FormB b l) {acc0 : List wA} {i k c : Int} (s3 : (List wA) × Int) (i0 : 0 ≤ i) (i1 : i < l.length) (c0 : 0 ≤ c) (c1 : c < l.length) (acc : List wA) (ha : acc.length < 4294960000) :
  zV (zDu b l (acc0, i) c (acc0, k) s3) (acc, 1) = some (.inl (acc ++ zXs b l i k c, zR (s3.2 + 1))) := by
 have step : ∀ (acc : List wA) (kd : Int), acc.length < 4294967000 → 0 ≤ kd → kd ≤ 3 → zDu b l (acc0, i) c (acc0, k) s3 (acc, kd) = some (.inl (acc ++ (if zW7 b l i c kd then [(i, k, c, kd)] else []), kd + 1)) := fun acc kd h1 h2 h3 => by
  unfold zDu
  have hd : decide (kd ≤ 3) = true := by simpa using h3
  simp only [hd, if_true, zYp h i0 i1 c0 c1 kd, zob]
  rw [xQ (by omega) (by omega)]
  cases zW7 b l i c kd with
  | true =>
   simp only [if_true]
   rw [yP (by simp; omega)]
   rfl
  | false => simp
 have l1 : ∀ (p : Bool) (x : wA), (if p then [x] else []).length ≤ 1 := fun p x => by cases p <;> simp
 rw [yH, step acc 1 (by omega) (by omega) (by omega)]
 simp only
 rw [yH, step _ (1 + 1) (by have := l1 (zW7 b l i c 1) (i, k, c, 1); rw [List.length_append]; omega) (by omega) (by omega)]
 simp only
 rw [yH, step _ (1 + 1 + 1) (by have := l1 (zW7 b l i c 1) (i, k, c, 1); have := l1 (zW7 b l i c (1 + 1)) (i, k, c, 1 + 1); rw [List.length_append, List.length_append]; omega) (by omega) (by omega)]
 simp only
 rw [yH]
 unfold zDu
 have hd : decide ((1 + 1 + 1 + 1 : Int) ≤ 3) = false := by simp
 simp only [hd, zbf, if_false]
 congr 3
 rw [List.append_assoc, List.append_assoc]
 congr 1
 simp only [zXs, zZ4, List.filter_cons, List.filter_nil]
 show _ = List.map _ (if zW7 b l i c 1 then 1 :: (if zW7 b l i c 2 then 2 :: (if zW7 b l i c 3 then [3] else []) else (if zW7 b l i c 3 then [3] else [])) else (if zW7 b l i c 2 then 2 :: (if zW7 b l i c 3 then [3] else []) else (if zW7 b l i c 3 then [3] else [])))
 rw [show (1 + 1 : Int) = 2 from rfl, show (2 + 1 : Int) = 3 from rfl]
 cases zW7 b l i c 1 <;> cases zW7 b l i c 2 <;> cases zW7 b l i c 3 <;> rfl
theorem zZG (h : FormB b l) : zJ7 b l = some (zWg b l) := by
 have hl := h.len
 have h1 : ∀ i k : Int, ((uC l k).flatMap fun c => zXs b l i k c).length ≤ 300 := fun i k => by
  have := zNu (fun c => zXs b l i k c) 3 (uC l k) fun c _ => zYW b l i k c
  have := zII l k
  omega
 have h2 : ∀ i : Int, ((vT l.length).flatMap fun k => (uC l k).flatMap fun c => zXs b l i k c).length ≤ 30000 := fun i => by
  have := zNu (fun k => (uC l k).flatMap fun c => zXs b l i k c) 300 (vT l.length) fun k _ => h1 i k
  rw [xX] at this
  omega
 unfold zJ7
 refine zMn (B := zGs l b) (vT l.length) (fun i => (vT l.length).flatMap fun k => (uC l k).flatMap fun c => zXs b l i k c) (fun s => s) 30000 (fun i _ => h2 i) [] (fun q i s hi hs => ?_) (fun s => ?_)
 ·obtain ⟨rfl, hq⟩ := zQM hi
  have hd : decide ((q : Int) < len l) = true := by simp [len]; omega
  unfold zGs
  simp only [hd, if_true]
  refine (zMn (B := zGk l b (s, (q : Int))) (vT l.length) (fun k => (uC l k).flatMap fun c => zXs b l (q : Int) k c) (fun r => .inl (r, zR ((q : Int) + 1))) 300 (fun k _ => h1 _ k) s (fun u k s' hk hs' => ?_) (fun s' => ?_)).trans ?_
  ·obtain ⟨rfl, hu⟩ := zQM hk
   have hd : decide ((u : Int) < len l) = true := by simp [len]; omega
   unfold zGk
   simp only [hd, if_true, zVl h.toFormA (show (0 : Int) ≤ u by omega) (by omega), zob]
   simp only [List.length_nil] at hs
   refine (zMn (B := zGg (uC l u) b l (s, (q : Int)) (s', (u : Int))) (uC l u) (fun c => zXs b l (q : Int) (u : Int) c) (fun r => .inl (r, zR ((u : Int) + 1))) 3 (fun c _ => zYW b l _ _ c) s' (fun v c s'' hc hs'' => ?_) (fun s'' => ?_)).trans ?_
   ·have hcr := z2t (vK hc)
    have hv := vQ hc
    have := zII l u
    unfold zGg
    simp only [wZ hc, if_true, wV hc, zob]
    refine (ref_L4 h (s'', (v : Int)) (by omega) (by omega) hcr.1 hcr.2 s'' (by omega)).trans ?_
    simp only [wY hc (by omega)]
   ·unfold zGg
    simp only [xD, zbf, if_false]
   ·simp only [uF u (by omega)]
  ·unfold zGk
   have hd : decide (((vT l.length).length : Int) < len l) = false := by rw [xX]; exact xD l
   simp only [hd, zbf, if_false]
  ·simp only [uF q (by omega)]
 ·unfold zGs
  have hd : decide (((vT l.length).length : Int) < len l) = false := by rw [xX]; exact xD l
  simp only [hd, zbf, if_false]
theorem zPQ (m : List Int) (x : Int) (hb : m.length < 9223372036854775807) : zBA m x = some (decide (x ∈ m)) := by
 obtain ⟨r, h1, h2⟩ := zTu m x hb
 unfold zBA zDx
 rw [show zV (zKX m x) 0 = some r from h1]
 simp only [zob]
 congr 1
 rw [decide_eq_decide, h2]
 simp
noncomputable def zP6 (b : zT) (l : List zK) (o : yB) (y : wA) : Bool := y.2.2.2 == 3 || !z02 b l y.1 y.2.2.1 o
noncomputable def zMI (b : zT) (l : List zK) (o : yB) : List wA := (zWg b l).filter (zP6 b l o)
theorem zT2 (h : FormB b l) (o : yB) : zH0 b l o = some (zMI b l o) := by
 have hlen := zXq (b := b) h.len
 unfold zH0
 rw [zZG h]
 simp only [zob]
 have hL := zCf (B := zGl (zWg b l) b l o) (zWg b l) (fun s x => if zP6 b l o x then s ++ [x] else s) (fun s => s) (fun q s => s.length ≤ q) [] (by simp) (fun i x s hx hI => ?_) (fun s hI => ?_)
 ·have e := zDH (zP6 b l o) (fun x => x) (zWg b l) []
  rw [hL.1, e]
  simp [zMI]
 ·have hi := vQ hx
  unfold zGl
  have hc : (if x.2.2.2 == 3 then some true else (zK5 b l x.1 x.2.2.1 o).bind fun r2 => some (!r2)) = some (zP6 b l o x) := by
   simp only [zP6, z3t h, zob]
   cases x.2.2.2 == 3 <;> simp
  simp only [wZ hx, if_true, wV hx, zob]
  rw [hc]
  simp only [zob]
  cases hd : zP6 b l o x with
  | true =>
   simp only [if_true]
   rw [yP (by simp; omega)]
   exact ⟨by simp only [zob, wY hx (by omega)], by simp; omega⟩
  | false => exact ⟨by simp only [zbf, if_false, wY hx (by omega)], by simp only [zbf, if_false]; omega⟩
 ·unfold zGl
  simp [len]
end
section
section
variable {α ρ : Type}
def zXk (q : α → Bool) (l : List α) : Int := if l.any q then (l.findIdx q : Int) else -1
theorem zTq {B : Int → Option (Int ⊕ ρ)} (q : α → Bool) (l : List α) (no : ρ) (yes : Int → ρ) (hB : ∀ (i : Nat) x, l[i]? = some x → B (i : Int) = some (if q x then .inr (yes (i : Int)) else .inl ((i + 1 : Nat) : Int))) (he : B (l.length : Int) = some (.inr no)) :
  zV B 0 = some (if l.any q then yes (zXk q l) else no) := by
 have key : ∀ (n i : Nat), i + n = l.length → zV B (i : Int) = some (if (l.drop i).any q then yes ((i + (l.drop i).findIdx q : Nat) : Int) else no) := by
  intro n
  induction n with
  | zero =>
   intro i h
   rw [Nat.add_zero] at h
   subst h
   rw [yH, he, List.drop_length]
   rfl
  | succ n ih =>
   intro i h
   have hx : l[i]? = some l[i] := List.getElem?_eq_getElem (by omega)
   rw [yH, hB i _ hx, List.drop_eq_getElem_cons (by omega)]
   cases hp : q l[i] with
   | true => simp only [if_true, List.any_cons, hp, Bool.true_or, List.findIdx_cons, cond_true, Nat.add_zero]
   | false =>
    simp only [zbf, if_false, List.any_cons, hp, Bool.false_or, List.findIdx_cons, cond_false]
    rw [ih (i + 1) (by omega)]
    rw [show i + 1 + (l.drop (i + 1)).findIdx q = i + ((l.drop (i + 1)).findIdx q + 1) by omega]
 have h := key l.length 0 (by omega)
 simp only [List.drop_zero, Nat.zero_add] at h
 rw [show zV B 0 = _ from h, zXk]
 cases l.any q <;> rfl
theorem zWW {q : α → Bool} {l : List α} {i : Nat} {x : α} (hx : l[i]? = some x) (hq : q x = true) : 0 ≤ zXk q l ∧ zXk q l ≤ i := by
 have ha : l.any q = true := List.any_eq_true.2 ⟨x, vK hx, hq⟩
 rw [zXk, if_pos ha]
 refine ⟨by omega, ?_⟩
 have hi := vQ hx
 rw [List.getElem?_eq_getElem hi] at hx
 have hq' : q l[i] = true := by rw [Option.some.inj hx]; exact hq
 have : l.findIdx q ≤ i := by
  refine Nat.le_of_not_lt fun h => ?_
  have := List.not_of_lt_findIdx h
  rw [hq'] at this; simp at this
 omega
theorem zYM {q : α → Bool} {l : List α} (h : 0 ≤ zXk q l) : ∃ (k : Nat) (x : α), zXk q l = (k : Int) ∧ l[k]? = some x ∧ q x = true ∧ ∀ j y, j < k → l[j]? = some y → q y = false := by
 unfold zXk at h ⊢
 split at h
 ·rename_i ha
  rw [if_pos ha]
  obtain ⟨x, hx, hq⟩ := List.any_eq_true.1 ha
  have hlt : l.findIdx q < l.length := List.findIdx_lt_length_of_exists ⟨x, hx, hq⟩
  refine ⟨_, l[l.findIdx q], rfl, List.getElem?_eq_getElem hlt, List.findIdx_getElem, fun j y hj hy => ?_⟩
  have hjl := vQ hy
  rw [List.getElem?_eq_getElem hjl] at hy
  have := List.not_of_lt_findIdx hj
  rw [← Option.some.inj hy]
  simpa using this
 ·omega
theorem zZZ {q : α → Bool} {l : List α} : zXk q l < 0 ↔ l.any q = false := by
 unfold zXk
 cases h : l.any q
 ·simp
 ·simp
def zVO (e : Nat → α → Int) : Nat → List α → Int
 | _, [] => 0
 | i, x :: r => if e i x != 0 then e i x else zVO e (i + 1) r
theorem zUa {B : Int → Option (Int ⊕ ρ)} (l : List α) (e : Nat → α → Int) (yes : Int → ρ) (no : ρ) (hB : ∀ (i : Nat) x, l[i]? = some x → B (i : Int) = some (if e i x != 0 then .inr (yes (e i x)) else .inl ((i + 1 : Nat) : Int))) (he : B (l.length : Int) = some (.inr no)) :
  zV B 0 = some (if zVO e 0 l != 0 then yes (zVO e 0 l) else no) := by
 have key : ∀ (n i : Nat), i + n = l.length → zV B (i : Int) = some (if zVO e i (l.drop i) != 0 then yes (zVO e i (l.drop i)) else no) := by
  intro n
  induction n with
  | zero =>
   intro i h
   rw [Nat.add_zero] at h
   subst h
   rw [yH, he, List.drop_length]
   rfl
  | succ n ih =>
   intro i h
   have hx : l[i]? = some l[i] := List.getElem?_eq_getElem (by omega)
   rw [yH, hB i _ hx, List.drop_eq_getElem_cons (by omega)]
   simp only [zVO]
   by_cases hp : e i l[i] = 0
   ·simp only [hp, bne_self_eq_false, zbf, if_false]; exact ih (i + 1) (by omega)
   ·have hp' : (e i l[i] != 0) = true := by simpa using hp
    simp only [hp', if_true]
 have h := key l.length 0 (by omega)
 simpa using h
theorem zUT {e : Nat → α → Int} : ∀ {l : List α} {k : Nat}, zVO e k l = 0 ↔ ∀ (i : Nat) x, l[i]? = some x → e (k + i) x = 0
 | [], k => by simp [zVO]
 | x :: r, k => by
  simp only [zVO]
  constructor
  ·intro h
   cases hx : e k x != 0 with
   | true => rw [hx] at h; simp only [if_true] at h; rw [h] at hx; simp at hx
   | false =>
    rw [hx] at h
    simp only [zbf, if_false] at h
    intro i y hy
    cases i with
    | zero => simp at hy; subst hy; simpa using hx
    | succ i => rw [show k + (i + 1) = k + 1 + i by omega]; exact zUT.1 h i y (by simpa using hy)
  ·intro h
   have h0 := h 0 x rfl
   rw [Nat.add_zero] at h0
   rw [h0]
   simp only [bne_self_eq_false, zbf, if_false]
   exact zUT.2 fun i y hy => by rw [show k + 1 + i = k + (i + 1) by omega]; exact h (i + 1) y (by simpa using hy)
end
abbrev zLA (n : Int) : Bool := decide (0 ≤ n) && decide (n ≤ 9)
def zOx (p : vU) : Int :=
 if p.2.1 == 1 || p.2.1 == 2 || p.2.1 == 3 then
  if vName p.1.2 && zLA p.2.2.1 && (p.2.1 == 2 || p.2.2.1 == 0) && (p.2.2.2 == [] || vName p.2.2.2) then 0 else 1
 else 4
def z4I : List zO → Bool
 | a :: b :: r => vV a b && z4I (b :: r)
 | _ => true
def zNv (r : wC) : Int :=
 if 4 < r.2.2.2.1.length then 2
 else if vName r.1 && vName r.2.2.2.2.2 && zLA r.2.2.1 && (!r.2.1 || r.2.2.1 == 0) && r.2.2.2.1.all (fun x => vName x.2) then (if z4I r.2.2.2.1 then 0 else 8) else 1
def zQ5 (b : zT) (nm : qI) : Int := zXk (fun r : wC => r.1 == nm) b.2.1
def zYm (b : zT) (x : zO) : Int := zXk (fun p : vU => p.1 == x) b.1
def zXK (b : zT) (p : vG) : Int :=
 if zLA p.2.1 && vName p.2.2.2 then (if zQ5 b p.1 < 0 then 6 else match zI b.2.1 (zQ5 b p.1) with | some r => if r.2.1 then 4 else 0 | none => 0) else 1
def zRJ (b : zT) : Int :=
 if 16 < b.1.length || 24 < b.2.1.length || 8 < b.2.2.length then 2
 else
  let e1 := zVO (fun i p => if zOx p != 0 then zOx p else if zYm b p.1 < (i : Int) then 5 else 0) 0 b.1
  if e1 != 0 then e1 else
  let e2 := zVO (fun i r => if zNv r != 0 then zNv r else if zQ5 b r.1 < (i : Int) then 5 else 0) 0 b.2.1
  if e2 != 0 then e2 else zVO (fun _ p => zXK b p) 0 b.2.2
theorem zY9 (p : vU) : zIx p = some (zOx p) := by
 unfold zIx zHL zOx
 simp only [zRa, zN3, zob]
 by_cases k1 : p.2.1 = 1
 ·by_cases h0 : p.2.2.1 = 0
  ·cases vName p.1.2 <;> cases p.2.2.2 == [] <;> cases vName p.2.2.2 <;> simp [k1, h0]
  ·cases hr : zLA p.2.2.1 <;> cases hv : vName p.1.2 <;> simp [k1, h0, hr]
 ·by_cases k3 : p.2.1 = 3
  ·by_cases h0 : p.2.2.1 = 0
   ·cases vName p.1.2 <;> cases p.2.2.2 == [] <;> cases vName p.2.2.2 <;> simp [k3, h0]
   ·cases hr : zLA p.2.2.1 <;> cases hv : vName p.1.2 <;> simp [k3, h0, hr]
  ·by_cases k2 : p.2.1 = 2
   ·cases hr : zLA p.2.2.1 <;> cases vName p.1.2 <;> cases p.2.2.2 == [] <;> cases vName p.2.2.2 <;> simp [k2, hr]
   ·have : (decide (p.2.1 < 1) || decide (3 < p.2.1)) = true := by simp; omega
    simp [k1, k2, k3, this]
theorem z1m {B : Int → Option (Int ⊕ Int)} (l : List zO) (hl : l.length < 4294967296)
  (hB : ∀ (i : Nat) x y, l[i]? = some x → l[i + 1]? = some y → B ((i + 1 : Nat) : Int) = some (if decide (0 ≤ zOK x y) then .inr 8 else .inl ((i + 1 + 1 : Nat) : Int))) (he : ∀ k : Nat, l.length ≤ k → B (k : Int) = some (.inr 0)) :
  zV B 1 = some (if z4I l then 0 else 8) := by
 have key : ∀ (n i : Nat), i + 1 + n = l.length → zV B ((i + 1 : Nat) : Int) = some (if z4I (l.drop i) then 0 else 8) := by
  intro n
  induction n with
  | zero =>
   intro i h
   rw [yH, he (i + 1) (by omega), List.drop_eq_getElem_cons (by omega), List.drop_of_length_le (by omega)]
   rfl
  | succ n ih =>
   intro i h
   have hx : l[i]? = some l[i] := List.getElem?_eq_getElem (by omega)
   have hy : l[i + 1]? = some l[i + 1] := List.getElem?_eq_getElem (by omega)
   rw [yH, hB i _ _ hx hy, List.drop_eq_getElem_cons (by omega), List.drop_eq_getElem_cons (by omega)]
   have hc : decide (0 ≤ zOK l[i] l[i + 1]) = !vV l[i] l[i + 1] := by
    unfold zOK
    cases vV l[i] l[i + 1] with
    | true => simp
    | false =>
     simp only [zbf, if_false]
     split <;> simp
   rw [hc]
   cases hlt : vV l[i] l[i + 1] with
   | true =>
    simp only [Bool.not_true, zbf, if_false]
    rw [ih (i + 1) (by omega), List.drop_eq_getElem_cons (show i + 1 < l.length by omega)]
    simp only [z4I, hlt, Bool.true_and]
   | false => simp only [Bool.not_false, if_true, z4I, hlt, Bool.false_and, zbf, if_false]
 match l, hl, hB, he, key with
 | [], _, _, he, _ => rw [yH, show (1 : Int) = ((1 : Nat) : Int) from rfl, he 1 (by simp)]; rfl
 | x :: r, _, _, _, key => exact key r.length 0 (by simp; omega)
theorem z3F (r : wC) : zMY r = some (zNv r) := by
 unfold zMY zNv
 by_cases h4 : 4 < r.2.2.2.1.length
 ·have : decide (4 < len r.2.2.2.1) = true := by simp [len]; omega
  simp only [this, if_true, h4]
 have hr : r.2.2.2.1.length < 4294967296 := by omega
 have : decide (4 < len r.2.2.2.1) = false := by simp [len]; omega
 simp only [this, zbf, if_false, h4, zN3, zRa, zHL, zob]
 have hc : (if vName r.1 = true then if (decide (0 ≤ r.2.2.1) && decide (r.2.2.1 ≤ 9)) = true then if (!r.2.1) = true then some (vName r.2.2.2.2.2) else if (r.2.2.1 == 0) = true then some (vName r.2.2.2.2.2) else some false else some false else some false)
   = some (vName r.1 && vName r.2.2.2.2.2 && zLA r.2.2.1 && (!r.2.1 || r.2.2.1 == 0)) := by
  cases vName r.1 <;> cases vName r.2.2.2.2.2 <;> cases hk : zLA r.2.2.1 <;> cases r.2.1 <;> cases hz : r.2.2.1 == 0 <;> simp [hk]
 rw [hc]
 simp only [zob]
 have h1 := zCf (B := zJI r) r.2.2.2.1 (fun s x => s && vName x.2) (fun s => s) (fun _ _ => True) (vName r.1 && vName r.2.2.2.2.2 && zLA r.2.2.1 && (!r.2.1 || r.2.2.1 == 0)) trivial (fun i x s hx _ => ⟨by
  unfold zJI
  simp only [wZ hx, if_true, wV hx, zob, zRa]
  cases s <;> simp only [zbf, if_false, if_true, zob, wY hx hr, Bool.false_and, Bool.true_and], trivial⟩) (fun s _ => by unfold zJI; simp only [xD, zbf, if_false])
 rw [h1.1]
 have hf : ∀ (l : List zO) (g : Bool), l.foldl (fun s x => s && vName x.2) g = (g && l.all (fun x => vName x.2)) := by
  intro l
  induction l with
  | nil => intro g; simp
  | cons x l ih => intro g; rw [List.foldl_cons, ih, List.all_cons, Bool.and_assoc]
 rw [hf]
 simp only [zob]
 cases hg : (vName r.1 && vName r.2.2.2.2.2 && zLA r.2.2.1 && (!r.2.1 || r.2.2.1 == 0) && r.2.2.2.1.all (fun x => vName x.2)) with
 | false => rfl
 | true =>
  simp only [Bool.not_true, zbf, if_false, if_true]
  refine z1m (B := zJG r) r.2.2.2.1 hr (fun i x y hx hy => ?_) (fun k hk => ?_)
  ·unfold zJG
   have e1 : zR (((i + 1 : Nat) : Int) - 1) = (i : Int) := by have := vQ hy; rw [xQ (by omega) (by omega)]; omega
   simp only [wZ hy, if_true, wV hy, e1, wV hx, zob, zUI, wY hy hr]
   split <;> rfl
  ·unfold zJG
   have : decide ((k : Int) < len r.2.2.2.1) = false := by simp [len]; omega
   simp only [this, zbf, if_false]
theorem zYv {α : Type} (q : α → Bool) (l : List α) : (if l.any q then zXk q l else -1) = zXk q l := by unfold zXk; split <;> rfl
theorem zZj (b : zT) (nm : qI) (h : b.2.1.length < 4294967296) : zMW b nm = some (zQ5 b nm) := by
 have := zTq (B := zJQ b nm) (fun r : wC => r.1 == nm) b.2.1 (-1 : Int) (fun i => i) (fun i x hx => by
  unfold zJQ
  simp only [wZ hx, if_true, wV hx, zob, wY hx h]
  split <;> rfl) (by unfold zJQ; simp only [xD, zbf, if_false])
 rw [zYv] at this
 exact this
theorem zYs (b : zT) (x : zO) (h : b.1.length < 4294967296) : zLV b x = some (zYm b x) := by
 have := zTq (B := zGj b x) (fun r : vU => r.1 == x) b.1 (-1 : Int) (fun i => i) (fun i x hx => by
  unfold zGj
  simp only [wZ hx, if_true, wV hx, zob, wY hx h]
  split <;> rfl) (by unfold zGj; simp only [xD, zbf, if_false])
 rw [zYv] at this
 exact this
theorem z1L {b : zT} {nm : qI} (h : ¬ zQ5 b nm < 0) : ∃ r, zI b.2.1 (zQ5 b nm) = some r := by
 obtain ⟨k, x, h1, h2, _⟩ := zYM (q := fun r : wC => r.1 == nm) (l := b.2.1) (by unfold zQ5 at h; omega)
 exact ⟨x, by rw [zQ5, h1]; exact wV h2⟩
structure Cnt (b : zT) : Prop where
 p : b.1.length < 4294967296
 r : b.2.1.length < 4294967296
 m : b.2.2.length < 4294967296
 q : ∀ r ∈ b.2.1, r.2.2.2.1.length < 4294967296
structure Cnt3 (b : zT) : Prop where
 p : b.1.length < 4294967296
 r : b.2.1.length < 4294967296
 m : b.2.2.length < 4294967296
theorem Cnt.c3 {b : zT} (h : Cnt b) : Cnt3 b := ⟨h.p, h.r, h.m⟩
theorem zRo {b : zT} (h : Cnt3 b) : zGH b = some (zRJ b) := by
 unfold zGH zRJ
 have h0 : (decide (16 < len b.1) || (decide (24 < len b.2.1) || decide (8 < len b.2.2))) = (decide (16 < b.1.length) || decide (24 < b.2.1.length) || decide (8 < b.2.2.length)) := by
  rw [Bool.eq_iff_iff]; simp [len]; omega
 rw [h0]
 cases hc : (decide (16 < b.1.length) || decide (24 < b.2.1.length) || decide (8 < b.2.2.length)) with
 | true => simp
 | false =>
  simp only [zbf, if_false]
  rw [zUa (B := zFg b) b.1 (fun i p => if zOx p != 0 then zOx p else if zYm b p.1 < (i : Int) then 5 else 0) (fun e => (.inr e : Unit ⊕ Int)) (.inl ()) (fun i x hx => by
   unfold zFg
   simp only [wZ hx, if_true, wV hx, zob, zY9, zYs b x.1 h.p, wY hx h.p]
   cases hp : zOx x != 0 with
   | true => simp only [if_true, hp]
   | false =>
    by_cases hq : zYm b x.1 < (i : Int)
    ·simp [hq]
    ·simp [hq]) (by unfold zFg; simp only [xD, zbf, if_false])]
  cases he : zVO (fun i p => if zOx p != 0 then zOx p else if zYm b p.1 < (i : Int) then 5 else 0) 0 b.1 != 0 with
  | true => simp [yZ]
  | false =>
   simp only [zbf, if_false, yZ, zob]
   rw [zUa (B := zF1 b) b.2.1 (fun i r => if zNv r != 0 then zNv r else if zQ5 b r.1 < (i : Int) then 5 else 0) (fun e => (.inr e : Unit ⊕ Int)) (.inl ()) (fun i x hx => by
    unfold zF1
    simp only [wZ hx, if_true, wV hx, zob, z3F x, zZj b x.1 h.r, wY hx h.r]
    cases hp : zNv x != 0 with
    | true => simp only [if_true, hp]
    | false =>
     by_cases hq : zQ5 b x.1 < (i : Int)
     ·simp [hq]
     ·simp [hq]) (by unfold zF1; simp only [xD, zbf, if_false])]
   cases he2 : zVO (fun i r => if zNv r != 0 then zNv r else if zQ5 b r.1 < (i : Int) then 5 else 0) 0 b.2.1 != 0 with
   | true => simp
   | false =>
    simp only [zbf, if_false, zob]
    rw [zUa (B := zFh b) b.2.2 (fun _ p => zXK b p) (fun e => e) 0 (fun i x hx => by
     unfold zFh zXK zHL
     simp only [wZ hx, if_true, wV hx, zob, zRa, zZj b x.1 h.r, wY hx h.m, zLA]
     by_cases hr : (decide (0 ≤ x.2.1) && decide (x.2.1 ≤ 9)) = true
     ·simp only [hr, Bool.true_and, Bool.not_true, zbf, if_false]
      cases hv : vName x.2.2.2 with
      | false => rfl
      | true =>
       simp only [Bool.not_true, zbf, if_false, zob, if_true]
       by_cases hn : zQ5 b x.1 < 0
       ·simp [hn]
       ·obtain ⟨r, hr2⟩ := z1L hn
        simp only [hn, decide_false, zbf, if_false, hr2, zob]
        cases r.2.1 <;> simp
     ·rw [Bool.not_eq_true] at hr
      simp only [hr, Bool.false_and, Bool.not_false, if_true, zob, zbf, if_false]
      rfl) (by unfold zFh; simp only [xD, zbf, if_false])]
    cases hz : zVO (fun _ p => zXK b p) 0 b.2.2 != 0 with
    | true => simp
    | false => simp only [zbf, if_false]; congr 1; exact (by simpa using hz : _ = (0 : Int)).symm
theorem zWd {b : zT} (h : Cnt b) : zGH b = some (zRJ b) := zRo h.c3
structure zMS (b : zT) : Prop where
 np : b.1.length ≤ 16
 nr : b.2.1.length ≤ 24
 nm : b.2.2.length ≤ 8
 prem : ∀ p ∈ b.1, zOx p = 0
 rule : ∀ r ∈ b.2.1, zNv r = 0
 dp : ∀ (i j : Nat) p q, b.1[i]? = some p → b.1[j]? = some q → p.1 = q.1 → i = j
 dr : ∀ (i j : Nat) p q, b.2.1[i]? = some p → b.2.1[j]? = some q → p.1 = q.1 → i = j
 prom : ∀ p ∈ b.2.2, zXK b p = 0
theorem zV0 {α β : Type} [BEq β] [LawfulBEq β] (g : α → β) (l : List α) : (∀ (i : Nat) p, l[i]? = some p → ¬ zXk (fun x => g x == g p) l < (i : Int)) ↔ ∀ (i j : Nat) p q, l[i]? = some p → l[j]? = some q → g p = g q → i = j := by
 constructor
 ·intro h i j p q hp hq e
  have h1 := h i p hp
  have h2 := h j q hq
  have h3 := (zWW (q := fun x => g x == g p) hq (by simp [e])).2
  have h4 := (zWW (q := fun x => g x == g q) hp (by simp [e])).2
  rw [e] at h1 h3
  omega
 ·intro h i p hp hlt
  have h1 := zWW (q := fun x => g x == g p) hp (by simp)
  obtain ⟨k, x, e1, e2, e3, _⟩ := zYM h1.1
  have := h k i x p e2 hp (by simpa using e3)
  omega
theorem zP5 {b : zT} : zRJ b = 0 ↔ zMS b := by
 have hcnd : ∀ (a c : Int) (p : Prop) [Decidable p], (if a != 0 then a else if p then 5 else 0) = (0 : Int) ↔ a = 0 ∧ ¬ p := fun a c p _ => by
  by_cases ha : a = 0
  ·by_cases hp : p <;> simp [ha, hp]
  ·simp [ha]
 have h1 : zVO (fun i p => if zOx p != 0 then zOx p else if zYm b p.1 < (i : Int) then 5 else 0) 0 b.1 = 0 ↔ (∀ p ∈ b.1, zOx p = 0) ∧ ∀ (i j : Nat) p q, b.1[i]? = some p → b.1[j]? = some q → p.1 = q.1 → i = j := by
  rw [zUT, ← zV0 (fun p : vU => p.1)]
  simp only [Nat.zero_add, hcnd _ 0]
  exact ⟨fun h => ⟨fun p hp => by obtain ⟨i, hi⟩ := List.mem_iff_getElem?.1 hp; exact (h i p hi).1, fun i p hp => (h i p hp).2⟩, fun h i p hp => ⟨h.1 p (vK hp), h.2 i p hp⟩⟩
 have h2 : zVO (fun i r => if zNv r != 0 then zNv r else if zQ5 b r.1 < (i : Int) then 5 else 0) 0 b.2.1 = 0 ↔ (∀ p ∈ b.2.1, zNv p = 0) ∧ ∀ (i j : Nat) p q, b.2.1[i]? = some p → b.2.1[j]? = some q → p.1 = q.1 → i = j := by
  rw [zUT, ← zV0 (fun p : wC => p.1)]
  simp only [Nat.zero_add, hcnd _ 0]
  exact ⟨fun h => ⟨fun p hp => by obtain ⟨i, hi⟩ := List.mem_iff_getElem?.1 hp; exact (h i p hi).1, fun i p hp => (h i p hp).2⟩, fun h i p hp => ⟨h.1 p (vK hp), h.2 i p hp⟩⟩
 have h3 : zVO (fun _ p => zXK b p) 0 b.2.2 = 0 ↔ ∀ p ∈ b.2.2, zXK b p = 0 := by
  rw [zUT]
  exact ⟨fun h p hp => by obtain ⟨i, hi⟩ := List.mem_iff_getElem?.1 hp; exact h i p hi, fun h i p hp => h p (vK hp)⟩
 unfold zRJ
 cases hc : (decide (16 < b.1.length) || decide (24 < b.2.1.length) || decide (8 < b.2.2.length)) with
 | true =>
  simp only [if_true]
  refine ⟨fun h => (by cases h), fun h => ?_⟩
  simp at hc
  have := h.np; have := h.nr; have := h.nm
  omega
 | false =>
  simp at hc
  simp only [zbf, if_false]
  constructor
  ·intro h
   have e1 : zVO (fun i p => if zOx p != 0 then zOx p else if zYm b p.1 < (i : Int) then 5 else 0) 0 b.1 = 0 := by
    refine Decidable.byContradiction fun hn => ?_
    rw [if_pos (by simpa using hn)] at h
    exact hn h
   rw [if_neg (by rw [e1]; simp)] at h
   have e2 : zVO (fun i r => if zNv r != 0 then zNv r else if zQ5 b r.1 < (i : Int) then 5 else 0) 0 b.2.1 = 0 := by
    refine Decidable.byContradiction fun hn => ?_
    rw [if_pos (by simpa using hn)] at h
    exact hn h
   rw [if_neg (by rw [e2]; simp)] at h
   exact ⟨by omega, by omega, by omega, (h1.1 e1).1, (h2.1 e2).1, (h1.1 e1).2, (h2.1 e2).2, h3.1 h⟩
  ·intro h
   rw [if_neg (by rw [h1.2 ⟨h.prem, h.dp⟩]; simp), if_neg (by rw [h2.2 ⟨h.rule, h.dr⟩]; simp)]
   exact h3.2 h.prom
end
section
variable {b : zT} {l m : List zK}
structure FormC (b : zT) (l : List zK) : Prop extends FormB b l where
 l41 : l.length ≤ 41
 pr : ∀ (i : Nat) a p, l[i]? = some a → 0 ≤ a.1 → zI b.1 a.1 = some p → a.2.2.2 = p.1 ∧ a.2.2.1 = []
 ru : ∀ (i : Nat) a r, l[i]? = some a → 0 ≤ a.2.1 → zI b.2.1 a.2.1 = some r → a.2.2.2 = r.2.2.2.2 ∧ a.2.2.1.length = r.2.2.2.1.length ∧ ∀ (j : Nat) k y, a.2.2.1[j]? = some k → r.2.2.2.1[j]? = some y → ∃ a', zI l k = some a' ∧ a'.2.2.2 = y
structure z3M (b : zT) (l : List zK) (a : zK) : Prop where
 p : a.1 = -1
 r : ∃ q, zI b.2.1 a.2.1 = some q ∧ a.2.2.2 = q.2.2.2.2 ∧ a.2.2.1.length = q.2.2.2.1.length ∧ a.2.2.1.length ≤ 100 ∧ ∀ (j : Nat) k y, a.2.2.1[j]? = some k → q.2.2.2.1[j]? = some y → ∃ a', zI l k = some a' ∧ a'.2.2.2 = y
theorem zZP {α : Type} {l : List α} {i : Int} {x : α} (h : zI l i = some x) : 0 ≤ i ∧ i < l.length := by
 obtain ⟨n, rfl, hn⟩ := zQL h
 exact ⟨by omega, by have := vQ hn; omega⟩
theorem zSS {α : Type} {l m : List α} {i : Int} {x : α} (h : zI l i = some x) : zI (l ++ m) i = some x := by
 obtain ⟨n, rfl, hn⟩ := zQL h
 rw [xZ, List.getElem?_append_left (vQ hn)]
 exact hn
theorem zLR {α : Type} {l m : List α} {i : Int} (h1 : i < l.length) : zI (l ++ m) i = zI l i := by
 unfold zI
 split
 ·rw [List.getElem?_append_left (by omega)]
 ·rfl
theorem z3M.sub {a : zK} (h : z3M b l a) : ∀ k ∈ a.2.2.1, 0 ≤ k ∧ k < l.length := by
 intro k hk
 obtain ⟨q, _, _, h3, _, h5⟩ := h.r
 obtain ⟨j, hj⟩ := List.mem_iff_getElem?.1 hk
 have hjl := vQ hj
 obtain ⟨a', h6, _⟩ := h5 j k _ hj (List.getElem?_eq_getElem (by omega))
 exact zZP h6
theorem z3M.more {a : zK} (h : z3M b l a) : z3M b (l ++ m) a := by
 obtain ⟨q, h1, h2, h3, h4, h5⟩ := h.r
 exact ⟨h.p, q, h1, h2, h3, h4, fun j k y hk hy => by obtain ⟨a', h6, h7⟩ := h5 j k y hk hy; exact ⟨a', zSS h6, h7⟩⟩
theorem FormC.app (h : FormC b l) (hm : ∀ a ∈ m, z3M b l a) (hl : l.length + m.length ≤ 41) : FormC b (l ++ m) := by
 have hlen : (l ++ m).length ≤ 41 := by rw [List.length_append]; exact hl
 have key : ∀ (i : Nat) a, (l ++ m)[i]? = some a → (l[i]? = some a ∧ i < l.length) ∨ (l.length ≤ i ∧ a ∈ m) := fun i a ha => by
  by_cases hi : i < l.length
  ·rw [List.getElem?_append_left hi] at ha; exact .inl ⟨ha, hi⟩
  ·rw [List.getElem?_append_right (by omega)] at ha; exact .inr ⟨by omega, vK ha⟩
 refine ⟨⟨⟨by omega, fun a ha => ?_, fun i a ha k hk => ?_⟩, h.np, h.nr, fun i a ha => ?_⟩, hlen, fun i a p ha h0 hp => ?_, fun i a r ha h0 hr => ?_⟩
 ·rcases List.mem_append.1 ha with ha | ha
  ·exact h.nsub a ha
  ·obtain ⟨q, _, _, _, h4, _⟩ := (hm a ha).r; exact h4
 ·rcases key i a ha with ⟨h1, _⟩ | ⟨h1, h2⟩
  ·exact h.sub i a h1 k hk
  ·have := (hm a h2).sub k hk; omega
 ·rcases key i a ha with ⟨h1, _⟩ | ⟨h1, h2⟩
  ·exact h.kind i a h1
  ·obtain ⟨q, h3, _⟩ := (hm a h2).r
   have := zZP h3
   exact .inr ⟨(hm a h2).p, this⟩
 ·rcases key i a ha with ⟨h1, _⟩ | ⟨h1, h2⟩
  ·exact h.pr i a p h1 h0 hp
  ·rw [(hm a h2).p] at h0; omega
 ·rcases key i a ha with ⟨h1, _⟩ | ⟨h1, h2⟩
  ·obtain ⟨g1, g2, g3⟩ := h.ru i a r h1 h0 hr
   exact ⟨g1, g2, fun j k y hk hy => by obtain ⟨a', h6, h7⟩ := g3 j k y hk hy; exact ⟨a', zSS h6, h7⟩⟩
  ·obtain ⟨q, g1, g2, g3, _, g5⟩ := (hm a h2).r
   rw [hr] at g1
   cases g1
   exact ⟨g2, g3, fun j k y hk hy => by obtain ⟨a', h6, h7⟩ := g5 j k y hk hy; exact ⟨a', zSS h6, h7⟩⟩
theorem z4u (h : FormA l) {i j : Int} (h0 : 0 ≤ i) (h1 : i < l.length) : zNO (l ++ m) i j ↔ zNO l i j := by
 constructor
 ·intro hs
  induction hs with
  | self i => exact .self i
  | step hi hk _ ih =>
   rw [zLR h1] at hi
   have := (h.at hi).2.2.2 _ hk
   exact .step hi hk (ih this.1 (by omega))
 ·intro hs
  clear h0 h1
  induction hs with
  | self i => exact .self i
  | step hi hk _ ih => exact .step (zSS hi) hk ih
theorem z3B (h : FormA l) (h' : FormA (l ++ m)) {i : Int} (h0 : 0 ≤ i) (h1 : i < l.length) : uC (l ++ m) i = uC l i := by
 refine vY.ext xM (zPJ _ i) (zPJ _ i) fun j => ?_
 rw [zK0 h h0 h1, zK0 h' h0 (by rw [List.length_append]; omega), z4u h h0 h1]
theorem z3n (h : FormC b l) (h' : FormC b (l ++ m)) {i : Int} (h0 : 0 ≤ i) (h1 : i < l.length) : tM b (l ++ m) i = tM b l i := by
 refine vY.ext xM (zXx _) (zXx _) fun y => ?_
 rw [zRS h.toFormB h0 h1, zRS h'.toFormB h0 (by rw [List.length_append]; omega), z3B h.toFormA h'.toFormA h0 h1]
 refine exists_congr fun j => and_congr_right fun hj => ?_
 have := ((zK0 h.toFormA h0 h1 j).1 hj).le h.toFormA h0
 rw [zLR (by omega)]
inductive zPw (b : zT) (l : List zK) : Int → zO → Prop
 | here {i : Int} {a : zK} : zI l i = some a → zPw b l i a.2.2.2
 | step {i k : Int} {a : zK} {r : wC} {y : zO} : zI l i = some a → 0 ≤ a.2.1 → zI b.2.1 a.2.1 = some r → r.2.1 = true → k ∈ a.2.2.1 → zPw b l k y → zPw b l i y
theorem z5A (h : FormA l) {i : Int} {y : zO} (h0 : 0 ≤ i) (h1 : i < l.length) : zPw b (l ++ m) i y ↔ zPw b l i y := by
 constructor
 ·intro hs
  induction hs with
  | here hi => rw [zLR h1] at hi; exact .here hi
  | step hi hr hq hs hk _ ih =>
   rw [zLR h1] at hi
   have := (h.at hi).2.2.2 _ hk
   exact .step hi hr hq hs hk (ih this.1 (by omega))
 ·intro hs
  clear h0 h1
  induction hs with
  | here hi => exact .here (zSS hi)
  | step hi hr hq hs hk _ ih => exact .step (zSS hi) hr hq hs hk ih
structure z5E (b : zT) (l : List zK) : Prop where
 ref : ∀ i : Int, 0 ≤ i → i < l.length → ∃ r, zN5 b l i = some r ∧ r.length < 4294967296 ∧ ∀ y, y ∈ r ↔ zPw b l i y
structure z33 (b : zT) (l : List zK) (sz : Int → Nat) : Prop where
 one : ∀ i, 1 ≤ sz i
 big : ∀ i : Int, 0 ≤ i → i < l.length → sz i < 4294967296
 step : ∀ i a r, zI l i = some a → 0 ≤ a.2.1 → zI b.2.1 a.2.1 = some r → r.2.1 = true → 1 + (a.2.2.1.map sz).sum ≤ sz i
theorem zZE (f : Int → Nat) (l : List Int) (q : Nat) : ((l.take q).map f).sum ≤ (l.map f).sum := by
 have h := congrArg (fun x => (x.map f).sum) (List.take_append_drop q l)
 simp only [List.map_append, List.sum_append] at h
 omega
theorem z1Q {sz : Int → Nat} (h : FormB b l) (hz : z33 b l sz) : ∀ (n : Nat) (i : Int), 0 ≤ i → i < l.length → i < n → ∃ r, zCF n b l i = some r ∧ r.length ≤ sz i ∧ ∀ y, y ∈ r ↔ zPw b l i y := by
 intro n
 induction n with
 | zero => intro i h0 _ h2; omega
 | succ n ih =>
  intro i h0 h1 h2
  obtain ⟨a, ha⟩ := zJH h0 h1
  obtain ⟨hn, _, _, hsub⟩ := h.toFormA.at ha
  have h1z := hz.one i
  show ∃ r, zIa (zCF n) b l i = some r ∧ _
  unfold zIa
  simp only [ha, zob]
  have hone : ∀ (hno : ∀ r, 0 ≤ a.2.1 → zI b.2.1 a.2.1 = some r → r.2.1 = false) y, y ∈ [a.2.2.2] ↔ zPw b l i y := fun hno y => by
   rw [List.mem_singleton]
   constructor
   ·rintro rfl; exact .here ha
   ·intro hr
    cases hr with
    | here h1 => rw [ha] at h1; cases h1; rfl
    | step h1 h2 h3 h4 _ _ => rw [ha] at h1; cases h1; rw [hno _ h2 h3] at h4; cases h4
  by_cases hr : 0 ≤ a.2.1
  ·obtain ⟨r, hr2⟩ := (h.prem ha).2.1 ((h.prem ha).2.2.1 hr)
   simp only [hr, decide_true, if_true, hr2, zob]
   cases hs : r.2.1 with
   | false =>
    exact ⟨_, rfl, by simpa using h1z, hone fun r' _ h3 => by rw [hr2] at h3; cases h3; exact hs⟩
   | true =>
    simp only [if_true]
    have hst := hz.step i a r ha hr hr2 hs
    have hbig := hz.big i h0 h1
    refine (uR (B := zGW l i (zCF n) b) (fun q (s : List zO) => (s, (q : Int))) a.2.2.1 (fun q s => s.length ≤ 1 + ((a.2.2.1.take q).map sz).sum ∧ ∀ y, y ∈ s ↔ y = a.2.2.2 ∨ ∃ k ∈ a.2.2.1.take q, zPw b l k y)
     (fun r => r.length ≤ sz i ∧ ∀ y, y ∈ r ↔ zPw b l i y) (fun q k s hk hI => ?_) (fun s hI => ?_) [a.2.2.2] (by simp))
    ·obtain ⟨g1, g2⟩ := hI
     have hks := hsub k (vK hk)
     obtain ⟨r1, e1, e2, e3⟩ := ih k hks.1 (by omega) (by omega)
     have hq := zZE sz a.2.2.1 (q + 1)
     rw [xF hk, List.map_append, List.sum_append] at hq
     simp only [List.map_cons, List.map_nil, List.sum_cons, List.sum_nil] at hq
     refine .inl ⟨s ++ r1, ?_, ?_, fun y => ?_⟩
     ·unfold zGW
      simp only [ha, zob, wZ hk, if_true, wV hk, e1]
      rw [yP (by omega)]
      simp only [zob, wY hk (show a.2.2.1.length < 4294967296 by omega)]
     ·rw [xF hk, List.map_append, List.sum_append, List.length_append]
      simp only [List.map_cons, List.map_nil, List.sum_cons, List.sum_nil]
      omega
     ·rw [List.mem_append, g2, e3, xF hk]
      simp only [List.mem_append, List.mem_singleton, or_and_right, exists_or, exists_eq_left, or_assoc]
    ·obtain ⟨g1, g2⟩ := hI
     rw [List.take_length] at g1 g2
     refine ⟨s, by unfold zGW; simp only [ha, zob, xD, zbf, if_false], by omega, fun y => ?_⟩
     rw [g2]
     constructor
     ·rintro (rfl | ⟨k, h1, h2⟩)
      ·exact .here ha
      ·exact .step ha hr hr2 hs h1 h2
     ·intro hrun
      cases hrun with
      | here h1 => rw [ha] at h1; cases h1; exact .inl rfl
      | step h1 _ _ _ h5 h6 => rw [ha] at h1; cases h1; exact .inr ⟨_, h5, h6⟩
  ·simp only [hr, decide_false, zbf, if_false, zob]
   exact ⟨_, rfl, by simpa using h1z, hone fun r' h2 _ => absurd h2 hr⟩
theorem zXQ {n n' : Nat} (b : zT) (l : List zK) : n ≤ n' → ∀ i r, zCF n b l i = some r → zCF n' b l i = some r := by
 intro hn i r h
 have key : ∀ n n', n ≤ n' → ∀ i r, zCF n b l i = some r → zCF n' b l i = some r := by
  intro n
  induction n with
  | zero => intro n' _ i r h; cases h
  | succ n ih =>
   intro n' hn i r h
   obtain ⟨n', rfl⟩ : ∃ q, n' = q + 1 := ⟨n' - 1, by omega⟩
   have hle : Le (zIa (zCF n) b l i) (zIa (zCF n') b l i) := by
    have hrec : ∀ x, Le (zCF n b l x) (zCF n' b l x) := fun x => ⟨fun r hr => ih n' (by omega) x r hr⟩
    unfold zIa
    refine Le.bind (Le.refl _) fun x1 => Le.bind (Le.refl _) fun s1 => ?_
    refine Le.ite ?_ (Le.refl _)
    refine ⟨fun r hr => ?_⟩
    obtain ⟨q, hq⟩ := zIj hr
    refine (Le.lp (B := zGW l i (zCF n) b) (fun s => ?_) q _).el r hq
    unfold zGW
    refine Le.bind (Le.refl _) fun x5 => ?_
    refine Le.ite ?_ (Le.refl _)
    refine Le.bind (Le.refl _) fun x6 => Le.bind (Le.refl _) fun x7 => Le.bind (hrec _) fun r1 => Le.refl _
   exact hle.el r h
 exact key n n' hn i r h
theorem z5X {sz : Int → Nat} (h : FormB b l) (hz : z33 b l sz) {i : Int} (h0 : 0 ≤ i) (h1 : i < l.length) : ∃ r, zN5 b l i = some r ∧ r.length < 4294967296 ∧ ∀ y, y ∈ r ↔ zPw b l i y := by
 obtain ⟨r, e1, e2, e3⟩ := z1Q h hz (i.toNat + 1) i h0 h1 (by omega)
 have := hz.big i h0 h1
 exact ⟨r, zQd (i.toNat + 1) fun m hm => zXQ b l hm i r e1, by omega, e3⟩
theorem runsB {sz : Int → Nat} (h : FormB b l) (hz : z33 b l sz) : z5E b l :=
 ⟨fun _ h0 h1 => z5X h hz h0 h1⟩
open Classical in
noncomputable def z4m (b : zT) (l : List zK) (q : Int) (r : wC) (k : Int) : Bool := if r.2.1 then decide (zPw b l k r.2.2.2.2) else decide (q ∈ tM b l k)
noncomputable def zF9 (b : zT) (l : List zK) (q : Int) (r : wC) (subs : List Int) : Bool := !subs.any (z4m b l q r)
theorem zMs (h : FormC b l) (h' : FormC b (l ++ m)) {q : Int} {r : wC} {subs : List Int} (hs : ∀ k ∈ subs, 0 ≤ k ∧ k < l.length) : zF9 b (l ++ m) q r subs = zF9 b l q r subs := by
 unfold zF9
 congr 1
 rw [Bool.eq_iff_iff, List.any_eq_true, List.any_eq_true]
 refine exists_congr fun k => and_congr_right fun hk => ?_
 have := hs k hk
 unfold z4m
 rw [z3n h h' this.1 this.2]
 split
 ·simp only [decide_eq_true_eq]; exact z5A h.toFormA this.1 this.2
 ·exact Iff.rfl
theorem ref_in (m : List Int) (x : Int) (hb : m.length < 4294967296) : zP7 m x = some (decide (x ∈ m)) := by
 have h := zVw (B := zLD m x) m (fun y => y == x) (fun i y hy => by
  unfold zLD
  simp only [wZ hy, if_true, wV hy, zob, wY hy hb]
  split <;> rfl) (by unfold zLD; simp only [xD, zbf, if_false])
 refine h.trans ?_
 congr 1
 rw [Bool.eq_iff_iff]
 simp
theorem z0B (h : FormC b l) (hr : z5E b l) {q : Int} {r : wC} {subs : List Int} (hq : zI b.2.1 q = some r) (hs : ∀ k ∈ subs, 0 ≤ k ∧ k < l.length) (hn : subs.length < 4294967296) : zGV b l q subs = some (zF9 b l q r subs) := by
 have hl := h.len
 unfold zGV
 simp only [hq, zob]
 have hL := zXU (B := zHc subs r b l q) subs (z4m b l q r) false true (fun i k hk => ?_) (by unfold zHc; simp only [xD, zbf, if_false])
 ·rw [hL]
  unfold zF9
  cases subs.any (z4m b l q r) <;> rfl
 ·have hks := hs k (vK hk)
  unfold zHc
  simp only [wZ hk, if_true, wV hk, zob, wY hk hn]
  unfold z4m
  cases hst : r.2.1 with
  | true =>
   obtain ⟨ru, e1, e2, e3⟩ := hr.ref k hks.1 hks.2
   simp only [if_true, e1, zob, zY0 r.2.2.2.2 (show ru.length < 9223372036854775807 by omega), Bool.not_true, zbf, if_false]
   by_cases hm : zPw b l k r.2.2.2.2
   ·simp [(e3 _).2 hm, hm]
   ·have : ¬ r.2.2.2.2 ∈ ru := fun hc => hm ((e3 _).1 hc)
    simp [this, hm]
  | false =>
   have hd := zR6 b l k
   simp only [zbf, if_false, Bool.not_false, if_true, zQD h.toFormB hks.1 hks.2, zob, ref_in (tM b l k) q (by omega)]
   by_cases hm : q ∈ tM b l k <;> simp [hm]
def tK (l : List zK) (n : Nat) : List zO → List Int → List (List Int)
 | [], sofar => [sofar]
 | y :: ys, sofar => (vT n).flatMap fun i => match zI l i with
  | some a => if a.2.2.2 == y then tK l n ys (sofar ++ [i]) else []
  | none => []
theorem zWD (l : List zK) (n : Nat) : ∀ (ys : List zO) (sofar : List Int), (tK l n ys sofar).length ≤ n ^ ys.length
 | [], sofar => by simp [tK]
 | y :: ys, sofar => by
  have := zNu (fun i => match zI l i with | some a => if a.2.2.2 == y then tK l n ys (sofar ++ [i]) else [] | none => []) (n ^ ys.length) (vT n) (fun i _ => by
   split
   ·split
    ·exact zWD l n ys _
    ·simp
   ·simp)
  rw [xX] at this
  simp only [tK, List.length_cons, Nat.pow_succ]
  rw [Nat.mul_comm]; exact this
theorem zS2 (l : List zK) (n : Nat) : ∀ (ys : List zO) (sofar s : List Int), s ∈ tK l n ys sofar ↔ ∃ t, s = sofar ++ t ∧ t.length = ys.length ∧ ∀ (j : Nat) k y, t[j]? = some k → ys[j]? = some y → 0 ≤ k ∧ k < n ∧ ∃ a, zI l k = some a ∧ a.2.2.2 = y
 | [], sofar, s => by
  simp only [tK, List.mem_singleton]
  constructor
  ·rintro rfl; exact ⟨[], by simp, rfl, fun j k y h _ => by simp at h⟩
  ·rintro ⟨t, rfl, h2, _⟩; have := List.eq_nil_of_length_eq_zero h2; subst this; simp
 | y :: ys, sofar, s => by
  simp only [tK, List.mem_flatMap, uL]
  constructor
  ·rintro ⟨i, hi, hs⟩
   split at hs
   ·rename_i a ha
    split at hs
    ·rename_i hc
     obtain ⟨t, h1, h2, h3⟩ := (zS2 l n ys _ s).1 hs
     refine ⟨i :: t, by rw [h1]; simp, by simp [h2], fun j k z hk hz => ?_⟩
     cases j with
     | zero =>
      simp at hk hz
      subst hk hz
      exact ⟨hi.1, hi.2, a, ha, by simpa using hc⟩
     | succ j => exact h3 j k z (by simpa using hk) (by simpa using hz)
    ·cases hs
   ·cases hs
  ·rintro ⟨t, h1, h2, h3⟩
   cases t with
   | nil => simp at h2
   | cons i t =>
    obtain ⟨i0, i1, a, ha, hay⟩ := h3 0 i y rfl rfl
    refine ⟨i, ⟨i0, i1⟩, ?_⟩
    simp only [ha]
    rw [if_pos (by simp [hay])]
    exact (zS2 l n ys _ s).2 ⟨t, by rw [h1]; simp, by simpa using h2, fun j k z hk hz => h3 (j + 1) k z (by simpa using hk) (by simpa using hz)⟩
theorem zVo {k : Nat} (hl : l.length ≤ 100) {n : Nat} (hn : n ≤ l.length) (body : List zO) (hb : body.length ≤ 4) : ∀ (ys : List zO) (sofar : List Int), ys = body.drop sofar.length → sofar.length ≤ body.length → ys.length < k → zCh k l (n : Int) body sofar = some (tK l n ys sofar) := by
 induction k with
 | zero => intro ys _ _ _ h; omega
 | succ k ih =>
  intro ys sofar hys hle hk
  show zHa (zCh k) l n body sofar = _
  unfold zHa
  have hyl : ys.length = body.length - sofar.length := by rw [hys, List.length_drop]
  cases ys with
  | nil =>
   have : (len sofar == len body) = true := by simp [len] at hyl ⊢; omega
   simp only [this, if_true]
   rw [yP (by simp; omega)]
   rfl
  | cons y ys =>
   have hlt : sofar.length < body.length := by simp at hyl; omega
   have : (len sofar == len body) = false := by rw [beq_eq_false_iff_ne]; simp [len]; omega
   simp only [this, zbf, if_false]
   have hy : body[sofar.length]? = some y := by
    have := congrArg (·[0]?) hys
    simp only [List.getElem?_cons_zero, List.getElem?_drop, Nat.add_zero] at this
    exact this.symm
   have hys2 : ys = body.drop (sofar.length + 1) := by
    have := congrArg List.tail hys
    simpa [List.tail_drop] using this
   have hpow : n ^ ys.length ≤ 1000000 := by
    have h1 : ys.length ≤ 3 := by simp at hyl; omega
    calc n ^ ys.length ≤ 100 ^ ys.length := Nat.pow_le_pow_left (by omega) _
     _ ≤ 100 ^ 3 := Nat.pow_le_pow_right (by omega) h1
   refine (zMn (B := zE2 n l body sofar (zCh k)) (vT n) (fun i => match zI l i with | some a => if a.2.2.2 == y then tK l n ys (sofar ++ [i]) else [] | none => []) (fun s => s) 1000000 (fun i _ => by
    split
    ·split
     ·exact Nat.le_trans (zWD l n ys _) hpow
     ·simp
    ·simp) [] (fun q i s hi hs => ?_) (fun s => ?_))
   ·obtain ⟨rfl, hq⟩ := zQM hi
    obtain ⟨a, ha⟩ := zJH (l := l) (show (0 : Int) ≤ q by omega) (by omega)
    have hd : decide ((q : Int) < (n : Int)) = true := by simp; omega
    have hw : zR ((q : Int) + 1) = ((q + 1 : Nat) : Int) := uF q (by omega)
    unfold zE2
    simp only [hd, if_true, ha, zob, show zI body (len sofar) = some y from by rw [show len sofar = ((sofar.length : Nat) : Int) from rfl, xZ]; exact hy]
    cases hc : a.2.2.2 == y with
    | false => simp only [zbf, if_false, List.append_nil, hw]
    | true =>
     simp only [if_true]
     rw [zM7 (by simp [len]) (by simp [len])]
     simp only [zob, len, Int.toNat_natCast, List.take_length]
     rw [yP (by simp; omega)]
     simp only [zob]
     have hcl := Nat.le_trans (zWD l n ys (sofar ++ [(q : Int)])) hpow
     rw [ih ys (sofar ++ [(q : Int)]) (by simpa using hys2) (by simp; omega) (by simp at hk; omega)]
     simp only [zob]
     simp only [List.length_nil] at hs
     rw [yP (by omega)]
     simp only [zob, hw]
   ·unfold zE2
    have hd : decide (((vT n).length : Int) < (n : Int)) = false := by rw [xX]; simp
    simp only [hd, zbf, if_false]
theorem zYz (hl : l.length ≤ 100) {n : Nat} (hn : n ≤ l.length) (body : List zO) (hb : body.length ≤ 4) : zKB l (n : Int) body [] = some (tK l n body []) :=
 zQd 5 fun k hk => zVo hl hn body hb body [] (by simp) (by simp) (by omega)
theorem z1d {n : Nat} (hn : n ≤ l.length) : ∀ (ys : List zO) (sofar : List Int), tK (l ++ m) n ys sofar = tK l n ys sofar
 | [], _ => rfl
 | y :: ys, sofar => by
  simp only [tK]
  have key : ∀ is : List Int, (∀ i ∈ is, 0 ≤ i ∧ i < n) → is.flatMap (fun i => match zI (l ++ m) i with | some a => if a.2.2.2 == y then tK (l ++ m) n ys (sofar ++ [i]) else [] | none => []) = is.flatMap (fun i => match zI l i with | some a => if a.2.2.2 == y then tK l n ys (sofar ++ [i]) else [] | none => []) := by
   intro is
   induction is with
   | nil => intro _; rfl
   | cons i is ih =>
    intro h
    have h1 := h i List.mem_cons_self
    rw [List.flatMap_cons, List.flatMap_cons, ih fun j hj => h j (List.mem_cons_of_mem _ hj), zLR (by omega)]
    congr 1
    split
    ·split
     ·exact z1d hn ys _
     ·rfl
    ·rfl
  exact key _ fun i hi => uL.1 hi
theorem z09 (subs : List Int) (f : Int) (h : subs.length < 4294967296) : zMc subs f = some (subs.any fun k => decide (f ≤ k)) :=
 zVw (B := zHp subs f) subs (fun k => decide (f ≤ k)) (fun i k hk => by
  unfold zHp
  simp only [wZ hk, if_true, wV hk, zob, wY hk h]
  split <;> rfl) (by unfold zHp; simp only [xD, zbf, if_false])
end
section
variable {b : zT} {l m : List zK}
structure xI (b : zT) (l : List zK) : Prop extends FormC b l where
 cut : ∀ (i : Nat) a r, l[i]? = some a → 0 ≤ a.2.1 → zI b.2.1 a.2.1 = some r → zF9 b l a.2.1 r a.2.2.1 = true
structure zSC (b : zT) (D : List zO) (c : Nat) : Prop where
 valid : zMS b
 rule : ∀ r ∈ b.2.1, r.2.2.2.2 ∈ D ∧ r.2.2.2.1.length ≤ c
 sz : (c + 1) ^ D.length < 4294967296
theorem zR5 {r : wC} (h : zNv r = 0) : r.2.2.2.1.length ≤ 4 := by
 unfold zNv at h
 split at h
 ·cases h
 ·omega
theorem zSC.body {D : List zO} {c : Nat} (h : zSC b D c) {q : Int} {r : wC} (hq : zI b.2.1 q = some r) : r.2.2.2.1.length ≤ 4 := by
 obtain ⟨n, rfl, hn⟩ := zQL hq
 exact zR5 (h.valid.rule r (vK hn))
theorem FormC.ruI (h : FormC b l) {i : Int} {a : zK} (ha : zI l i = some a) {r : wC} (h0 : 0 ≤ a.2.1) (hr : zI b.2.1 a.2.1 = some r) : a.2.2.2 = r.2.2.2.2 ∧ a.2.2.1.length = r.2.2.2.1.length ∧ ∀ (j : Nat) k y, a.2.2.1[j]? = some k → r.2.2.2.1[j]? = some y → ∃ a', zI l k = some a' ∧ a'.2.2.2 = y := by
 obtain ⟨n, rfl, hn⟩ := zQL ha
 exact h.ru n a r hn h0 hr
theorem xI.cutI (h : xI b l) {i : Int} {a : zK} (ha : zI l i = some a) {r : wC} (h0 : 0 ≤ a.2.1) (hr : zI b.2.1 a.2.1 = some r) : zF9 b l a.2.1 r a.2.2.1 = true := by
 obtain ⟨n, rfl, hn⟩ := zQL ha
 exact h.cut n a r hn h0 hr
theorem zVs {α : Type} {p q : α → Bool} : ∀ (D : List α), (∀ x, p x = true → q x = true) → ∀ x ∈ D, q x = true → p x = false → (D.filter p).length < (D.filter q).length
 | [], _, x, hx, _, _ => by cases hx
 | d :: D, h, x, hx, h1, h2 => by
  have hle : (D.filter p).length ≤ (D.filter q).length := by
   rw [← List.countP_eq_length_filter, ← List.countP_eq_length_filter]
   exact List.countP_mono_left fun y _ => h y
  rcases List.mem_cons.1 hx with rfl | hx
  ·rw [List.filter_cons_of_neg (by simp [h2]), List.filter_cons_of_pos h1, List.length_cons]
   omega
  ·have ih := zVs D h x hx h1 h2
   rw [List.filter_cons, List.filter_cons]
   cases hp : p d with
   | true => simp [h d hp]; omega
   | false => cases hq : q d <;> simp <;> omega
theorem zWe (f : Int → Nat) (c : Nat) : ∀ (l : List Int), (∀ k ∈ l, f k ≤ c) → (l.map f).sum ≤ l.length * c
 | [], _ => by simp
 | k :: l, h => by
  have h1 := h k List.mem_cons_self
  have h2 := zWe f c l fun j hj => h j (List.mem_cons_of_mem _ hj)
  simp only [List.map_cons, List.sum_cons, List.length_cons, Nat.add_mul, Nat.one_mul]
  omega
open Classical in
noncomputable def z4G (b : zT) (l : List zK) (D : List zO) (i : Int) : Nat := (D.filter fun y => decide (zPw b l i y)).length
open Classical in
theorem runSz {D : List zO} {c : Nat} (hs : zSC b D c) (h : xI b l) : z33 b l fun i => (c + 1) ^ z4G b l D i := by
 refine ⟨fun i => Nat.pow_pos (by omega), fun i _ _ => ?_, fun i a r ha h0 hr hst => ?_⟩
 ·refine Nat.lt_of_le_of_lt (Nat.pow_le_pow_right (by omega) ?_) hs.sz
  exact List.length_filter_le _ _
 ·have hcut := h.cutI ha h0 hr
  obtain ⟨g1, g2, _⟩ := h.toFormC.ruI ha h0 hr
  obtain ⟨n, hn1, hn2⟩ := zQL hr
  obtain ⟨hD, hc⟩ := hs.rule r (vK hn2)
  have hlt : ∀ k ∈ a.2.2.1, z4G b l D k < z4G b l D i := fun k hk => by
   refine zVs D (fun y hy => ?_) r.2.2.2.2 hD ?_ ?_
   ·exact decide_eq_true (zPw.step ha h0 hr hst hk (of_decide_eq_true hy))
   ·exact decide_eq_true (by have := zPw.here (b := b) ha; rwa [g1] at this)
   ·unfold zF9 at hcut
    have hc2 : (a.2.2.1.any (z4m b l a.2.1 r)) = false := by simpa using hcut
    have := List.any_eq_false.1 hc2 k hk
    simpa [z4m, hst] using this
  cases hv : a.2.2.1 with
  | nil =>
   have := Nat.pow_pos (n := z4G b l D i) (show 0 < c + 1 by omega)
   simp only [List.map_nil, List.sum_nil]
   omega
  | cons k ks =>
   rw [← hv]
   have hpos : 0 < z4G b l D i := by have := hlt k (by rw [hv]; exact List.mem_cons_self); omega
   obtain ⟨u, hu⟩ : ∃ u, z4G b l D i = u + 1 := ⟨z4G b l D i - 1, by omega⟩
   have hsum := zWe (fun k => (c + 1) ^ z4G b l D k) ((c + 1) ^ u) a.2.2.1 fun k hk => Nat.pow_le_pow_right (by omega) (by have := hlt k hk; omega)
   have h3 : a.2.2.1.length * (c + 1) ^ u ≤ c * (c + 1) ^ u := Nat.mul_le_mul_right _ (by rw [g2]; exact hc)
   have h4 : 0 < (c + 1) ^ u := Nat.pow_pos (by omega)
   rw [hu, Nat.pow_succ, Nat.mul_add, Nat.mul_one, Nat.mul_comm ((c + 1) ^ u) c]
   omega
theorem xI.runs {D : List zO} {c : Nat} (h : xI b l) (hs : zSC b D c) : z5E b l := runsB h.toFormB (runSz hs h)
theorem xI.app (h : xI b l) (hm : ∀ a ∈ m, z3M b l a ∧ ∀ r, zI b.2.1 a.2.1 = some r → zF9 b l a.2.1 r a.2.2.1 = true) (hl : l.length + m.length ≤ 41) : xI b (l ++ m) := by
 have h' := h.toFormC.app (fun a ha => (hm a ha).1) hl
 refine ⟨h', fun i a r ha h0 hr => ?_⟩
 by_cases hi : i < l.length
 ·rw [List.getElem?_append_left hi] at ha
  rw [zMs h.toFormC h' fun k hk => by have := h.sub i a ha k hk; omega]
  exact h.cut i a r ha h0 hr
 ·rw [List.getElem?_append_right (by omega)] at ha
  obtain ⟨g1, g2⟩ := hm a (vK ha)
  rw [zMs h.toFormC h' g1.sub]
  exact g2 r hr
def zTs (f : Int) (first : Bool) (s : List Int) : Bool := s.any (fun k => decide (f ≤ k)) || (first && s.isEmpty)
noncomputable def zTo (b : zT) (l : List zK) (f : Int) (first : Bool) (q : Int) : List zK :=
 match zI b.2.1 q with
 | some r => ((tK l l.length r.2.2.2.1 []).filter fun s => zTs f first s && zF9 b l q r s).map fun s => (-1, q, s, r.2.2.2.2)
 | none => []
noncomputable def zKv (b : zT) (l : List zK) (f : Int) (first : Bool) : List zK := (vT b.2.1.length).flatMap (zTo b l f first)
noncomputable def zVK (b : zT) : Nat → List zK → Int → Bool → Option (List zK)
 | 0, _, _, _ => none
 | k + 1, l, f, first =>
  if 40 < (l ++ zKv b l f first).length then none
  else if zKv b l f first = [] then some l
  else zVK b k (l ++ zKv b l f first) l.length false
def zUn (b : zT) : List zK := b.1.mapIdx fun i p => ((i : Int), -1, [], p.1)
theorem zZn {f : Int} {first : Bool} {a : zK} : a ∈ zKv b l f first ↔ a.1 = -1 ∧ ∃ r, zI b.2.1 a.2.1 = some r ∧ a.2.2.2 = r.2.2.2.2 ∧ zTs f first a.2.2.1 = true ∧ zF9 b l a.2.1 r a.2.2.1 = true ∧ a.2.2.1.length = r.2.2.2.1.length ∧ ∀ (j : Nat) k y, a.2.2.1[j]? = some k → r.2.2.2.1[j]? = some y → ∃ a', zI l k = some a' ∧ a'.2.2.2 = y := by
 unfold zKv zTo
 simp only [List.mem_flatMap, uL]
 constructor
 ·rintro ⟨q, hq, ha⟩
  cases hr : zI b.2.1 q with
  | none => rw [hr] at ha; cases ha
  | some r =>
   rw [hr] at ha
   obtain ⟨s, hs, rfl⟩ := List.mem_map.1 ha
   obtain ⟨hs1, hs2⟩ := List.mem_filter.1 hs
   rw [Bool.and_eq_true] at hs2
   obtain ⟨t, rfl, ht1, ht2⟩ := (zS2 l l.length r.2.2.2.1 [] s).1 hs1
   exact ⟨rfl, r, hr, rfl, hs2.1, hs2.2, ht1, fun j k y hk hy => (ht2 j k y hk hy).2.2⟩
 ·rintro ⟨h1, r, hr, h2, h3, h4, h5, h6⟩
  refine ⟨a.2.1, by have := zZP hr; omega, ?_⟩
  rw [hr]
  refine List.mem_map.2 ⟨a.2.2.1, List.mem_filter.2 ⟨(zS2 l l.length r.2.2.2.1 [] _).2 ⟨a.2.2.1, rfl, h5, fun j k y hk hy => ?_⟩, by rw [h3, h4]; rfl⟩, ?_⟩
  ·obtain ⟨a', e1, e2⟩ := h6 j k y hk hy
   have := zZP e1
   exact ⟨this.1, this.2, a', e1, e2⟩
  ·rw [← h1, ← h2]
theorem zVV {D : List zO} {c : Nat} (hs : zSC b D c) {f : Int} {first : Bool} : ∀ a ∈ zKv b l f first, z3M b l a ∧ ∀ r, zI b.2.1 a.2.1 = some r → zF9 b l a.2.1 r a.2.2.1 = true := fun a ha => by
 obtain ⟨h1, r, hr, h2, h3, h4, h5, h6⟩ := zZn.1 ha
 refine ⟨⟨h1, r, hr, h2, h5, ?_, h6⟩, fun r' hr' => ?_⟩
 ·have := hs.body hr; omega
 ·rw [hr] at hr'; cases hr'; exact h4
theorem xI.round {D : List zO} {c : Nat} (h : xI b l) (hs : zSC b D c) {f : Int} {first : Bool} (hl : (l ++ zKv b l f first).length ≤ 41) : xI b (l ++ zKv b l f first) :=
 h.app (zVV hs) (by rw [List.length_append] at hl; exact hl)
theorem zQz (b : zT) : (zUn b).length = b.1.length := by simp [zUn]
theorem zN9 {i : Nat} {a : zK} (h : (zUn b)[i]? = some a) : ∃ p, b.1[i]? = some p ∧ a = ((i : Int), -1, [], p.1) := by
 unfold zUn at h
 rw [List.getElem?_mapIdx] at h
 cases hp : b.1[i]? with
 | none => rw [hp] at h; cases h
 | some p => rw [hp] at h; exact ⟨p, rfl, by cases h; rfl⟩
theorem zVT (h : zMS b) : xI b (zUn b) := by
 have hl := zQz b
 have hn := h.np
 have hr := h.nr
 refine ⟨⟨⟨⟨by omega, fun a ha => ?_, fun i a ha => ?_⟩, by omega, by omega, fun i a ha => ?_⟩, by omega, fun i a p ha h0 hp => ?_, fun i a r ha h0 hr => ?_⟩, fun i a r ha h0 hr => ?_⟩
 ·obtain ⟨i, hi⟩ := List.mem_iff_getElem?.1 ha
  obtain ⟨p, _, rfl⟩ := zN9 hi
  simp
 ·obtain ⟨p, _, rfl⟩ := zN9 ha
  intro k hk
  cases hk
 ·obtain ⟨p, h1, rfl⟩ := zN9 ha
  exact .inl ⟨rfl, vQ h1, rfl⟩
 ·obtain ⟨p', h1, rfl⟩ := zN9 ha
  rw [xZ, h1] at hp
  cases hp
  exact ⟨rfl, rfl⟩
 ·obtain ⟨p', h1, rfl⟩ := zN9 ha
  exact absurd h0 (by simp)
 ·obtain ⟨p', h1, rfl⟩ := zN9 ha
  exact absurd h0 (by simp)
theorem zTb {D : List zO} {c : Nat} (hs : zSC b D c) : ∀ (k : Nat) (l : List zK) (f : Int) (first : Bool) (x : List zK), xI b l → l.length ≤ 40 → zVK b k l f first = some x → xI b x ∧ x.length ≤ 40
 | 0, _, _, _, _, _, _, h => by cases h
 | k + 1, l, f, first, x, h, hl, hx => by
  unfold zVK at hx
  split at hx
  ·cases hx
  ·rename_i hlim
   split at hx
   ·cases hx
    exact ⟨h, hl⟩
   ·exact zTb hs k _ _ _ x (h.round hs (by omega)) (by omega) hx
theorem zZ7 {α β σ ρ : Type} {B : σ → Option (σ ⊕ ρ)} (xs : List α) (h : α → List β) (st : List β → Int → σ) (e : ρ) (fin : List β → ρ) (N : Nat) (acc : List β) (h0 : acc.length ≤ N)
  (hB : ∀ (q : Nat) x n, xs[q]? = some x → n = (xs.take q).flatMap h → (acc ++ n).length ≤ N → B (st (acc ++ n) q) = some (if N < (acc ++ (n ++ h x)).length then .inr e else .inl (st (acc ++ (n ++ h x)) ((q + 1 : Nat) : Int))))
  (hE : (acc ++ xs.flatMap h).length ≤ N → B (st (acc ++ xs.flatMap h) (xs.length : Int)) = some (.inr (fin (acc ++ xs.flatMap h)))) :
  zV B (st acc 0) = some (if N < (acc ++ xs.flatMap h).length then e else fin (acc ++ xs.flatMap h)) := by
 have key : ∀ (n i : Nat), i + n = xs.length → (acc ++ (xs.take i).flatMap h).length ≤ N → zV B (st (acc ++ (xs.take i).flatMap h) (i : Int)) = some (if N < (acc ++ xs.flatMap h).length then e else fin (acc ++ xs.flatMap h)) := by
  intro n
  induction n with
  | zero =>
   intro i hi hn
   rw [Nat.add_zero] at hi
   subst hi
   rw [List.take_length] at hn ⊢
   rw [yH, hE hn, if_neg (by omega)]
  | succ n ih =>
   intro i hi hn
   have hx : xs[i]? = some xs[i] := List.getElem?_eq_getElem (by omega)
   have ht : (xs.take (i + 1)).flatMap h = (xs.take i).flatMap h ++ h xs[i] := by rw [xF hx, List.flatMap_append, List.flatMap_singleton]
   rw [yH, hB i _ _ hx rfl hn, ← ht]
   by_cases hN : N < (acc ++ (xs.take (i + 1)).flatMap h).length
   ·rw [if_pos hN]
    have : (acc ++ (xs.take (i + 1)).flatMap h).length ≤ (acc ++ xs.flatMap h).length := by
     conv => rhs; rw [← List.take_append_drop (i + 1) xs, List.flatMap_append]
     simp only [List.length_append]
     omega
    rw [if_pos (by omega)]
   ·rw [if_neg hN]
    exact ih (i + 1) (by omega) (by omega)
 have := key xs.length 0 (by omega) (by simpa using h0)
 simpa using this
end
section
variable {b : zT} {l : List zK} {D : List zO} {c : Nat}
def ansB : Option (List zK) → List zK × Int
 | some x => (x, 0)
 | none => ([], 2)
theorem zW9 (h : zMS b) : zV (zFs b) (([] : List zK), 0) = some (zUn b) := by
 have hn := h.np
 have := zMn (B := zFs b) (zUn b) (fun a => [a]) (fun s => s) 1 (fun _ _ => by simp) [] (fun i a s hi hs => by
  obtain ⟨p, hp, rfl⟩ := zN9 hi
  have hlt := vQ hp
  unfold zFs
  simp only [wZ hp, if_true, wV hp, zob]
  rw [yP (by simp at hs ⊢; omega)]
  simp only [zob, wY hp (by omega)]) (fun s => by
  unfold zFs
  rw [zQz]
  simp only [xD, zbf, if_false])
 rw [this]
 simp
theorem zX4 (hs : zSC b D c) (h : xI b l) (hl : l.length ≤ 40) {f : Int} {r : Nat} {q : Nat} (hq : q < b.2.1.length) (n : List zK) (hn : (l ++ n).length ≤ 40) (hf : xI b (l ++ n))
  {ru : wC} (hr : zI b.2.1 (q : Int) = some ru) :
  zV (zGE (tK l l.length ru.2.2.2.1 []) (l, f, (r : Int)) b (l ++ n, (q : Int))) (l ++ n, 0) =
   some (if 40 < (l ++ (n ++ zTo b l f (decide (r ≤ 1)) q)).length then .inr (.inr (([] : List zK), 2)) else .inl (l ++ (n ++ zTo b l f (decide (r ≤ 1)) q), ((q + 1 : Nat) : Int))) := by
 have hb := hs.body hr
 have hcl : (tK l l.length ru.2.2.2.1 []).length < 4294967296 := by
  have h1 := zWD l l.length ru.2.2.2.1 []
  have h2 : l.length ^ ru.2.2.2.1.length ≤ 100 ^ 4 := Nat.le_trans (Nat.pow_le_pow_left (by omega) _) (Nat.pow_le_pow_right (by omega) hb)
  have h3 : (100 : Nat) ^ 4 = 100000000 := rfl
  omega
 have hnr := hs.valid.nr
 have key := zZ7 (B := zGE (tK l l.length ru.2.2.2.1 []) (l, f, (r : Int)) b (l ++ n, (q : Int))) (tK l l.length ru.2.2.2.1 [])
  (fun s => if zTs f (decide (r ≤ 1)) s && zF9 b l q ru s then [((-1 : Int), (q : Int), s, ru.2.2.2.2)] else []) (fun s i => (s, i))
  (.inr (.inr (([] : List zK), 2))) (fun s => .inl (s, ((q + 1 : Nat) : Int))) 40 (l ++ n) hn (fun i s acc hi hacc hlen => ?_) (fun _ => ?_)
 ·rw [key]
  have : (tK l l.length ru.2.2.2.1 []).flatMap (fun s => if zTs f (decide (r ≤ 1)) s && zF9 b l q ru s then [((-1 : Int), (q : Int), s, ru.2.2.2.2)] else []) = zTo b l f (decide (r ≤ 1)) q := by
   unfold zTo
   rw [hr]
   rw [← zYa]
   rw [← List.map_eq_flatMap]
  rw [this, List.append_assoc]
 ·have hs1 := (zS2 l l.length ru.2.2.2.1 [] s).1 (vK hi)
  obtain ⟨t, ht, htl, htm⟩ := hs1
  rw [List.nil_append] at ht
  subst ht
  have hsub : ∀ k ∈ s, 0 ≤ k ∧ k < l.length := fun k hk => by
   obtain ⟨j, hj⟩ := List.mem_iff_getElem?.1 hk
   have := vQ hj
   have := htm j k _ hj (List.getElem?_eq_getElem (by omega))
   omega
  have hnow : xI b (l ++ n ++ acc) := by
   refine hf.app (fun a ha => ?_) (by rw [List.length_append] at hlen; omega)
   rw [hacc] at ha
   obtain ⟨s', hs', ha⟩ := List.mem_flatMap.1 ha
   split at ha
   ·rename_i hc
    rw [Bool.and_eq_true] at hc
    simp only [List.mem_singleton] at ha
    subst ha
    obtain ⟨t, ht, htl, htm⟩ := (zS2 l l.length ru.2.2.2.1 [] s').1 (List.mem_of_mem_take hs')
    rw [List.nil_append] at ht
    subst ht
    have hg : z3M b l ((-1 : Int), (q : Int), s', ru.2.2.2.2) := ⟨rfl, ru, hr, rfl, htl, by simp only; omega, fun j k y hk hy => (htm j k y hk hy).2.2⟩
    refine ⟨hg.more, fun r' hr' => ?_⟩
    rw [hr] at hr'
    cases hr'
    rw [zMs h.toFormC hf.toFormC hg.sub]
    exact hc.2
   ·cases ha
  have hw : zGV b (l ++ n ++ acc) q s = some (zF9 b l q ru s) := by
   rw [z0B hnow.toFormC (hnow.runs hs) hr (fun k hk => by have := hsub k hk; simp only [List.length_append]; omega) (by omega)]
   rw [List.append_assoc, zMs h.toFormC (by rw [← List.append_assoc]; exact hnow.toFormC) hsub]
  unfold zGE
  simp only [wZ hi, if_true, wV hi, zob, wY hi hcl]
  rw [z09 s f (by omega)]
  simp only [zob, hw, hr]
  have hdec : (if (!s.any fun k => decide (f ≤ k)) = true then (if decide (1 < (r : Int)) = true then some true else if decide (0 < len s) = true then some true else some (!zF9 b l q ru s)) else some (!zF9 b l q ru s)) = some (!(zTs f (decide (r ≤ 1)) s && zF9 b l q ru s)) := by
   unfold zTs
   cases ha : s.any fun k => decide (f ≤ k) with
   | true => simp
   | false =>
    by_cases h1 : r ≤ 1
    ·have : ¬ (1 < (r : Int)) := by omega
     cases s with
     | nil => simp [this, h1, len]
     | cons k s => simp [this, h1, len]
    ·have : 1 < (r : Int) := by omega
     simp [this, h1]
  rw [hdec]
  simp only [zob]
  cases hc : zTs f (decide (r ≤ 1)) s && zF9 b l q ru s with
  | false =>
   simp only [Bool.not_false, if_true, zbf, if_false, List.append_nil]
   rw [if_neg (by omega)]
  | true =>
   simp only [Bool.not_true, zbf, if_false, if_true]
   rw [yP (by simp only [List.length_singleton]; omega)]
   simp only [zob, List.append_assoc, len]
   by_cases h40 : 40 < (l ++ (n ++ (acc ++ [((-1 : Int), (q : Int), s, ru.2.2.2.2)]))).length
   ·rw [if_pos (by simpa using (by omega : (40 : Int) < ((l ++ (n ++ (acc ++ [((-1 : Int), (q : Int), s, ru.2.2.2.2)]))).length : Int))), if_pos h40]
   ·rw [if_neg (by simpa using (by omega : ¬ (40 : Int) < ((l ++ (n ++ (acc ++ [((-1 : Int), (q : Int), s, ru.2.2.2.2)]))).length : Int))), if_neg h40]
 ·unfold zGE
  simp only [xD, zbf, if_false, uF q (by omega)]
theorem zXE (hs : zSC b D c) (h : xI b l) (hl : l.length ≤ 40) {f : Int} {r : Nat} (hr : r < 1000) :
  zV (zGB b (l, f, (r : Int))) (l, 0) =
   some (if 40 < (l ++ zKv b l f (decide (r ≤ 1))).length then .inr (([] : List zK), 2) else .inl (l ++ zKv b l f (decide (r ≤ 1)), (l.length : Int), ((r + 1 : Nat) : Int))) := by
 have hnr := hs.valid.nr
 refine zZ7 (B := zGB b (l, f, (r : Int))) (vT b.2.1.length) (zTo b l f (decide (r ≤ 1))) (fun s i => (s, i)) (.inr (([] : List zK), 2)) (fun s => .inl (s, (l.length : Int), ((r + 1 : Nat) : Int))) 40 l hl (fun q x n hq hn hlen => ?_) (fun _ => ?_)
 ·obtain ⟨rfl, hqn⟩ := zQM hq
  obtain ⟨ru, hru⟩ := zJH (l := b.2.1) (j := (q : Int)) (by omega) (by omega)
  have hd : decide ((q : Int) < len b.2.1) = true := by simp [len]; omega
  have hf : xI b (l ++ n) := by
   refine h.app (fun a ha => zVV hs a ?_ (f := f) (first := decide (r ≤ 1))) (by rw [List.length_append] at hlen; omega)
   rw [hn] at ha
   obtain ⟨q', hq', ha⟩ := List.mem_flatMap.1 ha
   exact List.mem_flatMap.2 ⟨q', List.mem_of_mem_take hq', ha⟩
  unfold zGB
  simp only [hd, if_true, hru, zob]
  have hch := zYz (l := l ++ n) (n := l.length) (by omega) (by simp) ru.2.2.2.1 (hs.body hru)
  rw [show len l = ((l.length : Nat) : Int) from rfl, hch]
  simp only [zob]
  rw [z1d (Nat.le_refl _), zX4 hs h hl hqn n hlen hf hru]
 ·unfold zGB
  have hd : decide (((vT b.2.1.length).length : Int) < len b.2.1) = false := by rw [xX]; simp [len]
  simp only [hd, zbf, if_false, uF r (by omega)]
theorem zWp (hs : zSC b D c) : ∀ (k : Nat) (l : List zK) (f : Int) (r : Nat), xI b l → l.length ≤ 40 → 41 ≤ l.length + k → r + k ≤ 900 → 1 ≤ r → (r = 1 ∨ f < l.length) →
  zV (zDl b) (l, f, (r : Int)) = some (ansB (zVK b k l f (decide (r ≤ 1)))) := by
 intro k
 induction k with
 | zero => intros; omega
 | succ k ih =>
  intro l f r h hl hk hr h1 hgo
  have hc : (((r : Int) == 1) || decide (f < len l)) = true := by
   rw [Bool.or_eq_true]
   rcases hgo with rfl | hgo
   ·exact .inl rfl
   ·exact .inr (by simpa [len] using hgo)
  have hstep : zDl b (l, f, (r : Int)) = some (if 40 < (l ++ zKv b l f (decide (r ≤ 1))).length then .inr (([] : List zK), 2) else .inl (l ++ zKv b l f (decide (r ≤ 1)), (l.length : Int), ((r + 1 : Nat) : Int))) := by
   unfold zDl
   simp only [hc, if_true]
   exact zXE hs h hl (by omega)
  rw [yH, hstep]
  unfold zVK
  by_cases hlim : 40 < (l ++ zKv b l f (decide (r ≤ 1))).length
  ·simp only [if_pos hlim]
   rfl
  ·simp only [if_neg hlim]
   by_cases hn : zKv b l f (decide (r ≤ 1)) = []
   ·rw [if_pos hn, hn, List.append_nil]
    have hstep2 : zDl b (l, (l.length : Int), ((r + 1 : Nat) : Int)) = some (.inr (l, 0)) := by
     unfold zDl
     have hc2 : ((((r + 1 : Nat) : Int) == 1) || decide ((l.length : Int) < len l)) = false := by
      rw [Bool.or_eq_false_iff]
      exact ⟨by simp only [beq_eq_false_iff_ne]; omega, by simp [len]⟩
     simp only [hc2, zbf, if_false]
    rw [yH, hstep2]
    rfl
   ·rw [if_neg hn]
    have hpos : 0 < (zKv b l f (decide (r ≤ 1))).length := List.length_pos_iff.2 hn
    have := ih (l ++ zKv b l f (decide (r ≤ 1))) l.length (r + 1) (h.round hs (by omega)) (by omega) (by rw [List.length_append]; omega) (by omega) (by omega) (.inr (by rw [List.length_append]; omega))
    rw [show decide (r + 1 ≤ 1) = false from by simp; omega] at this
    exact this
theorem zPD (h : zMS b) : Cnt b := by
 have h1 := h.np
 have h2 := h.nr
 have h3 := h.nm
 exact ⟨by omega, by omega, by omega, fun r hr => by have := zR5 (h.rule r hr); omega⟩
noncomputable def zVG (b : zT) : Option (List zK) := zVK b 50 (zUn b) 0 true
theorem z1V (hs : zSC b D c) : zHk b = some (ansB (zVG b)) := by
 unfold zHk
 rw [zWd (zPD hs.valid), zP5.2 hs.valid]
 simp only [zob, bne_self_eq_false, zbf, if_false]
 rw [zW9 hs.valid]
 have hn := hs.valid.np
 exact zWp hs 50 (zUn b) 0 1 (zVT hs.valid) (by rw [zQz]; omega) (by omega) (by omega) (by omega) (.inl rfl)
theorem zUk (hc : Cnt3 b) (h : ¬ zMS b) : zHk b = some ([], zRJ b) := by
 unfold zHk
 rw [zRo hc]
 have : (zRJ b != 0) = true := by
  rw [bne_iff_ne]
  exact fun h' => h (zP5.1 h')
 simp only [zob, this, if_true]
end
section
theorem z0v {s : uQ} {m n : Int} (h : uS s) (h0 : 0 ≤ m) (hm : m ≤ 1000000) (h1 : 1 ≤ n) (h2 : n ≤ 26) : ∃ (l : List zO) (k : Int), zF6 s m n = some (l, k) ∧ (l.length : Int) ≤ m ∧ (∀ x ∈ l, ∃ j : Nat, (j : Int) < n ∧ x.2 = zO0 j) ∧ uS (s.1, k) := by
 obtain ⟨v, k, hr, hv0, hv1, hk⟩ := zKy (n := m + 1) h (by omega) (by omega)
 unfold zF6
 rw [xQ (x := m + 1) (by omega) (by omega), hr]
 simp only [zob]
 obtain ⟨r, h3, h4⟩ := zMm (B := zG5 s n) (fun t => 0 ≤ t.2.1 ∧ (t.1.length : Int) + t.2.1 = v ∧ (∀ x ∈ t.1, ∃ j : Nat, (j : Int) < n ∧ x.2 = zO0 j) ∧ uS (s.1, t.2.2)) (fun t => t.2.1.toNat)
  (fun r => (r.1.length : Int) ≤ m ∧ (∀ x ∈ r.1, ∃ j : Nat, (j : Int) < n ∧ x.2 = zO0 j) ∧ uS (s.1, r.2)) (fun t ht => by
   obtain ⟨l, q, k⟩ := t
   obtain ⟨t1, t2, t3, t4⟩ := ht
   dsimp only at t1 t2 t3 t4
   unfold zG5
   by_cases hq : 0 < q
   ·obtain ⟨g, j, k', h5, hj, hk'⟩ := zMX t4 h1 h2
    refine .inl ⟨(l ++ [(g, zO0 j)], q - 1, k'), ?_, ⟨by show 0 ≤ q - 1; omega, by simp; omega, fun x hx => ?_, hk'⟩, by show (q - 1).toNat < q.toNat; omega⟩
    ·simp only [hq, decide_true, if_true, h5, zob]
     rw [yP (by simp; omega), xQ (by omega) (by omega)]
     rfl
    ·rcases List.mem_append.1 hx with hx | hx
     ·exact t3 x hx
     ·simp at hx; subst hx; exact ⟨j, hj, rfl⟩
   ·refine .inr ⟨(l, k), by simp [hq], by dsimp only; omega, t3, t4⟩) (([] : List zO), v, k) ⟨hv0, by simp, by simp, hk⟩
 obtain ⟨l, k'⟩ := r
 exact ⟨l, k', h3, h4.1, h4.2.1, h4.2.2⟩
theorem z0y (s : List zO) (hs : s.length < 1000000) (x : zO) (n : Int) : ∃ k : Nat, zV (zFu (s, n) x) 0 = some (k : Int) ∧ k ≤ s.length ∧ (∀ j y, j < k → s[j]? = some y → vV y x = true) ∧ ∀ y, s[k]? = some y → vV y x = false := by
 obtain ⟨r, h1, k, h2, h3⟩ := uR (B := zFu (s, n) x) (fun i (_ : Unit) => (i : Int)) s (fun i _ => ∀ j y, j < i → s[j]? = some y → vV y x = true)
  (fun r => ∃ k : Nat, r = (k : Int) ∧ k ≤ s.length ∧ (∀ j y, j < k → s[j]? = some y → vV y x = true) ∧ ∀ y, s[k]? = some y → vV y x = false) (fun i y _ hi hI => by
  have hlt := vQ hi
  unfold zFu
  simp only [wZ hi, if_true, wV hi, zob, wY hi (show s.length < 4294967296 by omega)]
  have hcond : (if uM y.2 x.2 = true then some true else if (y.2 == x.2) = true then if (!y.1) = true then some x.1 else some false else some false) = some (vV y x) := by
   unfold vV
   cases uM y.2 x.2 <;> cases y.2 == x.2 <;> cases y.1 <;> cases x.1 <;> rfl
  rw [hcond]
  simp only [zob]
  cases hc : vV y x with
  | true =>
   simp only [if_true]
   exact .inl ⟨(), by trivial, fun j z hj hz => by
    by_cases hji : j = i
    ·subst hji; rw [hi] at hz; cases hz; exact hc
    ·exact hI j z (by omega) hz⟩
  | false =>
   simp only [zbf, if_false]
   exact .inr ⟨_, rfl, i, rfl, by omega, hI, fun z hz => by rw [hi] at hz; cases hz; exact hc⟩) (fun _ hI => ⟨_, by
  unfold zFu
  simp only [xD, zbf, if_false, zob], s.length, rfl, Nat.le_refl _, hI, fun y hy => by have := vQ hy; omega⟩) () (fun j y hj => by omega)
 rw [show ((0 : Nat) : Int) = 0 from rfl] at h1
 subst h2
 exact ⟨k, h1, h3⟩
theorem z4X {s : List zO} (hs : vY vV s) {k : Nat} {x : zO} (h1 : ∀ j y, j < k → s[j]? = some y → vV y x = true) (h2 : ∀ y, s[k]? = some y → vV x y = true) : vY vV (s.take k ++ x :: s.drop k) := by
 have hsplit := List.take_append_drop k s
 rw [← hsplit] at hs
 obtain ⟨p1, p2, p3⟩ := List.pairwise_append.1 hs
 refine List.pairwise_append.2 ⟨p1, List.pairwise_cons.2 ⟨fun y hy => ?_, p2⟩, fun y hy z hz => ?_⟩
 ·cases hd : s.drop k with
  | nil => rw [hd] at hy; cases hy
  | cons z r =>
   have hz : s[k]? = some z := by
    have := congrArg (fun l => l[0]?) hd
    simpa using this
   rw [hd] at hy p2
   rcases List.mem_cons.1 hy with rfl | hy
   ·exact h2 _ hz
   ·exact zLn (h2 _ hz) ((List.pairwise_cons.1 p2).1 y hy)
 ·have hyx : vV y x = true := by
   obtain ⟨j, hj⟩ := List.mem_iff_getElem?.1 hy
   rw [List.getElem?_take] at hj
   split at hj
   ·rename_i hjk; exact h1 j y hjk hj
   ·cases hj
  rcases List.mem_cons.1 hz with rfl | hz
  ·exact hyx
  ·exact p3 y hy z hz
theorem z3K {α : Type} (s : List α) (z x : α) (k : Nat) (hk : k ≤ s.length) : (zIk (s ++ [z]) (((k + 1 : Nat)) : Int) ((s ++ [z]).drop k)).set k x = s.take k ++ x :: s.drop k := by
 have h1 : (s ++ [z]).drop k = s.drop k ++ [z] := List.drop_append_of_le_length hk
 unfold zIk
 rw [h1, Int.toNat_natCast]
 have h2 : (s.drop k ++ [z]).take ((s ++ [z]).length - (k + 1)) = s.drop k := by
  rw [show (s ++ [z]).length - (k + 1) = (s.drop k).length by simp, List.take_left']
  rfl
 have h3 : (s ++ [z]).drop (k + 1 + (s.drop k ++ [z]).length) = [] := List.drop_eq_nil_of_le (by simp; omega)
 rw [h2, h3, List.append_nil]
 cases hd : s.drop k with
 | nil =>
  have : k = s.length := by
   have := congrArg List.length hd
   simp at this
   omega
  subst this
  rw [List.take_of_length_le (l := s ++ [z]) (by simp), List.append_nil, List.set_append_right _ _ (by simp)]
  simp
 | cons y r =>
  have hk2 : k < s.length := by
   have := congrArg List.length hd
   simp at this
   omega
  have h4 : (s ++ [z]).take (k + 1) = s.take k ++ [s[k]] := by
   rw [List.take_append_of_le_length (by omega), List.take_add_one, List.getElem?_eq_getElem hk2]
   rfl
  rw [h4, List.append_assoc, List.set_append_right _ _ (by rw [List.length_take]; omega)]
  simp [Nat.min_eq_left (Nat.le_of_lt hk2)]
theorem zVA (l : List zO) (hl : l.length ≤ 1000) : ∃ r, zLP l = some r ∧ r.length ≤ l.length ∧ vY vV r ∧ ∀ y ∈ r, y ∈ l := by
 unfold zLP
 refine uR (B := zIP l) (fun i s => (s, (i : Int))) l (fun i s => s.length ≤ i ∧ vY vV s ∧ ∀ y ∈ s, y ∈ l) (fun r => r.length ≤ l.length ∧ vY vV r ∧ ∀ y ∈ r, y ∈ l) (fun i x s hi hs => .inl ?_) (fun s hs => ⟨s, ?_, hs⟩) [] ⟨by simp, List.Pairwise.nil, by simp⟩
 ·have hlt := vQ hi
  obtain ⟨hs1, hs2, hs3⟩ := hs
  unfold zIP
  obtain ⟨k, h1, h2, h3, h4⟩ := z0y s (by omega) x i
  simp only [wZ hi, if_true, wV hi, zob, h1, wY hi (show l.length < 4294967296 by omega)]
  by_cases hex : s[k]? = some x
  ·simp only [wZ hex, if_true, wV hex, zob, beq_self_eq_true]
   exact ⟨s, rfl, by omega, hs2, hs3⟩
  ·have hc : (if decide ((k : Int) < len s) = true then (zI s (k : Int)).bind fun x5 => some (x5 == x) else some false) = some false := by
    by_cases hk : k < s.length
    ·have hx : s[k]? = some s[k] := List.getElem?_eq_getElem hk
     simp only [wZ hx, if_true, wV hx, zob]
     congr 1
     rw [beq_eq_false_iff_ne]
     intro e
     rw [e] at hx
     exact hex hx
    ·have : decide ((k : Int) < len s) = false := by simp [len]; omega
     simp only [this, zbf, if_false]
   rw [hc]
   simp only [zob, zbf, if_false]
   rw [yP (by simp; omega)]
   have hr1 : zR ((k : Int) + 1) = ((k + 1 : Nat) : Int) := uF k (by omega)
   have hc1 : (decide (0 ≤ ((k + 1 : Nat) : Int)) && decide (((k + 1 : Nat) : Int) ≤ len (s ++ [((false, []) : zO)]))) = true := by simp [len]; omega
   have hc2 : (decide (0 ≤ (k : Int)) && decide ((k : Int) ≤ len (s ++ [((false, []) : zO)]))) = true := by simp [len]; omega
   obtain ⟨z, hz⟩ := zJH (l := zIk (s ++ [((false, []) : zO)]) ((k + 1 : Nat) : Int) (List.drop k (s ++ [((false, []) : zO)]))) (j := (k : Int)) (by omega) (by rw [zN0]; simp; omega)
   simp only [zob, hr1, yG, hc1, hc2, if_true, Int.toNat_natCast, hz, z3K s _ x k h2]
   refine ⟨_, rfl, ?_, z4X hs2 h3 fun y hy => ?_, fun y hy => ?_⟩
   ·simp; omega
   ·rcases zOy y x with h | h | h
    ·rw [h4 y hy] at h; cases h
    ·subst h; exact absurd hy hex
    ·exact h
   ·rcases List.mem_append.1 hy with hy | hy
    ·exact hs3 y (List.mem_of_mem_take hy)
    ·rcases List.mem_cons.1 hy with rfl | hy
     ·exact vK hi
     ·exact hs3 y (List.mem_of_mem_drop hy)
 ·unfold zIP
  simp only [xD, zbf, if_false]
theorem z24 : ∀ {l : List zO}, vY vV l → z4I l = true
 | [], _ => rfl
 | [_], _ => rfl
 | x :: y :: r, h => by
  obtain ⟨h1, h2⟩ := List.pairwise_cons.1 h
  unfold z4I
  rw [h1 y List.mem_cons_self, z24 h2]
  rfl
theorem z0c {s : uQ} {l : List Int} (h : uS s) (h0 : l ≠ []) (h1 : l.length ≤ 1000) : ∃ x k, zIw s l = some (x, k) ∧ x ∈ l ∧ uS (s.1, k) := by
 have hp := List.length_pos_iff.2 h0
 obtain ⟨v, k, hr, h2, h3, hk⟩ := zKy (n := len l) h (by simp [len]; omega) (by simp [len]; omega)
 obtain ⟨x, hx, hx2⟩ := zRp h2 h3
 exact ⟨x, k, by simp [zIw, hr, hx], List.mem_of_getElem? hx2, hk⟩
theorem zP2 {j : Nat} (h : j < 26) : vName (zO0 j) = true := by
 have : ∀ j, j < 26 → vName (zO0 j) = true := by decide
 exact this j h
def zUP (n : Nat) : qI := [114, UInt8.ofNat (97 + n)]
theorem zUH {n : Nat} (h : n < 26) : vName (zUP n) = true := by
 have : ∀ n, n < 26 → vName (zUP n) = true := by decide
 exact this n h
theorem z1n {n m : Nat} (h : n < 26) (h' : m < 26) (he : zUP n = zUP m) : n = m := by
 have : ∀ n, n < 26 → ∀ m, m < 26 → zUP n = zUP m → n = m := by decide
 exact this n h m h' he
theorem zRV {n : Nat} (h : n < 26) : zEn (n : Int) = some (zUP n) := by
 have : ∀ n : Nat, n < 26 → zEn (n : Int) = some (zUP n) := by decide
 exact this n h
theorem z4W {α β : Type} (g : α → β) {l : List α} {y : α} (h : ∀ (i j : Nat) p q, l[i]? = some p → l[j]? = some q → g p = g q → i = j) (hy : ∀ x ∈ l, g x ≠ g y) : ∀ (i j : Nat) p q, (l ++ [y])[i]? = some p → (l ++ [y])[j]? = some q → g p = g q → i = j := by
 intro i j p q hp hq he
 have key : ∀ (i : Nat) p, (l ++ [y])[i]? = some p → (l[i]? = some p) ∨ (i = l.length ∧ p = y) := fun i p hp => by
  by_cases hi : i < l.length
  ·rw [List.getElem?_append_left hi] at hp; exact .inl hp
  ·rw [List.getElem?_append_right (by omega)] at hp
   have hi2 := vQ hp
   simp at hi2
   have : i = l.length := by omega
   subst this
   simp at hp
   exact .inr ⟨rfl, hp.symm⟩
 rcases key i p hp with h1 | ⟨h1, h2⟩ <;> rcases key j q hq with h3 | ⟨h3, h4⟩
 ·exact h i j p q h1 h3 he
 ·subst h4; exact absurd he (hy p (vK h1))
 ·subst h2; exact absurd he.symm (hy q (vK h3))
 ·omega
structure z0o (n : Int) (l : List vU) : Prop where
 ok : ∀ p ∈ l, zOx p = 0
 at_ : ∀ p ∈ l, ∃ j : Nat, (j : Int) < n ∧ p.1.2 = zO0 j
 inj : ∀ (i j : Nat) p q, l[i]? = some p → l[j]? = some q → p.1 = q.1 → i = j
theorem z4i {s : uQ} {n : Int} (h1 : 1 ≤ n) (h2 : n ≤ 26) {v k : Int} (hv0 : 0 ≤ v) (hv1 : v ≤ 100) (hk : uS (s.1, k)) : ∃ r, zV (zGm s n) (v, k, []) = some r ∧ uS (s.1, r.1) ∧ (r.2.length : Int) ≤ v ∧ z0o n r.2 := by
 refine zMm (B := zGm s n) (fun t => 0 ≤ t.1 ∧ (t.2.2.length : Int) + t.1 ≤ v ∧ uS (s.1, t.2.1) ∧ z0o n t.2.2) (fun t => t.1.toNat) (fun r => uS (s.1, r.1) ∧ (r.2.length : Int) ≤ v ∧ z0o n r.2) (fun t ht => ?_) _ ⟨hv0, by simp, hk, by simp, by simp, by simp⟩
 obtain ⟨q, k, l⟩ := t
 obtain ⟨t1, t2, t3, t4⟩ := ht
 dsimp only at t1 t2 t3 t4
 unfold zGm
 by_cases hq : 0 < q
 ·obtain ⟨g, j, k1, e1, hj, hk1⟩ := zMX t3 h1 h2
  obtain ⟨p, k2, e2, hp, hk2⟩ := z0c (l := [1, 2, 2, 2, 3]) hk1 (by simp) (by simp)
  obtain ⟨x, k3, e3, hx, hk3⟩ := z2c (l := [[], [], [97, 110, 110], [98, 111, 98]]) hk2 (by simp) (by simp)
  obtain ⟨u, k4, e4, hu0, hu1, hk4⟩ := zKy (n := 4) hk3 (by omega) (by omega)
  have hr : zV (zEC (q, k, l) ((g, zO0 j), k1)) (false, 0) = some (l.any fun p => p.1 == (g, zO0 j)) := by
   obtain ⟨r, hr, hr2⟩ := uR (B := zEC (q, k, l) ((g, zO0 j), k1)) (fun i s => (s, (i : Int))) l (fun i s => s = (l.take i).any fun p => p.1 == (g, zO0 j)) (fun r => r = l.any fun p => p.1 == (g, zO0 j)) (fun i x s hi hs => .inl (by
    unfold zEC
    simp only [wZ hi, if_true, wV hi, zob, wY hi (show l.length < 4294967296 by omega)]
    exact ⟨_, rfl, by rw [xF hi, List.any_append, ← hs]; simp⟩)) (fun s hs => by
    unfold zEC
    simp only [xD, zbf, if_false]
    exact ⟨_, rfl, by rw [hs, List.take_length]⟩) false (by simp)
   rw [← hr2]
   exact hr
  dsimp only at e2 e3 e4 hk2 hk3 hk4
  have hq1 : zR (q - 1) = q - 1 := xQ (by omega) (by omega)
  have hmid : ∃ w z, (if (p == 2) = true then (xR (s.1, k3) 4).bind fun r5 => some (r5.2, r5.1) else some (k3, 0) : Option (Int × Int)) = some (w, z) ∧ uS (s.1, w) ∧ zLA z = true ∧ (p == 2 || z == 0) = true := by
   split
   ·rename_i hp2
    exact ⟨k4, u, by rw [e4]; rfl, hk4, by simp; omega, by simp [hp2]⟩
   ·exact ⟨k3, 0, rfl, hk3, by simp, by simp⟩
  obtain ⟨w, z, hm, hw, hz1, hz2⟩ := hmid
  simp only [hq, decide_true, if_true, e1, zob, e2, e3, hm, hr, hq1]
  cases hany : l.any fun p => p.1 == (g, zO0 j) with
  | true => exact .inl ⟨_, rfl, ⟨by show 0 ≤ q - 1; omega, by show (l.length : Int) + (q - 1) ≤ v; omega, hw, t4⟩, by show (q - 1).toNat < q.toNat; omega⟩
  | false =>
   simp only [Bool.not_false, if_true]
   rw [yP (by simp; omega)]
   refine .inl ⟨_, rfl, ⟨by show 0 ≤ q - 1; omega, by show ((l ++ [((g, zO0 j), p, z, x)]).length : Int) + (q - 1) ≤ v; simp; omega, hw, fun p' hp' => ?_, fun p' hp' => ?_, z4W _ t4.inj fun p' hp' he => ?_⟩, by show (q - 1).toNat < q.toNat; omega⟩
   ·rcases List.mem_append.1 hp' with hp' | hp'
    ·exact t4.ok p' hp'
    ·simp only [List.mem_singleton] at hp'
     subst hp'
     have hpk : (p == 1 || p == 2 || p == 3) = true := by
      simp only [List.mem_cons, List.not_mem_nil, or_false] at hp
      rcases hp with rfl | rfl | rfl | rfl | rfl <;> rfl
     have hsx : (x == ([] : qI) || vName x) = true := by
      simp only [List.mem_cons, List.not_mem_nil, or_false] at hx
      rcases hx with rfl | rfl | rfl | rfl <;> decide
     unfold zOx
     dsimp only
     rw [if_pos hpk, zP2 (by omega), hz1, hz2, hsx]
     rfl
   ·rcases List.mem_append.1 hp' with hp' | hp'
    ·exact t4.at_ p' hp'
    ·simp only [List.mem_singleton] at hp'
     subst hp'
     exact ⟨j, hj, rfl⟩
   ·rw [List.any_eq_false] at hany
    exact hany p' hp' (by rw [beq_iff_eq]; exact he)
 ·simp only [hq, decide_false, zbf, if_false]
  exact .inr ⟨_, rfl, t3, by show (l.length : Int) ≤ v; omega, t4⟩
structure z1f (l : List wC) : Prop where
 bd : ∀ r ∈ l, r.2.2.2.1.length ≤ 2
 ok : ∀ r ∈ l, zNv r = 0
 nm : ∀ (i : Nat) r, l[i]? = some r → r.1 = zUP i
theorem z4y {s : uQ} {n m : Int} (h1 : 1 ≤ n) (h2 : n ≤ 26) (hm : 1 ≤ m) (hm2 : m ≤ 26) {v k : Int} (hv0 : 0 ≤ v) (hv1 : v ≤ 24) (hk : uS (s.1, k)) : ∃ r, zV (zG9 s n m) (v, k, []) = some r ∧ uS (s.1, r.1) ∧ (r.2.length : Int) ≤ v ∧ z1f r.2 := by
 refine zMm (B := zG9 s n m) (fun t => 0 ≤ t.1 ∧ (t.2.2.length : Int) + t.1 ≤ v ∧ uS (s.1, t.2.1) ∧ z1f t.2.2) (fun t => t.1.toNat) (fun r => uS (s.1, r.1) ∧ (r.2.length : Int) ≤ v ∧ z1f r.2) (fun t ht => ?_) _ ⟨hv0, by simp, hk, by simp, by simp, by simp⟩
 obtain ⟨q, k, l⟩ := t
 obtain ⟨t1, t2, t3, t4⟩ := ht
 dsimp only at t1 t2 t3 t4
 unfold zG9
 by_cases hq : 0 < q
 ·have e0 := zRV (n := l.length) (by omega)
  obtain ⟨u, k1, e1, _, _, hk1⟩ := zKy (n := 3) t3 (by omega) (by omega)
  obtain ⟨bd, k2, e2, hb2, hbn, hk2⟩ := z0v (m := 2) hk1 (by omega) (by omega) h1 h2
  obtain ⟨bs, e3, hb3, hb4, hb5⟩ := zVA bd (by omega)
  obtain ⟨g, j, k3, e4, hj, hk3⟩ := zMX hk2 h1 h2
  obtain ⟨u5, k5, e5, hu5, hu5', hk5⟩ := zKy (n := 4) hk3 (by omega) (by omega)
  dsimp only at e1 e2 e3 e4 e5 hk1 hk2 hk3 hk5
  have hmid : ∃ w z, (if (!(u == 0)) = true then (xR (s.1, k3) 4).bind fun r12 => some (r12.2, r12.1) else some (k3, 0) : Option (Int × Int)) = some (w, z) ∧ uS (s.1, w) ∧ zLA z = true ∧ (!(u == 0) || z == 0) = true := by
   split
   ·rename_i hu
    exact ⟨k5, u5, by rw [e5]; rfl, hk5, by simp; omega, by rw [hu]; rfl⟩
   ·exact ⟨k3, 0, rfl, hk3, by simp, by simp⟩
  obtain ⟨w, z, hmm, hw, hz1, hz2⟩ := hmid
  obtain ⟨u6, k6, e6, _, _, hk6⟩ := zKy (n := 6) hw (by omega) (by omega)
  obtain ⟨u7, k7, e7, _, _, hk7⟩ := zKy (n := 4) hk6 (by omega) (by omega)
  obtain ⟨u8, k8, e8, hu8, hu8', hk8⟩ := zKy (n := m) hk7 (by omega) (by omega)
  obtain ⟨n8, rfl⟩ := Int.eq_ofNat_of_zero_le hu8
  have e9 := zRV (n := n8) (by omega)
  dsimp only at e6 e7 e8 hk6 hk7 hk8
  have hend : ∃ w2 z2 y2, ((xR (s.1, w) 6).bind fun r13 => if (r13.1 == 5) = true then (xR (s.1, r13.2) 4).bind fun r14 => (xR (s.1, r14.2) m).bind fun r15 => (zEn r15.1).bind fun r16 => some (r15.2, decide (0 < r14.1), r16) else some (r13.2, g, zO0 j) : Option (Int × Bool × qI)) = some (w2, z2, y2) ∧ uS (s.1, w2) ∧ vName y2 = true := by
   rw [e6]
   simp only [zob]
   split
   ·exact ⟨k8, decide (0 < u7), zUP n8, by rw [e7]; simp only [zob, e8, e9], hk8, zUH (by omega)⟩
   ·exact ⟨k6, g, zO0 j, rfl, hk6, zP2 (by omega)⟩
  obtain ⟨w2, z2, y2, he, hw2, hy2⟩ := hend
  have hq1 : zR (q - 1) = q - 1 := xQ (by omega) (by omega)
  rw [show len l = ((l.length : Nat) : Int) from rfl]
  simp only [hq, decide_true, if_true, e0, e1, zob, e2, e3, e4, hmm, he, hq1]
  rw [yP (by simp; omega)]
  refine .inl ⟨_, rfl, ⟨by show 0 ≤ q - 1; omega, by show ((l ++ [_]).length : Int) + (q - 1) ≤ v; simp; omega, hw2, fun r hr => ?_, fun r hr => ?_, fun i r hr => ?_⟩, by show (q - 1).toNat < q.toNat; omega⟩
  ·rcases List.mem_append.1 hr with hr | hr
   ·exact t4.bd r hr
   ·simp only [List.mem_singleton] at hr
    subst hr
    show bs.length ≤ 2
    omega
  ·rcases List.mem_append.1 hr with hr | hr
   ·exact t4.ok r hr
   ·simp only [List.mem_singleton] at hr
    subst hr
    unfold zNv
    dsimp only
    have hall : (bs.all fun x => vName x.2) = true := List.all_eq_true.2 fun x hx => by
     obtain ⟨j, hj, hx2⟩ := hbn x (hb5 x hx)
     rw [hx2]
     exact zP2 (by omega)
    rw [if_neg (by omega), zUH (by omega), hy2, hz1, hz2, hall, z24 hb4]
    rfl
  ·by_cases hi : i < l.length
   ·rw [List.getElem?_append_left hi] at hr
    exact t4.nm i r hr
   ·rw [List.getElem?_append_right (by omega)] at hr
    have := vQ hr
    simp at this
    have hi2 : i = l.length := by omega
    subst hi2
    simp at hr
    rw [← hr]
 ·simp only [hq, decide_false, zbf, if_false]
  exact .inr ⟨_, rfl, t3, by show (l.length : Int) ≤ v; omega, t4⟩
theorem z4b {s : uQ} {n : Int} (h1 : 1 ≤ n) (h2 : n ≤ 26) (o : Int) (rs : List wC) (hrs : rs.length ≤ 100) {v k : Int} (hv0 : 0 ≤ v) (hv1 : v ≤ 100) (hk : uS (s.1, k)) : ∃ r, zV (zGb (o, rs) s n) (v, k, []) = some r ∧ uS (s.1, r.1) ∧ (r.2.length : Int) ≤ v ∧ ∀ p ∈ r.2, zLA p.2.1 = true ∧ vName p.2.2.2 = true ∧ ∃ q ∈ rs, q.1 = p.1 ∧ q.2.1 = false := by
 refine zMm (B := zGb (o, rs) s n) (fun t => 0 ≤ t.1 ∧ (t.2.2.length : Int) + t.1 ≤ v ∧ uS (s.1, t.2.1) ∧ ∀ p ∈ t.2.2, zLA p.2.1 = true ∧ vName p.2.2.2 = true ∧ ∃ q ∈ rs, q.1 = p.1 ∧ q.2.1 = false) (fun t => t.1.toNat) (fun r => uS (s.1, r.1) ∧ (r.2.length : Int) ≤ v ∧ ∀ p ∈ r.2, zLA p.2.1 = true ∧ vName p.2.2.2 = true ∧ ∃ q ∈ rs, q.1 = p.1 ∧ q.2.1 = false) (fun t ht => ?_) _ ⟨hv0, by simp, hk, by simp⟩
 obtain ⟨q, k, l⟩ := t
 obtain ⟨t1, t2, t3, t4⟩ := ht
 dsimp only at t1 t2 t3 t4
 unfold zGb
 by_cases hq : 0 < q ∧ 0 < rs.length
 ·have hc : (decide (0 < q) && decide (0 < len rs)) = true := by simp [len]; omega
  obtain ⟨u, k1, e1, hu0, hu1, hk1⟩ := zKy (n := len rs) t3 (by simp [len]; omega) (by simp [len]; omega)
  obtain ⟨r, hr⟩ := zJH (l := rs) hu0 hu1
  obtain ⟨u2, k2, e2, hu2, hu2', hk2⟩ := zKy (n := 10) hk1 (by omega) (by omega)
  obtain ⟨g, j, k3, e3, hj, hk3⟩ := zMX hk2 h1 h2
  dsimp only at e1 e2 e3 hk1 hk2 hk3
  have hq1 : zR (q - 1) = q - 1 := xQ (by omega) (by omega)
  simp only [hc, if_true, e1, zob, hr, hq1]
  cases hst : r.2.1 with
  | true =>
   simp only [Bool.not_true, zbf, if_false]
   exact .inl ⟨_, rfl, ⟨by show 0 ≤ q - 1; omega, by show (l.length : Int) + (q - 1) ≤ v; omega, hk1, t4⟩, by show (q - 1).toNat < q.toNat; omega⟩
  | false =>
   simp only [Bool.not_false, if_true, e2, e3, zob]
   rw [yP (by simp; omega)]
   refine .inl ⟨_, rfl, ⟨by show 0 ≤ q - 1; omega, by show ((l ++ [_]).length : Int) + (q - 1) ≤ v; simp; omega, hk3, fun p hp => ?_⟩, by show (q - 1).toNat < q.toNat; omega⟩
   rcases List.mem_append.1 hp with hp | hp
   ·exact t4 p hp
   ·simp only [List.mem_singleton] at hp
    subst hp
    obtain ⟨i, _, hi⟩ := zQL hr
    exact ⟨by simp; omega, zP2 (by omega), r, vK hi, rfl, hst⟩
 ·have hc : (decide (0 < q) && decide (0 < len rs)) = false := by
   rw [Bool.and_eq_false_iff]
   by_cases h : 0 < q
   ·have h0 : ¬ 0 < rs.length := fun h3 => hq ⟨h, h3⟩
    exact .inr (decide_eq_false (by show ¬ (0 : Int) < (rs.length : Int); omega))
   ·exact .inl (by simpa using h)
  simp only [hc, zbf, if_false]
  exact .inr ⟨_, rfl, t3, by show (l.length : Int) ≤ v; omega, t4⟩
structure Drawn (b : zT) (n p q : Int) : Prop where
 np : (b.1.length : Int) ≤ p
 nr : (b.2.1.length : Int) ≤ q
 nm : b.2.2.length ≤ 2
 bd : ∀ r ∈ b.2.1, r.2.2.2.1.length ≤ 2
 valid : zMS b
 names : ∀ (i : Nat) r, b.2.1[i]? = some r → r.1 = zUP i
 at_ : ∀ p ∈ b.1, ∃ j : Nat, (j : Int) < n ∧ p.1.2 = zO0 j
theorem z29 {s : uQ} (h : uS s) {n p q : Int} (h1 : 1 ≤ n) (h2 : n ≤ 26) (hp : 0 ≤ p) (hp2 : p ≤ 16) (hq : 1 ≤ q) (hq2 : q ≤ 24) : ∃ b k, zJO s n p q = some (b, k) ∧ uS (s.1, k) ∧ Drawn b n p q := by
 unfold zJO
 obtain ⟨u1, k1, e1, a1, b1, hk1⟩ := zKy (n := p + 1) h (by omega) (by omega)
 obtain ⟨⟨o1, ps⟩, e2, hk2, hl2, hp2'⟩ := z4i (s := s) h1 h2 a1 (by omega) hk1
 obtain ⟨u3, k3, e3, a3, b3, hk3⟩ := zKy (n := q + 1) hk2 (by omega) (by omega)
 obtain ⟨⟨o4, rs⟩, e4, hk4, hl4, hb4⟩ := z4y (s := s) h1 h2 hq (by omega) a3 (by omega) hk3
 obtain ⟨u5, k5, e5, a5, b5, hk5⟩ := zKy (n := 3) hk4 (by omega) (by omega)
 dsimp only at hl2 hl4 hb4 hp2'
 obtain ⟨⟨o6, ms⟩, e6, hk6, hl6, hm6⟩ := z4b (s := s) h1 h2 o4 rs (by omega) a5 (by omega) hk5
 dsimp only at e3 e5 hl6 hm6
 rw [xQ (x := p + 1) (by omega) (by omega), xQ (x := q + 1) (by omega) (by omega)]
 have hinj : ∀ (i j : Nat) p q, rs[i]? = some p → rs[j]? = some q → p.1 = q.1 → i = j := fun i j p q hp hq he => by
  have := vQ hp
  have := vQ hq
  rw [hb4.nm i p hp, hb4.nm j q hq] at he
  exact z1n (by omega) (by omega) he
 refine ⟨(ps, rs, ms), o6, ?_, hk6, by show (ps.length : Int) ≤ p; omega, by show (rs.length : Int) ≤ q; omega, by show ms.length ≤ 2; omega, hb4.bd, ⟨by show ps.length ≤ 16; omega, by show rs.length ≤ 24; omega, by show ms.length ≤ 8; omega, hp2'.ok, hb4.ok, hp2'.inj, hinj, fun m hm => ?_⟩, hb4.nm, hp2'.at_⟩
 ·simp only [e1, zob, e2, e3, e4, e5, e6]
 ·obtain ⟨g1, g2, r, g3, g4, g5⟩ := hm6 m hm
  obtain ⟨i, hi⟩ := List.mem_iff_getElem?.1 g3
  have hf := zWW (q := fun r : wC => r.1 == m.1) hi (by simp [g4])
  obtain ⟨k, r', f1, f2, f3, _⟩ := zYM hf.1
  have hki := hinj k i r' r f2 hi (by rw [g4]; simpa using f3)
  subst hki
  rw [f2] at hi
  cases hi
  unfold zXK zQ5
  dsimp only
  rw [g1, g2, f1]
  have : ¬ ((k : Int) < 0) := by omega
  simp [this, xZ, f2, g5]
end
section
def Ok {α : Type} (x : Option α) (Q : α → Prop) : Prop := ∃ a, x = some a ∧ Q a
section
variable {α β : Type}
theorem Ok.ret {a : α} {Q : α → Prop} (h : Q a) : Ok (some a) Q := ⟨a, rfl, h⟩
theorem Ok.bind {x : Option α} {f : α → Option β} {I : α → Prop} {Q : β → Prop} (h : Ok x I) (k : ∀ a, I a → Ok (f a) Q) : Ok (x.bind f) Q := by
 obtain ⟨a, rfl, ha⟩ := h; exact k a ha
theorem Ok.ite {c : Bool} {x y : Option α} {Q : α → Prop} (hx : c = true → Ok x Q) (hy : c = false → Ok y Q) : Ok (if c = true then x else y) Q := by
 cases c with
 | true => exact hx rfl
 | false => exact hy rfl
theorem Ok.imp {x : Option α} {I Q : α → Prop} (h : Ok x I) (k : ∀ a, I a → Q a) : Ok x Q := by
 obtain ⟨a, h1, h2⟩ := h; exact ⟨a, h1, k a h2⟩
theorem Ok.of {x : Option α} {a : α} (h : x = some a) : Ok x fun b => b = a := ⟨a, h, rfl⟩
theorem Ok.idx {l : List α} {i : Int} (h0 : 0 ≤ i) (h1 : i < l.length) : Ok (zI l i) fun x => x ∈ l ∧ l[i.toNat]? = some x := by
 obtain ⟨x, h2, h3⟩ := zRp h0 h1
 exact ⟨x, h2, List.mem_of_getElem? h3, h3⟩
theorem Ok.app {l m : List α} (h : l.length + m.length < 4294967296) : Ok (wE l m) fun z => z = l ++ m := ⟨_, yP h, rfl⟩
end
section
variable {s : uQ}
theorem Ok.N {n : Int} (h : uS s) (h0 : 0 ≤ n) (h1 : n ≤ 4611686018427387904) : Ok (xR s n) fun r => 0 ≤ r.1 ∧ (1 ≤ n → r.1 < n) ∧ uS (s.1, r.2) := by
 by_cases hn : 1 ≤ n
 ·obtain ⟨v, k, e, a, b, c⟩ := zKy h hn h1
  exact ⟨_, e, a, fun _ => b, c⟩
 ·obtain ⟨v, k, hr, hk⟩ := zZT h
  have hn1 : n < 1 := by omega
  refine ⟨(0, k), ?_, Int.le_refl _, fun h => absurd h hn, hk⟩
  simp [xR, hr, zLQ, hn1]
end
section
variable {α β σ τ ρ : Type}
def Nx (mk : Nat → σ → τ) (I : Nat → σ → Prop) (Q : ρ → Prop) (i : Nat) : τ ⊕ ρ → Prop
 | .inl t => ∃ s, t = mk i s ∧ I i s
 | .inr r => Q r
def Fin (Q : ρ → Prop) : τ ⊕ ρ → Prop
 | .inl _ => False
 | .inr r => Q r
theorem Ok.forI {B : τ → Option (τ ⊕ ρ)} (mk : Nat → σ → τ) (l : List α) (I : Nat → σ → Prop) (Q : ρ → Prop) (hB : ∀ i x s, l[i]? = some x → I i s → Ok (B (mk i s)) (Nx mk I Q (i + 1)))
  (he : ∀ s, I l.length s → Ok (B (mk l.length s)) (Fin Q)) (s : σ) (h : I 0 s) : Ok (zV B (mk 0 s)) Q := by
 refine uR mk l I Q (fun i x s hx hI => ?_) (fun s hI => ?_) s h
 ·obtain ⟨o, h1, h2⟩ := hB i x s hx hI
  cases o with
  | inl t => obtain ⟨s', rfl, h3⟩ := h2; exact .inl ⟨s', h1, h3⟩
  | inr r => exact .inr ⟨r, h1, h2⟩
 ·obtain ⟨o, h1, h2⟩ := he s hI
  cases o with
  | inl t => exact h2.elim
  | inr r => exact ⟨r, h1, h2⟩
theorem Ok.seqE {x : Option (σ ⊕ α)} {f : σ → Option α} {I : σ ⊕ α → Prop} {Q : α → Prop} (h : Ok x I) (k : ∀ a, I (.inl a) → Ok (f a) Q) (k2 : ∀ r, I (.inr r) → Q r) : Ok (yZ x f) Q := by
 obtain ⟨a, rfl, ha⟩ := h
 cases a with
 | inl a => exact k a ha
 | inr r => exact ⟨r, rfl, k2 r ha⟩
theorem Ok.nat {B : τ → Option (τ ⊕ ρ)} (μ : τ → Nat) (I : τ → Prop) (Q : ρ → Prop) (hB : ∀ s, I s → Ok (B s) (fun o => match o with | .inl t => I t ∧ μ t < μ s | .inr r => Q r)) (s : τ) (h : I s) : Ok (zV B s) Q := by
 refine zVt μ I Q (fun s hs => ?_) s h
 obtain ⟨o, h1, h2⟩ := hB s hs
 cases o with
 | inl t => exact .inl ⟨t, h1, h2⟩
 | inr r => exact .inr ⟨r, h1, h2⟩
end
theorem z1J {α : Type} {l : List α} {i : Nat} {x : α} (h : l[i]? = some x) : decide ((i : Int) < len l) = true := decide_eq_true (show (i : Int) < (l.length : Int) by have := (List.getElem?_eq_some_iff.1 h).1; omega)
theorem z1U {α : Type} {l : List α} : decide ((l.length : Int) < len l) = false := decide_eq_false (show ¬ (l.length : Int) < (l.length : Int) by omega)
theorem z3m {α : Type} {l : List α} {i : Nat} {x : α} (h : l[i]? = some x) : l.set i x = l := by
 apply List.ext_getElem?
 intro j
 by_cases hj : i = j
 ·subst hj; rw [List.getElem?_set_self (List.getElem?_eq_some_iff.1 h).1, h]
 ·rw [List.getElem?_set_ne hj]
theorem zRy {α : Type} {l : List α} (h : l.length < 4294967296) : wE ([] : List α) l = some l := by rw [yP (by simpa using h), List.nil_append]
theorem zVQ {α : Type} : ∀ (l m : List α), l.foldl (fun s x => s ++ [x]) m = m ++ l
 | [], m => by simp
 | x :: l, m => by rw [List.foldl_cons, zVQ l]; simp
end
section
theorem wrapU {x : Int} (h0 : 0 ≤ x) (h1 : x < 18446744073709551616) : IntKind.u64.wrap x = x := by
 unfold IntKind.wrap
 simp only [IntKind.bits, IntKind.signed, Bool.false_and, zbf, if_false]
 omega
theorem zJB {n : Nat} (h : n < 18446744073709551616) : IntKind.u64.wrap (n : Int) = (n : Int) := wrapU (by omega) (by omega)
theorem z1E (n : Nat) : IntKind.u64.wrap (n : Int) = ((n % 18446744073709551616 : Nat) : Int) := by
 unfold IntKind.wrap
 simp only [IntKind.bits, IntKind.signed, Bool.false_and, zbf, if_false]
 omega
theorem zVL (n : Nat) : BitVec.ofInt IntKind.u64.bits (n : Int) = BitVec.ofNat 64 n := by
 show BitVec.ofInt 64 (n : Int) = _
 exact BitVec.ofInt_natCast 64 n
theorem zZm {a b : Nat} (ha : a < 18446744073709551616) : a &&& b < 18446744073709551616 := Nat.lt_of_le_of_lt Nat.and_le_left ha
theorem z4k {a b : Nat} (ha : a < 18446744073709551616) (hb : b < 18446744073709551616) : a ||| b < 18446744073709551616 := Nat.or_lt_two_pow (n := 64) ha hb
theorem zRL {a b : Nat} (ha : a < 18446744073709551616) (hb : b < 18446744073709551616) : yE .u64 (a : Int) (b : Int) = ((a &&& b : Nat) : Int) := by
 unfold yE
 rw [zVL, zVL]
 have h : (BitVec.ofNat 64 a &&& BitVec.ofNat 64 b).toNat = a &&& b := by
  rw [BitVec.toNat_and, BitVec.toNat_ofNat, BitVec.toNat_ofNat, Nat.mod_eq_of_lt ha, Nat.mod_eq_of_lt hb]
 exact (congrArg (fun z : Nat => IntKind.u64.wrap (z : Int)) h).trans (zJB (zZm ha))
theorem zWI {a b : Nat} (ha : a < 18446744073709551616) (hb : b < 18446744073709551616) : bor .u64 (a : Int) (b : Int) = ((a ||| b : Nat) : Int) := by
 unfold bor
 rw [zVL, zVL]
 have h : (BitVec.ofNat 64 a ||| BitVec.ofNat 64 b).toNat = a ||| b := by
  rw [BitVec.toNat_or, BitVec.toNat_ofNat, BitVec.toNat_ofNat, Nat.mod_eq_of_lt ha, Nat.mod_eq_of_lt hb]
 exact (congrArg (fun z : Nat => IntKind.u64.wrap (z : Int)) h).trans (zJB (z4k ha hb))
def z4a (a b : Nat) : Nat := a ^^^ (a &&& b)
theorem zMZ (a b i : Nat) : (z4a a b).testBit i = (a.testBit i && !b.testBit i) := by
 unfold z4a
 rw [Nat.testBit_xor, Nat.testBit_and]
 cases a.testBit i <;> cases b.testBit i <;> rfl
theorem zYr {a b : Nat} (ha : a < 18446744073709551616) : z4a a b < 18446744073709551616 := Nat.xor_lt_two_pow (n := 64) ha (zZm ha)
theorem zUS {a b : Nat} (ha : a < 18446744073709551616) (_hb : b < 18446744073709551616) : zMf .u64 (a : Int) (b : Int) = ((z4a a b : Nat) : Int) := by
 unfold zMf
 rw [zVL, zVL]
 have h : (BitVec.ofNat 64 a &&& ~~~(BitVec.ofNat 64 b)).toNat = z4a a b := by
  apply Nat.eq_of_testBit_eq
  intro i
  rw [zMZ, ← BitVec.getLsbD, BitVec.getLsbD_and, BitVec.getLsbD_not, BitVec.getLsbD_ofNat, BitVec.getLsbD_ofNat]
  by_cases hi : i < 64
  ·simp [hi]
  ·have : a.testBit i = false := Nat.testBit_lt_two_pow (Nat.lt_of_lt_of_le ha (Nat.pow_le_pow_right (by decide) (by omega) : 2 ^ 64 ≤ 2 ^ i))
   simp [hi, this]
 exact (congrArg (fun z : Nat => IntKind.u64.wrap (z : Int)) h).trans (zJB (zYr ha))
theorem z3l {i : Nat} (h : i < 64) : z1j .u64 1 (IntKind.u64.wrap (i : Int)) = some ((2 ^ i : Nat) : Int) := by
 rw [zJB (by omega)]
 unfold z1j shl
 have h2 : (2 : Nat) ^ i < 18446744073709551616 := Nat.pow_lt_pow_right (a := 2) (by decide) (show i < 64 from h)
 have h3 : min ((i : Int).toNat) IntKind.u64.bits = i := by simp [IntKind.bits]; omega
 have h4 : (1 : Int) * 2 ^ i = ((2 ^ i : Nat) : Int) := by rw [Int.one_mul]; norm_cast
 rw [if_neg (by omega), h3, h4, zJB h2]
theorem shrK_u {m i : Nat} (h : i < 64) : shrK .u64 (m : Int) (IntKind.u64.wrap (i : Int)) = some ((m / 2 ^ i : Nat) : Int) := by
 rw [zJB (by omega)]
 unfold shrK xC
 have h3 : min ((i : Int).toNat) IntKind.u64.bits = i := by simp [IntKind.bits]; omega
 rw [if_neg (by omega), h3]
 congr 1
 rw [Int.fdiv_eq_ediv_of_nonneg _ (by exact Int.le_of_lt (Int.pow_pos (by decide)))]
 norm_cast
theorem bit_eq (m i : Nat) : (((m / 2 ^ i) &&& 1 : Nat) == 1) = m.testBit i := by
 rw [Nat.testBit_eq_decide_div_mod_eq, Nat.and_one_is_mod, Bool.eq_iff_iff]
 simp
theorem z5F {m i : Nat} (hm : m < 18446744073709551616) : m / 2 ^ i < 18446744073709551616 := Nat.lt_of_le_of_lt (Nat.div_le_self _ _) hm
theorem zNz {i : Nat} (h : i < 64) : 2 ^ i < 18446744073709551616 := Nat.pow_lt_pow_right (a := 2) (by decide) (show i < 64 from h)
theorem zWa {m i : Nat} (hm : m < 18446744073709551616) (h : 64 ≤ i) : m.testBit i = false :=
 Nat.testBit_lt_two_pow (Nat.lt_of_lt_of_le hm (Nat.pow_le_pow_right (by decide) h : 2 ^ 64 ≤ 2 ^ i))
def zO4 (m : Nat) : List Int := (vT 64).filter fun x => m.testBit x.toNat
theorem zLf {m : Nat} {x : Int} : x ∈ zO4 m ↔ ∃ i : Nat, x = (i : Int) ∧ i < 64 ∧ m.testBit i = true := by
 unfold zO4
 rw [List.mem_filter, uL]
 constructor
 ·rintro ⟨⟨h1, h2⟩, h3⟩
  exact ⟨x.toNat, by omega, by omega, h3⟩
 ·rintro ⟨i, rfl, h1, h2⟩
  exact ⟨⟨by omega, by omega⟩, by simpa using h2⟩
theorem zV9 {m : Nat} (hm : m < 18446744073709551616) {i : Nat} : (i : Int) ∈ zO4 m ↔ m.testBit i = true := by
 rw [zLf]
 constructor
 ·rintro ⟨j, h1, h2, h3⟩
  have : i = j := by omega
  rw [this]; exact h3
 ·intro h
  refine ⟨i, rfl, Nat.lt_of_not_le fun hge => ?_, h⟩
  rw [zWa hm hge] at h; cases h
theorem zTy (m : Nat) : vY yV (zO4 m) := (zPY 64).filter _
theorem zX7 (m : Nat) : (zO4 m).length ≤ 64 := Nat.le_trans (List.length_filter_le _ _) (by rw [xX]; exact Nat.le_refl _)
theorem zTV (q k j : Nat) : (2 ^ k * (2 * q + 1)).testBit j = (decide (j = k) || (decide (k < j) && q.testBit (j - k - 1))) := by
 have e : 2 ^ k * (2 * q + 1) = 2 ^ (k + 1) * q + 2 ^ k := by rw [Nat.mul_add, Nat.mul_one, Nat.pow_succ, Nat.mul_assoc]
 rw [e, Nat.testBit_two_pow_mul_add _ (Nat.pow_lt_pow_right (by decide) (Nat.lt_succ_self k))]
 by_cases hj : j < k + 1
 ·rw [if_pos hj, Nat.testBit_two_pow]
  have h1 : decide (k < j) = false := by simp; omega
  rw [h1, Bool.false_and, Bool.or_false]
  by_cases h2 : j = k <;> simp [h2]
  exact fun h => h2 h.symm
 ·rw [if_neg hj]
  have h1 : decide (k < j) = true := by simp; omega
  have h2 : decide (j = k) = false := by simp; omega
  rw [h1, h2, Bool.true_and, Bool.false_or]
  congr 1
theorem z0K (q k : Nat) : (2 ^ k * (2 * q + 1)) &&& (2 ^ k * (2 * q + 1) - 1) = 2 ^ (k + 1) * q := by
 have hp : 0 < 2 ^ k := Nat.pow_pos (by decide)
 have e : 2 ^ k * (2 * q + 1) - 1 = 2 ^ (k + 1) * q + (2 ^ k - 1) := by rw [Nat.mul_add, Nat.mul_one, Nat.pow_succ, Nat.mul_assoc]; omega
 apply Nat.eq_of_testBit_eq
 intro j
 rw [Nat.testBit_and, zTV, e, Nat.testBit_two_pow_mul_add _ (by rw [Nat.pow_succ]; omega)]
 have e2 : 2 ^ (k + 1) * q = 2 ^ (k + 1) * q + 0 := rfl
 rw [e2, Nat.testBit_two_pow_mul_add _ (Nat.pow_pos (by decide))]
 by_cases hj : j < k + 1
 ·rw [if_pos hj, if_pos hj, Nat.testBit_two_pow_sub_one, Nat.zero_testBit]
  have h1 : decide (k < j) = false := by simp; omega
  rw [h1, Bool.false_and, Bool.or_false]
  by_cases h2 : j = k
  ·simp [h2]
  ·simp [h2]
 ·rw [if_neg hj, if_neg hj]
  have h1 : decide (k < j) = true := by simp; omega
  have h2 : decide (j = k) = false := by simp; omega
  rw [h1, h2, Bool.true_and, Bool.false_or]
  have h3 : j - (k + 1) = j - k - 1 := by omega
  rw [h3, Bool.and_self]
theorem tz_nat {m : Nat} (h0 : m ≠ 0) (h : m < 18446744073709551616) : ∃ k q : Nat, zBs (m : Int) = some (k : Int) ∧ k < 64 ∧ m = 2 ^ k * (2 * q + 1) := by
 have hc : Lib.ctz 64 m = Lib.ctzFrom 64 m := by unfold Lib.ctz; rw [if_neg h0]
 obtain ⟨q, hq, hk⟩ := Lib.ctzFrom_spec 64 m (by omega) h
 obtain ⟨hl, _⟩ := Lib.lowest_bit 64 m h0 h
 rw [hc] at hl
 generalize Lib.ctzFrom 64 m = k at hq hk hl
 refine ⟨k, q, ?_, hk, hq⟩
 unfold zBs
 have hne : ((m : Int) == 0) = false := by simp; omega
 have hw : IntKind.u64.wrap (0 - (m : Int)) = ((2 ^ 64 - m : Nat) : Int) := by
  unfold IntKind.wrap
  simp only [IntKind.bits, IntKind.signed, Bool.false_and, zbf, if_false]
  omega
 rw [hne, hw, zRL h (by omega), hl]
 obtain ⟨d1, d2⟩ := Lib.deBruijn64_at k hk
 have hmul : IntKind.u64.wrap (((2 ^ k : Nat) : Int) * 285870213051353865) = ((2 ^ k * 285870213051353865 % 18446744073709551616 : Nat) : Int) := by
  have e : ((2 ^ k : Nat) : Int) * 285870213051353865 = ((2 ^ k * 285870213051353865 : Nat) : Int) := by rw [Int.natCast_mul]; rfl
  rw [e, z1E]
 have hs : xC .u64 ((2 ^ k * 285870213051353865 % 18446744073709551616 : Nat) : Int) 58 = ((2 ^ k * 285870213051353865 % 18446744073709551616 / 288230376151711744 : Nat) : Int) := by
  unfold xC
  have h3 : min ((58 : Int).toNat) IntKind.u64.bits = 58 := by decide
  rw [h3, Int.fdiv_eq_ediv_of_nonneg _ (by decide)]
  norm_cast
 simp only [zbf, if_false]
 rw [hmul, hs, xZ]
 generalize 2 ^ k * 285870213051353865 % 18446744073709551616 / 288230376151711744 = z at d1 d2
 have ht : ∀ z, z < 64 → yY[z]? = some ((Lib.deBruijn64tab.getD z 0 : Nat) : Int) := by decide +kernel
 rw [ht z d1, d2]
 simp only [zob]
 rw [xQ (by omega) (by omega)]
def zPU (l : List Int) : Nat := l.foldl (fun m x => m ||| 2 ^ x.toNat) 0
theorem z1R (l : List Int) : ∀ (m i : Nat), (l.foldl (fun m x => m ||| 2 ^ x.toNat) m).testBit i = (m.testBit i || l.any fun x => decide (x.toNat = i)) := by
 induction l with
 | nil => intro m i; simp
 | cons x l ih =>
  intro m i
  rw [List.foldl_cons, ih, Nat.testBit_or, Nat.testBit_two_pow, List.any_cons, Bool.or_assoc]
theorem zXT {l : List Int} (hl : ∀ x ∈ l, 0 ≤ x) (i : Nat) : (zPU l).testBit i = decide ((i : Int) ∈ l) := by
 unfold zPU
 rw [z1R, Nat.zero_testBit, Bool.false_or, Bool.eq_iff_iff, List.any_eq_true]
 simp only [decide_eq_true_eq]
 constructor
 ·rintro ⟨x, hx, h⟩
  have := hl x hx
  rw [show (i : Int) = x by omega]; exact hx
 ·intro h
  exact ⟨i, h, by simp⟩
theorem z3r (l : List Int) (hl : ∀ x ∈ l, x < 64) : ∀ m, m < 18446744073709551616 → (l.foldl (fun m x => m ||| 2 ^ x.toNat) m) < 18446744073709551616 := by
 induction l with
 | nil => intro m hm; exact hm
 | cons x l ih =>
  intro m hm
  have := hl x (by simp)
  exact ih (fun y hy => hl y (by simp [hy])) _ (z4k hm (zNz (by omega)))
theorem zVb {l : List Int} (hl : ∀ x ∈ l, x < 64) : zPU l < 18446744073709551616 := z3r l hl 0 (by decide)
end
section
def ed (L : List qW) (a b : Int) : Bool := L.any fun p => p.1 == a && p.2 == b
theorem zSg {L : List qW} {a b : Int} : ed L a b = true ↔ (a, b) ∈ L := by
 unfold ed
 rw [List.any_eq_true]
 constructor
 ·rintro ⟨⟨x, y⟩, h1, h2⟩
  simp at h2
  obtain ⟨rfl, rfl⟩ := h2
  exact h1
 ·intro h; exact ⟨_, h, by simp⟩
def atk (L : List qW) (s : List Int) (a : Int) : Bool := s.any fun x => ed L x a
def freeS (L : List qW) (s : List Int) : Bool := s.all fun x => !atk L s x
def admS (L : List qW) (s : List Int) : Bool := (L.all fun p => !(decide (p.2 ∈ s) && !atk L s p.1)) && freeS L s
end
section
def tF (R : Nat → Nat → Prop) (S : Nat → Prop) (j : Nat) : Prop := ∃ m, S m ∧ R m j
def gr (D : Nat → Prop) (R : Nat → Nat → Prop) : Nat → Nat → Prop
 | 0, _ => False
 | k + 1, i => D i ∧ ∀ j, R j i → tF R (gr D R k) j
section
variable {D : Nat → Prop} {R : Nat → Nat → Prop}
theorem zPN {k i : Nat} (h : gr D R k i) : D i := by
 cases k with
 | zero => exact h.elim
 | succ k => exact h.1
theorem zNq : ∀ {k i : Nat}, gr D R k i → gr D R (k + 1) i
 | 0, _, h => h.elim
 | k + 1, i, h => ⟨h.1, fun j hj => by obtain ⟨m, h1, h2⟩ := h.2 j hj; exact ⟨m, zNq h1, h2⟩⟩
theorem z5M {k m i : Nat} (h : k ≤ m) (hk : gr D R k i) : gr D R m i := by
 induction m with
 | zero =>
      have : k = 0 := by omega
      subst this; exact hk
 | succ m ih =>
  by_cases he : k = m + 1
  ·subst he; exact hk
  ·exact zNq (ih (by omega))
theorem z1s : ∀ {k i j : Nat}, gr D R k i → gr D R k j → ¬ R i j
 | 0, _, _, h, _, _ => h.elim
 | k + 1, i, j, hi, hj, hr => by
  obtain ⟨m, hm, hmi⟩ := hj.2 i hr
  obtain ⟨m', hm', hmm⟩ := hi.2 m hmi
  exact z1s hm' hm hmm
theorem z1i {k : Nat} (h : ∀ i, gr D R (k + 1) i → gr D R k i) : ∀ m, k ≤ m → ∀ i, gr D R m i → gr D R k i := by
 intro m
 induction m with
 | zero => intro hk i hi; exact hi.elim
 | succ m ih =>
  intro hk i hi
  by_cases he : k = m + 1
  ·subst he; exact hi
  ·exact h i ⟨hi.1, fun j hj => by obtain ⟨q, h1, h2⟩ := hi.2 j hj; exact ⟨q, ih (by omega) q h1, h2⟩⟩
open Classical in
theorem z2k {N : Nat} (hD : ∀ i, D i → i < N) : ∃ k, k ≤ N ∧ ∀ i, gr D R (k + 1) i → gr D R k i := by
 apply Classical.byContradiction
 intro hno
 have hstep : ∀ k, k ≤ N → ∃ i, gr D R (k + 1) i ∧ ¬ gr D R k i := fun k hk => by
  apply Classical.byContradiction
  intro h
  exact hno ⟨k, hk, fun i hi => Classical.byContradiction fun hn => h ⟨i, hi, hn⟩⟩
 let c : Nat → Nat := fun k => ((List.range N).filter fun i => decide (gr D R k i)).length
 have hc : ∀ k, k ≤ N → c k < c (k + 1) := by
  intro k hk
  obtain ⟨i, h1, h2⟩ := hstep k hk
  have hi := hD i (zPN h1)
  have hsub : ∀ l : List Nat, (l.filter fun i => decide (gr D R k i)).length ≤ (l.filter fun i => decide (gr D R (k + 1) i)).length ∧ (i ∈ l → (l.filter fun i => decide (gr D R k i)).length < (l.filter fun i => decide (gr D R (k + 1) i)).length) := by
   intro l
   induction l with
   | nil => simp
   | cons x l ih =>
    obtain ⟨ih1, ih2⟩ := ih
    by_cases hx : gr D R k x
    ·have hx' := zNq hx
     simp only [List.filter_cons, hx, hx', decide_true, if_true, List.length_cons]
     refine ⟨by omega, fun hm => ?_⟩
     rcases List.mem_cons.1 hm with rfl | hm
     ·exact absurd hx h2
     ·have := ih2 hm; omega
    ·by_cases hx' : gr D R (k + 1) x
     ·simp only [List.filter_cons, hx, hx', decide_true, decide_false, if_true, zbf, if_false, List.length_cons]
      exact ⟨by omega, fun _ => by omega⟩
     ·simp only [List.filter_cons, hx, hx', decide_false, zbf, if_false]
      refine ⟨ih1, fun hm => ?_⟩
      rcases List.mem_cons.1 hm with rfl | hm
      ·exact absurd h1 hx'
      ·exact ih2 hm
  exact (hsub (List.range N)).2 (List.mem_range.2 hi)
 have hbig : ∀ k, k ≤ N + 1 → k ≤ c k := by
  intro k
  induction k with
  | zero => intro _; exact Nat.zero_le _
  | succ k ih => intro hk; have h1 := ih (by omega); have h2 := hc k (by omega); omega
 have h1 := hbig (N + 1) (Nat.le_refl _)
 have h2 : c (N + 1) ≤ N := Nat.le_trans (List.length_filter_le _ _) (by simp)
 omega
theorem z4z {N : Nat} (hD : ∀ i, D i → i < N) {m i : Nat} (h : gr D R m i) : gr D R N i := by
 obtain ⟨k, hk, hs⟩ := z2k (R := R) hD
 by_cases hm : m ≤ k
 ·exact z5M (by omega) h
 ·exact z5M hk (z1i hs m (by omega) i h)
end
def qJ (N : Nat) (f : Nat → Int) : List Int := (List.range N).map f
theorem zDN (N : Nat) (f : Nat → Int) : (qJ N f).length = N := by simp [qJ]
theorem zKK {N i : Nat} (f : Nat → Int) (h : i < N) : zI (qJ N f) (i : Int) = some (f i) := by
 rw [xZ]
 simp [qJ, h]
theorem zN7 {N i : Nat} (f : Nat → Int) (v : Int) : List.set (qJ N f) i v = qJ N fun j => if j = i then v else f j := by
 unfold qJ
 apply List.ext_getElem?
 intro j
 rw [List.getElem?_set, List.getElem?_map, List.getElem?_map]
 by_cases hj : j < N
 ·rw [List.getElem?_range hj]
  by_cases he : i = j
  ·subst he; simp [hj]
  ·have : ¬ j = i := fun h => he h.symm
   simp [he, this]
 ·have h0 : (List.range N)[j]? = none := List.getElem?_eq_none (by simp; omega)
  rw [h0]
  by_cases he : i = j
  ·subst he; simp; omega
  ·simp [he]
theorem uZ {N : Nat} {f g : Nat → Int} (h : ∀ i, i < N → f i = g i) : qJ N f = qJ N g := by
 unfold qJ
 exact List.map_congr_left fun i hi => h i (List.mem_range.1 hi)
theorem z17 {N : Nat} (hN : N ≤ 4294967296) (v : Int) : mkS (N : Int) (N : Int) v = some (qJ N fun _ => v) := by
 unfold mkS
 rw [if_pos ⟨by omega, by omega, by omega⟩]
 congr 1
 unfold qJ
 rw [Int.toNat_natCast]
 apply List.ext_getElem?
 intro i
 by_cases h : i < N <;> simp [h]
theorem zV5 {σ τ ρ : Type} {B : τ → Option (τ ⊕ ρ)} (mk : σ → Nat → τ) (M : Nat) (I : Nat → σ → Prop) (Q : ρ → Prop)
  (hB : ∀ i s, i < M → I i s → (∃ s', B (mk s i) = some (.inl (mk s' (i + 1))) ∧ I (i + 1) s') ∨ ∃ r, B (mk s i) = some (.inr r) ∧ Q r)
  (he : ∀ s, I M s → ∃ r, B (mk s M) = some (.inr r) ∧ Q r) : ∀ s, I 0 s → ∃ r, zV B (mk s 0) = some r ∧ Q r := by
 have key : ∀ n i s, i + n = M → I i s → ∃ r, zV B (mk s i) = some r ∧ Q r := by
  intro n
  induction n with
  | zero =>
   intro i s h hi
   rw [Nat.add_zero] at h
   subst h
   obtain ⟨r, h1, h2⟩ := he s hi
   exact ⟨r, by rw [yH, h1], h2⟩
  | succ n ih =>
   intro i s h hi
   rcases hB i s (by omega) hi with ⟨s', h1, h2⟩ | ⟨r, h1, h2⟩
   ·obtain ⟨r, h3, h4⟩ := ih (i + 1) s' (by omega) h2
    exact ⟨r, by rw [yH, h1]; exact h3, h4⟩
   ·exact ⟨r, by rw [yH, h1], h2⟩
 exact fun s hi => key M 0 s (by omega) hi
section
variable (N : Nat) (L : List qW)
abbrev vD (i j : Nat) : Prop := ed L (i : Int) (j : Int) = true
abbrev uK (k i : Nat) : Prop := gr (· < N) (vD L) k i
open Classical in
noncomputable def wU (k i : Nat) : Int := if uK N L k i then 1 else if tF (vD L) (uK N L k) i then 2 else 3
def yJ (k i : Nat) : Prop := uK N L (k + 1) i ∧ ¬ uK N L k i
theorem z4s {k i : Nat} : wU N L k i = 3 ↔ ¬ uK N L k i ∧ ¬ tF (vD L) (uK N L k) i := by
 unfold wU
 by_cases h1 : uK N L k i
 ·simp [h1]
 ·by_cases h2 : tF (vD L) (uK N L k) i <;> simp [h1, h2]
theorem lab2 {k i : Nat} : wU N L k i = 2 ↔ ¬ uK N L k i ∧ tF (vD L) (uK N L k) i := by
 unfold wU
 by_cases h1 : uK N L k i
 ·simp [h1]
 ·by_cases h2 : tF (vD L) (uK N L k) i <;> simp [h1, h2]
theorem z3s {k i : Nat} : wU N L k i = 1 ↔ uK N L k i := by
 unfold wU
 by_cases h1 : uK N L k i
 ·simp [h1]
 ·by_cases h2 : tF (vD L) (uK N L k) i <;> simp [h1, h2]
theorem zSK {k i : Nat} (h : uK N L k i) : ¬ tF (vD L) (uK N L k) i := fun ⟨m, h1, h2⟩ => z1s h1 h h2
theorem zUl {k i : Nat} : wU N L k i = 2 ↔ tF (vD L) (uK N L k) i := by
 rw [lab2]
 exact ⟨fun h => h.2, fun h => ⟨fun hg => zSK N L hg h, h⟩⟩
theorem z1b {k i : Nat} (hi : i < N) (hR : ∀ a b : Int, ed L a b = true → ∃ m, m < N ∧ a = (m : Int)) : (wU N L k i = 3 ∧ ∀ b, b < N → vD L b i → wU N L k b = 2) ↔ yJ N L k i := by
 constructor
 ·rintro ⟨h1, h2⟩
  rw [z4s] at h1
  refine ⟨⟨hi, fun j hj => ?_⟩, h1.1⟩
  obtain ⟨m, hm, he⟩ := hR _ _ hj
  have : j = m := by omega
  subst this
  exact (zUl N L).1 (h2 j hm hj)
 ·rintro ⟨h1, h2⟩
  refine ⟨(z4s N L).2 ⟨h2, fun ⟨m, h3, h4⟩ => ?_⟩, fun b _ hb => (zUl N L).2 (h1.2 b hb)⟩
  exact zSK N L h3 (h1.2 m h4)
theorem zVj {k i : Nat} : wU N L (k + 1) i = (open Classical in if yJ N L k i then 1 else if wU N L k i = 3 ∧ tF (vD L) (yJ N L k) i then 2 else wU N L k i) := by
 by_cases hn : yJ N L k i
 ·rw [if_pos hn]; exact (z3s N L).2 hn.1
 ·rw [if_neg hn]
  by_cases h1 : uK N L k i
  ·have h2 : uK N L (k + 1) i := zNq h1
   have h3 : wU N L k i = 1 := (z3s N L).2 h1
   rw [(z3s N L).2 h2, if_neg (by rw [h3]; simp), h3]
  ·have h2 : ¬ uK N L (k + 1) i := fun h => hn ⟨h, h1⟩
   by_cases h3 : tF (vD L) (uK N L k) i
   ·have h4 : wU N L k i = 2 := (zUl N L).2 h3
    have h5 : tF (vD L) (uK N L (k + 1)) i := by obtain ⟨m, h6, h7⟩ := h3; exact ⟨m, zNq h6, h7⟩
    rw [(zUl N L).2 h5, if_neg (by rw [h4]; simp), h4]
   ·have h4 : wU N L k i = 3 := (z4s N L).2 ⟨h1, h3⟩
    by_cases h5 : tF (vD L) (yJ N L k) i
    ·rw [if_pos ⟨h4, h5⟩]
     obtain ⟨m, h6, h7⟩ := h5
     exact (zUl N L).2 ⟨m, h6.1, h7⟩
    ·rw [if_neg (fun h => h5 h.2), h4]
     refine (z4s N L).2 ⟨h2, fun ⟨m, h6, h7⟩ => ?_⟩
     by_cases h8 : uK N L k m
     ·exact h3 ⟨m, h8, h7⟩
     ·exact h5 ⟨m, ⟨h6, h8⟩, h7⟩
variable {N L} (hN : N ≤ 64) (hL : L.length < 4294967296) (hR : ∀ a b : Int, ed L a b = true → ∃ m, m < N ∧ a = (m : Int))
include hN hL
end
end
section
def inN (N : Nat) (L : List qW) : Prop := ∀ a b : Int, ed L a b = true → ∃ i j : Nat, i < N ∧ j < N ∧ a = (i : Int) ∧ b = (j : Int)
theorem inN.nat {N : Nat} {L : List qW} (h : inN N L) {i j : Nat} (he : vD L i j) : i < N ∧ j < N := by
 obtain ⟨i', j', h1, h2, h3, h4⟩ := h _ _ he
 exact ⟨by omega, by omega⟩
section
variable {N : Nat} {L : List qW} (hV : inN N L) {X : Nat} (hX : X < 18446744073709551616)
include hV hX
end
abbrev left (N : Nat) (gone : List Int) (i : Nat) : Prop := i < N ∧ (i : Int) ∉ gone
section
variable {N : Nat} (hN : N ≤ 40) {L : List qW} (hV : inN N L) (hL : L.length < 4294967296) {gone : List Int} (hg : ∀ x ∈ gone, 0 ≤ x ∧ x < N) (hgl : gone.length < 4294967296)
include hV
include hN hg
end
end
section
theorem z01 {σ ρ : Type} {B B' : σ → Option (σ ⊕ ρ)} (I : σ → Prop) (h : ∀ s, I s → B s = B' s) (hs : ∀ s s', I s → B s = some (.inl s') → I s') : ∀ n s, I s → tE B n s = tE B' n s := by
 intro n
 induction n with
 | zero => intro s _; rfl
 | succ n ih =>
  intro s hI
  simp only [tE]
  rw [← h s hI]
  cases hb : B s with
  | none => rfl
  | some o =>
   cases o with
   | inr r => rfl
   | inl s' => exact ih s' (hs s s' hI hb)
theorem z0L {σ ρ : Type} {B B' : σ → Option (σ ⊕ ρ)} (I : σ → Prop) (h : ∀ s, I s → B s = B' s) (hs : ∀ s s', I s → B s = some (.inl s') → I s') (s : σ) (hI : I s) : zV B s = zV B' s := by
 have hit := z01 I h hs
 cases h1 : zV B s with
 | some r =>
  obtain ⟨n, hn⟩ := zIj h1
  rw [hit n s hI] at hn
  exact (zKW hn).symm
 | none =>
  cases h2 : zV B' s with
  | none => rfl
  | some r =>
   obtain ⟨n, hn⟩ := zIj h2
   rw [← hit n s hI] at hn
   rw [zKW hn] at h1; cases h1
def tL (n : Int) (p : qW) : Bool := decide (p.1 < 0) || decide (n ≤ p.1) || decide (p.2 < 0) || decide (n ≤ p.2)
theorem zNn (x y : qW) : zC0 x y = some (orF [zXr x.1 y.1, zXr x.2 y.2]) := by
 unfold zC0
 rw [zOw, zOw]
 simp only [zob]
 rw [z11 _ (by simp)]
 rfl
theorem zWi (x y : qW) : decide (0 ≤ orF [zXr x.1 y.1, zXr x.2 y.2]) = !xO x y := by
 have h : decide (orF [zXr x.1 y.1, zXr x.2 y.2] < 0) = xO x y := zQB (by rw [zQB (r := []) (b := false) (by simp [orF])]; simp)
 rw [← h, Bool.eq_iff_iff]
 simp
def zN8 (n : Int) (L : List qW) (i : Nat) : Option Int := match L[i]? with
 | none => some 0
 | some p => if tL n p then some 1 else if i = 0 then none else match L[i - 1]? with
  | none => none
  | some q => if !xO q p then some 8 else none
theorem zLo (n : Int) (L : List qW) (hL : L.length < 4294967296) (i : Nat) (hi : i ≤ L.length) : zB6 (n, L) (i : Int) = match zN8 n L i with
  | some e => some (.inr e)
  | none => some (.inl ((i + 1 : Nat) : Int)) := by
 unfold zB6 zN8
 by_cases he : i = L.length
 ·subst he
  simp [len]
 ·have hx : L[i]? = some L[i] := List.getElem?_eq_getElem (by omega)
  generalize L[i] = x at hx
  simp only [wZ hx, if_true, wV hx, zob, hx, wY hx hL]
  have hb : (decide ((if x.2 < x.1 then x.2 else x.1) < 0) || decide (n ≤ (if x.2 > x.1 then x.2 else x.1))) = tL n x := by
   rw [Bool.eq_iff_iff]
   simp only [tL, Bool.or_eq_true, decide_eq_true_eq]
   split <;> split <;> omega
  rw [hb]
  cases tL n x with
  | true => simp
  | false =>
   simp only [zbf, if_false]
   by_cases h0 : i = 0
   ·subst h0; simp
   ·obtain ⟨j, rfl⟩ : ∃ j, i = j + 1 := ⟨i - 1, by omega⟩
    have hy : L[j]? = some L[j] := List.getElem?_eq_getElem (by omega)
    generalize L[j] = y at hy
    have hd : decide (0 < ((j + 1 : Nat) : Int)) = true := by rw [decide_eq_true_eq]; omega
    have hw : zR (((j + 1 : Nat) : Int) - 1) = (j : Int) := by rw [xQ (by omega) (by omega)]; omega
    simp only [hd, if_true, hw, wV hy, zob, zNn, zWi, Nat.add_sub_cancel, hy, h0, if_false]
    cases xO y x <;> simp
theorem zU4 (n : Int) (L : List qW) (hL : L.length < 4294967296) (i : Nat) (hi : i ≤ L.length) : zFi (n, L) (i : Int) = match zN8 n L i with
  | some e => some (.inr e)
  | none => some (.inl ((i + 1 : Nat) : Int)) := by
 unfold zFi zN8
 by_cases he : i = L.length
 ·subst he
  simp [len]
 ·have hx : L[i]? = some L[i] := List.getElem?_eq_getElem (by omega)
  generalize L[i] = x at hx
  simp only [wZ hx, if_true, wV hx, zob, hx, wY hx hL]
  have hb : (decide (x.1 < 0) || (decide (n ≤ x.1) || (decide (x.2 < 0) || decide (n ≤ x.2)))) = tL n x := by simp [tL, Bool.or_assoc]
  rw [hb]
  cases tL n x with
  | true => simp
  | false =>
   simp only [zbf, if_false]
   by_cases h0 : i = 0
   ·subst h0; simp
   ·obtain ⟨j, rfl⟩ : ∃ j, i = j + 1 := ⟨i - 1, by omega⟩
    have hy : L[j]? = some L[j] := List.getElem?_eq_getElem (by omega)
    generalize L[j] = y at hy
    have hd : decide (0 < ((j + 1 : Nat) : Int)) = true := by rw [decide_eq_true_eq]; omega
    have hw : zR (((j + 1 : Nat) : Int) - 1) = (j : Int) := by rw [xQ (by omega) (by omega)]; omega
    simp only [hd, if_true, hw, wV hy, zob, Nat.add_sub_cancel, hy, h0, if_false]
    have hlt : xO y x = (yV y.1 x.1 || (y.1 == x.1 && yV y.2 x.2)) := rfl
    rw [hlt]
    simp only [yV]
    by_cases h1 : x.1 < y.1
    ·have h2 : ¬ y.1 < x.1 := by omega
     have h3 : (y.1 == x.1) = false := by simp; omega
     simp [h1, h2, h3]
    ·by_cases h3 : y.1 = x.1
     ·have h2 : ¬ y.1 < x.1 := by omega
      by_cases h4 : x.2 ≤ y.2
      ·have h5 : ¬ y.2 < x.2 := by omega
       simp [h3, h4, h5]
      ·have h5 : y.2 < x.2 := by omega
       simp [h3, h4, h5]
     ·have h2 : y.1 < x.1 := by omega
      have h4 : (y.1 == x.1) = false := by simpa using h3
      simp [h1, h2, h4]
def z2G (g : wH) : Prop := 0 ≤ g.1 ∧ g.1 ≤ 40 ∧ ∀ p ∈ g.2, tL g.1 p = false
theorem z0z (g : wH) (hL : g.2.length < 4294967296) : ∃ e, zBW g = some e ∧ zDm g = some e ∧ (e = 0 → z2G g) := by
 obtain ⟨n, L⟩ := g
 unfold zBW zDm
 cases h0 : (decide (n < 0) || decide (40 < n)) with
 | true => exact ⟨1, by simp, by simp, by simp⟩
 | false =>
  simp only [Bool.or_eq_false_iff, decide_eq_false_iff_not] at h0
  simp only [zbf, if_false]
  have hc : zV (zFi (n, L)) 0 = zV (zB6 (n, L)) 0 := by
   refine z0L (fun s => ∃ i : Nat, s = (i : Int) ∧ i ≤ L.length) ?_ ?_ 0 ⟨0, rfl, Nat.zero_le _⟩
   ·rintro s ⟨i, rfl, hi⟩
    rw [zLo n L hL i hi, zU4 n L hL i hi]
   ·rintro s s' ⟨i, rfl, hi⟩ hb
    rw [zU4 n L hL i hi] at hb
    cases hv : zN8 n L i with
    | some e => rw [hv] at hb; cases hb
    | none =>
     rw [hv] at hb
     simp only [Option.some.injEq, Sum.inl.injEq] at hb
     refine ⟨i + 1, hb.symm, ?_⟩
     by_cases he : i = L.length
     ·subst he; simp [zN8] at hv
     ·omega
  have h := uR (B := zB6 (n, L)) (fun i (_ : Unit) => (i : Int)) L (fun i _ => ∀ p ∈ L.take i, tL n p = false) (fun e => e = 0 → ∀ p ∈ L, tL n p = false) ?_ ?_ () (by simp)
  ·obtain ⟨e, h1, h2⟩ := h
   exact ⟨e, h1, by rw [hc]; exact h1, fun he => ⟨by omega, by omega, h2 he⟩⟩
  ·intro i x _ hx hI
   have hi := vQ hx
   rw [zLo n L hL i (by omega)]
   cases hv : zN8 n L i with
   | some e =>
    refine .inr ⟨e, rfl, fun he => ?_⟩
    subst he
    exfalso
    unfold zN8 at hv
    rw [hx] at hv
    simp only at hv
    split at hv
    ·cases hv
    ·split at hv
     ·cases hv
     ·split at hv
      ·cases hv
      ·split at hv <;> cases hv
   | none =>
    refine .inl ⟨(), rfl, fun p hp => ?_⟩
    rw [xF hx, List.mem_append, List.mem_singleton] at hp
    rcases hp with hp | rfl
    ·exact hI p hp
    ·cases hb : tL n p with
     | false => rfl
     | true => unfold zN8 at hv; rw [hx] at hv; simp [hb] at hv
  ·intro _ hI
   rw [zLo n L hL _ (Nat.le_refl _)]
   refine ⟨0, by simp [zN8], fun _ => ?_⟩
   rwa [List.take_length] at hI
theorem z2G.inN {N : Nat} {L : List qW} (h : z2G ((N : Int), L)) : inN N L := fun a b he => by
 have := h.2.2 _ (zSg.1 he)
 simp only [tL, Bool.or_eq_false_iff, decide_eq_false_iff_not] at this
 exact ⟨a.toNat, b.toNat, by omega, by omega, by omega, by omega⟩
end
section
section
variable {N : Nat} (hN : N ≤ 10) {L : List qW} (hV : inN N L) (hL : L.length < 4294967296) (a : Nat) (ha : a < N)
def vH (N : Nat) (L : List qW) (a k : Nat) : List Nat := (List.range k).filter fun X => X.testBit a && admS L (zO4 X)
end
end
end Go.GD
