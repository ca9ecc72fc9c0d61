/- Part of the proof. Conditions: none. -/
import Derived.Test.YtkjadnjfmdgngaaGreatDoorLib
namespace Go.GD
set_option autoImplicit false
noncomputable section
set_option linter.unusedVariables false
abbrev uO := (List Int) × Int
abbrev zM := Bool × vD
abbrev vM := zM × Int × Int × vD
abbrev wK := vD × Bool × Int × (List zM) × zM
abbrev yV := vD × Int × zM
abbrev zR := (List vM) × (List wK) × (List yV)
abbrev vF := Int × Int
abbrev zL := Int × Int × (List Int) × zM
abbrev qZ := Int × Int × Int × Int
abbrev wH := Int × Int
abbrev wT := Int × (List wH)
abbrev zBP := zR × (List zL) × (List qZ) × wT
abbrev yK := Int × (List Int) × (List Int)
abbrev zAA := zR × (List zL) × (List zL) × Int
def yQ : List Int := [0, 1, 56, 2, 57, 49, 28, 3, 61, 58, 42, 50, 38, 29, 17, 4, 62, 47, 59, 36, 45, 43, 51, 22, 53, 39, 33, 30, 24, 18, 12, 5, 63, 55, 48, 27, 60, 41, 37, 16, 46, 35, 44, 21, 52, 32, 23, 11, 54, 26, 40, 15, 34, 20, 31, 10, 25, 14, 19, 9, 13, 8, 7, 6]
def zAq (y0 : zAA) : Option Bool :=
 some (decide (40 < (zQ ((len y0.2.1) + (len y0.2.2.1)))))
def zAb (y0 : List zL) (y1 : Int) : Option Bool :=
 some ((decide (0 ≤ y1)) && (decide (y1 < (len y0))))
def zKt (y0 : List Int) (s1 : Int) (s3 : (List Int) × Int × Int) : Option (((List Int) × Int × Int) ⊕ ((List Int) × Int)) :=
 if decide (s3.2.2 < ((Int.toNat (((List.length y0 : Nat) : Int) - s1) : Nat) : Int)) then
 (tU s3.1 s1 s3.2.2).bind fun x3 =>
 (tU s3.1 s1 (zQ (s3.2.2 - 1))).bind fun x4 =>
 if x3 != x4 then
 (tU s3.1 s1 s3.2.2).bind fun x5 =>
 (zG s3.1 s3.2.1).bind fun _ =>
 some (.inl (List.set s3.1 (Int.toNat s3.2.1) x5, zQ (s3.2.1 + 1), zQ (s3.2.2 + 1)))
 else
 some (.inl (s3.1, s3.2.1, zQ (s3.2.2 + 1)))
 else
 some (.inr (s3.1, s3.2.1))
def zK8 (y0 : List Int) (s1 : Int) : Option (Int ⊕ (List Int)) :=
 if decide (s1 < (len y0)) then
 (zG y0 s1).bind fun x1 =>
 (zG y0 (zQ (s1 - 1))).bind fun x2 =>
 if x1 == x2 then
 (uH (decide (0 ≤ s1) && decide (s1 ≤ len y0))).bind fun _ =>
 (zW (zKt y0 s1) (y0, s1, 1) : Option ((List Int) × Int)).bind fun s2 =>
 (uH (decide (0 ≤ s2.2) && decide (s2.2 ≤ len s2.1))).bind fun _ =>
 (sub (zB1 s2.1 s2.2 0) 0 s2.2).bind fun x7 =>
 some (.inr x7)
 else
 some (.inl (zQ (s1 + 1)))
 else
 some (.inr y0)
def zBR (y0 : List Int) : Option (List Int) :=
 if decide ((len y0) < 2) then
 some y0
 else
 zW (zK8 y0) 1
def zBK (y0 : List Int) : Option (List Int) := zY4 y0
def zFR (x1 : zL) (rec_argument_Subs : (List zL) → Int → Option (List Int)) (y0 : List zL) (s2 : (List Int) × Int) : Option (((List Int) × Int) ⊕ (List Int)) :=
 if decide (s2.2 < (len x1.2.2.1)) then
 (zG x1.2.2.1 s2.2).bind fun x2 =>
 (rec_argument_Subs y0 x2).bind fun r2 =>
 (wI s2.1 r2).bind fun x3 =>
 some (.inl (x3, zQ (s2.2 + 1)))
 else
 some (.inr s2.1)
def zHQ (rec_argument_Subs : (List zL) → Int → Option (List Int)) (y0 : List zL) (y1 : Int) : Option (List Int) :=
 (zAb y0 y1).bind fun r1 =>
 if !r1 then
 some ([] : List Int)
 else
 (
 (zG y0 y1).bind fun x1 =>
 zW (zFR x1 rec_argument_Subs y0) (([y1] : List Int), 0) : Option (List Int)).bind fun s1 =>
 (zBK s1).bind fun r3 =>
 (zBR r3).bind fun r4 =>
 some r4
def zCV : Nat → (List zL) → Int → Option (List Int)
 | 0 => fun _ _ => none
 | k + 1 => fun y0 y1 => zHQ (zCV k) y0 y1
def zFn (y0 : List zL) (y1 : Int) : Option (List Int) := zUN fun k => zCV k y0 y1
def zBi (r1 : (List Int)) (y1 : List zL) (y0 : zR) (s2 : (List Int) × Int) : Option (((List Int) × Int) ⊕ (List Int)) :=
 if decide (s2.2 < (len r1)) then
 (zG r1 s2.2).bind fun x1 =>
 (zG y1 x1).bind fun x2 =>
 (
 if decide (0 ≤ x2.2.1) then
 (zG y0.2.1 x2.2.1).bind fun x3 =>
 some (!x3.2.1)
 else
 some false : Option Bool).bind fun s3 =>
 if s3 then
 (wI s2.1 ([x2.2.1] : List Int)).bind fun x4 =>
 some (.inl (x4, zQ (s2.2 + 1)))
 else
 some (.inl (s2.1, zQ (s2.2 + 1)))
 else
 some (.inr s2.1)
def zBd (y0 : zR) (y1 : List zL) (y2 : Int) : Option (List Int) :=
 (
 (zFn y1 y2).bind fun r1 =>
 zW (zBi r1 y1 y0) (([] : List Int), 0) : Option (List Int)).bind fun s1 =>
 (zBK s1).bind fun r2 =>
 (zBR r2).bind fun r3 =>
 some r3
def zKO (x4 : zL) (rec_argument_run : zR → (List zL) → Int → Option (List zM)) (y0 : zR) (y1 : List zL) (s2 : (List zM) × Int) : Option (((List zM) × Int) ⊕ (List zM)) :=
 if decide (s2.2 < (len x4.2.2.1)) then
 (zG x4.2.2.1 s2.2).bind fun x5 =>
 (rec_argument_run y0 y1 x5).bind fun r1 =>
 (wI s2.1 r1).bind fun x6 =>
 some (.inl (x6, zQ (s2.2 + 1)))
 else
 some (.inr s2.1)
def zIB (rec_argument_run : zR → (List zL) → Int → Option (List zM)) (y0 : zR) (y1 : List zL) (y2 : Int) : Option (List zM) :=
 (zG y1 y2).bind fun x1 =>
 (zG y1 y2).bind fun x2 =>
 (
 if decide (0 ≤ x2.2.1) then
 (zG y0.2.1 x2.2.1).bind fun x3 =>
 some x3.2.1
 else
 some false : Option Bool).bind fun s1 =>
 if s1 then
 (zG y1 y2).bind fun x4 =>
 zW (zKO x4 rec_argument_run y0 y1) (([x1.2.2.2] : List zM), 0)
 else
 some ([x1.2.2.2] : List zM)
def zCK : Nat → zR → (List zL) → Int → Option (List zM)
 | 0 => fun _ _ _ => none
 | k + 1 => fun y0 y1 y2 => zIB (zCK k) y0 y1 y2
def zGZ (y0 : zR) (y1 : List zL) (y2 : Int) : Option (List zM) := zUN fun k => zCK k y0 y1 y2
def zJt (y0 : List zM) (y1 : zM) (s1 : Int) : Option (Int ⊕ Int) :=
 if decide (s1 < (len y0)) then
 (zG y0 s1).bind fun x1 =>
 if y1 == x1 then
 some (.inr s1)
 else
 some (.inl (zQ (s1 + 1)))
 else
 some (.inr (-1))
def zCa (y0 : List zM) (y1 : zM) : Option Int :=
 zW (zJt y0 y1) 0
def zDT (y0 : List zM) (y1 : zM) : Option Bool :=
 (zCa y0 y1).bind fun r1 =>
 some (decide (0 ≤ r1))
def zEO (y0 : List zM) (y1 : zM) : Option Bool :=
 (zDT y0 y1).bind fun r1 =>
 some r1
def zIV (y0 : List Int) (y1 : Int) (s1 : Int) : Option (Int ⊕ Int) :=
 if decide (s1 < (len y0)) then
 (zG y0 s1).bind fun x1 =>
 if y1 == x1 then
 some (.inr s1)
 else
 some (.inl (zQ (s1 + 1)))
 else
 some (.inr (-1))
def zGy (y0 : List Int) (y1 : Int) : Option Int :=
 zW (zIV y0 y1) 0
def zBG (y0 : List Int) (y1 : Int) : Option Bool :=
 (zGy y0 y1).bind fun r1 =>
 some (decide (0 ≤ r1))
def zD8 (y3 : List Int) (y0 : zR) (y2 : Int) (y1 : List zL) (s1 : Int) : Option (Int ⊕ Bool) :=
 if decide (s1 < (len y3)) then
 (zG y3 s1).bind fun x1 =>
 (zG y0.2.1 y2).bind fun x2 =>
 if x2.2.1 then
 (zG y0.2.1 y2).bind fun x3 =>
 (zGZ y0 y1 x1).bind fun r1 =>
 (zEO r1 x3.2.2.2.2).bind fun r2 =>
 if r2 then
 some (.inr false)
 else
 some (.inl (zQ (s1 + 1)))
 else
 (zBd y0 y1 x1).bind fun r3 =>
 (zBG r3 y2).bind fun r4 =>
 if r4 then
 some (.inr false)
 else
 some (.inl (zQ (s1 + 1)))
 else
 some (.inr true)
def zFv (y0 : zR) (y1 : List zL) (y2 : Int) (y3 : List Int) : Option Bool :=
 zW (zD8 y3 y0 y2 y1) 0
def zF3 (y0 : List Int) : Option (List Int) :=
 (wI ([] : List Int) y0).bind fun x1 =>
 some x1
def zCq (y0 : Int) (y2 : zAA) : Option Bool :=
 some (decide (y2.2.2.2 ≤ y0))
def zAC (y0 : List Int) (y2 : zAA) (s1 : Int) : Option (Int ⊕ Int) :=
 if decide (s1 < (len y0)) then
 (zG y0 s1).bind fun x1 =>
 (zCq x1 y2).bind fun r1 =>
 if r1 then
 some (.inr s1)
 else
 some (.inl (zQ (s1 + 1)))
 else
 some (.inr (-1))
def zAU (y0 : List Int) (y2 : zAA) : Option Int :=
 zW (zAC y0 y2) 0
def zAD (y0 : List Int) (y2 : zAA) : Option Bool :=
 (zAU y0 y2).bind fun r1 =>
 some (decide (0 ≤ r1))
def zAz (y0 : zAA) (x1 : wK) (y2 : List Int) (rec_argument_builder_apply_2 : zAA → Int → (List Int) → Option (List zL)) (y1 : Int) (s2 : Int × (List zL)) : Option ((Int × (List zL)) ⊕ (Unit ⊕ (List zL))) :=
 if decide (s2.1 < (len y0.2.1)) then
 (zG y0.2.1 s2.1).bind fun x2 =>
 (zG x1.2.2.2.1 (len y2)).bind fun x3 =>
 if x2.2.2.2 == x3 then
 (
 (zF3 y2).bind fun r2 =>
 (wI r2 ([s2.1] : List Int)).bind fun x4 =>
 (rec_argument_builder_apply_2 (y0.1, y0.2.1, s2.2, y0.2.2.2) y1 x4).bind fun r3 =>
 some r3 : Option (List zL)).bind fun s3 =>
 some (.inl (zQ (s2.1 + 1), s3))
 else
 some (.inl (zQ (s2.1 + 1), s2.2))
 else
 some (.inr (.inr s2.2))
def zBW (rec_argument_builder_apply_2 : zAA → Int → (List Int) → Option (List zL)) (y0 : zAA) (y1 : Int) (y2 : List Int) : Option (List zL) :=
 (zG y0.1.2.1 y1).bind fun x1 =>
 (zAq y0).bind fun r1 =>
 if r1 then
 some y0.2.2.1
 else
 yO (
 if decide ((len y2) < (len x1.2.2.2.1)) then
 zW (zAz y0 x1 y2 rec_argument_builder_apply_2 y1) (0, y0.2.2.1)
 else
 some (.inl ()) : Option (Unit ⊕ (List zL))) fun _ =>
 (
 (zAD y2 y0).bind fun r6 =>
 if r6 then
 (zFv y0.1 y0.2.1 y1 y2).bind fun r7 =>
 some r7
 else
 some false : Option Bool).bind fun s4 =>
 if s4 then
 (zG y0.1.2.1 y1).bind fun x6 =>
 (wI y0.2.2.1 ([((-1), y1, y2, x6.2.2.2.2)] : List zL)).bind fun x7 =>
 some x7
 else
 some y0.2.2.1
def zAQ : Nat → zAA → Int → (List Int) → Option (List zL)
 | 0 => fun _ _ _ => none
 | k + 1 => fun y0 y1 y2 => zBW (zAQ k) y0 y1 y2
def zBU (y0 : zAA) (y1 : Int) (y2 : List Int) : Option (List zL) := zUN fun k => zAQ k y0 y1 y2
def zHn (y0 : wK) (y1 : vD) : Option Bool :=
 some (y0.1 == y1)
def zAK (y0 : List wK) (y1 : vD) (s1 : Int) : Option (Int ⊕ Int) :=
 if decide (s1 < (len y0)) then
 (zG y0 s1).bind fun x1 =>
 (zHn x1 y1).bind fun r1 =>
 if r1 then
 some (.inr s1)
 else
 some (.inl (zQ (s1 + 1)))
 else
 some (.inr (-1))
def zAh (y0 : List wK) (y1 : vD) : Option Int :=
 zW (zAK y0 y1) 0
def zFe (y0 : zR) (y1 : vD) : Option Int :=
 (zAh y0.2.1 y1).bind fun r1 =>
 some r1
def zGM (y0 : vM) (y1 : zM) : Option Bool :=
 some (y0.1 == y1)
def zAE (y0 : List vM) (y1 : zM) (s1 : Int) : Option (Int ⊕ Int) :=
 if decide (s1 < (len y0)) then
 (zG y0 s1).bind fun x1 =>
 (zGM x1 y1).bind fun r1 =>
 if r1 then
 some (.inr s1)
 else
 some (.inl (zQ (s1 + 1)))
 else
 some (.inr (-1))
def zAV (y0 : List vM) (y1 : zM) : Option Int :=
 zW (zAE y0 y1) 0
def zF1 (y0 : zR) (y1 : zM) : Option Int :=
 (zAV y0.1 y1).bind fun r1 =>
 some r1
def zCi (y0 : vD) (s1 : Int) : Option (Int ⊕ Bool) :=
 if decide (s1 < (len y0)) then
 (zR3 y0 s1).bind fun x1 =>
 if (decide (97 ≤ x1)) && (decide (x1 ≤ 122)) then
 some (.inl (zQ (s1 + 1)))
 else
 if (decide (0 < s1)) && (if decide (48 ≤ x1) then (decide (x1 ≤ 57)) || (x1 == 95) else x1 == 95) then
 some (.inl (zQ (s1 + 1)))
 else
 some (.inr false)
 else
 some (.inr true)
def zB6 (y0 : vD) : Option Bool :=
 if ((len y0) == 0) || (decide (12 < (len y0))) then
 some false
 else
 zW (zCi y0) 0
def zBc (y0 : zM) : Option Bool :=
 (zB6 y0.2).bind fun r1 =>
 some r1
def zB7 (y0 : Int) : Option Bool :=
 some ((decide (0 ≤ y0)) && (decide (y0 ≤ 9)))
def zHO (y0 : vD) : Option Bool :=
 (
 if y0 == [] then
 some true
 else
 (zB6 y0).bind fun r1 =>
 some r1 : Option Bool).bind fun s1 =>
 some s1
def zFM (y0 : vM) : Option Int :=
 yO (
 (
 if y0.2.1 == 1 then
 some (y0.2.1 == 1)
 else
 some (y0.2.1 == 3) : Option Bool).bind fun s2 =>
 if s2 then
 if y0.2.2.1 != 0 then
 some (.inr 1)
 else
 some (.inl ())
 else
 if y0.2.1 == 2 then
 (zB7 y0.2.2.1).bind fun r1 =>
 if !r1 then
 some (.inr 1)
 else
 some (.inl ())
 else
 some (.inr 4) : Option (Unit ⊕ Int)) fun _ =>
 (
 (zBc y0.1).bind fun r2 =>
 if !r2 then
 some true
 else
 (zHO y0.2.2.2).bind fun r3 =>
 some (!r3) : Option Bool).bind fun s3 =>
 if s3 then
 some 1
 else
 some 0
def zD9 (y0 : zR) (y1 : yV) : Option Int :=
 (
 (zB7 y1.2.1).bind fun r1 =>
 if !r1 then
 some true
 else
 (zBc y1.2.2).bind fun r2 =>
 some (!r2) : Option Bool).bind fun s1 =>
 if s1 then
 some 1
 else
 (zFe y0 y1.1).bind fun r3 =>
 if decide (r3 < 0) then
 some 6
 else
 (zG y0.2.1 r3).bind fun x1 =>
 if x1.2.1 then
 some 4
 else
 some 0
def zCz (y0 : vD) : Option Bool :=
 some (!(y0 == y0))
def zD1 (y0 : vD) (y1 : vD) : Option Int :=
 (zCz y0).bind fun r1 =>
 (zCz y1).bind fun r2 =>
 if r1 then
 if r2 then
 some 0
 else
 some (-1)
 else
 if r2 then
 some 1
 else
 if uB y0 y1 then
 some (-1)
 else
 if !(uB y0 y1 || y0 == y1) then
 some 1
 else
 some 0
def zAs (y0 : zM) (y1 : zM) : Option Int :=
 (zD1 y0.2 y1.2).bind fun r1 =>
 if (r1 != 0) || (y0.1 == y1.1) then
 some r1
 else
 if y1.1 then
 some (-1)
 else
 some 1
def zFS (y0 : wK) (s3 : Int) : Option (Int ⊕ (Unit ⊕ Int)) :=
 if decide (s3 < (len y0.2.2.2.1)) then
 (zG y0.2.2.2.1 s3).bind fun x1 =>
 (zBc x1).bind fun r4 =>
 if !r4 then
 some (.inr (.inr 1))
 else
 some (.inl (zQ (s3 + 1)))
 else
 some (.inr (.inl ()))
def zFP (y0 : wK) (s4 : Int) : Option (Int ⊕ Int) :=
 if decide (s4 < (len y0.2.2.2.1)) then
 (zG y0.2.2.2.1 (zQ (s4 - 1))).bind fun x2 =>
 (zG y0.2.2.2.1 s4).bind fun x3 =>
 (zAs x2 x3).bind fun r5 =>
 if decide (0 ≤ r5) then
 some (.inr 8)
 else
 some (.inl (zQ (s4 + 1)))
 else
 some (.inr 0)
def zHW (y0 : wK) : Option Int :=
 if decide (4 < (len y0.2.2.2.1)) then
 some 2
 else
 (
 (zB6 y0.1).bind fun r1 =>
 if !r1 then
 some true
 else
 (zBc y0.2.2.2.2).bind fun r2 =>
 if !r2 then
 some true
 else
 (zB7 y0.2.2.1).bind fun r3 =>
 if !r3 then
 some true
 else
 if y0.2.1 then
 some (y0.2.2.1 != 0)
 else
 some false : Option Bool).bind fun s1 =>
 if s1 then
 some 1
 else
 yO (zW (zFS y0) 0 : Option (Unit ⊕ Int)) fun _ =>
 zW (zFP y0) 1
def zCg (y0 : zR) (s2 : Int) : Option (Int ⊕ (Unit ⊕ Int)) :=
 if decide (s2 < (len y0.1)) then
 (zG y0.1 s2).bind fun x1 =>
 (zFM x1).bind fun r1 =>
 if r1 != 0 then
 some (.inr (.inr r1))
 else
 (zF1 y0 x1.1).bind fun r2 =>
 if decide (r2 < s2) then
 some (.inr (.inr 5))
 else
 some (.inl (zQ (s2 + 1)))
 else
 some (.inr (.inl ()))
def zCf (y0 : zR) (s4 : Int) : Option (Int ⊕ (Unit ⊕ Int)) :=
 if decide (s4 < (len y0.2.1)) then
 (zG y0.2.1 s4).bind fun x2 =>
 (zHW x2).bind fun r3 =>
 if r3 != 0 then
 some (.inr (.inr r3))
 else
 (zFe y0 x2.1).bind fun r4 =>
 if decide (r4 < s4) then
 some (.inr (.inr 5))
 else
 some (.inl (zQ (s4 + 1)))
 else
 some (.inr (.inl ()))
def zCb (y0 : zR) (s5 : Int) : Option (Int ⊕ Int) :=
 if decide (s5 < (len y0.2.2)) then
 (zG y0.2.2 s5).bind fun x3 =>
 (zD9 y0 x3).bind fun r5 =>
 if r5 != 0 then
 some (.inr r5)
 else
 some (.inl (zQ (s5 + 1)))
 else
 some (.inr 0)
def zCZ (y0 : zR) : Option Int :=
 if (decide (16 < (len y0.1))) || ((decide (24 < (len y0.2.1))) || (decide (8 < (len y0.2.2)))) then
 some 2
 else
 yO (zW (zCg y0) 0 : Option (Unit ⊕ Int)) fun _ =>
 yO (zW (zCf y0) 0 : Option (Unit ⊕ Int)) fun _ =>
 zW (zCb y0) 0
def zCR (y0 : zR) (s2 : Int × (List zL)) : Option ((Int × (List zL)) ⊕ (List zL)) :=
 if decide (s2.1 < (len y0.1)) then
 (zG y0.1 s2.1).bind fun x1 =>
 (wI s2.2 ([(s2.1, (-1), ([] : List Int), x1.1)] : List zL)).bind fun x2 =>
 some (.inl (zQ (s2.1 + 1), x2))
 else
 some (.inr s2.2)
def zC5 (y0 : zR) (s4 : Int × (List zL) × (List zL) × Int) (s6 : Int × (List zL)) : Option ((Int × (List zL)) ⊕ ((List zL) ⊕ ((Int × (List zL) × (List zL) × Int) ⊕ ((List zL) × (List zL) × Int)))) :=
 if decide (s6.1 < (len y0.2.1)) then
 (zG y0.2.1 s6.1).bind fun x3 =>
 (
 if decide (0 < (len x3.2.2.2.1)) then
 (zBU (y0, s4.2.1, s6.2, s4.2.2.2) s6.1 ([] : List Int)).bind fun r2 =>
 some r2
 else
 if s4.1 == 1 then
 (wI s6.2 ([((-1), s6.1, ([] : List Int), x3.2.2.2.2)] : List zL)).bind fun x4 =>
 some x4
 else
 some s6.2 : Option (List zL)).bind fun s7 =>
 (zAq (y0, s4.2.1, s7, s4.2.2.2)).bind fun r3 =>
 if r3 then
 some (.inr (.inr (.inr (s4.2.1, s7, s4.2.2.2))))
 else
 some (.inl (zQ (s6.1 + 1), s7))
 else
 some (.inr (.inl s6.2))
def zAn (y0 : zR) (s4 : Int × (List zL) × (List zL) × Int) : Option ((Int × (List zL) × (List zL) × Int) ⊕ ((List zL) × (List zL) × Int)) :=
 yO (zW (zC5 y0 s4) (0, ([] : List zL)) : Option ((List zL) ⊕ ((Int × (List zL) × (List zL) × Int) ⊕ ((List zL) × (List zL) × Int)))) fun s5 =>
 if (len s5) == 0 then
 some (.inr (s4.2.1, s5, s4.2.2.2))
 else
 (wI s4.2.1 s5).bind fun x5 =>
 some (.inl (zQ (s4.1 + 1), x5, s5, len s4.2.1))
def zCv (y0 : zR) : Option ((List zL) × Int) :=
 (zCZ y0).bind fun r1 =>
 if r1 != 0 then
 some (([] : List zL), r1)
 else
 (zW (zCR y0) (0, ([] : List zL)) : Option (List zL)).bind fun s1 =>
 (zW (zAn y0) (1, s1, ([] : List zL), 0) : Option ((List zL) × (List zL) × Int)).bind fun s3 =>
 (zAq (y0, s3.1, s3.2.1, s3.2.2)).bind fun r4 =>
 if r4 then
 some (([] : List zL), 2)
 else
 some (s3.1, 0)
def zBY (y0 : List zM) : Option (List zM) :=
 (wI ([] : List zM) y0).bind fun x1 =>
 some x1
def zJT (y0 : List zM) (s1 : Int) (s3 : (List zM) × Int × Int) : Option (((List zM) × Int × Int) ⊕ ((List zM) × Int)) :=
 if decide (s3.2.2 < ((Int.toNat (((List.length y0 : Nat) : Int) - s1) : Nat) : Int)) then
 (tU s3.1 s1 s3.2.2).bind fun x3 =>
 (tU s3.1 s1 (zQ (s3.2.2 - 1))).bind fun x4 =>
 if !(x3 == x4) then
 (tU s3.1 s1 s3.2.2).bind fun x5 =>
 (zG s3.1 s3.2.1).bind fun _ =>
 some (.inl (List.set s3.1 (Int.toNat s3.2.1) x5, zQ (s3.2.1 + 1), zQ (s3.2.2 + 1)))
 else
 some (.inl (s3.1, s3.2.1, zQ (s3.2.2 + 1)))
 else
 some (.inr (s3.1, s3.2.1))
def zJC (y0 : List zM) (s1 : Int) : Option (Int ⊕ (List zM)) :=
 if decide (s1 < (len y0)) then
 (zG y0 s1).bind fun x1 =>
 (zG y0 (zQ (s1 - 1))).bind fun x2 =>
 if x1 == x2 then
 (uH (decide (0 ≤ s1) && decide (s1 ≤ len y0))).bind fun _ =>
 (zW (zJT y0 s1) (y0, s1, 1) : Option ((List zM) × Int)).bind fun s2 =>
 (uH (decide (0 ≤ s2.2) && decide (s2.2 ≤ len s2.1))).bind fun _ =>
 (sub (zB1 s2.1 s2.2 (false, [])) 0 s2.2).bind fun x7 =>
 some (.inr x7)
 else
 some (.inl (zQ (s1 + 1)))
 else
 some (.inr y0)
def zBp (y0 : List zM) : Option (List zM) :=
 if decide ((len y0) < 2) then
 some y0
 else
 zW (zJC y0) 1
def zAN (y0 : List zM) : Option (List zM) := zRg zAs y0
def zEa (y0 : List zM) : Option (List zM) :=
 (zBY y0).bind fun r1 =>
 (zAN r1).bind fun r2 =>
 (zBp r2).bind fun r3 =>
 some r3
def zBb (y1 : List Int) (y0 : List zL) (s2 : (List zM) × Int) : Option (((List zM) × Int) ⊕ (List zM)) :=
 if decide (s2.2 < (len y1)) then
 (zG y1 s2.2).bind fun x1 =>
 (zAb y0 x1).bind fun r1 =>
 if r1 then
 (zG y0 x1).bind fun x2 =>
 (wI s2.1 ([x2.2.2.2] : List zM)).bind fun x3 =>
 some (.inl (x3, zQ (s2.2 + 1)))
 else
 some (.inl (s2.1, zQ (s2.2 + 1)))
 else
 some (.inr s2.1)
def zB0 (y0 : List zL) (y1 : List Int) : Option (List zM) :=
 (zW (zBb y1 y0) (([] : List zM), 0) : Option (List zM)).bind fun s1 =>
 (zEa s1).bind fun r2 =>
 some r2
def zGL (y0 : zM) : Option zM :=
 some (!y0.1, y0.2)
def zIG (y0 : zR) (y1 : List zL) (y2 : Int) (y3 : Int) : Option (List Int) :=
 (
 (zG y1 y2).bind fun x1 =>
 (zG y1 y3).bind fun x2 =>
 some (x1.2.2.2, x2) : Option (zM × zL)).bind fun s1 =>
 (zGL s1.2.2.2.2).bind fun r1 =>
 if decide (0 ≤ s1.2.1) then
 (
 if s1.1 == r1 then
 (zG y0.1 s1.2.1).bind fun x3 =>
 some (x3.2.1 != 1)
 else
 some false : Option Bool).bind fun s2 =>
 if s2 then
 (wI ([] : List Int) ([1] : List Int)).bind fun x4 =>
 some x4
 else
 some ([] : List Int)
 else
 (zG y0.2.1 s1.2.2.1).bind fun x5 =>
 if !x5.2.1 then
 (
 if s1.1 == r1 then
 (wI ([] : List Int) ([2] : List Int)).bind fun x6 =>
 some x6
 else
 some ([] : List Int) : Option (List Int)).bind fun s3 =>
 (
 if s1.1.1 then
 (zG y0.2.1 s1.2.2.1).bind fun x7 =>
 some (s1.1.2 == x7.1)
 else
 some false : Option Bool).bind fun s4 =>
 if s4 then
 (wI s3 ([3] : List Int)).bind fun x8 =>
 some x8
 else
 some s3
 else
 some ([] : List Int)
def zFf (y0 : Int) : Option Bool :=
 some (y0 != y0)
def zAR (y0 : Int) (y1 : Int) : Option Int :=
 (zFf y0).bind fun r1 =>
 (zFf y1).bind fun r2 =>
 if r1 then
 if r2 then
 some 0
 else
 some (-1)
 else
 if r2 then
 some 1
 else
 if decide (y0 < y1) then
 some (-1)
 else
 if decide (y1 < y0) then
 some 1
 else
 some 0
def zPi (y0 : List Int) (s1 : Int) : Option (Int ⊕ Int) :=
 if decide (s1 < (len y0)) then
 (zG y0 s1).bind fun x1 =>
 if x1 != 0 then
 some (.inr x1)
 else
 some (.inl (zQ (s1 + 1)))
 else
 some (.inr 0)
def zFl (y0 : List Int) : Option Int :=
 zW (zPi y0) 0
def zBn (y0 : qZ) (y1 : qZ) : Option Int :=
 (zAR y0.1 y1.1).bind fun r1 =>
 (zAR y0.2.1 y1.2.1).bind fun r2 =>
 (zAR y0.2.2.1 y1.2.2.1).bind fun r3 =>
 (zAR y0.2.2.2 y1.2.2.2).bind fun r4 =>
 (zFl ([r1, r2, r3, r4] : List Int)).bind fun r5 =>
 some r5
def zAa (y0 : List qZ) : Option (List qZ) := zRg zBn y0
def zE1 (r1 : (List Int)) (s3 : (List qZ) × Int) (s4 : (List qZ) × Int) (s2 : (List qZ) × Int) (s5 : (List qZ) × Int) : Option (((List qZ) × Int) ⊕ (((List qZ) × Int) ⊕ (((List qZ) × Int) ⊕ (((List qZ) × Int) ⊕ (List qZ))))) :=
 if decide (s5.2 < (len r1)) then
 (zG r1 s5.2).bind fun x1 =>
 (wI s5.1 ([(s3.2, s4.2, s2.2, x1)] : List qZ)).bind fun x2 =>
 some (.inl (x2, zQ (s5.2 + 1)))
 else
 some (.inr (.inl (s5.1, zQ (s4.2 + 1))))
def zEL (y1 : List zL) (s2 : (List qZ) × Int) (r1 : (List Int)) (s3 : (List qZ) × Int) (s4 : (List qZ) × Int) : Option (((List qZ) × Int) ⊕ (((List qZ) × Int) ⊕ (((List qZ) × Int) ⊕ (List qZ)))) :=
 if decide (s4.2 < (len y1)) then
 (zFn y1 s4.2).bind fun r2 =>
 (zBG r2 s2.2).bind fun r3 =>
 if !r3 then
 some (.inl (s4.1, zQ (s4.2 + 1)))
 else
 zW (zE1 r1 s3 s4 s2) (s4.1, 0)
 else
 some (.inr (.inl (s4.1, zQ (s3.2 + 1))))
def zEQ (y1 : List zL) (y0 : zR) (s2 : (List qZ) × Int) (s3 : (List qZ) × Int) : Option (((List qZ) × Int) ⊕ (((List qZ) × Int) ⊕ (List qZ))) :=
 if decide (s3.2 < (len y1)) then
 (zIG y0 y1 s3.2 s2.2).bind fun r1 =>
 if (len r1) == 0 then
 some (.inl (s3.1, zQ (s3.2 + 1)))
 else
 zW (zEL y1 s2 r1 s3) (s3.1, 0)
 else
 some (.inr (.inl (s3.1, zQ (s2.2 + 1))))
def zCY (y1 : List zL) (y0 : zR) (s2 : (List qZ) × Int) : Option (((List qZ) × Int) ⊕ (List qZ)) :=
 if decide (s2.2 < (len y1)) then
 zW (zEQ y1 y0 s2) (s2.1, 0)
 else
 some (.inr s2.1)
def zG3 (y0 : zR) (y1 : List zL) : Option (List qZ) :=
 (zW (zCY y1 y0) (([] : List qZ), 0) : Option (List qZ)).bind fun s1 =>
 (zAa s1).bind fun r4 =>
 some r4
def zC9 (r1 : (List Int)) (y0 : List zL) (s2 : (List Int) × Int) : Option (((List Int) × Int) ⊕ (List Int)) :=
 if decide (s2.2 < (len r1)) then
 (zG r1 s2.2).bind fun x1 =>
 (zG y0 x1).bind fun x2 =>
 if decide (0 ≤ x2.1) then
 (zG y0 x1).bind fun x3 =>
 (wI s2.1 ([x3.1] : List Int)).bind fun x4 =>
 some (.inl (x4, zQ (s2.2 + 1)))
 else
 some (.inl (s2.1, zQ (s2.2 + 1)))
 else
 some (.inr s2.1)
def zCX (y0 : List zL) (y1 : Int) : Option (List Int) :=
 (
 (zFn y0 y1).bind fun r1 =>
 zW (zC9 r1 y0) (([] : List Int), 0) : Option (List Int)).bind fun s1 =>
 (zBK s1).bind fun r2 =>
 some r2
def zGb (y0 : Int) (y1 : zR) : Option Bool :=
 (zG y1.1 y0).bind fun x1 =>
 some (x1.2.1 == 3)
def zAF (y0 : List Int) (y1 : zR) (s1 : Int) : Option (Int ⊕ Int) :=
 if decide (s1 < (len y0)) then
 (zG y0 s1).bind fun x1 =>
 (zGb x1 y1).bind fun r1 =>
 if r1 then
 some (.inr s1)
 else
 some (.inl (zQ (s1 + 1)))
 else
 some (.inr (-1))
def zAr (y0 : List Int) (y1 : zR) : Option Int :=
 zW (zAF y0 y1) 0
def zAd (y0 : List Int) (y1 : zR) : Option Bool :=
 (zAr y0 y1).bind fun r1 =>
 some (decide (0 ≤ r1))
def zHv (y0 : zR) (y1 : List zL) (y2 : Int) : Option Bool :=
 (zCX y1 y2).bind fun r1 =>
 (zAd r1 y0).bind fun r2 =>
 some r2
def zFO (x5 : zL) (rec_argument_Last : zR → (List zL) → Int → Option (List Int)) (y0 : zR) (y1 : List zL) (s3 : (List Int) × Int) : Option (((List Int) × Int) ⊕ (List Int)) :=
 if decide (s3.2 < (len x5.2.2.1)) then
 (zG x5.2.2.1 s3.2).bind fun x6 =>
 (rec_argument_Last y0 y1 x6).bind fun r2 =>
 (wI s3.1 r2).bind fun x7 =>
 some (.inl (x7, zQ (s3.2 + 1)))
 else
 some (.inr s3.1)
def zHN (rec_argument_Last : zR → (List zL) → Int → Option (List Int)) (y0 : zR) (y1 : List zL) (y2 : Int) : Option (List Int) :=
 (
 (zAb y1 y2).bind fun r1 =>
 if !r1 then
 some true
 else
 (zG y1 y2).bind fun x1 =>
 some (decide (x1.2.1 < 0)) : Option Bool).bind fun s1 =>
 if s1 then
 some ([] : List Int)
 else
 (zG y1 y2).bind fun x2 =>
 (zG y0.2.1 x2.2.1).bind fun x3 =>
 if !x3.2.1 then
 (zG y1 y2).bind fun x4 =>
 some ([x4.2.1] : List Int)
 else
 (
 (zG y1 y2).bind fun x5 =>
 zW (zFO x5 rec_argument_Last y0 y1) (([] : List Int), 0) : Option (List Int)).bind fun s2 =>
 (zBK s2).bind fun r3 =>
 (zBR r3).bind fun r4 =>
 some r4
def zC6 : Nat → zR → (List zL) → Int → Option (List Int)
 | 0 => fun _ _ _ => none
 | k + 1 => fun y0 y1 y2 => zHN (zC6 k) y0 y1 y2
def zJF (y0 : zR) (y1 : List zL) (y2 : Int) : Option (List Int) := zUN fun k => zC6 k y0 y1 y2
def zH8 (y1 : List Int) (y0 : zR) (s1 : (List Int) × Int) : Option (((List Int) × Int) ⊕ (List Int)) :=
 if decide (s1.2 < (len y1)) then
 (zG y1 s1.2).bind fun x1 =>
 (zG y0.2.1 x1).bind fun x2 =>
 (wI s1.1 ([x2.2.2.1] : List Int)).bind fun x3 =>
 some (.inl (x3, zQ (s1.2 + 1)))
 else
 some (.inr s1.1)
def zJf (y0 : zR) (y1 : List Int) : Option (List Int) :=
 zW (zH8 y1 y0) (([] : List Int), 0)
def zBt (y0 : zR) (y1 : List zL) (y2 : Int) : Option (List Int) :=
 (zJF y0 y1 y2).bind fun r1 =>
 (zJf y0 r1).bind fun r2 =>
 some r2
def zEG (y0 : List Int) (s2 : Int × Int) : Option ((Int × Int) ⊕ Int) :=
 if decide (s2.2 < (len y0)) then
 (zG y0 s2.2).bind fun x2 =>
 some (.inl (if x2 > s2.1 then x2 else s2.1, zQ (s2.2 + 1)))
 else
 some (.inr s2.1)
def zFB (y0 : List Int) : Option Int :=
 (
 if decide ((len y0) < 1) then
 none
 else
 some () : Option Unit).bind fun _ =>
 (zG y0 0).bind fun x1 =>
 zW (zEG y0) (x1, 1)
def zEU (y0 : List Int) (s2 : Int × Int) : Option ((Int × Int) ⊕ Int) :=
 if decide (s2.2 < (len y0)) then
 (zG y0 s2.2).bind fun x2 =>
 some (.inl (if x2 < s2.1 then x2 else s2.1, zQ (s2.2 + 1)))
 else
 some (.inr s2.1)
def zEu (y0 : List Int) : Option Int :=
 (
 if decide ((len y0) < 1) then
 none
 else
 some () : Option Unit).bind fun _ =>
 (zG y0 0).bind fun x1 =>
 zW (zEU y0) (x1, 1)
def zFD (y0 : List Int) (y1 : List Int) (y2 : Int) : Option Bool :=
 if if y2 != 1 then (y2 != 2) || ((len y0) == 0) else (len y0) == 0 then
 some false
 else
 if (len y1) == 0 then
 some true
 else
 if y2 == 1 then
 (zEu y0).bind fun r1 =>
 (zEu y1).bind fun r2 =>
 some (decide (r1 < r2))
 else
 (zFB y0).bind fun r3 =>
 (zFB y1).bind fun r4 =>
 some (decide (r3 < r4))
def zBC (y0 : zR) (y1 : List zL) (y2 : Int) (y3 : Int) (y4 : vF) : Option Bool :=
 (zBt y0 y1 y2).bind fun r1 =>
 (zBt y0 y1 y3).bind fun r2 =>
 (zFD r1 r2 y4.2).bind fun r3 =>
 some r3
def zB2 (r1 : (List Int)) (y0 : zR) (s1 : (List Int) × Int) : Option (((List Int) × Int) ⊕ (List Int)) :=
 if decide (s1.2 < (len r1)) then
 (zG r1 s1.2).bind fun x1 =>
 (zG y0.1 x1).bind fun x2 =>
 if x2.2.1 == 2 then
 (wI s1.1 ([x2.2.2.1] : List Int)).bind fun x3 =>
 some (.inl (x3, zQ (s1.2 + 1)))
 else
 if x2.2.1 == 3 then
 (wI s1.1 ([(-1)] : List Int)).bind fun x4 =>
 some (.inl (x4, zQ (s1.2 + 1)))
 else
 some (.inl (s1.1, zQ (s1.2 + 1)))
 else
 some (.inr s1.1)
def zAl (y0 : zR) (y1 : List zL) (y2 : Int) : Option (List Int) :=
 (zCX y1 y2).bind fun r1 =>
 zW (zB2 r1 y0) (([] : List Int), 0)
def zAI (y0 : zR) (y1 : List zL) (y2 : Int) (y3 : Int) (y4 : vF) : Option Bool :=
 (zAl y0 y1 y2).bind fun r1 =>
 (zAl y0 y1 y3).bind fun r2 =>
 (zFD r1 r2 y4.2).bind fun r3 =>
 some r3
def zBB (y0 : zR) (y1 : List zL) (y2 : Int) (y3 : Int) : Option Bool :=
 (
 (zBt y0 y1 y2).bind fun r1 =>
 if (len r1) == 0 then
 (zBt y0 y1 y3).bind fun r2 =>
 some ((len r2) == 0)
 else
 some false : Option Bool).bind fun s1 =>
 some s1
def zCo (y1 : zR) (y2 : List zL) (y3 : Int) (y4 : Int) (y5 : vF) : Option Bool :=
 (
 (zBC y1 y2 y3 y4 y5).bind fun r1 =>
 if r1 then
 some true
 else
 (zBB y1 y2 y3 y4).bind fun r2 =>
 if r2 then
 (zAI y1 y2 y3 y4 y5).bind fun r3 =>
 some r3
 else
 some false : Option Bool).bind fun s1 =>
 some s1
def zBr (y0 : zR) (y1 : List zL) (y2 : Int) : Option (List Int) :=
 (zBd y0 y1 y2).bind fun r1 =>
 (zJf y0 r1).bind fun r2 =>
 some r2
def zA8 (y0 : zR) (y1 : List zL) (y2 : Int) (y3 : Int) (y4 : vF) : Option Bool :=
 (zBr y0 y1 y2).bind fun r1 =>
 (zBr y0 y1 y3).bind fun r2 =>
 (zFD r1 r2 y4.2).bind fun r3 =>
 some r3
def zAk (y0 : zR) (y1 : List zL) (y2 : Int) (y3 : Int) : Option Bool :=
 (
 (zAl y0 y1 y2).bind fun r1 =>
 if (len r1) == 0 then
 (zAl y0 y1 y3).bind fun r2 =>
 some ((len r2) == 0)
 else
 some false : Option Bool).bind fun s1 =>
 some s1
def zBA (y0 : zR) (y1 : List zL) (y2 : Int) (y3 : Int) : Option Bool :=
 (
 (zBr y0 y1 y2).bind fun r1 =>
 if (len r1) == 0 then
 (zBr y0 y1 y3).bind fun r2 =>
 some ((len r2) == 0)
 else
 some false : Option Bool).bind fun s1 =>
 some s1
def zCr (y1 : zR) (y2 : List zL) (y3 : Int) (y4 : Int) (y6 : vF) : Option Bool :=
 (zBA y1 y2 y3 y4).bind fun r1 =>
 if r1 then
 (zAI y1 y2 y3 y4 y6).bind fun r2 =>
 some r2
 else
 (zAk y1 y2 y3 y4).bind fun r3 =>
 if r3 then
 (zA8 y1 y2 y3 y4 y6).bind fun r4 =>
 some r4
 else
 (
 (zAI y1 y2 y3 y4 y6).bind fun r5 =>
 if r5 then
 (zA8 y1 y2 y3 y4 y6).bind fun r6 =>
 some r6
 else
 some false : Option Bool).bind fun s1 =>
 some s1
def zKc (y0 : zR) (y1 : List zL) (y2 : Int) (y3 : Int) (y4 : vF) : Option Bool :=
 (
 if decide ((if y3 < y2 then y3 else y2) < 0) then
 some true
 else
 if decide ((len y1) ≤ (if y3 > y2 then y3 else y2)) then
 some true
 else
 (zHv y0 y1 y3).bind fun r1 =>
 some r1 : Option Bool).bind fun s1 =>
 if s1 then
 some false
 else
 if y4.1 == 1 then
 (zCo y0 y1 y2 y3 y4).bind fun r2 =>
 some r2
 else
 if y4.1 == 2 then
 (zCr y0 y1 y2 y3 y4).bind fun r3 =>
 some r3
 else
 some false
def zBm (y0 : qZ) (y1 : zR) (y2 : List zL) (y3 : vF) : Option Bool :=
 (
 if y0.2.2.2 != 3 then
 (zKc y1 y2 y0.1 y0.2.2.1 y3).bind fun r1 =>
 some r1
 else
 some false : Option Bool).bind fun s1 =>
 some s1
def zDX (y0 : List qZ) (y1 : zR) (y2 : List zL) (y3 : vF) (s1 : Int) : Option (Int ⊕ Int) :=
 if decide (s1 < (len y0)) then
 (zG y0 s1).bind fun x1 =>
 (zBm x1 y1 y2 y3).bind fun r1 =>
 if r1 then
 some (.inr s1)
 else
 some (.inl (zQ (s1 + 1)))
 else
 some (.inr (-1))
def zBM (y0 : List qZ) (y1 : zR) (y2 : List zL) (y3 : vF) : Option Int :=
 zW (zDX y0 y1 y2 y3) 0
def zDP (y0 : List qZ) (y1 : zR) (y2 : List zL) (y3 : vF) (s2 : (List qZ) × Int × Int) : Option (((List qZ) × Int × Int) ⊕ ((List qZ) × Int)) :=
 if decide (s2.2.2 < (len y0)) then
 (zG s2.1 s2.2.2).bind fun x1 =>
 (zBm x1 y1 y2 y3).bind fun r2 =>
 if !r2 then
 (zG s2.1 s2.2.1).bind fun _ =>
 some (.inl (List.set s2.1 (Int.toNat s2.2.1) x1, zQ (s2.2.1 + 1), zQ (s2.2.2 + 1)))
 else
 some (.inl (s2.1, s2.2.1, zQ (s2.2.2 + 1)))
 else
 some (.inr (s2.1, s2.2.1))
def zAZ (y0 : List qZ) (y1 : zR) (y2 : List zL) (y3 : vF) : Option (List qZ) :=
 (zBM y0 y1 y2 y3).bind fun r1 =>
 if r1 == (-1) then
 some y0
 else
 (zW (zDP y0 y1 y2 y3) (y0, r1, zQ (r1 + 1)) : Option ((List qZ) × Int)).bind fun s1 =>
 (uH (decide (0 ≤ s1.2) && decide (s1.2 ≤ len s1.1))).bind fun _ =>
 (sub (zB1 s1.1 s1.2 (0, 0, 0, 0)) 0 s1.2).bind fun x3 =>
 some x3
def zEd (y0 : zR) (y1 : List zL) (y2 : vF) : Option (List qZ) :=
 (zG3 y0 y1).bind fun r1 =>
 (zAZ r1 y0 y1 y2).bind fun r2 =>
 some r2
def zKQ (y0 : List wH) (s1 : Int) (s3 : (List wH) × Int × Int) : Option (((List wH) × Int × Int) ⊕ ((List wH) × Int)) :=
 if decide (s3.2.2 < ((Int.toNat (((List.length y0 : Nat) : Int) - s1) : Nat) : Int)) then
 (tU s3.1 s1 s3.2.2).bind fun x3 =>
 (tU s3.1 s1 (zQ (s3.2.2 - 1))).bind fun x4 =>
 if !(x3 == x4) then
 (tU s3.1 s1 s3.2.2).bind fun x5 =>
 (zG s3.1 s3.2.1).bind fun _ =>
 some (.inl (List.set s3.1 (Int.toNat s3.2.1) x5, zQ (s3.2.1 + 1), zQ (s3.2.2 + 1)))
 else
 some (.inl (s3.1, s3.2.1, zQ (s3.2.2 + 1)))
 else
 some (.inr (s3.1, s3.2.1))
def zKN (y0 : List wH) (s1 : Int) : Option (Int ⊕ (List wH)) :=
 if decide (s1 < (len y0)) then
 (zG y0 s1).bind fun x1 =>
 (zG y0 (zQ (s1 - 1))).bind fun x2 =>
 if x1 == x2 then
 (uH (decide (0 ≤ s1) && decide (s1 ≤ len y0))).bind fun _ =>
 (zW (zKQ y0 s1) (y0, s1, 1) : Option ((List wH) × Int)).bind fun s2 =>
 (uH (decide (0 ≤ s2.2) && decide (s2.2 ≤ len s2.1))).bind fun _ =>
 (sub (zB1 s2.1 s2.2 (0, 0)) 0 s2.2).bind fun x7 =>
 some (.inr x7)
 else
 some (.inl (zQ (s1 + 1)))
 else
 some (.inr y0)
def zFm (y0 : List wH) : Option (List wH) :=
 if decide ((len y0) < 2) then
 some y0
 else
 zW (zKN y0) 1
def zCu (y0 : wH) (y1 : wH) : Option Int :=
 (zAR y0.1 y1.1).bind fun r1 =>
 (zAR y0.2 y1.2).bind fun r2 =>
 (zFl ([r1, r2] : List Int)).bind fun r3 =>
 some r3
def zAo (y0 : List wH) : Option (List wH) := zRg zCu y0
def zDe (y1 : List qZ) (y0 : Int) (s2 : Int × (List wH)) : Option ((Int × (List wH)) ⊕ ((List wH) ⊕ (wT × Int))) :=
 if decide (s2.1 < (len y1)) then
 (zG y1 s2.1).bind fun x1 =>
 if (decide ((if x1.2.1 < x1.1 then x1.2.1 else x1.1) < 0)) || (decide (y0 ≤ (if x1.2.1 > x1.1 then x1.2.1 else x1.1))) then
 some (.inr (.inr ((0, ([] : List wH)), 1)))
 else
 (wI s2.2 ([(x1.1, x1.2.1)] : List wH)).bind fun x2 =>
 some (.inl (zQ (s2.1 + 1), x2))
 else
 some (.inr (.inl s2.2))
def zGU (y0 : Int) (y1 : List qZ) : Option (wT × Int) :=
 if (decide (y0 < 0)) || (decide (40 < y0)) then
 some ((0, ([] : List wH)), 1)
 else
 yO (zW (zDe y1 y0) (0, ([] : List wH)) : Option ((List wH) ⊕ (wT × Int))) fun s1 =>
 (zAo s1).bind fun r1 =>
 (zFm r1).bind fun r2 =>
 some ((y0, r2), 0)
def zAm (y0 : Int) : Option Int :=
 if y0 == 0 then
 some 64
 else
 (zG yQ (xA .u64 (IntKind.u64.wrap ((yF .u64 y0 (IntKind.u64.wrap (0 - y0))) * 285870213051353865)) 58)).bind fun x1 =>
 some (zQ (x1))
def zDn (s1 : Int × (List Int)) : Option ((Int × (List Int)) ⊕ (List Int)) :=
 if s1.1 != 0 then
 (zAm s1.1).bind fun r1 =>
 (wI s1.2 ([r1] : List Int)).bind fun x1 =>
 some (.inl (yF .u64 s1.1 (IntKind.u64.wrap (s1.1 - 1)), x1))
 else
 some (.inr s1.2)
def zJ9 (y0 : Int) : Option (List Int) :=
 zW (zDn) (y0, ([] : List Int))
def zGc (y0 : wT) (s1 : (List Int) × Int) : Option (((List Int) × Int) ⊕ (List Int)) :=
 if decide (s1.2 < (len y0.2)) then
 (zG y0.2 s1.2).bind fun x2 =>
 (zG s1.1 x2.1).bind fun x3 =>
 (zVi .u64 1 x2.2).bind fun x4 =>
 (zG s1.1 x2.1).bind fun _ =>
 some (.inl (List.set s1.1 (Int.toNat x2.1) (bor .u64 x3 x4), zQ (s1.2 + 1)))
 else
 some (.inr s1.1)
def zIr (y0 : wT) : Option (List Int) :=
 (mkS y0.1 y0.1 (0 : Int)).bind fun x1 =>
 zW (zGc y0) (x1, 0)
def zDh (y0 : wH) (y1 : wH) : Option Int :=
 (zAR y0.1 y1.1).bind fun r1 =>
 (zAR y0.2 y1.2).bind fun r2 =>
 (zFl ([r1, r2] : List Int)).bind fun r3 =>
 some r3
def zA5 (y0 : wT) (s1 : Int) : Option (Int ⊕ Int) :=
 if decide (s1 < (len y0.2)) then
 (zG y0.2 s1).bind fun x1 =>
 if (decide ((if x1.2 < x1.1 then x1.2 else x1.1) < 0)) || (decide (y0.1 ≤ (if x1.2 > x1.1 then x1.2 else x1.1))) then
 some (.inr 1)
 else
 (
 if decide (0 < s1) then
 (zG y0.2 (zQ (s1 - 1))).bind fun x2 =>
 (zDh x2 x1).bind fun r1 =>
 some (decide (0 ≤ r1))
 else
 some false : Option Bool).bind fun s2 =>
 if s2 then
 some (.inr 8)
 else
 some (.inl (zQ (s1 + 1)))
 else
 some (.inr 0)
def zAS (y0 : wT) : Option Int :=
 if (decide (y0.1 < 0)) || (decide (40 < y0.1)) then
 some 1
 else
 zW (zA5 y0) 0
def zHu (y0 : wT) : Option wT :=
 (zAS y0).bind fun r1 =>
 if r1 != 0 then
 some (0, ([] : List wH))
 else
 some y0
def zEr (y0 : wT) (y1 : Int) : Option (List Int) :=
 (zHu y0).bind fun r1 =>
 if (decide (y1 < 0)) || (decide (r1.1 ≤ y1)) then
 some ([] : List Int)
 else
 (zIr r1).bind fun r2 =>
 (zG r2 y1).bind fun x1 =>
 (zJ9 x1).bind fun r3 =>
 some r3
def zKS (y0 : Int) (y1 : Int) : Option (Int × Int) :=
 some (IntKind.u64.wrap ((IntKind.u64.wrap ((IntKind.u64.wrap ((xA .u64 y0 32) * (xA .u64 y1 32))) + (xA .u64 (IntKind.u64.wrap ((IntKind.u64.wrap ((xA .u64 y0 32) * (yF .u64 y1 4294967295))) + (xA .u64 (IntKind.u64.wrap ((yF .u64 y0 4294967295) * (yF .u64 y1 4294967295))) 32))) 32))) + (xA .u64 (IntKind.u64.wrap ((yF .u64 (IntKind.u64.wrap ((IntKind.u64.wrap ((xA .u64 y0 32) * (yF .u64 y1 4294967295))) + (xA .u64 (IntKind.u64.wrap ((yF .u64 y0 4294967295) * (yF .u64 y1 4294967295))) 32))) 4294967295) + (IntKind.u64.wrap ((yF .u64 y0 4294967295) * (xA .u64 y1 32))))) 32)), IntKind.u64.wrap (y0 * y1))
def zJI (y0 : Int) (y1 : Int) : Option (Int × Int) :=
 (zKS y0 y1).bind fun r1 =>
 some (r1.1, r1.2)
def zFH (x1 : List Int) (s3 : (List Int) × Int) : Option (((List Int) × Int) ⊕ (List Int)) :=
 if decide (s3.2 < (len x1)) then
 (uH (decide (0 ≤ s3.2) && decide (s3.2 ≤ len s3.1))).bind fun _ =>
 (sub s3.1 0 s3.2).bind fun x2 =>
 some (.inl (zGq s3.1 s3.2 x2, zQ (s3.2 + ((Nat.min (List.length x2) (Int.toNat (((List.length x1 : Nat) : Int) - s3.2)) : Nat) : Int))))
 else
 some (.inr s3.1)
def zE0 (y0 : List Int) (y1 : Int) : Option (List Int) :=
 (
 if decide (y1 < 0) then
 none
 else
 some () : Option Unit).bind fun _ =>
 (zJI (IntKind.u64.wrap (len y0)) (IntKind.u64.wrap (y1))).bind fun r1 =>
 (
 if (decide (0 < r1.1)) || (decide (9223372036854775807 < r1.2)) then
 none
 else
 some () : Option Unit).bind fun _ =>
 (mkS (zQ (r1.2)) (zQ (r1.2)) (0 : Int)).bind fun x1 =>
 zW (zFH x1) (zGq x1 0 y0, ((Nat.min (List.length y0) (List.length x1) : Nat) : Int))
def zCW (y0 : wT) (s3 : Int × (List Int)) : Option ((Int × (List Int)) ⊕ (List Int)) :=
 if decide (s3.1 < (len y0.2)) then
 (zG y0.2 s3.1).bind fun x4 =>
 (uH (decide (0 ≤ x4.2) && decide (x4.2 < 40))).bind fun _ =>
 (uH (decide (0 ≤ x4.2) && decide (x4.2 < 40))).bind fun _ =>
 some (.inl (zQ (s3.1 + 1), zTy 40 s3.2 x4.2 (zQ ((zUh s3.2 x4.2) + 1))))
 else
 some (.inr s3.2)
def zCS (y0 : wT) (s2 : (List Int)) (s5 : (List Int) × Int) : Option (((List Int) × Int) ⊕ (List Int)) :=
 if decide (s5.2 < y0.1) then
 (uH (decide (0 ≤ s5.2) && decide (s5.2 < 40))).bind fun _ =>
 if (zUh s2 s5.2) == 0 then
 (wI s5.1 ([s5.2] : List Int)).bind fun x5 =>
 some (.inl (x5, zQ (s5.2 + 1)))
 else
 some (.inl (s5.1, zQ (s5.2 + 1)))
 else
 some (.inr s5.1)
def zCU (s6 : (List Int) × (List Int) × (List Int) × Int × (List Int)) (s8 : (List Int) × (List Int) × Int) : Option (((List Int) × (List Int) × Int) ⊕ ((List Int) × (List Int))) :=
 if decide (s8.2.2 < (len s6.2.2.1)) then
 (zG s6.2.2.1 s8.2.2).bind fun x6 =>
 (zG s8.1 x6).bind fun _ =>
 (zG s8.2.1 x6).bind fun _ =>
 some (.inl (List.set s8.1 (Int.toNat x6) 1, List.set s8.2.1 (Int.toNat x6) s6.2.2.2.1, zQ (s8.2.2 + 1)))
 else
 some (.inr (s8.1, s8.2.1))
def zC2 (r5 : (List Int)) (s10 : (List Int) × (List Int) × (List Int) × Int × (List Int)) (x10 : Int) (s6 : (List Int) × (List Int) × (List Int) × Int × (List Int)) (s11 : (List Int) × Int × (List Int)) : Option (((List Int) × Int × (List Int)) ⊕ (((List Int) × (List Int) × (List Int) × Int × (List Int)) ⊕ (((List Int) × (List Int) × (List Int) × Int × (List Int)) ⊕ (((List Int) × (List Int) × (List Int) × Int × (List Int)) ⊕ ((List Int) × (List Int)))))) :=
 if decide (s11.2.1 < (len r5)) then
 (zG r5 s11.2.1).bind fun x14 =>
 (uH (decide (0 ≤ x14) && decide (x14 < 40))).bind fun _ =>
 (uH (decide (0 ≤ x14) && decide (x14 < 40))).bind fun _ =>
 (
 (uH (decide (0 ≤ x14) && decide (x14 < 40))).bind fun _ =>
 if (zUh (zTy 40 s11.2.2 x14 (zQ ((zUh s11.2.2 x14) - 1))) x14) == 0 then
 (zG (List.set s10.1 (Int.toNat x10) 2) x14).bind fun x15 =>
 some (x15 == 3)
 else
 some false : Option Bool).bind fun s12 =>
 if s12 then
 (wI s11.1 ([x14] : List Int)).bind fun x16 =>
 some (.inl (x16, zQ (s11.2.1 + 1), zTy 40 s11.2.2 x14 (zQ ((zUh s11.2.2 x14) - 1))))
 else
 some (.inl (s11.1, zQ (s11.2.1 + 1), zTy 40 s11.2.2 x14 (zQ ((zUh s11.2.2 x14) - 1))))
 else
 some (.inr (.inl (List.set s10.1 (Int.toNat x10) 2, List.set s10.2.1 (Int.toNat x10) s6.2.2.2.1, s11.1, zQ (s10.2.2.2.1 + 1), s11.2.2)))
def zB9 (r4 : (List Int)) (y0 : wT) (s6 : (List Int) × (List Int) × (List Int) × Int × (List Int)) (s9 : (List Int) × (List Int) × (List Int) × Int × (List Int)) (s10 : (List Int) × (List Int) × (List Int) × Int × (List Int)) : Option (((List Int) × (List Int) × (List Int) × Int × (List Int)) ⊕ (((List Int) × (List Int) × (List Int) × Int × (List Int)) ⊕ (((List Int) × (List Int) × (List Int) × Int × (List Int)) ⊕ ((List Int) × (List Int))))) :=
 if decide (s10.2.2.2.1 < (len r4)) then
 (zG r4 s10.2.2.2.1).bind fun x10 =>
 (zG s10.1 x10).bind fun x11 =>
 if x11 != 3 then
 some (.inl (s10.1, s10.2.1, s10.2.2.1, zQ (s10.2.2.2.1 + 1), s10.2.2.2.2))
 else
 (zG s10.1 x10).bind fun _ =>
 (zG s10.2.1 x10).bind fun _ =>
 (zEr y0 x10).bind fun r5 =>
 zW (zC2 r5 s10 x10 s6) (s10.2.2.1, 0, s10.2.2.2.2)
 else
 some (.inr (.inl (s10.1, s10.2.1, s10.2.2.1, zQ (s9.2.2.2.1 + 1), s10.2.2.2.2)))
def zC3 (s6 : (List Int) × (List Int) × (List Int) × Int × (List Int)) (y0 : wT) (s9 : (List Int) × (List Int) × (List Int) × Int × (List Int)) : Option (((List Int) × (List Int) × (List Int) × Int × (List Int)) ⊕ (((List Int) × (List Int) × (List Int) × Int × (List Int)) ⊕ ((List Int) × (List Int)))) :=
 if decide (s9.2.2.2.1 < (len s6.2.2.1)) then
 (zG s6.2.2.1 s9.2.2.2.1).bind fun x9 =>
 (zEr y0 x9).bind fun r4 =>
 zW (zB9 r4 y0 s6 s9) (s9.1, s9.2.1, s9.2.2.1, 0, s9.2.2.2.2)
 else
 some (.inr (.inl (s9.1, s9.2.1, s9.2.2.1, zQ (s6.2.2.2.1 + 1), s9.2.2.2.2)))
def zBD (y0 : wT) (s6 : (List Int) × (List Int) × (List Int) × Int × (List Int)) : Option (((List Int) × (List Int) × (List Int) × Int × (List Int)) ⊕ ((List Int) × (List Int))) :=
 if decide (0 < (len s6.2.2.1)) then
 (zW (zCU s6) (s6.1, s6.2.1, 0) : Option ((List Int) × (List Int))).bind fun s7 =>
 zW (zC3 s6 y0) (s7.1, s7.2, ([] : List Int), 0, s6.2.2.2.2)
 else
 some (.inr (s6.1, s6.2.1))
def zG9 (y0 : wT) : Option ((List Int) × (List Int)) :=
 (
 (zE0 ([3] : List Int) y0.1).bind fun r1 =>
 (mkS y0.1 y0.1 (0 : Int)).bind fun x1 =>
 some (r1, x1) : Option ((List Int) × (List Int))).bind fun s1 =>
 (zW (zCW y0) (0, (List.replicate 40 (0 : Int))) : Option (List Int)).bind fun s2 =>
 (zW (zCS y0 s2) (([] : List Int), 0) : Option (List Int)).bind fun s4 =>
 zW (zBD y0) (s1.1, s1.2, s4, 1, s2)
def zEn (y0 : wT) : Option (List Int) :=
 (zG9 y0).bind fun r1 =>
 some r1.1
def zEK (y0 : List Int) (y1 : Int) (s1 : (List Int) × Int) : Option (((List Int) × Int) ⊕ (List Int)) :=
 if decide (s1.2 < (len y0)) then
 (zG y0 s1.2).bind fun x1 =>
 if x1 == y1 then
 (wI s1.1 ([s1.2] : List Int)).bind fun x2 =>
 some (.inl (x2, zQ (s1.2 + 1)))
 else
 some (.inl (s1.1, zQ (s1.2 + 1)))
 else
 some (.inr s1.1)
def zBw (y0 : List Int) (y1 : Int) : Option (List Int) :=
 zW (zEK y0 y1) (([] : List Int), 0)
def zCd (y0 : List vM) : Option (List vM) :=
 (wI ([] : List vM) y0).bind fun x1 =>
 some x1
def zBo (y0 : List yV) : Option (List yV) :=
 (wI ([] : List yV) y0).bind fun x1 =>
 some x1
def zEP (y0 : List wK) : Option (List wK) :=
 (wI ([] : List wK) y0).bind fun x1 =>
 some x1
def zFp (y0 : zR) (x1 : wK) (y1 : List zM) (s3 : Int × (List wK)) (s4 : Int × (List wK)) : Option ((Int × (List wK)) ⊕ ((Int × (List wK)) ⊕ (List wK))) :=
 if decide (s4.1 < (len y0.2.2)) then
 (zG y0.2.2 s4.1).bind fun x3 =>
 (
 if !x1.2.1 then
 if x3.1 == x1.1 then
 (zEO y1 x3.2.2).bind fun r11 =>
 some r11
 else
 some false
 else
 some false : Option Bool).bind fun s5 =>
 if s5 then
 (zG s4.2 s3.1).bind fun x4 =>
 some (.inl (zQ (s4.1 + 1), List.set s4.2 (Int.toNat s3.1) (x4.1, x4.2.1, x3.2.1, x4.2.2.2.1, x4.2.2.2.2)))
 else
 some (.inl (zQ (s4.1 + 1), s4.2))
 else
 some (.inr (.inl (zQ (s3.1 + 1), s4.2)))
def zDG (y0 : zR) (y1 : List zM) (s3 : Int × (List wK)) : Option ((Int × (List wK)) ⊕ (List wK)) :=
 if decide (s3.1 < (len y0.2.1)) then
 (zG y0.2.1 s3.1).bind fun x1 =>
 (zBY x1.2.2.2.1).bind fun r10 =>
 (zG s3.2 s3.1).bind fun x2 =>
 zW (zFp y0 x1 y1 s3) (0, List.set s3.2 (Int.toNat s3.1) (x2.1, x2.2.1, x2.2.2.1, r10, x2.2.2.2.2))
 else
 some (.inr s3.2)
def zFT (y0 : zR) (y1 : List zM) : Option zR :=
 (
 (zCd y0.1).bind fun r1 =>
 (zEP y0.2.1).bind fun r2 =>
 (zBo y0.2.2).bind fun r3 =>
 some (r1, r2, r3) : Option zR).bind fun s1 =>
 (zW (zDG y0 y1) (0, s1.2.1) : Option (List wK)).bind fun s2 =>
 some (s1.1, s2, s1.2.2)
def zCw (y0 : zR) (y1 : vF) : Option (zBP × Int) :=
 (zCv y0).bind fun r1 =>
 if r1.2 != 0 then
 some (((([] : List vM), ([] : List wK), ([] : List yV)), ([] : List zL), ([] : List qZ), (0, ([] : List wH))), r1.2)
 else
 if if y1.1 != 1 then (y1.1 != 2) || ((y1.2 != 1) && (y1.2 != 2)) else (y1.2 != 1) && (y1.2 != 2) then
 some (((([] : List vM), ([] : List wK), ([] : List yV)), ([] : List zL), ([] : List qZ), (0, ([] : List wH))), 4)
 else
 (zEd y0 r1.1 y1).bind fun r2 =>
 (zGU (len r1.1) r2).bind fun r3 =>
 if r3.2 != 0 then
 some (((([] : List vM), ([] : List wK), ([] : List yV)), ([] : List zL), ([] : List qZ), (0, ([] : List wH))), r3.2)
 else
 (zEn r3.1).bind fun r4 =>
 (zBw r4 1).bind fun r5 =>
 (zB0 r1.1 r5).bind fun r6 =>
 (zFT y0 r6).bind fun r7 =>
 (zEd r7 r1.1 y1).bind fun r8 =>
 (zGU (len r1.1) r8).bind fun r9 =>
 if r9.2 != 0 then
 some (((([] : List vM), ([] : List wK), ([] : List yV)), ([] : List zL), ([] : List qZ), (0, ([] : List wH))), r9.2)
 else
 some ((r7, r1.1, r8, r9.1), 0)
def zCl : Option Unit :=
 some ()
def zCQ : Option Unit :=
 some ()
def zDu : Option Unit :=
 some ()
def zEE : Option Unit :=
 some ()
def zEF : Option Unit :=
 some ()
def zDC : Option Unit :=
 zEF.bind fun _ =>
 some ()
def zDU : Option Unit :=
 some ()
def zF8 : Option Unit :=
 zDU.bind fun _ =>
 some ()
def zDV : Option Unit :=
 some ()
def zFj : Option Unit :=
 zDV.bind fun _ =>
 some ()
def zI6 : Option Unit :=
 zDC.bind fun _ =>
 zEE.bind fun _ =>
 zCl.bind fun _ =>
 zDu.bind fun _ =>
 zCQ.bind fun _ =>
 zFj.bind fun _ =>
 zF8.bind fun _ =>
 some ()
def zH7 (y0 : wT) : Option ((List Int) × Int) :=
 (zEn y0).bind fun r1 =>
 some (r1, 0)
def zA3 (y0 : wT) : Option ((List (List Int)) × Int) :=
 (zH7 y0).bind fun r1 =>
 if r1.2 != 0 then
 some (([] : List (List Int)), r1.2)
 else
 some (([r1.1] : List (List Int)), 0)
def zA2 (r1 : (List (List Int)) × Int) (s1 : (List (List Int)) × Int) : Option (((List (List Int)) × Int) ⊕ ((List (List Int)) × Int)) :=
 if decide (s1.2 < (len r1.1)) then
 (zG r1.1 s1.2).bind fun x1 =>
 (zBw x1 1).bind fun r2 =>
 (wI s1.1 ([r2] : List (List Int))).bind fun x2 =>
 some (.inl (x2, zQ (s1.2 + 1)))
 else
 some (.inr (s1.1, 0))
def zAi (y0 : wT) : Option ((List (List Int)) × Int) :=
 (zA3 y0).bind fun r1 =>
 if r1.2 != 0 then
 some (([] : List (List Int)), r1.2)
 else
 zW (zA2 r1) (([] : List (List Int)), 0)
def zEh (y0 : wT) : Option ((List (List Int)) × Int) :=
 none
def zGI (r1 : (List (List Int)) × Int) (s1 : (List (List Int)) × Int) : Option (((List (List Int)) × Int) ⊕ ((List (List Int)) × Int)) :=
 if decide (s1.2 < (len r1.1)) then
 (zG r1.1 s1.2).bind fun x1 =>
 (zBw x1 1).bind fun r2 =>
 (wI s1.1 ([r2] : List (List Int))).bind fun x2 =>
 some (.inl (x2, zQ (s1.2 + 1)))
 else
 some (.inr (s1.1, 0))
def zCn (y0 : wT) : Option ((List (List Int)) × Int) :=
 (zEh y0).bind fun r1 =>
 if r1.2 != 0 then
 some (([] : List (List Int)), r1.2)
 else
 zW (zGI r1) (([] : List (List Int)), 0)
def zEi (y0 : wT) : Option ((List (List Int)) × Int) :=
 none
def zGO (r1 : (List (List Int)) × Int) (s1 : (List (List Int)) × Int) : Option (((List (List Int)) × Int) ⊕ ((List (List Int)) × Int)) :=
 if decide (s1.2 < (len r1.1)) then
 (zG r1.1 s1.2).bind fun x1 =>
 (zBw x1 1).bind fun r2 =>
 (wI s1.1 ([r2] : List (List Int))).bind fun x2 =>
 some (.inl (x2, zQ (s1.2 + 1)))
 else
 some (.inr (s1.1, 0))
def zCm (y0 : wT) : Option ((List (List Int)) × Int) :=
 (zEi y0).bind fun r1 =>
 if r1.2 != 0 then
 some (([] : List (List Int)), r1.2)
 else
 zW (zGO r1) (([] : List (List Int)), 0)
def zCL (y0 : wT) : Option ((List (List Int)) × Int) :=
 none
def zBz (y0 : wT) : Option ((List (List Int)) × Int) :=
 none
def zCx (y0 : wT) : Option ((List (List Int)) × Int) :=
 none
def zDW (y0 : wT) : Option ((List (List Int)) × Int) :=
 none
def zBE (y0 : wT) (y1 : Int) : Option ((List (List Int)) × Int) :=
 (zAS y0).bind fun r1 =>
 if r1 != 0 then
 some (([] : List (List Int)), r1)
 else
 zI6.bind fun _ =>
 if (decide (y1 < 1)) || (decide (((10 : Nat) : Int) ≤ y1)) then
 some (([] : List (List Int)), 4)
 else
 (
 if y1 == 1 then
 (zAi y0).bind fun r3 =>
 some (r3.1, r3.2)
 else
 if y1 == 2 then
 (zDW y0).bind fun r4 =>
 some (r4.1, r4.2)
 else
 if y1 == 3 then
 (zCL y0).bind fun r5 =>
 some (r5.1, r5.2)
 else
 if y1 == 4 then
 (zCx y0).bind fun r6 =>
 some (r6.1, r6.2)
 else
 if y1 == 5 then
 (zBz y0).bind fun r7 =>
 some (r7.1, r7.2)
 else
 if y1 == 6 then
 (zCn y0).bind fun r8 =>
 some (r8.1, r8.2)
 else
 if y1 == 7 then
 (zCm y0).bind fun r9 =>
 some (r9.1, r9.2)
 else
 if y1 == 8 then
 none
 else
 if y1 == 9 then
 none
 else
 none : Option ((List (List Int)) × Int)).bind fun s1 =>
 some (s1.1, s1.2)
def zCD (r1 : (List (List Int)) × Int) (y0 : zBP) (s1 : (List (List zM)) × Int) : Option (((List (List zM)) × Int) ⊕ ((List (List zM)) × Int)) :=
 if decide (s1.2 < (len r1.1)) then
 (zG r1.1 s1.2).bind fun x1 =>
 (zB0 y0.2.1 x1).bind fun r2 =>
 (wI s1.1 ([r2] : List (List zM))).bind fun x2 =>
 some (.inl (x2, zQ (s1.2 + 1)))
 else
 some (.inr (s1.1, 0))
def zD4 (y0 : zBP) (y1 : Int) : Option ((List (List zM)) × Int) :=
 (zBE y0.2.2.2 y1).bind fun r1 =>
 if r1.2 != 0 then
 some (([] : List (List zM)), r1.2)
 else
 zW (zCD r1 y0) (([] : List (List zM)), 0)
def zCJ (y0 : Int) : Option (List zM) :=
 (
 if decide (y0 < 0) then
 none
 else
 some () : Option Unit).bind fun _ =>
 if decide (0 < (zQ (y0 - (zQ (((0 : Nat) : Int) - (len ([] : List zM))))))) then
 (mkS (zQ (y0 - (zQ (((0 : Nat) : Int) - (len ([] : List zM)))))) (zQ (y0 - (zQ (((0 : Nat) : Int) - (len ([] : List zM)))))) ((false, []) : zM)).bind fun x1 =>
 (sub x1 0 (len ([] : List zM))).bind fun x2 =>
 some x2
 else
 some ([] : List zM)
def zAt (y0 : List (List zM)) (s2 : Int × Int) : Option ((Int × Int) ⊕ Int) :=
 if decide (s2.2 < (len y0)) then
 (zG y0 s2.2).bind fun x1 =>
 if decide ((zQ (s2.1 + (len x1))) < 0) then
 none
 else
 some (.inl (zQ (s2.1 + (len x1)), zQ (s2.2 + 1)))
 else
 some (.inr s2.1)
def zBX (y0 : List (List zM)) (s3 : (List zM) × Int) : Option (((List zM) × Int) ⊕ (List zM)) :=
 if decide (s3.2 < (len y0)) then
 (zG y0 s3.2).bind fun x2 =>
 (wI s3.1 x2).bind fun x3 =>
 some (.inl (x3, zQ (s3.2 + 1)))
 else
 some (.inr s3.1)
def zCF (y0 : List (List zM)) : Option (List zM) :=
 (zW (zAt y0) (0, 0) : Option Int).bind fun s1 =>
 (zCJ s1).bind fun r1 =>
 zW (zBX y0) (r1, 0)
def zDN (y0 : List zM) (y1 : zM) : Option Bool :=
 (zEO y0 y1).bind fun r1 =>
 some (!r1)
def zCj (y0 : List (List zM)) (y1 : zM) (s1 : Int) : Option (Int ⊕ Int) :=
 if decide (s1 < (len y0)) then
 (zG y0 s1).bind fun x1 =>
 (zDN x1 y1).bind fun r1 =>
 if r1 then
 some (.inr s1)
 else
 some (.inl (zQ (s1 + 1)))
 else
 some (.inr (-1))
def zAy (y0 : List (List zM)) (y1 : zM) : Option Int :=
 zW (zCj y0 y1) 0
def zAP (y0 : List (List zM)) (y1 : zM) : Option Bool :=
 (zAy y0 y1).bind fun r1 =>
 some (decide (0 ≤ r1))
def zBa (y0 : zM) (y1 : Bool) (y2 : List (List zM)) : Option Bool :=
 (
 if y1 then
 (zAP y2 y0).bind fun r1 =>
 some r1
 else
 some false : Option Bool).bind fun s1 =>
 some s1
def zDE (y0 : List zM) (y1 : Bool) (y2 : List (List zM)) (s1 : Int) : Option (Int ⊕ Int) :=
 if decide (s1 < (len y0)) then
 (zG y0 s1).bind fun x1 =>
 (zBa x1 y1 y2).bind fun r1 =>
 if r1 then
 some (.inr s1)
 else
 some (.inl (zQ (s1 + 1)))
 else
 some (.inr (-1))
def zBI (y0 : List zM) (y1 : Bool) (y2 : List (List zM)) : Option Int :=
 zW (zDE y0 y1 y2) 0
def zCp (y0 : List zM) (y1 : Bool) (y2 : List (List zM)) (s2 : (List zM) × Int × Int) : Option (((List zM) × Int × Int) ⊕ ((List zM) × Int)) :=
 if decide (s2.2.2 < (len y0)) then
 (zG s2.1 s2.2.2).bind fun x1 =>
 (zBa x1 y1 y2).bind fun r2 =>
 if !r2 then
 (zG s2.1 s2.2.1).bind fun _ =>
 some (.inl (List.set s2.1 (Int.toNat s2.2.1) x1, zQ (s2.2.1 + 1), zQ (s2.2.2 + 1)))
 else
 some (.inl (s2.1, s2.2.1, zQ (s2.2.2 + 1)))
 else
 some (.inr (s2.1, s2.2.1))
def zAW (y0 : List zM) (y1 : Bool) (y2 : List (List zM)) : Option (List zM) :=
 (zBI y0 y1 y2).bind fun r1 =>
 if r1 == (-1) then
 some y0
 else
 (zW (zCp y0 y1 y2) (y0, r1, zQ (r1 + 1)) : Option ((List zM) × Int)).bind fun s1 =>
 (uH (decide (0 ≤ s1.2) && decide (s1.2 ≤ len s1.1))).bind fun _ =>
 (sub (zB1 s1.1 s1.2 (false, [])) 0 s1.2).bind fun x3 =>
 some x3
def zEA (y0 : zBP) (y1 : Int) (y2 : Bool) : Option ((List zM) × Int) :=
 (zD4 y0 y1).bind fun r1 =>
 if r1.2 != 0 then
 some (([] : List zM), r1.2)
 else
 (zCF r1.1).bind fun r2 =>
 (zEa r2).bind fun r3 =>
 (zAW r3 y2 r1.1).bind fun r4 =>
 some (r4, 0)
def zBe (y0 : zR) (y3 : List Int) (s2 : Int × (List vM)) : Option ((Int × (List vM)) ⊕ (List vM)) :=
 if decide (s2.1 < (len y0.1)) then
 (zG y0.1 s2.1).bind fun x1 =>
 (zBG y3 s2.1).bind fun r1 =>
 if !r1 then
 (wI s2.2 ([x1] : List vM)).bind fun x2 =>
 some (.inl (zQ (s2.1 + 1), x2))
 else
 some (.inl (zQ (s2.1 + 1), s2.2))
 else
 some (.inr s2.2)
def zCy (y0 : zR) (y1 : vF) (y2 : zM) (y3 : List Int) : Option Bool :=
 (zW (zBe y0 y3) (0, ([] : List vM)) : Option (List vM)).bind fun s1 =>
 (zCw (s1, y0.2.1, y0.2.2) y1).bind fun r2 =>
 if r2.2 != 0 then
 some false
 else
 (zEA r2.1 1 true).bind fun r3 =>
 (
 if r3.2 == 0 then
 (zEO r3.1 y2).bind fun r4 =>
 some r4
 else
 some false : Option Bool).bind fun s3 =>
 some s3
def zDM (y0 : List Int) (y1 : zR) (y2 : vF) (y3 : zM) (y4 : Bool) : Option Bool :=
 (zCy y1 y2 y3 y0).bind fun r1 =>
 some (!(r1 == y4))
def zA7 (y0 : List Int) (y1 : List (List Int)) (y3 : zR) (y4 : vF) (y5 : zM) (y6 : Bool) : Option (List (List Int)) :=
 (
 if decide (0 < (len y1)) then
 (zG y1 0).bind fun x1 =>
 if decide ((len x1) < (len y0)) then
 some true
 else
 (zDM y0 y3 y4 y5 y6).bind fun r1 =>
 some (!r1)
 else
 (zDM y0 y3 y4 y5 y6).bind fun r2 =>
 some (!r2) : Option Bool).bind fun s1 =>
 if s1 then
 some y1
 else
 (
 (
 if decide (0 < (len y1)) then
 (zG y1 0).bind fun x2 =>
 some (decide ((len y0) < (len x2)))
 else
 some false : Option Bool).bind fun s3 =>
 if s3 then
 some ([] : List (List Int))
 else
 some y1 : Option (List (List Int))).bind fun s2 =>
 (wI s2 ([y0] : List (List Int))).bind fun x3 =>
 some x3
def zC8 (y0 : List Int) (s1 : Int × (List (List Int))) (s3 : (List Int) × Int) : Option (((List Int) × Int) ⊕ (List Int)) :=
 if decide (s3.2 < (len y0)) then
 (zG y0 s3.2).bind fun x2 =>
 (zYZ .i64 s1.1 s3.2).bind fun x3 =>
 if (yF .i64 x3 1) == 1 then
 (wI s3.1 ([x2] : List Int)).bind fun x4 =>
 some (.inl (x4, zQ (s3.2 + 1)))
 else
 some (.inl (s3.1, zQ (s3.2 + 1)))
 else
 some (.inr s3.1)
def zA6 (x1 : Int) (y0 : List Int) (y3 : zR) (y4 : vF) (y5 : zM) (y6 : Bool) (s1 : Int × (List (List Int))) : Option ((Int × (List (List Int))) ⊕ (List (List Int))) :=
 if decide (s1.1 < x1) then
 (zW (zC8 y0 s1) (([] : List Int), 0) : Option (List Int)).bind fun s2 =>
 (zA7 s2 s1.2 y3 y4 y5 y6).bind fun r1 =>
 some (.inl (zQ (s1.1 + 1), r1))
 else
 some (.inr s1.2)
def zAj (y0 : List Int) (y1 : List (List Int)) (y3 : zR) (y4 : vF) (y5 : zM) (y6 : Bool) : Option (List (List Int)) :=
 (zVi .i64 1 (len y0)).bind fun x1 =>
 zW (zA6 x1 y0 y3 y4 y5 y6) (0, y1)
def zA4 (y0 : List Int) (y1 : List Int) (s2 : Int) : Option (Int ⊕ (Unit ⊕ Int)) :=
 if decide (s2 < (len y0)) then
 (zG y0 s2).bind fun x1 =>
 if decide ((len y1) ≤ s2) then
 some (.inr (.inr 1))
 else
 (zG y1 s2).bind fun x2 =>
 (zAR x1 x2).bind fun r1 =>
 if r1 != 0 then
 some (.inr (.inr r1))
 else
 some (.inl (zQ (s2 + 1)))
 else
 some (.inr (.inl ()))
def zAH (y0 : List Int) (y1 : List Int) : Option Int :=
 yO (zW (zA4 y0 y1) 0 : Option (Unit ⊕ Int)) fun _ =>
 if decide ((len y0) < (len y1)) then
 some (-1)
 else
 some 0
def zCM (y0 : List Int) (y1 : List Int) : Option Int :=
 (zAH y0 y1).bind fun r1 =>
 some r1
def zAB (y0 : List (List Int)) : Option (List (List Int)) := zSn zCM y0
def zBL (y0 : List Int) (y1 : zR) (y2 : vF) (y3 : zM) (y4 : Bool) : Option (List (List Int)) :=
 (zAj y0 ([] : List (List Int)) y1 y2 y3 y4).bind fun r1 =>
 (zAB r1).bind fun r2 =>
 some r2
def zC1 (y0 : zR) (s2 : (List Int) × Int) : Option (((List Int) × Int) ⊕ (List Int)) :=
 if decide (s2.2 < (len y0.1)) then
 (wI s2.1 ([s2.2] : List Int)).bind fun x1 =>
 some (.inl (x1, zQ (s2.2 + 1)))
 else
 some (.inr s2.1)
def zBu (y0 : zR) (y1 : vF) (y2 : zM) : Option ((List (List Int)) × Int) :=
 (zCw y0 y1).bind fun r1 =>
 if r1.2 != 0 then
 some (([] : List (List Int)), r1.2)
 else
 (zBc y2).bind fun r2 =>
 if !r2 then
 some (([] : List (List Int)), 3)
 else
 if decide (10 < (len y0.1)) then
 some (([] : List (List Int)), 2)
 else
 (zW (zC1 y0) (([] : List Int), 0) : Option (List Int)).bind fun s1 =>
 (zCy y0 y1 y2 ([] : List Int)).bind fun r3 =>
 (zBL s1 y0 y1 y2 r3).bind fun r4 =>
 if (len r4) == 0 then
 some (([] : List (List Int)), 9)
 else
 some (r4, 0)
def zLz (y0 : List Int) : Option uO :=
 (sub y0 0 (if 2000 < (len y0) then 2000 else len y0)).bind fun x1 =>
 some (x1, 0)
def zIw (y0 : Int) (y1 : Int) : Option Int :=
 if decide (y1 < 1) then
 some 0
 else
 (remK y0 y1).bind fun x1 =>
 if decide (x1 < 0) then
 some (zQ (x1 + y1))
 else
 some x1
def zDg (y0 : Int) : Option vD :=
 (zIw y0 26).bind fun r1 =>
 (cat [114] (zOY ([IntKind.u8.wrap (zQ (97 + r1))] : List Int))).bind fun x1 =>
 some x1
def zHw (y0 : uO) : Option (Int × Int) :=
 if decide ((len y0.1) ≤ y0.2) then
 some (0, y0.2)
 else
 (zG y0.1 (zQ ((zQ (y0.2 + 1)) - 1))).bind fun x1 =>
 some (x1, zQ (y0.2 + 1))
def xQ (y0 : uO) (y1 : Int) : Option (Int × Int) :=
 (zHw y0).bind fun r1 =>
 (zIw r1.1 y1).bind fun r2 =>
 some (r2, r1.2)
def zAg (y0 : uO) (y1 : Int) : Option (zM × Int) :=
 (xQ y0 (zQ (2 * y1))).bind fun r1 =>
 (quoK .i64 r1.1 2).bind fun x1 =>
 some (((yF .i64 r1.1 1) == 1, zOY ([IntKind.u8.wrap (zQ (97 + x1))] : List Int)), r1.2)
def zFJ (y0 : uO) (y2 : Int) (s1 : (List zM) × Int × Int) : Option (((List zM) × Int × Int) ⊕ ((List zM) × Int)) :=
 if decide (0 < s1.2.1) then
 (zAg (y0.1, s1.2.2) y2).bind fun r2 =>
 (wI s1.1 ([r2.1] : List zM)).bind fun x1 =>
 some (.inl (x1, zQ (s1.2.1 - 1), r2.2))
 else
 some (.inr (s1.1, s1.2.2))
def zE2 (y0 : uO) (y1 : Int) (y2 : Int) : Option ((List zM) × Int) :=
 (xQ y0 (zQ (y1 + 1))).bind fun r1 =>
 zW (zFJ y0 y2) (([] : List zM), r1.1, r1.2)
def zGz (y0 : uO) (y1 : List Int) : Option (Int × Int) :=
 (xQ y0 (len y1)).bind fun r1 =>
 (zG y1 r1.1).bind fun x1 =>
 some (x1, r1.2)
def zHU (y0 : uO) (y1 : List vD) : Option (vD × Int) :=
 (xQ y0 (len y1)).bind fun r1 =>
 (zG y1 r1.1).bind fun x1 =>
 some (x1, r1.2)
def zEt (s1 : (List zM) × Int) (x1 : zM) (s3 : Int) : Option (Int ⊕ Int) :=
 (
 if decide (s3 < (len s1.1)) then
 (zG s1.1 s3).bind fun x2 =>
 if uB x2.2 x1.2 then
 some true
 else
 (zG s1.1 s3).bind fun x3 =>
 if x3.2 == x1.2 then
 (zG s1.1 s3).bind fun x4 =>
 if !x4.1 then
 some x1.1
 else
 some false
 else
 some false
 else
 some false : Option Bool).bind fun s4 =>
 if s4 then
 some (.inl (zQ (s3 + 1)))
 else
 some (.inr s3)
def zGa (y0 : List zM) (s1 : (List zM) × Int) : Option (((List zM) × Int) ⊕ (List zM)) :=
 if decide (s1.2 < (len y0)) then
 (zG y0 s1.2).bind fun x1 =>
 (zW (zEt s1 x1) 0 : Option Int).bind fun s2 =>
 (
 if decide (s2 < (len s1.1)) then
 (zG s1.1 s2).bind fun x5 =>
 some (x5 == x1)
 else
 some false : Option Bool).bind fun s5 =>
 if s5 then
 some (.inl (s1.1, zQ (s1.2 + 1)))
 else
 (wI s1.1 ([(false, [])] : List zM)).bind fun x6 =>
 (uH (decide (0 ≤ (zQ (s2 + 1))) && decide ((zQ (s2 + 1)) ≤ len x6))).bind fun _ =>
 (uH (decide (0 ≤ s2) && decide (s2 ≤ len x6))).bind fun _ =>
 (zG (zGq x6 (zQ (s2 + 1)) (List.drop (Int.toNat s2) x6)) s2).bind fun _ =>
 some (.inl (List.set (zGq x6 (zQ (s2 + 1)) (List.drop (Int.toNat s2) x6)) (Int.toNat s2) x1, zQ (s1.2 + 1)))
 else
 some (.inr s1.1)
def zIm (y0 : List zM) : Option (List zM) :=
 zW (zGa y0) (([] : List zM), 0)
def zDB (s2 : Int × Int × (List vM)) (r2 : zM × Int) (s5 : Bool × Int) : Option ((Bool × Int) ⊕ Bool) :=
 if decide (s5.2 < (len s2.2.2)) then
 (zG s2.2.2 s5.2).bind fun x1 =>
 some (.inl (s5.1 || (x1.1 == r2.1), zQ (s5.2 + 1)))
 else
 some (.inr s5.1)
def zF0 (y0 : uO) (y1 : Int) (s2 : Int × Int × (List vM)) : Option ((Int × Int × (List vM)) ⊕ (Int × (List vM))) :=
 if decide (0 < s2.1) then
 (zAg (y0.1, s2.2.1) y1).bind fun r2 =>
 (zGz (y0.1, r2.2) ([1, 2, 2, 2, 3] : List Int)).bind fun r3 =>
 (zHU (y0.1, r3.2) ([[], [], [97, 110, 110], [98, 111, 98]] : List vD)).bind fun r4 =>
 (
 if r3.1 == 2 then
 (xQ (y0.1, r4.2) 4).bind fun r5 =>
 some (r5.2, r5.1)
 else
 some (r4.2, 0) : Option (Int × Int)).bind fun s3 =>
 (zW (zDB s2 r2) (false, 0) : Option Bool).bind fun s4 =>
 if !s4 then
 (wI s2.2.2 ([(r2.1, r3.1, s3.2, r4.1)] : List vM)).bind fun x2 =>
 some (.inl (zQ (s2.1 - 1), s3.1, x2))
 else
 some (.inl (zQ (s2.1 - 1), s3.1, s2.2.2))
 else
 some (.inr (s2.2.1, s2.2.2))
def zFQ (y0 : uO) (y1 : Int) (y3 : Int) (s7 : Int × Int × (List wK)) : Option ((Int × Int × (List wK)) ⊕ (Int × (List wK))) :=
 if decide (0 < s7.1) then
 (zDg (len s7.2.2)).bind fun r7 =>
 (xQ (y0.1, s7.2.1) 3).bind fun r8 =>
 (zE2 (y0.1, r8.2) 2 y1).bind fun r9 =>
 (zIm r9.1).bind fun r10 =>
 (zAg (y0.1, r9.2) y1).bind fun r11 =>
 (
 if !(r8.1 == 0) then
 (xQ (y0.1, r11.2) 4).bind fun r12 =>
 some (r12.2, r12.1)
 else
 some (r11.2, 0) : Option (Int × Int)).bind fun s8 =>
 (
 (xQ (y0.1, s8.1) 6).bind fun r13 =>
 if r13.1 == 5 then
 (xQ (y0.1, r13.2) 4).bind fun r14 =>
 (xQ (y0.1, r14.2) y3).bind fun r15 =>
 (zDg r15.1).bind fun r16 =>
 some (r15.2, decide (0 < r14.1), r16)
 else
 some (r13.2, r11.1.1, r11.1.2) : Option (Int × Bool × vD)).bind fun s9 =>
 (wI s7.2.2 ([(r7, r8.1 == 0, s8.2, r10, (s9.2.1, s9.2.2))] : List wK)).bind fun x3 =>
 some (.inl (zQ (s7.1 - 1), s9.1, x3))
 else
 some (.inr (s7.2.1, s7.2.2))
def zFX (s6 : Int × (List wK)) (y0 : uO) (y1 : Int) (s11 : Int × Int × (List yV)) : Option ((Int × Int × (List yV)) ⊕ (Int × (List yV))) :=
 if (decide (0 < s11.1)) && (decide (0 < (len s6.2))) then
 (
 (xQ (y0.1, s11.2.1) (len s6.2)).bind fun r18 =>
 (zG s6.2 r18.1).bind fun x4 =>
 some (r18.2, x4) : Option (Int × wK)).bind fun s12 =>
 if !s12.2.2.1 then
 (xQ (y0.1, s12.1) 10).bind fun r20 =>
 (zAg (y0.1, r20.2) y1).bind fun r21 =>
 (wI s11.2.2 ([(s12.2.1, r20.1, r21.1)] : List yV)).bind fun x6 =>
 some (.inl (zQ (s11.1 - 1), r21.2, x6))
 else
 some (.inl (zQ (s11.1 - 1), s12.1, s11.2.2))
 else
 some (.inr (s11.2.1, s11.2.2))
def zHT (y0 : uO) (y1 : Int) (y2 : Int) (y3 : Int) : Option (zR × Int) :=
 (
 (xQ y0 (zQ (y2 + 1))).bind fun r1 =>
 zW (zF0 y0 y1) (r1.1, r1.2, ([] : List vM)) : Option (Int × (List vM))).bind fun s1 =>
 (
 (xQ (y0.1, s1.1) (zQ (y3 + 1))).bind fun r6 =>
 zW (zFQ y0 y1 y3) (r6.1, r6.2, ([] : List wK)) : Option (Int × (List wK))).bind fun s6 =>
 (
 (xQ (y0.1, s6.1) 3).bind fun r17 =>
 zW (zFX s6 y0 y1) (r17.1, r17.2, ([] : List yV)) : Option (Int × (List yV))).bind fun s10 =>
 some ((s1.2, s6.2, s10.2), s10.1)
def zBs (y0 : uO) (y1 : Int) (y2 : Int) : Option (Int × Int) :=
 (xQ y0 (zQ ((zQ (y2 - y1)) + 1))).bind fun r1 =>
 some (zQ (y1 + r1.1), r1.2)
def zL4 (s1 : Int × (List Int)) : Option ((Int × (List Int)) ⊕ (List Int)) :=
 if s1.1 != 0 then
 (zAm s1.1).bind fun r1 =>
 (wI s1.2 ([r1] : List Int)).bind fun x1 =>
 some (.inl (yF .u64 s1.1 (IntKind.u64.wrap (s1.1 - 1)), x1))
 else
 some (.inr s1.2)
def zAe (y0 : Int) : Option (List Int) :=
 zW (zL4) (y0, ([] : List Int))
def zJX (r1 : (List Int)) (y0 : yK) (s1 : Int × Int) : Option ((Int × Int) ⊕ Int) :=
 if decide (s1.2 < (len r1)) then
 (zG r1 s1.2).bind fun x1 =>
 (zG y0.2.1 x1).bind fun x2 =>
 some (.inl (bor .u64 s1.1 x2, zQ (s1.2 + 1)))
 else
 some (.inr s1.1)
def zCE (y0 : yK) (y1 : Int) : Option Int :=
 (zAe y1).bind fun r1 =>
 zW (zJX r1 y0) (0, 0)
def zMO (r1 : (List Int)) (y0 : yK) (s1 : Int × Int) : Option ((Int × Int) ⊕ Int) :=
 if decide (s1.2 < (len r1)) then
 (zG r1 s1.2).bind fun x1 =>
 (zG y0.2.2 x1).bind fun x2 =>
 some (.inl (bor .u64 s1.1 x2, zQ (s1.2 + 1)))
 else
 some (.inr s1.1)
def zB5 (y0 : yK) (y1 : Int) : Option Int :=
 (zAe y1).bind fun r1 =>
 zW (zMO r1 y0) (0, 0)
def zDI (y0 : yK) (y1 : Int) : Option Bool :=
 (zB5 y0 y1).bind fun r1 =>
 some ((yF .u64 r1 y1) == 0)
def zBH (y0 : yK) (y1 : Int) : Option Bool :=
 (
 (zDI y0 y1).bind fun r1 =>
 if r1 then
 (zCE y0 y1).bind fun r2 =>
 (zB5 y0 y1).bind fun r3 =>
 some ((zGK .u64 r2 r3) == 0)
 else
 some false : Option Bool).bind fun s1 =>
 some s1
def zBq (y0 : Int) (y1 : Int) : Option Int :=
 (zVi .u64 1 (IntKind.u64.wrap (y1))).bind fun x1 =>
 some (bor .u64 y0 x1)
def zOr (y0 : List Int) (s1 : Int × Int) : Option ((Int × Int) ⊕ Int) :=
 if decide (s1.2 < (len y0)) then
 (zG y0 s1.2).bind fun x1 =>
 (zBq s1.1 x1).bind fun r1 =>
 some (.inl (r1, zQ (s1.2 + 1)))
 else
 some (.inr s1.1)
def zIN (y0 : List Int) : Option Int :=
 zW (zOr y0) (0, 0)
def zEB (y0 : Int) (y1 : Int) : Option Bool :=
 (zYZ .u64 y0 (IntKind.u64.wrap (y1))).bind fun x1 =>
 some ((yF .u64 x1 1) == 1)
def zDb (y0 : List Int) (y1 : Int) (y2 : yK) (y3 : List Int) : Option (List Int) :=
 (zIN y0).bind fun r1 =>
 (
 (zEB r1 y1).bind fun r2 =>
 if r2 then
 (zBH y2 r1).bind fun r3 =>
 some r3
 else
 some false : Option Bool).bind fun s1 =>
 if s1 then
 (wI y3 ([r1] : List Int)).bind fun x1 =>
 some x1
 else
 some y3
def zGR (y0 : List Int) (s1 : Int × (List Int)) (s3 : (List Int) × Int) : Option (((List Int) × Int) ⊕ (List Int)) :=
 if decide (s3.2 < (len y0)) then
 (zG y0 s3.2).bind fun x2 =>
 (zYZ .i64 s1.1 s3.2).bind fun x3 =>
 if (yF .i64 x3 1) == 1 then
 (wI s3.1 ([x2] : List Int)).bind fun x4 =>
 some (.inl (x4, zQ (s3.2 + 1)))
 else
 some (.inl (s3.1, zQ (s3.2 + 1)))
 else
 some (.inr s3.1)
def zAx (x1 : Int) (y0 : List Int) (y1 : Int) (y2 : yK) (s1 : Int × (List Int)) : Option ((Int × (List Int)) ⊕ (List Int)) :=
 if decide (s1.1 < x1) then
 (zW (zGR y0 s1) (([] : List Int), 0) : Option (List Int)).bind fun s2 =>
 (zDb s2 y1 y2 s1.2).bind fun r1 =>
 some (.inl (zQ (s1.1 + 1), r1))
 else
 some (.inr s1.2)
def zAf (y0 : List Int) (y1 : Int) (y2 : yK) (y3 : List Int) : Option (List Int) :=
 (zVi .i64 1 (len y0)).bind fun x1 =>
 zW (zAx x1 y0 y1 y2) (0, y3)
def zO9 (y0 : wT) (s3 : Int × Int) : Option ((Int × Int) ⊕ Int) :=
 if decide (s3.1 < y0.1) then
 (zBq s3.2 s3.1).bind fun r1 =>
 some (.inl (zQ (s3.1 + 1), r1))
 else
 some (.inr s3.2)
def zO3 (y0 : wT) (s5 : Int × (List Int) × (List Int)) : Option ((Int × (List Int) × (List Int)) ⊕ ((List Int) × (List Int))) :=
 if decide (s5.1 < (len y0.2)) then
 (zG y0.2 s5.1).bind fun x11 =>
 (zG s5.2.1 x11.2).bind fun x12 =>
 (zBq x12 x11.1).bind fun r2 =>
 (zG s5.2.1 x11.2).bind fun _ =>
 (zG s5.2.2 x11.1).bind fun x14 =>
 (zBq x14 x11.2).bind fun r3 =>
 (zG s5.2.2 x11.1).bind fun _ =>
 some (.inl (zQ (s5.1 + 1), List.set s5.2.1 (Int.toNat x11.2) r2, List.set s5.2.2 (Int.toNat x11.1) r3))
 else
 some (.inr (s5.2.1, s5.2.2))
def zHH (y0 : wT) : Option yK :=
 (
 (mkS y0.1 y0.1 (0 : Int)).bind fun x1 =>
 (mkS y0.1 y0.1 (0 : Int)).bind fun x2 =>
 some (0, x1, x2) : Option yK).bind fun s1 =>
 (zW (zO9 y0) (0, s1.1) : Option Int).bind fun s2 =>
 (zW (zO3 y0) (0, s1.2.1, s1.2.2) : Option ((List Int) × (List Int))).bind fun s4 =>
 some (s2, s4.1, s4.2)
def zIb (y0 : Int) (y1 : Int) : Option Bool :=
 some ((y0 != y1) && ((zGK .u64 y0 y1) == 0))
def zDz (y0 : List Int) (y1 : Int) (s1 : Int) : Option (Int ⊕ Int) :=
 if decide (s1 < (len y0)) then
 (zG y0 s1).bind fun x1 =>
 (zIb x1 y1).bind fun r1 =>
 if r1 then
 some (.inr s1)
 else
 some (.inl (zQ (s1 + 1)))
 else
 some (.inr (-1))
def zAM (y0 : List Int) (y1 : Int) : Option Int :=
 zW (zDz y0 y1) 0
def zAG (y0 : List Int) (y1 : Int) : Option Bool :=
 (zAM y0 y1).bind fun r1 =>
 some (decide (0 ≤ r1))
def zDc (y0 : List Int) (y1 : List Int) : Option Int :=
 (zAH y0 y1).bind fun r1 =>
 some r1
def zAO (y0 : List (List Int)) : Option (List (List Int)) := zSn zDc y0
def zFi (r4 : (List Int)) (s2 : (List (List Int)) × Int) : Option (((List (List Int)) × Int) ⊕ (List (List Int))) :=
 if decide (s2.2 < (len r4)) then
 (zG r4 s2.2).bind fun x1 =>
 (zAG r4 x1).bind fun r5 =>
 if !r5 then
 (zAe x1).bind fun r6 =>
 (wI s2.1 ([r6] : List (List Int))).bind fun x2 =>
 some (.inl (x2, zQ (s2.2 + 1)))
 else
 some (.inl (s2.1, zQ (s2.2 + 1)))
 else
 some (.inr s2.1)
def zF4 (y0 : wT) (y1 : Int) : Option ((List (List Int)) × Int) :=
 (zAS y0).bind fun r1 =>
 if r1 != 0 then
 some (([] : List (List Int)), r1)
 else
 if (decide (y1 < 0)) || (decide (y0.1 ≤ y1)) then
 some (([] : List (List Int)), 1)
 else
 if decide (10 < y0.1) then
 some (([] : List (List Int)), 2)
 else
 (zHH y0).bind fun r2 =>
 (zAe r2.1).bind fun r3 =>
 (zAf r3 y1 r2 ([] : List Int)).bind fun r4 =>
 (zW (zFi r4) (([] : List (List Int)), 0) : Option (List (List Int))).bind fun s1 =>
 (zAO s1).bind fun r7 =>
 some (r7, 0)
def zJm (r2 : (List Int)) (y0 : yK) (r1 : Int) (s3 : Int × Int) : Option ((Int × Int) ⊕ Int) :=
 if decide (s3.2 < (len r2)) then
 (zG r2 s3.2).bind fun x1 =>
 (zG y0.2.1 x1).bind fun x2 =>
 if (zGK .u64 x2 r1) == 0 then
 (zBq s3.1 x1).bind fun r3 =>
 some (.inl (r3, zQ (s3.2 + 1)))
 else
 some (.inl (s3.1, zQ (s3.2 + 1)))
 else
 some (.inr s3.1)
def zDQ (y0 : yK) (s1 : (List Int) × Int) : Option (((List Int) × Int) ⊕ (List Int)) :=
 (zB5 y0 s1.2).bind fun r1 =>
 (
 (zAe y0.1).bind fun r2 =>
 zW (zJm r2 y0 r1) (s1.2, 0) : Option Int).bind fun s2 =>
 if s2 == s1.2 then
 some (.inr s1.1)
 else
 (wI s1.1 ([s2] : List Int)).bind fun x3 =>
 some (.inl (x3, s2))
def zCc (y0 : yK) : Option (List Int) :=
 zW (zDQ y0) (([] : List Int), 0)
def zG4 (y0 : yK) : Option Int :=
 (zCc y0).bind fun r1 =>
 if (len r1) == 0 then
 some 0
 else
 (zG r1 (zQ ((len r1) - 1))).bind fun x1 =>
 some x1
def zBy (y0 : yK) (y1 : Int) : Option Bool :=
 (
 (zDI y0 y1).bind fun r1 =>
 if r1 then
 (zB5 y0 y1).bind fun r2 =>
 some ((zGK .u64 (zGK .u64 y0.1 y1) r2) == 0)
 else
 some false : Option Bool).bind fun s1 =>
 some s1
def zCe (y0 : Int) (y1 : Int) (y2 : yK) (y3 : Int) (y4 : Bool) (y5 : Bool) : Option (Bool × Bool) :=
 (
 if y1 == 1 then
 (zBH y2 y0).bind fun r1 =>
 if r1 then
 some true
 else
 if y1 != 1 then
 (zBy y2 y0).bind fun r2 =>
 some r2
 else
 some false
 else
 if y1 != 1 then
 (zBy y2 y0).bind fun r3 =>
 some r3
 else
 some false : Option Bool).bind fun s1 =>
 (
 if s1 then
 (zEB y0 y3).bind fun r4 =>
 some (!(r4 == y4))
 else
 some false : Option Bool).bind fun s2 =>
 if s2 then
 some (false, !y4)
 else
 some (true, y5)
def zA9 (y1 : Int) (y2 : yK) (y3 : Int) (y4 : Bool) (y0 : Int) (s1 : Int × Bool) : Option ((Int × Bool) ⊕ Bool) :=
 (
 (zCe s1.1 y1 y2 y3 y4 s1.2).bind fun r1 =>
 if !r1.1 then
 some (true, r1.2)
 else
 some (s1.1 == 0, r1.2) : Option (Bool × Bool)).bind fun s2 =>
 if s2.1 then
 some (.inr s2.2)
 else
 some (.inl (yF .u64 (IntKind.u64.wrap (s1.1 - 1)) y0, s2.2))
def zAT (y0 : Int) (y1 : Int) (y2 : yK) (y3 : Int) (y4 : Bool) (y5 : Bool) : Option Bool :=
 zW (zA9 y1 y2 y3 y4 y0) (y0, y5)
def zCB (y0 : yK) (y1 : Int) (y2 : Int) : Option Bool :=
 if y1 == 4 then
 (zG4 y0).bind fun r1 =>
 (zEB r1 y2).bind fun r2 =>
 some r2
 else
 (zAT y0.1 y1 y0 y2 (y1 == 3) (y1 == 3)).bind fun r3 =>
 some r3
def zKW (y0 : yK) (s1 : yK) (y1 : Int) (s3 : Int × (List Int) × (List Int)) : Option ((Int × (List Int) × (List Int)) ⊕ ((List Int) × (List Int))) :=
 if decide (s3.1 < (len y0.2.1)) then
 (zEB s1.1 s3.1).bind fun r1 =>
 if r1 then
 (zG y0.2.1 s3.1).bind fun x11 =>
 (zG y0.2.2 s3.1).bind fun x12 =>
 (zG s3.2.1 s3.1).bind fun _ =>
 (zG s3.2.2 s3.1).bind fun _ =>
 some (.inl (zQ (s3.1 + 1), List.set s3.2.1 (Int.toNat s3.1) (yF .u64 x11 y1), List.set s3.2.2 (Int.toNat s3.1) (yF .u64 x12 y1)))
 else
 some (.inl (zQ (s3.1 + 1), s3.2.1, s3.2.2))
 else
 some (.inr (s3.2.1, s3.2.2))
def zD7 (y0 : yK) (y1 : Int) : Option yK :=
 (
 (mkS (len y0.2.1) (len y0.2.1) (0 : Int)).bind fun x1 =>
 (mkS (len y0.2.1) (len y0.2.1) (0 : Int)).bind fun x2 =>
 some (yF .u64 y0.1 y1, x1, x2) : Option yK).bind fun s1 =>
 (zW (zKW y0 s1 y1) (0, s1.2.1, s1.2.2) : Option ((List Int) × (List Int))).bind fun s2 =>
 some (s1.1, s2.1, s2.2)
def zBx (y0 : List Int) (y1 : yK) (y2 : Int) (y3 : Int) (y4 : Bool) : Option Bool :=
 (zIN y0).bind fun r1 =>
 (zD7 y1 (zGK .u64 y1.1 r1)).bind fun r2 =>
 (zCB r2 y2 y3).bind fun r3 =>
 some (!(r3 == y4))
def zAX (y0 : List Int) (y1 : List (List Int)) (y3 : yK) (y4 : Int) (y5 : Int) (y6 : Bool) : Option (List (List Int)) :=
 (
 if decide (0 < (len y1)) then
 (zG y1 0).bind fun x1 =>
 if decide ((len x1) < (len y0)) then
 some true
 else
 (zBx y0 y3 y4 y5 y6).bind fun r1 =>
 some (!r1)
 else
 (zBx y0 y3 y4 y5 y6).bind fun r2 =>
 some (!r2) : Option Bool).bind fun s1 =>
 if s1 then
 some y1
 else
 (
 (
 if decide (0 < (len y1)) then
 (zG y1 0).bind fun x2 =>
 some (decide ((len y0) < (len x2)))
 else
 some false : Option Bool).bind fun s3 =>
 if s3 then
 some ([] : List (List Int))
 else
 some y1 : Option (List (List Int))).bind fun s2 =>
 (wI s2 ([y0] : List (List Int))).bind fun x3 =>
 some x3
def zH3 (y0 : List Int) (s1 : Int × (List (List Int))) (s3 : (List Int) × Int) : Option (((List Int) × Int) ⊕ (List Int)) :=
 if decide (s3.2 < (len y0)) then
 (zG y0 s3.2).bind fun x2 =>
 (zYZ .i64 s1.1 s3.2).bind fun x3 =>
 if (yF .i64 x3 1) == 1 then
 (wI s3.1 ([x2] : List Int)).bind fun x4 =>
 some (.inl (x4, zQ (s3.2 + 1)))
 else
 some (.inl (s3.1, zQ (s3.2 + 1)))
 else
 some (.inr s3.1)
def zBO (x1 : Int) (y0 : List Int) (y3 : yK) (y4 : Int) (y5 : Int) (y6 : Bool) (s1 : Int × (List (List Int))) : Option ((Int × (List (List Int))) ⊕ (List (List Int))) :=
 if decide (s1.1 < x1) then
 (zW (zH3 y0 s1) (([] : List Int), 0) : Option (List Int)).bind fun s2 =>
 (zAX s2 s1.2 y3 y4 y5 y6).bind fun r1 =>
 some (.inl (zQ (s1.1 + 1), r1))
 else
 some (.inr s1.2)
def zAv (y0 : List Int) (y1 : List (List Int)) (y3 : yK) (y4 : Int) (y5 : Int) (y6 : Bool) : Option (List (List Int)) :=
 (zVi .i64 1 (len y0)).bind fun x1 =>
 zW (zBO x1 y0 y3 y4 y5 y6) (0, y1)
def zA1 (y0 : List Int) (y1 : yK) (y2 : Int) (y3 : Int) (y4 : Bool) : Option (List (List Int)) :=
 (zAv y0 ([] : List (List Int)) y1 y2 y3 y4).bind fun r1 =>
 (zAB r1).bind fun r2 =>
 some r2
def zJ0 (y0 : Int) : Option Bool :=
 some ((decide (1 ≤ y0)) && (decide (y0 ≤ 4)))
def zGQ (y0 : Int) (y1 : Int) : Option Bool :=
 some (y0 == y1)
def zDd (y0 : List Int) (y1 : Int) (s1 : Int) : Option (Int ⊕ Int) :=
 if decide (s1 < (len y0)) then
 (zG y0 s1).bind fun x1 =>
 (zGQ x1 y1).bind fun r1 =>
 if r1 then
 some (.inr s1)
 else
 some (.inl (zQ (s1 + 1)))
 else
 some (.inr (-1))
def zAL (y0 : List Int) (y1 : Int) : Option Int :=
 zW (zDd y0 y1) 0
def zD0 (y0 : List Int) (y1 : Int) (s2 : (List Int) × Int × Int) : Option (((List Int) × Int × Int) ⊕ ((List Int) × Int)) :=
 if decide (s2.2.2 < (len y0)) then
 (zG s2.1 s2.2.2).bind fun x1 =>
 (zGQ x1 y1).bind fun r2 =>
 if !r2 then
 (zG s2.1 s2.2.1).bind fun _ =>
 some (.inl (List.set s2.1 (Int.toNat s2.2.1) x1, zQ (s2.2.1 + 1), zQ (s2.2.2 + 1)))
 else
 some (.inl (s2.1, s2.2.1, zQ (s2.2.2 + 1)))
 else
 some (.inr (s2.1, s2.2.1))
def zAJ (y0 : List Int) (y1 : Int) : Option (List Int) :=
 (zAL y0 y1).bind fun r1 =>
 if r1 == (-1) then
 some y0
 else
 (zW (zD0 y0 y1) (y0, r1, zQ (r1 + 1)) : Option ((List Int) × Int)).bind fun s1 =>
 (uH (decide (0 ≤ s1.2) && decide (s1.2 ≤ len s1.1))).bind fun _ =>
 (sub (zB1 s1.1 s1.2 0) 0 s1.2).bind fun x3 =>
 some x3
def zFY (y0 : wT) (y1 : Int) (y2 : Int) : Option ((List (List Int)) × Int) :=
 (zAS y0).bind fun r1 =>
 if r1 != 0 then
 some (([] : List (List Int)), r1)
 else
 (zJ0 y1).bind fun r2 =>
 if !r2 then
 some (([] : List (List Int)), 4)
 else
 if (decide (y2 < 0)) || (decide (y0.1 ≤ y2)) then
 some (([] : List (List Int)), 1)
 else
 if decide (10 < y0.1) then
 some (([] : List (List Int)), 2)
 else
 (zHH y0).bind fun r3 =>
 (zCB r3 y1 y2).bind fun r4 =>
 (zAe r3.1).bind fun r5 =>
 (zAJ r5 y2).bind fun r6 =>
 (zA1 r6 r3 y1 y2 r4).bind fun r7 =>
 if (len r7) == 0 then
 some (([] : List (List Int)), 9)
 else
 some (r7, 0)
def zPu (y0 : List Int) (y1 : List Int) (s1 : Int) : Option (Int ⊕ Bool) :=
 if decide (s1 < (len y0)) then
 (zG y0 s1).bind fun x1 =>
 (zG y1 s1).bind fun x2 =>
 if x1 != x2 then
 some (.inr false)
 else
 some (.inl (zQ (s1 + 1)))
 else
 some (.inr true)
def zKi (y0 : List Int) (y1 : List Int) : Option Bool :=
 if (len y0) != (len y1) then
 some false
 else
 zW (zPu y0 y1) 0
def zJJ (y0 : List (List Int)) (y1 : List (List Int)) (s1 : Int) : Option (Int ⊕ Bool) :=
 if decide (s1 < (len y0)) then
 (zG y0 s1).bind fun x1 =>
 (zG y1 s1).bind fun x2 =>
 (zKi x1 x2).bind fun r1 =>
 if !r1 then
 some (.inr false)
 else
 some (.inl (zQ (s1 + 1)))
 else
 some (.inr true)
def zIW (y0 : List (List Int)) (y1 : List (List Int)) : Option Bool :=
 if (len y0) != (len y1) then
 some false
 else
 zW (zJJ y0 y1) 0
def zDJ : Option Bool :=
 (zFY (2, ([(0, 1)] : List wH)) 4 1).bind fun r1 =>
 (zF4 (3, ([(0, 1), (1, 2)] : List wH)) 2).bind fun r2 =>
 (
 if r1.2 == 0 then
 if r2.2 == 0 then
 (zIW r1.1 ([([0] : List Int)] : List (List Int))).bind fun r3 =>
 if r3 then
 (zIW r2.1 ([([0, 2] : List Int)] : List (List Int))).bind fun r4 =>
 some r4
 else
 some false
 else
 some false
 else
 some false : Option Bool).bind fun s1 =>
 some s1
def zHz (y0 : List zM) (y1 : zM) (s1 : Int) : Option (Int ⊕ Bool) :=
 if decide (s1 < (len y0)) then
 (zG y0 s1).bind fun x1 =>
 if x1 == y1 then
 some (.inr true)
 else
 some (.inl (zQ (s1 + 1)))
 else
 some (.inr false)
def zKl (y0 : List zM) (y1 : zM) : Option Bool :=
 zW (zHz y0 y1) 0
def zHY (y0 : zR) (s3 : Int × (List wK)) : Option ((Int × (List wK)) ⊕ (List wK)) :=
 if decide (s3.1 < (len y0.2.1)) then
 (zG y0.2.1 s3.1).bind fun x27 =>
 (wI ([] : List zM) x27.2.2.2.1).bind fun x28 =>
 (wI s3.2 ([(x27.1, x27.2.1, x27.2.2.1, x28, x27.2.2.2.2)] : List wK)).bind fun x29 =>
 some (.inl (zQ (s3.1 + 1), x29))
 else
 some (.inr s3.2)
def zJd (y0 : zR) : Option zR :=
 (
 (wI ([] : List vM) y0.1).bind fun x1 =>
 (wI ([] : List yV) y0.2.2).bind fun x2 =>
 some (x1, ([] : List wK), x2) : Option zR).bind fun s1 =>
 (zW (zHY y0) (0, s1.2.1) : Option (List wK)).bind fun s2 =>
 some (s1.1, s2, s1.2.2)
def zHE (y0 : zR) (s2 : Int × (List wK)) (y1 : List zM) (s3 : Int × (List wK)) : Option ((Int × (List wK)) ⊕ ((Int × (List wK)) ⊕ (List wK))) :=
 if decide (s3.1 < (len y0.2.2)) then
 (zG y0.2.2 s3.1).bind fun x1 =>
 (
 (zG s3.2 s2.1).bind fun x2 =>
 if x1.1 == x2.1 then
 (zG s3.2 s2.1).bind fun x3 =>
 if !x3.2.1 then
 (zKl y1 x1.2.2).bind fun r2 =>
 some r2
 else
 some false
 else
 some false : Option Bool).bind fun s4 =>
 if s4 then
 (zG s3.2 s2.1).bind fun x4 =>
 some (.inl (zQ (s3.1 + 1), List.set s3.2 (Int.toNat s2.1) (x4.1, x4.2.1, x1.2.1, x4.2.2.2.1, x4.2.2.2.2)))
 else
 some (.inl (zQ (s3.1 + 1), s3.2))
 else
 some (.inr (.inl (zQ (s2.1 + 1), s3.2)))
def zFU (y0 : zR) (y1 : List zM) (s2 : Int × (List wK)) : Option ((Int × (List wK)) ⊕ (List wK)) :=
 if decide (s2.1 < (len s2.2)) then
 zW (zHE y0 s2 y1) (0, s2.2)
 else
 some (.inr s2.2)
def zH0 (y0 : zR) (y1 : List zM) : Option zR :=
 (zJd y0).bind fun r1 =>
 (zW (zFU y0 y1) (0, r1.2.1) : Option (List wK)).bind fun s1 =>
 some (r1.1, s1, r1.2.2)
def zDa (y0 : vD) (s2 : Int) : Option (Int ⊕ Bool) :=
 if decide (s2 < (len y0)) then
 (
 (zR3 y0 s2).bind fun x3 =>
 if decide (x3 < 97) then
 (zR3 y0 s2).bind fun x4 =>
 if decide (x4 < 48) then
 (zR3 y0 s2).bind fun x5 =>
 some (x5 != 95)
 else
 (zR3 y0 s2).bind fun x6 =>
 if decide (57 < x6) then
 (zR3 y0 s2).bind fun x7 =>
 some (x7 != 95)
 else
 some false
 else
 (zR3 y0 s2).bind fun x8 =>
 if decide (122 < x8) then
 (zR3 y0 s2).bind fun x9 =>
 if decide (x9 < 48) then
 (zR3 y0 s2).bind fun x10 =>
 some (x10 != 95)
 else
 (zR3 y0 s2).bind fun x11 =>
 if decide (57 < x11) then
 (zR3 y0 s2).bind fun x12 =>
 some (x12 != 95)
 else
 some false
 else
 some false : Option Bool).bind fun s3 =>
 if s3 then
 some (.inr false)
 else
 some (.inl (zQ (s2 + 1)))
 else
 some (.inr true)
def zB3 (y0 : vD) : Option Bool :=
 (
 if decide ((len y0) < 1) then
 some true
 else
 if decide (12 < (len y0)) then
 some true
 else
 (zR3 y0 0).bind fun x1 =>
 if decide (x1 < 97) then
 some true
 else
 (zR3 y0 0).bind fun x2 =>
 some (decide (122 < x2)) : Option Bool).bind fun s1 =>
 if s1 then
 some false
 else
 zW (zDa y0) 0
def zCI (y0 : zM) : Option Bool :=
 (zB3 y0.2).bind fun r1 =>
 some r1
def zHI (y0 : zR) (y1 : vD) (s1 : Int) : Option (Int ⊕ Int) :=
 if decide (s1 < (len y0.2.1)) then
 (zG y0.2.1 s1).bind fun x1 =>
 if x1.1 == y1 then
 some (.inr s1)
 else
 some (.inl (zQ (s1 + 1)))
 else
 some (.inr (-1))
def zJ3 (y0 : zR) (y1 : vD) : Option Int :=
 zW (zHI y0 y1) 0
def zFL (y0 : zR) (y1 : zM) (s1 : Int) : Option (Int ⊕ Int) :=
 if decide (s1 < (len y0.1)) then
 (zG y0.1 s1).bind fun x1 =>
 if x1.1 == y1 then
 some (.inr s1)
 else
 some (.inl (zQ (s1 + 1)))
 else
 some (.inr (-1))
def zJE (y0 : zR) (y1 : zM) : Option Int :=
 zW (zFL y0 y1) 0
def zFc (y0 : Int) : Option Bool :=
 some ((decide (0 ≤ y0)) && (decide (y0 ≤ 9)))
def zHB (y0 : vM) : Option Int :=
 if (decide (y0.2.1 < 1)) || (decide (3 < y0.2.1)) then
 some 4
 else
 (
 (zCI y0.1).bind fun r1 =>
 if !r1 then
 some true
 else
 (zFc y0.2.2.1).bind fun r2 =>
 if !r2 then
 some true
 else
 if y0.2.1 != 2 then
 if y0.2.2.1 != 0 then
 some true
 else
 if !(y0.2.2.2 == []) then
 (zB3 y0.2.2.2).bind fun r3 =>
 some (!r3)
 else
 some false
 else
 if !(y0.2.2.2 == []) then
 (zB3 y0.2.2.2).bind fun r4 =>
 some (!r4)
 else
 some false : Option Bool).bind fun s1 =>
 if s1 then
 some 1
 else
 some 0
def zFa (y0 : zM) (y1 : zM) : Option Int :=
 if y0 == y1 then
 some 0
 else
 if (uB y0.2 y1.2) || ((y0.2 == y1.2) && y1.1) then
 some (-1)
 else
 some 1
def zHA (y0 : wK) (s3 : Bool × Int) : Option ((Bool × Int) ⊕ Bool) :=
 if decide (s3.2 < (len y0.2.2.2.1)) then
 (
 if s3.1 then
 (zG y0.2.2.2.1 s3.2).bind fun x1 =>
 (zCI x1).bind fun r5 =>
 some r5
 else
 some false : Option Bool).bind fun s4 =>
 some (.inl (s4, zQ (s3.2 + 1)))
 else
 some (.inr s3.1)
def zHD (y0 : wK) (s5 : Int) : Option (Int ⊕ Int) :=
 if decide (s5 < (len y0.2.2.2.1)) then
 (zG y0.2.2.2.1 (zQ (s5 - 1))).bind fun x2 =>
 (zG y0.2.2.2.1 s5).bind fun x3 =>
 (zFa x2 x3).bind fun r6 =>
 if decide (0 ≤ r6) then
 some (.inr 8)
 else
 some (.inl (zQ (s5 + 1)))
 else
 some (.inr 0)
def zJh (y0 : wK) : Option Int :=
 if decide (4 < (len y0.2.2.2.1)) then
 some 2
 else
 (
 (zB3 y0.1).bind fun r1 =>
 if r1 then
 (zFc y0.2.2.1).bind fun r2 =>
 if r2 then
 if !y0.2.1 then
 (zCI y0.2.2.2.2).bind fun r3 =>
 some r3
 else
 if y0.2.2.1 == 0 then
 (zCI y0.2.2.2.2).bind fun r4 =>
 some r4
 else
 some false
 else
 some false
 else
 some false : Option Bool).bind fun s1 =>
 (zW (zHA y0) (s1, 0) : Option Bool).bind fun s2 =>
 if !s2 then
 some 1
 else
 zW (zHD y0) 1
def zEN (y0 : zR) (s2 : Int) : Option (Int ⊕ (Unit ⊕ Int)) :=
 if decide (s2 < (len y0.1)) then
 (zG y0.1 s2).bind fun x1 =>
 (zHB x1).bind fun r1 =>
 if r1 != 0 then
 some (.inr (.inr r1))
 else
 (zG y0.1 s2).bind fun x2 =>
 (zJE y0 x2.1).bind fun r2 =>
 if decide (r2 < s2) then
 some (.inr (.inr 5))
 else
 some (.inl (zQ (s2 + 1)))
 else
 some (.inr (.inl ()))
def zEV (y0 : zR) (s4 : Int) : Option (Int ⊕ (Unit ⊕ Int)) :=
 if decide (s4 < (len y0.2.1)) then
 (zG y0.2.1 s4).bind fun x3 =>
 (zJh x3).bind fun r3 =>
 if r3 != 0 then
 some (.inr (.inr r3))
 else
 (zG y0.2.1 s4).bind fun x4 =>
 (zJ3 y0 x4.1).bind fun r4 =>
 if decide (r4 < s4) then
 some (.inr (.inr 5))
 else
 some (.inl (zQ (s4 + 1)))
 else
 some (.inr (.inl ()))
def zET (y0 : zR) (s5 : Int) : Option (Int ⊕ Int) :=
 if decide (s5 < (len y0.2.2)) then
 (zG y0.2.2 s5).bind fun x5 =>
 (
 (zFc x5.2.1).bind fun r5 =>
 if !r5 then
 some true
 else
 (zCI x5.2.2).bind fun r6 =>
 some (!r6) : Option Bool).bind fun s6 =>
 if s6 then
 some (.inr 1)
 else
 (zJ3 y0 x5.1).bind fun r7 =>
 if decide (r7 < 0) then
 some (.inr 6)
 else
 (zG y0.2.1 r7).bind fun x6 =>
 if x6.2.1 then
 some (.inr 4)
 else
 some (.inl (zQ (s5 + 1)))
 else
 some (.inr 0)
def zEp (y0 : zR) : Option Int :=
 if (decide (16 < (len y0.1))) || ((decide (24 < (len y0.2.1))) || (decide (8 < (len y0.2.2)))) then
 some 2
 else
 yO (zW (zEN y0) 0 : Option (Unit ⊕ Int)) fun _ =>
 yO (zW (zEV y0) 0 : Option (Unit ⊕ Int)) fun _ =>
 zW (zET y0) 0
def zDw (y0 : List Int) (y1 : Int) (s2 : Int) : Option (Int ⊕ Int) :=
 (
 if decide (s2 < (len y0)) then
 (zG y0 s2).bind fun x1 =>
 some (decide (x1 < y1))
 else
 some false : Option Bool).bind fun s3 =>
 if s3 then
 some (.inl (zQ (s2 + 1)))
 else
 some (.inr s2)
def zFF (y0 : List Int) (y1 : Int) : Option (List Int) :=
 (zW (zDw y0 y1) 0 : Option Int).bind fun s1 =>
 (
 if decide (s1 < (len y0)) then
 (zG y0 s1).bind fun x2 =>
 some (x2 == y1)
 else
 some false : Option Bool).bind fun s4 =>
 if s4 then
 some y0
 else
 (sub y0 0 s1).bind fun x3 =>
 (wI ([] : List Int) x3).bind fun x4 =>
 (sub y0 s1 (len y0)).bind fun x5 =>
 (wI x4 ([y1] : List Int)).bind fun x6 =>
 (wI x6 x5).bind fun x7 =>
 some x7
def zG8 (y1 : List Int) (s1 : (List Int) × Int) : Option (((List Int) × Int) ⊕ (List Int)) :=
 if decide (s1.2 < (len y1)) then
 (zG y1 s1.2).bind fun x1 =>
 (zFF s1.1 x1).bind fun r1 =>
 some (.inl (r1, zQ (s1.2 + 1)))
 else
 some (.inr s1.1)
def zIl (y0 : List Int) (y1 : List Int) : Option (List Int) :=
 zW (zG8 y1) (y0, 0)
def zH9 (y0 : List zL) (y1 : Int) (rec_ref07_Subs : (List zL) → Int → Option (List Int)) (s1 : (List Int) × Int) : Option (((List Int) × Int) ⊕ (List Int)) :=
 (zG y0 y1).bind fun x1 =>
 if decide (s1.2 < (len x1.2.2.1)) then
 (zG y0 y1).bind fun x2 =>
 (zG x2.2.2.1 s1.2).bind fun x3 =>
 (rec_ref07_Subs y0 x3).bind fun r1 =>
 (zIl s1.1 r1).bind fun r2 =>
 some (.inl (r2, zQ (s1.2 + 1)))
 else
 some (.inr s1.1)
def zJk (rec_ref07_Subs : (List zL) → Int → Option (List Int)) (y0 : List zL) (y1 : Int) : Option (List Int) :=
 if (decide (y1 < 0)) || (decide ((len y0) ≤ y1)) then
 some ([] : List Int)
 else
 zW (zH9 y0 y1 rec_ref07_Subs) (([y1] : List Int), 0)
def zFd : Nat → (List zL) → Int → Option (List Int)
 | 0 => fun _ _ => none
 | k + 1 => fun y0 y1 => zJk (zFd k) y0 y1
def zI2 (y0 : List zL) (y1 : Int) : Option (List Int) := zUN fun k => zFd k y0 y1
def zDD (r1 : (List Int)) (y1 : List zL) (y0 : zR) (s1 : (List Int) × Int) : Option (((List Int) × Int) ⊕ (List Int)) :=
 if decide (s1.2 < (len r1)) then
 (zG r1 s1.2).bind fun x1 =>
 (
 (zG y1 x1).bind fun x2 =>
 if decide (0 ≤ x2.2.1) then
 (zG y1 x1).bind fun x3 =>
 (zG y0.2.1 x3.2.1).bind fun x4 =>
 some (!x4.2.1)
 else
 some false : Option Bool).bind fun s2 =>
 if s2 then
 (zG y1 x1).bind fun x5 =>
 (zFF s1.1 x5.2.1).bind fun r2 =>
 some (.inl (r2, zQ (s1.2 + 1)))
 else
 some (.inl (s1.1, zQ (s1.2 + 1)))
 else
 some (.inr s1.1)
def zBj (y0 : zR) (y1 : List zL) (y2 : Int) : Option (List Int) :=
 (zI2 y1 y2).bind fun r1 =>
 zW (zDD r1 y1 y0) (([] : List Int), 0)
def zDR (y1 : List zL) (y2 : Int) (rec_ref07_Run : zR → (List zL) → Int → Option (List zM)) (y0 : zR) (s2 : (List zM) × Int) : Option (((List zM) × Int) ⊕ (List zM)) :=
 (zG y1 y2).bind fun x5 =>
 if decide (s2.2 < (len x5.2.2.1)) then
 (zG y1 y2).bind fun x6 =>
 (zG x6.2.2.1 s2.2).bind fun x7 =>
 (rec_ref07_Run y0 y1 x7).bind fun r1 =>
 (wI s2.1 r1).bind fun x8 =>
 some (.inl (x8, zQ (s2.2 + 1)))
 else
 some (.inr s2.1)
def zEM (rec_ref07_Run : zR → (List zL) → Int → Option (List zM)) (y0 : zR) (y1 : List zL) (y2 : Int) : Option (List zM) :=
 (zG y1 y2).bind fun x1 =>
 (
 (zG y1 y2).bind fun x2 =>
 if decide (0 ≤ x2.2.1) then
 (zG y1 y2).bind fun x3 =>
 (zG y0.2.1 x3.2.1).bind fun x4 =>
 some x4.2.1
 else
 some false : Option Bool).bind fun s1 =>
 if s1 then
 zW (zDR y1 y2 rec_ref07_Run y0) (([x1.2.2.2] : List zM), 0)
 else
 some ([x1.2.2.2] : List zM)
def zAc : Nat → zR → (List zL) → Int → Option (List zM)
 | 0 => fun _ _ _ => none
 | k + 1 => fun y0 y1 y2 => zEM (zAc k) y0 y1 y2
def zHk (y0 : zR) (y1 : List zL) (y2 : Int) : Option (List zM) := zUN fun k => zAc k y0 y1 y2
def zIk (y0 : List Int) (y1 : Int) (s1 : Int) : Option (Int ⊕ Bool) :=
 if decide (s1 < (len y0)) then
 (zG y0 s1).bind fun x1 =>
 if x1 == y1 then
 some (.inr true)
 else
 some (.inl (zQ (s1 + 1)))
 else
 some (.inr false)
def zLw (y0 : List Int) (y1 : Int) : Option Bool :=
 zW (zIk y0 y1) 0
def zFw (y3 : List Int) (x1 : wK) (y0 : zR) (y1 : List zL) (y2 : Int) (s1 : Int) : Option (Int ⊕ Bool) :=
 if decide (s1 < (len y3)) then
 (
 if x1.2.1 then
 (zG y3 s1).bind fun x2 =>
 (zHk y0 y1 x2).bind fun r1 =>
 (zKl r1 x1.2.2.2.2).bind fun r2 =>
 if r2 then
 some true
 else
 if !x1.2.1 then
 (zG y3 s1).bind fun x3 =>
 (zBj y0 y1 x3).bind fun r3 =>
 (zLw r3 y2).bind fun r4 =>
 some r4
 else
 some false
 else
 if !x1.2.1 then
 (zG y3 s1).bind fun x4 =>
 (zBj y0 y1 x4).bind fun r5 =>
 (zLw r5 y2).bind fun r6 =>
 some r6
 else
 some false : Option Bool).bind fun s2 =>
 if s2 then
 some (.inr false)
 else
 some (.inl (zQ (s1 + 1)))
 else
 some (.inr true)
def zFE (y0 : zR) (y1 : List zL) (y2 : Int) (y3 : List Int) : Option Bool :=
 (zG y0.2.1 y2).bind fun x1 =>
 zW (zFw y3 x1 y0 y1 y2) 0
def zD6 (y1 : Int) (y0 : List zL) (y2 : List zM) (y3 : List Int) (rec_ref07_choices_2 : (List zL) → Int → (List zM) → (List Int) → Option (List (List Int))) (s1 : (List (List Int)) × Int) : Option (((List (List Int)) × Int) ⊕ (List (List Int))) :=
 if decide (s1.2 < y1) then
 (zG y0 s1.2).bind fun x2 =>
 (zG y2 (len y3)).bind fun x3 =>
 if x2.2.2.2 == x3 then
 (sub y3 0 (len y3)).bind fun x4 =>
 (wI x4 ([s1.2] : List Int)).bind fun x5 =>
 (rec_ref07_choices_2 y0 y1 y2 x5).bind fun r1 =>
 (wI s1.1 r1).bind fun x6 =>
 some (.inl (x6, zQ (s1.2 + 1)))
 else
 some (.inl (s1.1, zQ (s1.2 + 1)))
 else
 some (.inr s1.1)
def zFx (rec_ref07_choices_2 : (List zL) → Int → (List zM) → (List Int) → Option (List (List Int))) (y0 : List zL) (y1 : Int) (y2 : List zM) (y3 : List Int) : Option (List (List Int)) :=
 if (len y3) == (len y2) then
 (wI ([] : List Int) y3).bind fun x1 =>
 some ([x1] : List (List Int))
 else
 zW (zD6 y1 y0 y2 y3 rec_ref07_choices_2) (([] : List (List Int)), 0)
def zB8 : Nat → (List zL) → Int → (List zM) → (List Int) → Option (List (List Int))
 | 0 => fun _ _ _ _ => none
 | k + 1 => fun y0 y1 y2 y3 => zFx (zB8 k) y0 y1 y2 y3
def zHo (y0 : List zL) (y1 : Int) (y2 : List zM) (y3 : List Int) : Option (List (List Int)) := zUN fun k => zB8 k y0 y1 y2 y3
def zGG (y0 : List Int) (y1 : Int) (s1 : Int) : Option (Int ⊕ Bool) :=
 if decide (s1 < (len y0)) then
 (zG y0 s1).bind fun x1 =>
 if decide (y1 ≤ x1) then
 some (.inr true)
 else
 some (.inl (zQ (s1 + 1)))
 else
 some (.inr false)
def zJp (y0 : List Int) (y1 : Int) : Option Bool :=
 zW (zGG y0 y1) 0
def zEj (y0 : zR) (s2 : (List zL) × Int) : Option (((List zL) × Int) ⊕ (List zL)) :=
 if decide (s2.2 < (len y0.1)) then
 (zG y0.1 s2.2).bind fun x1 =>
 (wI s2.1 ([(s2.2, (-1), ([] : List Int), x1.1)] : List zL)).bind fun x2 =>
 some (.inl (x2, zQ (s2.2 + 1)))
 else
 some (.inr s2.1)
def zFC (r2 : (List (List Int))) (s3 : (List zL) × Int × Int) (y0 : zR) (s4 : (List zL) × Int) (s5 : (List zL) × Int) : Option (((List zL) × Int) ⊕ (((List zL) × Int) ⊕ (((List zL) × Int × Int) ⊕ ((List zL) × Int)))) :=
 if decide (s5.2 < (len r2)) then
 (zG r2 s5.2).bind fun x4 =>
 (
 (zJp x4 s3.2.1).bind fun r3 =>
 if !r3 then
 if decide (1 < s3.2.2) then
 some true
 else
 if decide (0 < (len x4)) then
 some true
 else
 (zFE y0 s5.1 s4.2 x4).bind fun r4 =>
 some (!r4)
 else
 (zFE y0 s5.1 s4.2 x4).bind fun r5 =>
 some (!r5) : Option Bool).bind fun s6 =>
 if s6 then
 some (.inl (s5.1, zQ (s5.2 + 1)))
 else
 (zG y0.2.1 s4.2).bind fun x5 =>
 (wI s5.1 ([((-1), s4.2, x4, x5.2.2.2.2)] : List zL)).bind fun x6 =>
 if decide (40 < (len x6)) then
 some (.inr (.inr (.inr (([] : List zL), 2))))
 else
 some (.inl (x6, zQ (s5.2 + 1)))
 else
 some (.inr (.inl (s5.1, zQ (s4.2 + 1))))
def zE6 (y0 : zR) (s3 : (List zL) × Int × Int) (s4 : (List zL) × Int) : Option (((List zL) × Int) ⊕ (((List zL) × Int × Int) ⊕ ((List zL) × Int))) :=
 if decide (s4.2 < (len y0.2.1)) then
 (zG y0.2.1 s4.2).bind fun x3 =>
 (zHo s4.1 (len s3.1) x3.2.2.2.1 ([] : List Int)).bind fun r2 =>
 zW (zFC r2 s3 y0 s4) (s4.1, 0)
 else
 some (.inr (.inl (s4.1, len s3.1, zQ (s3.2.2 + 1))))
def zCs (y0 : zR) (s3 : (List zL) × Int × Int) : Option (((List zL) × Int × Int) ⊕ ((List zL) × Int)) :=
 if (s3.2.2 == 1) || (decide (s3.2.1 < (len s3.1))) then
 zW (zE6 y0 s3) (s3.1, 0)
 else
 some (.inr (s3.1, 0))
def zGC (y0 : zR) : Option ((List zL) × Int) :=
 (zEp y0).bind fun r1 =>
 if r1 != 0 then
 some (([] : List zL), r1)
 else
 (zW (zEj y0) (([] : List zL), 0) : Option (List zL)).bind fun s1 =>
 zW (zCs y0) (s1, 0, 1)
def zEC (y0 : List zM) (y1 : zM) (s2 : Int) : Option (Int ⊕ Int) :=
 (
 if decide (s2 < (len y0)) then
 (zG y0 s2).bind fun x1 =>
 (zFa x1 y1).bind fun r1 =>
 some (decide (r1 < 0))
 else
 some false : Option Bool).bind fun s3 =>
 if s3 then
 some (.inl (zQ (s2 + 1)))
 else
 some (.inr s2)
def zID (y0 : List zM) (y1 : zM) : Option (List zM) :=
 (zW (zEC y0 y1) 0 : Option Int).bind fun s1 =>
 (
 if decide (s1 < (len y0)) then
 (zG y0 s1).bind fun x2 =>
 some (x2 == y1)
 else
 some false : Option Bool).bind fun s4 =>
 if s4 then
 some y0
 else
 (sub y0 0 s1).bind fun x3 =>
 (wI ([] : List zM) x3).bind fun x4 =>
 (sub y0 s1 (len y0)).bind fun x5 =>
 (wI x4 ([y1] : List zM)).bind fun x6 =>
 (wI x6 x5).bind fun x7 =>
 some x7
def zCh (y1 : List Int) (y0 : List zL) (s1 : (List zM) × Int) : Option (((List zM) × Int) ⊕ (List zM)) :=
 if decide (s1.2 < (len y1)) then
 (
 (zG y1 s1.2).bind fun x1 =>
 if decide (0 ≤ x1) then
 (zG y1 s1.2).bind fun x2 =>
 some (decide (x2 < (len y0)))
 else
 some false : Option Bool).bind fun s2 =>
 if s2 then
 (zG y1 s1.2).bind fun x3 =>
 (zG y0 x3).bind fun x4 =>
 (zID s1.1 x4.2.2.2).bind fun r1 =>
 some (.inl (r1, zQ (s1.2 + 1)))
 else
 some (.inl (s1.1, zQ (s1.2 + 1)))
 else
 some (.inr s1.1)
def zEH (y0 : List zL) (y1 : List Int) : Option (List zM) :=
 zW (zCh y1 y0) (([] : List zM), 0)
def zEI (r1 : (List Int)) (y0 : List zL) (s1 : (List Int) × Int) : Option (((List Int) × Int) ⊕ (List Int)) :=
 if decide (s1.2 < (len r1)) then
 (zG r1 s1.2).bind fun x1 =>
 (zG y0 x1).bind fun x2 =>
 if decide (0 ≤ x2.1) then
 (zG y0 x1).bind fun x3 =>
 (zFF s1.1 x3.1).bind fun r2 =>
 some (.inl (r2, zQ (s1.2 + 1)))
 else
 some (.inl (s1.1, zQ (s1.2 + 1)))
 else
 some (.inr s1.1)
def zEg (y0 : List zL) (y1 : Int) : Option (List Int) :=
 (zI2 y0 y1).bind fun r1 =>
 zW (zEI r1 y0) (([] : List Int), 0)
def zFN (r1 : (List Int)) (y0 : zR) (s1 : Int) : Option (Int ⊕ Bool) :=
 if decide (s1 < (len r1)) then
 (zG r1 s1).bind fun x1 =>
 (zG y0.1 x1).bind fun x2 =>
 if x2.2.1 == 3 then
 some (.inr true)
 else
 some (.inl (zQ (s1 + 1)))
 else
 some (.inr false)
def zGx (y0 : zR) (y1 : List zL) (y2 : Int) : Option Bool :=
 (zEg y1 y2).bind fun r1 =>
 zW (zFN r1 y0) 0
def zH2 (y1 : List zL) (y2 : Int) (rec_ref07_Last : zR → (List zL) → Int → Option (List Int)) (y0 : zR) (s2 : (List Int) × Int) : Option (((List Int) × Int) ⊕ (List Int)) :=
 (zG y1 y2).bind fun x5 =>
 if decide (s2.2 < (len x5.2.2.1)) then
 (zG y1 y2).bind fun x6 =>
 (zG x6.2.2.1 s2.2).bind fun x7 =>
 (rec_ref07_Last y0 y1 x7).bind fun r1 =>
 (zIl s2.1 r1).bind fun r2 =>
 some (.inl (r2, zQ (s2.2 + 1)))
 else
 some (.inr s2.1)
def zJ4 (rec_ref07_Last : zR → (List zL) → Int → Option (List Int)) (y0 : zR) (y1 : List zL) (y2 : Int) : Option (List Int) :=
 (
 if decide (y2 < 0) then
 some true
 else
 if decide ((len y1) ≤ y2) then
 some true
 else
 (zG y1 y2).bind fun x1 =>
 some (decide (x1.2.1 < 0)) : Option Bool).bind fun s1 =>
 if s1 then
 some ([] : List Int)
 else
 (zG y1 y2).bind fun x2 =>
 (zG y0.2.1 x2.2.1).bind fun x3 =>
 if !x3.2.1 then
 (zG y1 y2).bind fun x4 =>
 some ([x4.2.1] : List Int)
 else
 zW (zH2 y1 y2 rec_ref07_Last y0) (([] : List Int), 0)
def zFr : Nat → zR → (List zL) → Int → Option (List Int)
 | 0 => fun _ _ _ => none
 | k + 1 => fun y0 y1 y2 => zJ4 (zFr k) y0 y1 y2
def zLY (y0 : zR) (y1 : List zL) (y2 : Int) : Option (List Int) := zUN fun k => zFr k y0 y1 y2
def zMK (r1 : (List Int)) (y0 : zR) (s1 : (List Int) × Int) : Option (((List Int) × Int) ⊕ (List Int)) :=
 if decide (s1.2 < (len r1)) then
 (zG r1 s1.2).bind fun x1 =>
 (zG y0.2.1 x1).bind fun x2 =>
 (wI s1.1 ([x2.2.2.1] : List Int)).bind fun x3 =>
 some (.inl (x3, zQ (s1.2 + 1)))
 else
 some (.inr s1.1)
def zDl (y0 : zR) (y1 : List zL) (y2 : Int) : Option (List Int) :=
 (zLY y0 y1 y2).bind fun r1 =>
 zW (zMK r1 y0) (([] : List Int), 0)
def zHP (r1 : (List Int)) (y0 : zR) (s1 : (List Int) × Int) : Option (((List Int) × Int) ⊕ (List Int)) :=
 if decide (s1.2 < (len r1)) then
 (zG r1 s1.2).bind fun x1 =>
 (zG y0.1 x1).bind fun x2 =>
 if x2.2.1 == 2 then
 (zG y0.1 x1).bind fun x3 =>
 (wI s1.1 ([x3.2.2.1] : List Int)).bind fun x4 =>
 some (.inl (x4, zQ (s1.2 + 1)))
 else
 if x2.2.1 == 3 then
 (wI s1.1 ([(-1)] : List Int)).bind fun x5 =>
 some (.inl (x5, zQ (s1.2 + 1)))
 else
 some (.inl (s1.1, zQ (s1.2 + 1)))
 else
 some (.inr s1.1)
def zAu (y0 : zR) (y1 : List zL) (y2 : Int) : Option (List Int) :=
 (zEg y1 y2).bind fun r1 =>
 zW (zHP r1 y0) (([] : List Int), 0)
def zMQ (r1 : (List Int)) (y0 : zR) (s1 : (List Int) × Int) : Option (((List Int) × Int) ⊕ (List Int)) :=
 if decide (s1.2 < (len r1)) then
 (zG r1 s1.2).bind fun x1 =>
 (zG y0.2.1 x1).bind fun x2 =>
 (wI s1.1 ([x2.2.2.1] : List Int)).bind fun x3 =>
 some (.inl (x3, zQ (s1.2 + 1)))
 else
 some (.inr s1.1)
def zDx (y0 : zR) (y1 : List zL) (y2 : Int) : Option (List Int) :=
 (zBj y0 y1 y2).bind fun r1 =>
 zW (zMQ r1 y0) (([] : List Int), 0)
def zEX (y0 : List Int) (s1 : Int × Int × Int) : Option ((Int × Int × Int) ⊕ (Int × Int)) :=
 if decide (s1.2.2 < (len y0)) then
 (zG y0 s1.2.2).bind fun x3 =>
 (zG y0 s1.2.2).bind fun x4 =>
 some (.inl (if x3 < s1.1 then x3 else s1.1, if x4 > s1.2.1 then x4 else s1.2.1, zQ (s1.2.2 + 1)))
 else
 some (.inr (s1.1, s1.2.1))
def zEz (y0 : List Int) : Option (Int × Int) :=
 (zG y0 0).bind fun x1 =>
 (zG y0 0).bind fun x2 =>
 zW (zEX y0) (x1, x2, 1)
def zDr (y0 : List Int) (y1 : List Int) (y2 : Int) : Option Bool :=
 if if y2 != 1 then (y2 != 2) || ((len y0) == 0) else (len y0) == 0 then
 some false
 else
 if (len y1) == 0 then
 some true
 else
 (zEz y0).bind fun r1 =>
 (zEz y1).bind fun r2 =>
 if y2 == 1 then
 some (decide (r1.1 < r2.1))
 else
 some (decide (r1.2 < r2.2))
def zIQ (y0 : zR) (y1 : List zL) (y2 : Int) (y3 : Int) (y4 : vF) : Option Bool :=
 (
 if decide (y2 < 0) then
 some true
 else
 if decide ((len y1) ≤ y2) then
 some true
 else
 if decide (y3 < 0) then
 some true
 else
 if decide ((len y1) ≤ y3) then
 some true
 else
 (zGx y0 y1 y3).bind fun r1 =>
 some r1 : Option Bool).bind fun s1 =>
 if s1 then
 some false
 else
 (zAu y0 y1 y2).bind fun r2 =>
 (zAu y0 y1 y3).bind fun r3 =>
 (zDr r2 r3 y4.2).bind fun r4 =>
 if y4.1 == 1 then
 (zDl y0 y1 y2).bind fun r5 =>
 (zDl y0 y1 y3).bind fun r6 =>
 (
 (zDr r5 r6 y4.2).bind fun r7 =>
 if r7 then
 some true
 else
 if (len r5) == 0 then
 if (len r6) == 0 then
 some r4
 else
 some false
 else
 some false : Option Bool).bind fun s2 =>
 some s2
 else
 if y4.1 == 2 then
 (zDx y0 y1 y2).bind fun r8 =>
 (zDx y0 y1 y3).bind fun r9 =>
 if ((len r8) == 0) && ((len r9) == 0) then
 some r4
 else
 (zDr r8 r9 y4.2).bind fun r10 =>
 (
 (zAu y0 y1 y2).bind fun r11 =>
 if (len r11) == 0 then
 (zAu y0 y1 y3).bind fun r12 =>
 some ((len r12) == 0)
 else
 some false : Option Bool).bind fun s3 =>
 if s3 then
 some r10
 else
 some (r4 && r10)
 else
 some false
def zHC (y0 : zM) : Option zM :=
 some (!y0.1, y0.2)
def zHV (y0 : zR) (y1 : List zL) (y2 : Int) (y3 : Int) (y4 : Int) : Option Bool :=
 (zG y1 y2).bind fun x1 =>
 (zG y1 y3).bind fun x2 =>
 (zHC x2.2.2.2).bind fun r1 =>
 (zG y1 y3).bind fun x3 =>
 if decide (x3.2.1 < 0) then
 (
 if y4 == 1 then
 (zG y1 y3).bind fun x4 =>
 (zG y0.1 x4.1).bind fun x5 =>
 if x5.2.1 != 1 then
 some (x1.2.2.2 == r1)
 else
 some false
 else
 some false : Option Bool).bind fun s1 =>
 some s1
 else
 (zG y1 y3).bind fun x6 =>
 (zG y0.2.1 x6.2.1).bind fun x7 =>
 if y4 == 2 then
 some ((!x7.2.1) && (x1.2.2.2 == r1))
 else
 if y4 == 3 then
 (
 if !x7.2.1 then
 (zG y1 y2).bind fun x8 =>
 some (x8.2.2.2 == (true, x7.1))
 else
 some false : Option Bool).bind fun s2 =>
 some s2
 else
 some false
def zDA (y0 : zR) (y1 : List zL) (s1 : (List qZ) × Int) (x1 : Int) (s2 : (List qZ) × Int) (s3 : (List qZ) × Int) (s4 : (List qZ) × Int) : Option (((List qZ) × Int) ⊕ (((List qZ) × Int) ⊕ (((List qZ) × Int) ⊕ (((List qZ) × Int) ⊕ (List qZ))))) :=
 if decide (s4.2 ≤ 3) then
 (zHV y0 y1 s1.2 x1 s4.2).bind fun r2 =>
 if r2 then
 (wI s4.1 ([(s1.2, s2.2, x1, s4.2)] : List qZ)).bind fun x2 =>
 some (.inl (x2, zQ (s4.2 + 1)))
 else
 some (.inl (s4.1, zQ (s4.2 + 1)))
 else
 some (.inr (.inl (s4.1, zQ (s3.2 + 1))))
def zFZ (r1 : (List Int)) (y0 : zR) (y1 : List zL) (s1 : (List qZ) × Int) (s2 : (List qZ) × Int) (s3 : (List qZ) × Int) : Option (((List qZ) × Int) ⊕ (((List qZ) × Int) ⊕ (((List qZ) × Int) ⊕ (List qZ)))) :=
 if decide (s3.2 < (len r1)) then
 (zG r1 s3.2).bind fun x1 =>
 zW (zDA y0 y1 s1 x1 s2 s3) (s3.1, 1)
 else
 some (.inr (.inl (s3.1, zQ (s2.2 + 1))))
def zF2 (y1 : List zL) (y0 : zR) (s1 : (List qZ) × Int) (s2 : (List qZ) × Int) : Option (((List qZ) × Int) ⊕ (((List qZ) × Int) ⊕ (List qZ))) :=
 if decide (s2.2 < (len y1)) then
 (zI2 y1 s2.2).bind fun r1 =>
 zW (zFZ r1 y0 y1 s1 s2) (s2.1, 0)
 else
 some (.inr (.inl (s2.1, zQ (s1.2 + 1))))
def zFW (y1 : List zL) (y0 : zR) (s1 : (List qZ) × Int) : Option (((List qZ) × Int) ⊕ (List qZ)) :=
 if decide (s1.2 < (len y1)) then
 zW (zF2 y1 y0 s1) (s1.1, 0)
 else
 some (.inr s1.1)
def zHX (y0 : zR) (y1 : List zL) : Option (List qZ) :=
 zW (zFW y1 y0) (([] : List qZ), 0)
def zFV (r1 : (List qZ)) (y0 : zR) (y1 : List zL) (y2 : vF) (s1 : (List qZ) × Int) : Option (((List qZ) × Int) ⊕ (List qZ)) :=
 if decide (s1.2 < (len r1)) then
 (
 (zG r1 s1.2).bind fun x1 =>
 if x1.2.2.2 == 3 then
 some true
 else
 (zG r1 s1.2).bind fun x2 =>
 (zG r1 s1.2).bind fun x3 =>
 (zIQ y0 y1 x2.1 x3.2.2.1 y2).bind fun r2 =>
 some (!r2) : Option Bool).bind fun s2 =>
 if s2 then
 (zG r1 s1.2).bind fun x4 =>
 (wI s1.1 ([x4] : List qZ)).bind fun x5 =>
 some (.inl (x5, zQ (s1.2 + 1)))
 else
 some (.inl (s1.1, zQ (s1.2 + 1)))
 else
 some (.inr s1.1)
def zFo (y0 : zR) (y1 : List zL) (y2 : vF) : Option (List qZ) :=
 (zHX y0 y1).bind fun r1 =>
 zW (zFV r1 y0 y1 y2) (([] : List qZ), 0)
def zEv (y1 : List qZ) (y0 : Int) (s2 : Int) : Option (Int ⊕ (Unit ⊕ (wT × Int))) :=
 if decide (s2 < (len y1)) then
 (
 (zG y1 s2).bind fun x1 =>
 if decide (x1.1 < 0) then
 some true
 else
 (zG y1 s2).bind fun x2 =>
 if decide (y0 ≤ x2.1) then
 some true
 else
 (zG y1 s2).bind fun x3 =>
 if decide (x3.2.1 < 0) then
 some true
 else
 (zG y1 s2).bind fun x4 =>
 some (decide (y0 ≤ x4.2.1)) : Option Bool).bind fun s3 =>
 if s3 then
 some (.inr (.inr ((0, ([] : List wH)), 1)))
 else
 some (.inl (zQ (s2 + 1)))
 else
 some (.inr (.inl ()))
def zEl (y1 : List qZ) (s5 : Int × (List wH)) (s6 : Int × (List wH)) (s8 : Bool × Int) : Option ((Bool × Int) ⊕ Bool) :=
 if decide (s8.2 < (len y1)) then
 (
 if s8.1 then
 some true
 else
 (zG y1 s8.2).bind fun x5 =>
 if x5.1 == s5.1 then
 (zG y1 s8.2).bind fun x6 =>
 some (x6.2.1 == s6.1)
 else
 some false : Option Bool).bind fun s9 =>
 some (.inl (s9, zQ (s8.2 + 1)))
 else
 some (.inr s8.1)
def zEq (y0 : Int) (y1 : List qZ) (s5 : Int × (List wH)) (s6 : Int × (List wH)) : Option ((Int × (List wH)) ⊕ ((Int × (List wH)) ⊕ (List wH))) :=
 if decide (s6.1 < y0) then
 (zW (zEl y1 s5 s6) (false, 0) : Option Bool).bind fun s7 =>
 if s7 then
 (wI s6.2 ([(s5.1, s6.1)] : List wH)).bind fun x7 =>
 some (.inl (zQ (s6.1 + 1), x7))
 else
 some (.inl (zQ (s6.1 + 1), s6.2))
 else
 some (.inr (.inl (zQ (s5.1 + 1), s6.2)))
def zEk (y0 : Int) (y1 : List qZ) (s5 : Int × (List wH)) : Option ((Int × (List wH)) ⊕ (List wH)) :=
 if decide (s5.1 < y0) then
 zW (zEq y0 y1 s5) (0, s5.2)
 else
 some (.inr s5.2)
def zH6 (y0 : Int) (y1 : List qZ) : Option (wT × Int) :=
 if (decide (y0 < 0)) || (decide (40 < y0)) then
 some ((0, ([] : List wH)), 1)
 else
 yO (zW (zEv y1 y0) 0 : Option (Unit ⊕ (wT × Int))) fun _ =>
 (zW (zEk y0 y1) (0, ([] : List wH)) : Option (List wH)).bind fun s4 =>
 some ((y0, s4), 0)
def zOs (y0 : List Int) (y1 : Int) (s1 : (List Int) × Int) : Option (((List Int) × Int) ⊕ (List Int)) :=
 if decide (s1.2 < (len y0)) then
 (zG y0 s1.2).bind fun x1 =>
 if x1 == y1 then
 (wI s1.1 ([s1.2] : List Int)).bind fun x2 =>
 some (.inl (x2, zQ (s1.2 + 1)))
 else
 some (.inl (s1.1, zQ (s1.2 + 1)))
 else
 some (.inr s1.1)
def zLr (y0 : List Int) (y1 : Int) : Option (List Int) :=
 zW (zOs y0 y1) (([] : List Int), 0)
def zER (y0 : wT) (s1 : Int) : Option (Int ⊕ Int) :=
 if decide (s1 < (len y0.2)) then
 (zG y0.2 s1).bind fun x1 =>
 if (decide (x1.1 < 0)) || ((decide (y0.1 ≤ x1.1)) || ((decide (x1.2 < 0)) || (decide (y0.1 ≤ x1.2)))) then
 some (.inr 1)
 else
 (
 if decide (0 < s1) then
 (zG y0.2 (zQ (s1 - 1))).bind fun x2 =>
 if decide (x1.1 < x2.1) then
 some true
 else
 (zG y0.2 (zQ (s1 - 1))).bind fun x3 =>
 if x3.1 == x1.1 then
 (zG y0.2 (zQ (s1 - 1))).bind fun x4 =>
 some (decide (x1.2 ≤ x4.2))
 else
 some false
 else
 some false : Option Bool).bind fun s2 =>
 if s2 then
 some (.inr 8)
 else
 some (.inl (zQ (s1 + 1)))
 else
 some (.inr 0)
def zCt (y0 : wT) : Option Int :=
 if (decide (y0.1 < 0)) || (decide (40 < y0.1)) then
 some 1
 else
 zW (zER y0) 0
def zIs (y0 : wT) : Option wT :=
 (zCt y0).bind fun r1 =>
 if r1 != 0 then
 some (0, ([] : List wH))
 else
 some y0
def zD3 (r1 : wT) (y1 : Int) (s1 : (List Int) × Int) : Option (((List Int) × Int) ⊕ (List Int)) :=
 if decide (s1.2 < (len r1.2)) then
 (zG r1.2 s1.2).bind fun x1 =>
 if x1.2 == y1 then
 (zG r1.2 s1.2).bind fun x2 =>
 (wI s1.1 ([x2.1] : List Int)).bind fun x3 =>
 some (.inl (x3, zQ (s1.2 + 1)))
 else
 some (.inl (s1.1, zQ (s1.2 + 1)))
 else
 some (.inr s1.1)
def zDt (y0 : wT) (y1 : Int) : Option (List Int) :=
 (zIs y0).bind fun r1 =>
 zW (zD3 r1 y1) (([] : List Int), 0)
def zEw (y0 : wT) (s2 : (List Int) × (List Int) × Int) : Option (((List Int) × (List Int) × Int) ⊕ ((List Int) × (List Int))) :=
 if decide (s2.2.2 < y0.1) then
 (wI s2.1 ([3] : List Int)).bind fun x1 =>
 (wI s2.2.1 ([0] : List Int)).bind fun x2 =>
 some (.inl (x1, x2, zQ (s2.2.2 + 1)))
 else
 some (.inr (s2.1, s2.2.1))
def zE4 (r1 : (List Int)) (x3 : List Int) (s7 : Bool × Int) : Option ((Bool × Int) ⊕ Bool) :=
 if decide (s7.2 < (len r1)) then
 (zG r1 s7.2).bind fun x5 =>
 (
 if s7.1 then
 (zG x3 x5).bind fun x6 =>
 some (x6 == 2)
 else
 some false : Option Bool).bind fun s8 =>
 some (.inl (s8, zQ (s7.2 + 1)))
 else
 some (.inr s7.1)
def zEy (y0 : wT) (x3 : List Int) (s3 : (List Int) × (List Int) × Int) (s5 : (List Int) × (List Int) × Bool × Int) : Option (((List Int) × (List Int) × Bool × Int) ⊕ ((List Int) × (List Int) × Bool)) :=
 if decide (s5.2.2.2 < y0.1) then
 (zG x3 s5.2.2.2).bind fun x4 =>
 (
 (zDt y0 s5.2.2.2).bind fun r1 =>
 zW (zE4 r1 x3) (x4 == 3, 0) : Option Bool).bind fun s6 =>
 if s6 then
 (zG s5.1 s5.2.2.2).bind fun _ =>
 (zG s5.2.1 s5.2.2.2).bind fun _ =>
 some (.inl (List.set s5.1 (Int.toNat s5.2.2.2) 1, List.set s5.2.1 (Int.toNat s5.2.2.2) s3.2.2, true, zQ (s5.2.2.2 + 1)))
 else
 some (.inl (s5.1, s5.2.1, s5.2.2.1, zQ (s5.2.2.2 + 1)))
 else
 some (.inr (s5.1, s5.2.1, s5.2.2.1))
def zEf (r2 : (List Int)) (s10 : (List Int) × (List Int) × Int) (s3 : (List Int) × (List Int) × Int) (s11 : (List Int) × (List Int) × Int) : Option (((List Int) × (List Int) × Int) ⊕ (((List Int) × (List Int) × Int) ⊕ ((List Int) × (List Int)))) :=
 if decide (s11.2.2 < (len r2)) then
 (zG r2 s11.2.2).bind fun x9 =>
 (
 (zG s11.1 s10.2.2).bind fun x10 =>
 if x10 == 3 then
 (zG s11.1 x9).bind fun x11 =>
 if x11 == 1 then
 (zG s11.2.1 x9).bind fun x12 =>
 some (x12 == s3.2.2)
 else
 some false
 else
 some false : Option Bool).bind fun s12 =>
 if s12 then
 (zG s11.1 s10.2.2).bind fun _ =>
 (zG s11.2.1 s10.2.2).bind fun _ =>
 some (.inl (List.set s11.1 (Int.toNat s10.2.2) 2, List.set s11.2.1 (Int.toNat s10.2.2) s3.2.2, zQ (s11.2.2 + 1)))
 else
 some (.inl (s11.1, s11.2.1, zQ (s11.2.2 + 1)))
 else
 some (.inr (.inl (s11.1, s11.2.1, zQ (s10.2.2 + 1))))
def zEx (y0 : wT) (s3 : (List Int) × (List Int) × Int) (s10 : (List Int) × (List Int) × Int) : Option (((List Int) × (List Int) × Int) ⊕ ((List Int) × (List Int))) :=
 if decide (s10.2.2 < y0.1) then
 (zDt y0 s10.2.2).bind fun r2 =>
 zW (zEf r2 s10 s3) (s10.1, s10.2.1, 0)
 else
 some (.inr (s10.1, s10.2.1))
def zG5 (y0 : wT) (s3 : (List Int) × (List Int) × Int) : Option (((List Int) × (List Int) × Int) ⊕ ((List Int) × (List Int))) :=
 (wI ([] : List Int) s3.1).bind fun x3 =>
 (zW (zEy y0 x3 s3) (s3.1, s3.2.1, false, 0) : Option ((List Int) × (List Int) × Bool)).bind fun s4 =>
 (zW (zEx y0 s3) (s4.1, s4.2.1, 0) : Option ((List Int) × (List Int))).bind fun s9 =>
 if !s4.2.2 then
 some (.inr (s9.1, s9.2))
 else
 some (.inl (s9.1, s9.2, zQ (s3.2.2 + 1)))
def zIi (y0 : wT) : Option ((List Int) × (List Int)) :=
 (zW (zEw y0) (([] : List Int), ([] : List Int), 0) : Option ((List Int) × (List Int))).bind fun s1 =>
 zW (zG5 y0) (s1.1, s1.2, 1)
def zIp (y0 : wT) : Option (List Int) :=
 (zIi y0).bind fun r1 =>
 some r1.1
def zC7 (y0 : zR) (y1 : vF) : Option (zBP × Int) :=
 (zGC y0).bind fun r1 =>
 if r1.2 != 0 then
 some (((([] : List vM), ([] : List wK), ([] : List yV)), ([] : List zL), ([] : List qZ), (0, ([] : List wH))), r1.2)
 else
 if if y1.1 != 1 then (y1.1 != 2) || ((y1.2 != 1) && (y1.2 != 2)) else (y1.2 != 1) && (y1.2 != 2) then
 some (((([] : List vM), ([] : List wK), ([] : List yV)), ([] : List zL), ([] : List qZ), (0, ([] : List wH))), 4)
 else
 (zFo y0 r1.1 y1).bind fun r2 =>
 (zH6 (len r1.1) r2).bind fun r3 =>
 (zIp r3.1).bind fun r4 =>
 (zLr r4 1).bind fun r5 =>
 (zEH r1.1 r5).bind fun r6 =>
 (zH0 y0 r6).bind fun r7 =>
 (zFo r7 r1.1 y1).bind fun r8 =>
 (zH6 (len r1.1) r8).bind fun r9 =>
 some ((r7, r1.1, r8, r9.1), 0)
def zLc (y0 : wT) (y1 : Int) (y2 : Int) (s1 : Int) : Option (Int ⊕ Bool) :=
 if decide (s1 < (len y0.2)) then
 (
 (zG y0.2 s1).bind fun x1 =>
 if x1.1 == y1 then
 (zG y0.2 s1).bind fun x2 =>
 some (x2.2 == y2)
 else
 some false : Option Bool).bind fun s2 =>
 if s2 then
 some (.inr true)
 else
 some (.inl (zQ (s1 + 1)))
 else
 some (.inr false)
def zLd (y0 : wT) (y1 : Int) (y2 : Int) : Option Bool :=
 zW (zLc y0 y1 y2) 0
def zHm (y1 : List Int) (y0 : wT) (y2 : Int) (s1 : Int) : Option (Int ⊕ Bool) :=
 if decide (s1 < (len y1)) then
 (zG y1 s1).bind fun x1 =>
 (zLd y0 x1 y2).bind fun r1 =>
 if r1 then
 some (.inr true)
 else
 some (.inl (zQ (s1 + 1)))
 else
 some (.inr false)
def zIF (y0 : wT) (y1 : List Int) (y2 : Int) : Option Bool :=
 zW (zHm y1 y0 y2) 0
def zDk (y0 : wT) (s3 : (List Int) × Int) : Option (((List Int) × Int) ⊕ (List Int)) :=
 if decide (s3.2 < y0.1) then
 (zG s3.1 s3.2).bind fun _ =>
 some (.inl (List.set s3.1 (Int.toNat s3.2) 3, zQ (s3.2 + 1)))
 else
 some (.inr s3.1)
def zDy (y0 : wT) (s6 : (List Int) × Int) (s4 : (List Int) × (List Int) × Int) (s8 : Bool × Int) : Option ((Bool × Int) ⊕ Bool) :=
 if decide (s8.2 < y0.1) then
 (
 if s8.1 then
 (zLd y0 s8.2 s6.2).bind fun r1 =>
 if !r1 then
 some true
 else
 (zG s4.1 s8.2).bind fun x7 =>
 some (x7 == 2)
 else
 some false : Option Bool).bind fun s9 =>
 some (.inl (s9, zQ (s8.2 + 1)))
 else
 some (.inr s8.1)
def zCN (y0 : wT) (s4 : (List Int) × (List Int) × Int) (s6 : (List Int) × Int) : Option (((List Int) × Int) ⊕ (List Int)) :=
 if decide (s6.2 < y0.1) then
 (zG s4.1 s6.2).bind fun x6 =>
 (zW (zDy y0 s6 s4) (x6 == 3, 0) : Option Bool).bind fun s7 =>
 if s7 then
 (wI s6.1 ([s6.2] : List Int)).bind fun x8 =>
 some (.inl (x8, zQ (s6.2 + 1)))
 else
 some (.inl (s6.1, zQ (s6.2 + 1)))
 else
 some (.inr s6.1)
def zCP (s5 : (List Int)) (s4 : (List Int) × (List Int) × Int) (s11 : (List Int) × (List Int) × Int) : Option (((List Int) × (List Int) × Int) ⊕ ((List Int) × (List Int))) :=
 if decide (s11.2.2 < (len s5)) then
 (zG s5 s11.2.2).bind fun x9 =>
 (zG s11.1 x9).bind fun _ =>
 (zG s11.2.1 x9).bind fun _ =>
 some (.inl (List.set s11.1 (Int.toNat x9) 1, List.set s11.2.1 (Int.toNat x9) s4.2.2, zQ (s11.2.2 + 1)))
 else
 some (.inr (s11.1, s11.2.1))
def zCO (y0 : wT) (s5 : (List Int)) (s4 : (List Int) × (List Int) × Int) (s12 : (List Int) × (List Int) × Int) : Option (((List Int) × (List Int) × Int) ⊕ (((List Int) × (List Int) × Int) ⊕ ((List Int) × (List Int)))) :=
 if decide (s12.2.2 < y0.1) then
 (
 (zG s12.1 s12.2.2).bind fun x12 =>
 if x12 == 3 then
 (zIF y0 s5 s12.2.2).bind fun r2 =>
 some r2
 else
 some false : Option Bool).bind fun s13 =>
 if s13 then
 (zG s12.1 s12.2.2).bind fun _ =>
 (zG s12.2.1 s12.2.2).bind fun _ =>
 some (.inl (List.set s12.1 (Int.toNat s12.2.2) 2, List.set s12.2.1 (Int.toNat s12.2.2) s4.2.2, zQ (s12.2.2 + 1)))
 else
 some (.inl (s12.1, s12.2.1, zQ (s12.2.2 + 1)))
 else
 some (.inr (.inl (s12.1, s12.2.1, zQ (s4.2.2 + 1))))
def zB4 (y0 : wT) (s4 : (List Int) × (List Int) × Int) : Option (((List Int) × (List Int) × Int) ⊕ ((List Int) × (List Int))) :=
 if decide (s4.2.2 ≤ (zQ (y0.1 + 1))) then
 (zW (zCN y0 s4) (([] : List Int), 0) : Option (List Int)).bind fun s5 =>
 (zW (zCP s5 s4) (s4.1, s4.2.1, 0) : Option ((List Int) × (List Int))).bind fun s10 =>
 zW (zCO y0 s5 s4) (s10.1, s10.2, 0)
 else
 some (.inr (s4.1, s4.2.1))
def zIE (y0 : wT) : Option ((List Int) × (List Int)) :=
 (
 (mkS y0.1 y0.1 (0 : Int)).bind fun x1 =>
 (mkS y0.1 y0.1 (0 : Int)).bind fun x2 =>
 some (x1, x2) : Option ((List Int) × (List Int))).bind fun s1 =>
 (zW (zDk y0) (s1.1, 0) : Option (List Int)).bind fun s2 =>
 zW (zB4 y0) (s2, s1.2, 1)
def zMe (y0 : List Int) (y1 : Int) (s1 : Int) : Option (Int ⊕ Bool) :=
 if decide (s1 < (len y0)) then
 (zG y0 s1).bind fun x1 =>
 if x1 == y1 then
 some (.inr true)
 else
 some (.inl (zQ (s1 + 1)))
 else
 some (.inr false)
def zNP (y0 : List Int) (y1 : Int) : Option Bool :=
 zW (zMe y0 y1) 0
def zCC (y0 : zR) (y3 : List Int) (s2 : Int × (List vM)) : Option ((Int × (List vM)) ⊕ (List vM)) :=
 if decide (s2.1 < (len y0.1)) then
 (zNP y3 s2.1).bind fun r1 =>
 if !r1 then
 (zG y0.1 s2.1).bind fun x1 =>
 (wI s2.2 ([x1] : List vM)).bind fun x2 =>
 some (.inl (zQ (s2.1 + 1), x2))
 else
 some (.inl (zQ (s2.1 + 1), s2.2))
 else
 some (.inr s2.2)
def zBQ (r2 : zBP × Int) (r3 : (List Int) × (List Int)) (y2 : zM) (s3 : Int) : Option (Int ⊕ Bool) :=
 if decide (s3 < (len r2.1.2.1)) then
 (
 (zG r3.1 s3).bind fun x3 =>
 if x3 == 1 then
 (zG r2.1.2.1 s3).bind fun x4 =>
 some (x4.2.2.2 == y2)
 else
 some false : Option Bool).bind fun s4 =>
 if s4 then
 some (.inr true)
 else
 some (.inl (zQ (s3 + 1)))
 else
 some (.inr false)
def zBF (y0 : zR) (y1 : vF) (y2 : zM) (y3 : List Int) : Option Bool :=
 (zW (zCC y0 y3) (0, ([] : List vM)) : Option (List vM)).bind fun s1 =>
 (zC7 (s1, y0.2.1, y0.2.2) y1).bind fun r2 =>
 if r2.2 != 0 then
 some false
 else
 (zIE r2.1.2.2.2).bind fun r3 =>
 zW (zBQ r2 r3 y2) 0
def zBV (r2 : zR × Int) (r3 : Int × Int) (r4 : Int × Int) (r7 : zM × Int) (r8 : Bool) (s3 : Int) : Option (Int ⊕ (Unit ⊕ (Unit ⊕ Bool))) :=
 if decide (s3 < (len r2.1.1)) then
 (zBF r2.1 (r3.1, r4.1) r7.1 ([s3] : List Int)).bind fun r10 =>
 if !(r10 == r8) then
 some (.inr (.inr (.inr false)))
 else
 some (.inl (zQ (s3 + 1)))
 else
 some (.inr (.inl ()))
def zBT (r9 : (List (List Int)) × Int) (r2 : zR × Int) (r3 : Int × Int) (r4 : Int × Int) (r7 : zM × Int) (r8 : Bool) (s5 : Int) : Option (Int ⊕ (Unit ⊕ Bool)) :=
 if decide (s5 < (len r9.1)) then
 (
 (zG r9.1 s5).bind fun x1 =>
 if (len x1) == 0 then
 some true
 else
 (zG r9.1 s5).bind fun x2 =>
 (zG r9.1 0).bind fun x3 =>
 if (len x2) != (len x3) then
 some true
 else
 (zG r9.1 s5).bind fun x4 =>
 (zBF r2.1 (r3.1, r4.1) r7.1 x4).bind fun r12 =>
 some (r12 == r8) : Option Bool).bind fun s6 =>
 if s6 then
 some (.inr (.inr false))
 else
 some (.inl (zQ (s5 + 1)))
 else
 some (.inr (.inl ()))
def zCH (y0 : List Int) : Option Bool :=
 (zLz y0).bind fun r1 =>
 (zHT r1 3 4 5).bind fun r2 =>
 (zBs (r1.1, r2.2) 1 2).bind fun r3 =>
 (zBs (r1.1, r3.2) 1 2).bind fun r4 =>
 (zC7 r2.1 (r3.1, r4.1)).bind fun r5 =>
 if r5.2 != 0 then
 zDJ.bind fun r6 =>
 some r6
 else
 (zAg (r1.1, r4.2) 3).bind fun r7 =>
 (zBF r2.1 (r3.1, r4.1) r7.1 ([] : List Int)).bind fun r8 =>
 (zBu r2.1 (r3.1, r4.1) r7.1).bind fun r9 =>
 yO (
 if r9.2 == 9 then
 yO (zW (zBV r2 r3 r4 r7 r8) 0 : Option (Unit ⊕ (Unit ⊕ Bool))) fun _ =>
 zDJ.bind fun r11 =>
 some (.inr r11)
 else
 some (.inl ()) : Option (Unit ⊕ Bool)) fun _ =>
 if (r9.2 != 0) || ((len r9.1) == 0) then
 some false
 else
 yO (zW (zBT r9 r2 r3 r4 r7 r8) 0 : Option (Unit ⊕ Bool)) fun _ =>
 zDJ.bind fun r13 =>
 some r13
end
end Go.GD
