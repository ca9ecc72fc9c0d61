/- Part of the proof. Conditions: none. -/
import Derived.Test.YtjfjjkgaddknfaaGreatDoorLib
namespace Go.GD
set_option autoImplicit false
noncomputable section
set_option linter.unusedVariables false
abbrev uQ := (List Int) × Int
abbrev zF := Bool × qC
abbrev vO := zF × Int × Int × qC
abbrev qK := qC × Bool × Int × (List zF) × zF
abbrev vN := qC × Int × zF
abbrev zM := (List vO) × (List qK) × (List vN)
abbrev zH := Int × Int × (List Int) × zF
abbrev zAT := (List qC) × Bool
abbrev yH := Int × Int
abbrev wT := Int × Int × Int × Int
abbrev wD := Int × Int
abbrev vH := Int × (List wD)
abbrev zFh := zM × (List zH) × (List wT) × vH
abbrev uW := zM × (List zH) × (List zH) × Int
abbrev uE := Int × (List (List Int)) × (List Int) × (List (List Int)) × Bool
def zAd : List qC := [[], [97, 120, 105, 111, 109], [112, 114, 101, 109, 105, 115, 101], [97, 115, 115, 117, 109, 101]]
def xL : List Int := [0, 1, 56, 2, 57, 49, 28, 3, 61, 58, 42, 50, 38, 29, 17, 4, 62, 47, 59, 36, 45, 43, 51, 22, 53, 39, 33, 30, 24, 18, 12, 5, 63, 55, 48, 27, 60, 41, 37, 16, 46, 35, 44, 21, 52, 32, 23, 11, 54, 26, 40, 15, 34, 20, 31, 10, 25, 14, 19, 9, 13, 8, 7, 6]
def zBI (y0 : uW) : Option Bool :=
 some (decide (40 < (zR ((len y0.2.1) + (len y0.2.2.1)))))
def zAi (y0 : List zH) (y1 : Int) : Option Bool :=
 some ((decide (0 ≤ y1)) && (decide (y1 < (len y0))))
def zLm (y0 : List Int) (s1 : Int) (s3 : (List Int) × Int × Int) : Option (((List Int) × Int × Int) ⊕ ((List Int) × Int)) :=
 if decide (s3.2.2 < ((Int.toNat (((List.length y0 : Nat) : Int) - s1) : Nat) : Int)) then
 (zSK s3.1 s1 s3.2.2).bind fun x3 =>
 (zSK s3.1 s1 (zR (s3.2.2 - 1))).bind fun x4 =>
 if x3 != x4 then
 (zSK s3.1 s1 s3.2.2).bind fun x5 =>
 (zD s3.1 s3.2.1).bind fun _ =>
 some (.inl (List.set s3.1 (Int.toNat s3.2.1) x5, zR (s3.2.1 + 1), zR (s3.2.2 + 1)))
 else
 some (.inl (s3.1, s3.2.1, zR (s3.2.2 + 1)))
 else
 some (.inr (s3.1, s3.2.1))
def zFJ (y0 : List Int) (s1 : Int) : Option (Int ⊕ (List Int)) :=
 if decide (s1 < (len y0)) then
 (zD y0 s1).bind fun x1 =>
 (zD y0 (zR (s1 - 1))).bind fun x2 =>
 if x1 == x2 then
 (vY (decide (0 ≤ s1) && decide (s1 ≤ len y0))).bind fun _ =>
 (zW (zLm y0 s1) (y0, s1, 1) : Option ((List Int) × Int)).bind fun s2 =>
 (vY (decide (0 ≤ s2.2) && decide (s2.2 ≤ len s2.1))).bind fun _ =>
 (sub (zC4 s2.1 s2.2 0) 0 s2.2).bind fun x7 =>
 some (.inr x7)
 else
 some (.inl (zR (s1 + 1)))
 else
 some (.inr y0)
def zAu (y0 : List Int) : Option (List Int) :=
 if decide ((len y0) < 2) then
 some y0
 else
 zW (zFJ y0) 1
def zBC (y0 : List Int) : Option (List Int) := z1T y0
def zC8 (x1 : zH) (rec_argument_Subs : (List zH) → Int → Option (List Int)) (y0 : List zH) (s2 : (List Int) × Int) : Option (((List Int) × Int) ⊕ (List Int)) :=
 if decide (s2.2 < (len x1.2.2.1)) then
 (zD x1.2.2.1 s2.2).bind fun x2 =>
 (rec_argument_Subs y0 x2).bind fun r2 =>
 (wB s2.1 r2).bind fun x3 =>
 some (.inl (x3, zR (s2.2 + 1)))
 else
 some (.inr s2.1)
def zEl (rec_argument_Subs : (List zH) → Int → Option (List Int)) (y0 : List zH) (y1 : Int) : Option (List Int) :=
 (zAi y0 y1).bind fun r1 =>
 if !r1 then
 some ([] : List Int)
 else
 (
 (zD y0 y1).bind fun x1 =>
 zW (zC8 x1 rec_argument_Subs y0) (([y1] : List Int), 0) : Option (List Int)).bind fun s1 =>
 (zBC s1).bind fun r3 =>
 (zAu r3).bind fun r4 =>
 some r4
def zC5 : Nat → (List zH) → Int → Option (List Int)
 | 0 => fun _ _ => none
 | k + 1 => fun y0 y1 => zEl (zC5 k) y0 y1
def zDI (y0 : List zH) (y1 : Int) : Option (List Int) := zVb fun k => zC5 k y0 y1
def zCe (r1 : (List Int)) (y1 : List zH) (y0 : zM) (s2 : (List Int) × Int) : Option (((List Int) × Int) ⊕ (List Int)) :=
 if decide (s2.2 < (len r1)) then
 (zD r1 s2.2).bind fun x1 =>
 (zD y1 x1).bind fun x2 =>
 (
 if decide (0 ≤ x2.2.1) then
 (zD y0.2.1 x2.2.1).bind fun x3 =>
 some (!x3.2.1)
 else
 some false : Option Bool).bind fun s3 =>
 if s3 then
 (wB s2.1 ([x2.2.1] : List Int)).bind fun x4 =>
 some (.inl (x4, zR (s2.2 + 1)))
 else
 some (.inl (s2.1, zR (s2.2 + 1)))
 else
 some (.inr s2.1)
def zB7 (y0 : zM) (y1 : List zH) (y2 : Int) : Option (List Int) :=
 (
 (zDI y1 y2).bind fun r1 =>
 zW (zCe r1 y1 y0) (([] : List Int), 0) : Option (List Int)).bind fun s1 =>
 (zBC s1).bind fun r2 =>
 (zAu r2).bind fun r3 =>
 some r3
def zG9 (x4 : zH) (rec_argument_run : zM → (List zH) → Int → Option (List zF)) (y0 : zM) (y1 : List zH) (s2 : (List zF) × Int) : Option (((List zF) × Int) ⊕ (List zF)) :=
 if decide (s2.2 < (len x4.2.2.1)) then
 (zD x4.2.2.1 s2.2).bind fun x5 =>
 (rec_argument_run y0 y1 x5).bind fun r1 =>
 (wB s2.1 r1).bind fun x6 =>
 some (.inl (x6, zR (s2.2 + 1)))
 else
 some (.inr s2.1)
def zFg (rec_argument_run : zM → (List zH) → Int → Option (List zF)) (y0 : zM) (y1 : List zH) (y2 : Int) : Option (List zF) :=
 (zD y1 y2).bind fun x1 =>
 (zD y1 y2).bind fun x2 =>
 (
 if decide (0 ≤ x2.2.1) then
 (zD y0.2.1 x2.2.1).bind fun x3 =>
 some x3.2.1
 else
 some false : Option Bool).bind fun s1 =>
 if s1 then
 (zD y1 y2).bind fun x4 =>
 zW (zG9 x4 rec_argument_run y0 y1) (([x1.2.2.2] : List zF), 0)
 else
 some ([x1.2.2.2] : List zF)
def zCX : Nat → zM → (List zH) → Int → Option (List zF)
 | 0 => fun _ _ _ => none
 | k + 1 => fun y0 y1 y2 => zFg (zCX k) y0 y1 y2
def zEI (y0 : zM) (y1 : List zH) (y2 : Int) : Option (List zF) := zVb fun k => zCX k y0 y1 y2
def zKt (y0 : List zF) (y1 : zF) (s1 : Int) : Option (Int ⊕ Int) :=
 if decide (s1 < (len y0)) then
 (zD y0 s1).bind fun x1 =>
 if y1 == x1 then
 some (.inr s1)
 else
 some (.inl (zR (s1 + 1)))
 else
 some (.inr (-1))
def zBp (y0 : List zF) (y1 : zF) : Option Int :=
 zW (zKt y0 y1) 0
def zBr (y0 : List zF) (y1 : zF) : Option Bool :=
 (zBp y0 y1).bind fun r1 =>
 some (decide (0 ≤ r1))
def zDf (y0 : List zF) (y1 : zF) : Option Bool :=
 (zBr y0 y1).bind fun r1 =>
 some r1
def zIv (y0 : List Int) (y1 : Int) (s1 : Int) : Option (Int ⊕ Int) :=
 if decide (s1 < (len y0)) then
 (zD y0 s1).bind fun x1 =>
 if y1 == x1 then
 some (.inr s1)
 else
 some (.inl (zR (s1 + 1)))
 else
 some (.inr (-1))
def zDh (y0 : List Int) (y1 : Int) : Option Int :=
 zW (zIv y0 y1) 0
def zAn (y0 : List Int) (y1 : Int) : Option Bool :=
 (zDh y0 y1).bind fun r1 =>
 some (decide (0 ≤ r1))
def zCJ (y3 : List Int) (y0 : zM) (y2 : Int) (y1 : List zH) (s1 : Int) : Option (Int ⊕ Bool) :=
 if decide (s1 < (len y3)) then
 (zD y3 s1).bind fun x1 =>
 (zD y0.2.1 y2).bind fun x2 =>
 if x2.2.1 then
 (zD y0.2.1 y2).bind fun x3 =>
 (zEI y0 y1 x1).bind fun r1 =>
 (zDf r1 x3.2.2.2.2).bind fun r2 =>
 if r2 then
 some (.inr false)
 else
 some (.inl (zR (s1 + 1)))
 else
 (zB7 y0 y1 x1).bind fun r3 =>
 (zAn r3 y2).bind fun r4 =>
 if r4 then
 some (.inr false)
 else
 some (.inl (zR (s1 + 1)))
 else
 some (.inr true)
def zCU (y0 : zM) (y1 : List zH) (y2 : Int) (y3 : List Int) : Option Bool :=
 zW (zCJ y3 y0 y2 y1) 0
def zDi (y0 : List Int) : Option (List Int) :=
 (wB ([] : List Int) y0).bind fun x1 =>
 some x1
def zD5 (y0 : Int) (y2 : uW) : Option Bool :=
 some (decide (y2.2.2.2 ≤ y0))
def zAO (y0 : List Int) (y2 : uW) (s1 : Int) : Option (Int ⊕ Int) :=
 if decide (s1 < (len y0)) then
 (zD y0 s1).bind fun x1 =>
 (zD5 x1 y2).bind fun r1 =>
 if r1 then
 some (.inr s1)
 else
 some (.inl (zR (s1 + 1)))
 else
 some (.inr (-1))
def zAF (y0 : List Int) (y2 : uW) : Option Int :=
 zW (zAO y0 y2) 0
def zAA (y0 : List Int) (y2 : uW) : Option Bool :=
 (zAF y0 y2).bind fun r1 =>
 some (decide (0 ≤ r1))
def zAg (y0 : uW) (x1 : qK) (y2 : List Int) (rec_argument_builder_apply_2 : uW → Int → (List Int) → Option (List zH)) (y1 : Int) (s2 : Int × (List zH)) : Option ((Int × (List zH)) ⊕ (Unit ⊕ (List zH))) :=
 if decide (s2.1 < (len y0.2.1)) then
 (zD y0.2.1 s2.1).bind fun x2 =>
 (zD x1.2.2.2.1 (len y2)).bind fun x3 =>
 if x2.2.2.2 == x3 then
 (
 (zDi y2).bind fun r2 =>
 (wB r2 ([s2.1] : List Int)).bind fun x4 =>
 (rec_argument_builder_apply_2 (y0.1, y0.2.1, s2.2, y0.2.2.2) y1 x4).bind fun r3 =>
 some r3 : Option (List zH)).bind fun s3 =>
 some (.inl (zR (s2.1 + 1), s3))
 else
 some (.inl (zR (s2.1 + 1), s2.2))
 else
 some (.inr (.inr s2.2))
def zBE (rec_argument_builder_apply_2 : uW → Int → (List Int) → Option (List zH)) (y0 : uW) (y1 : Int) (y2 : List Int) : Option (List zH) :=
 (zD y0.1.2.1 y1).bind fun x1 =>
 (zBI y0).bind fun r1 =>
 if r1 then
 some y0.2.2.1
 else
 yC (
 if decide ((len y2) < (len x1.2.2.2.1)) then
 zW (zAg y0 x1 y2 rec_argument_builder_apply_2 y1) (0, y0.2.2.1)
 else
 some (.inl ()) : Option (Unit ⊕ (List zH))) fun _ =>
 (
 (zAA y2 y0).bind fun r6 =>
 if r6 then
 (zCU y0.1 y0.2.1 y1 y2).bind fun r7 =>
 some r7
 else
 some false : Option Bool).bind fun s4 =>
 if s4 then
 (zD y0.1.2.1 y1).bind fun x6 =>
 (wB y0.2.2.1 ([((-1), y1, y2, x6.2.2.2.2)] : List zH)).bind fun x7 =>
 some x7
 else
 some y0.2.2.1
def zA7 : Nat → uW → Int → (List Int) → Option (List zH)
 | 0 => fun _ _ _ => none
 | k + 1 => fun y0 y1 y2 => zBE (zA7 k) y0 y1 y2
def zBF (y0 : uW) (y1 : Int) (y2 : List Int) : Option (List zH) := zVb fun k => zA7 k y0 y1 y2
def zI1 (y0 : qK) (y1 : qC) : Option Bool :=
 some (y0.1 == y1)
def zAb (y0 : List qK) (y1 : qC) (s1 : Int) : Option (Int ⊕ Int) :=
 if decide (s1 < (len y0)) then
 (zD y0 s1).bind fun x1 =>
 (zI1 x1 y1).bind fun r1 =>
 if r1 then
 some (.inr s1)
 else
 some (.inl (zR (s1 + 1)))
 else
 some (.inr (-1))
def zAZ (y0 : List qK) (y1 : qC) : Option Int :=
 zW (zAb y0 y1) 0
def zDQ (y0 : zM) (y1 : qC) : Option Int :=
 (zAZ y0.2.1 y1).bind fun r1 =>
 some r1
def zGq (y0 : vO) (y1 : zF) : Option Bool :=
 some (y0.1 == y1)
def zAU (y0 : List vO) (y1 : zF) (s1 : Int) : Option (Int ⊕ Int) :=
 if decide (s1 < (len y0)) then
 (zD y0 s1).bind fun x1 =>
 (zGq x1 y1).bind fun r1 =>
 if r1 then
 some (.inr s1)
 else
 some (.inl (zR (s1 + 1)))
 else
 some (.inr (-1))
def zAJ (y0 : List vO) (y1 : zF) : Option Int :=
 zW (zAU y0 y1) 0
def zCd (y0 : zM) (y1 : zF) : Option Int :=
 (zAJ y0.1 y1).bind fun r1 =>
 some r1
def zDY (y0 : qC) (s1 : Int) : Option (Int ⊕ Bool) :=
 if decide (s1 < (len y0)) then
 (tW y0 s1).bind fun x1 =>
 if (decide (97 ≤ x1)) && (decide (x1 ≤ 122)) then
 some (.inl (zR (s1 + 1)))
 else
 if (decide (0 < s1)) && (if decide (48 ≤ x1) then (decide (x1 ≤ 57)) || (x1 == 95) else x1 == 95) then
 some (.inl (zR (s1 + 1)))
 else
 some (.inr false)
 else
 some (.inr true)
def zBK (y0 : qC) : Option Bool :=
 if ((len y0) == 0) || (decide (12 < (len y0))) then
 some false
 else
 zW (zDY y0) 0
def zB6 (y0 : zF) : Option Bool :=
 (zBK y0.2).bind fun r1 =>
 some r1
def zCV (y0 : Int) : Option Bool :=
 some ((decide (0 ≤ y0)) && (decide (y0 ≤ 9)))
def zDs (y0 : qC) : Option Bool :=
 (
 if y0 == [] then
 some true
 else
 (zBK y0).bind fun r1 =>
 some r1 : Option Bool).bind fun s1 =>
 some s1
def zC7 (y0 : vO) : Option Int :=
 yC (
 (
 if y0.2.1 == 1 then
 some (y0.2.1 == 1)
 else
 some (y0.2.1 == 3) : Option Bool).bind fun s2 =>
 if s2 then
 if y0.2.2.1 != 0 then
 some (.inr 1)
 else
 some (.inl ())
 else
 if y0.2.1 == 2 then
 (zCV y0.2.2.1).bind fun r1 =>
 if !r1 then
 some (.inr 1)
 else
 some (.inl ())
 else
 some (.inr 4) : Option (Unit ⊕ Int)) fun _ =>
 (
 (zB6 y0.1).bind fun r2 =>
 if !r2 then
 some true
 else
 (zDs y0.2.2.2).bind fun r3 =>
 some (!r3) : Option Bool).bind fun s3 =>
 if s3 then
 some 1
 else
 some 0
def zCI (y0 : zM) (y1 : vN) : Option Int :=
 (
 (zCV y1.2.1).bind fun r1 =>
 if !r1 then
 some true
 else
 (zB6 y1.2.2).bind fun r2 =>
 some (!r2) : Option Bool).bind fun s1 =>
 if s1 then
 some 1
 else
 (zDQ y0 y1.1).bind fun r3 =>
 if decide (r3 < 0) then
 some 6
 else
 (zD y0.2.1 r3).bind fun x1 =>
 if x1.2.1 then
 some 4
 else
 some 0
def zDe (y0 : qC) : Option Bool :=
 some (!(y0 == y0))
def zEW (y0 : qC) (y1 : qC) : Option Int :=
 (zDe y0).bind fun r1 =>
 (zDe y1).bind fun r2 =>
 if r1 then
 if r2 then
 some 0
 else
 some (-1)
 else
 if r2 then
 some 1
 else
 if uI y0 y1 then
 some (-1)
 else
 if !(uI y0 y1 || y0 == y1) then
 some 1
 else
 some 0
def zB9 (y0 : zF) (y1 : zF) : Option Int :=
 (zEW y0.2 y1.2).bind fun r1 =>
 if (r1 != 0) || (y0.1 == y1.1) then
 some r1
 else
 if y1.1 then
 some (-1)
 else
 some 1
def zCf (y0 : qK) (s3 : Int) : Option (Int ⊕ (Unit ⊕ Int)) :=
 if decide (s3 < (len y0.2.2.2.1)) then
 (zD y0.2.2.2.1 s3).bind fun x1 =>
 (zB6 x1).bind fun r4 =>
 if !r4 then
 some (.inr (.inr 1))
 else
 some (.inl (zR (s3 + 1)))
 else
 some (.inr (.inl ()))
def zFr (y0 : qK) (s4 : Int) : Option (Int ⊕ Int) :=
 if decide (s4 < (len y0.2.2.2.1)) then
 (zD y0.2.2.2.1 (zR (s4 - 1))).bind fun x2 =>
 (zD y0.2.2.2.1 s4).bind fun x3 =>
 (zB9 x2 x3).bind fun r5 =>
 if decide (0 ≤ r5) then
 some (.inr 8)
 else
 some (.inl (zR (s4 + 1)))
 else
 some (.inr 0)
def zEe (y0 : qK) : Option Int :=
 if decide (4 < (len y0.2.2.2.1)) then
 some 2
 else
 (
 (zBK y0.1).bind fun r1 =>
 if !r1 then
 some true
 else
 (zB6 y0.2.2.2.2).bind fun r2 =>
 if !r2 then
 some true
 else
 (zCV y0.2.2.1).bind fun r3 =>
 if !r3 then
 some true
 else
 if y0.2.1 then
 some (y0.2.2.1 != 0)
 else
 some false : Option Bool).bind fun s1 =>
 if s1 then
 some 1
 else
 yC (zW (zCf y0) 0 : Option (Unit ⊕ Int)) fun _ =>
 zW (zFr y0) 1
def zBm (y0 : zM) (s2 : Int) : Option (Int ⊕ (Unit ⊕ Int)) :=
 if decide (s2 < (len y0.1)) then
 (zD y0.1 s2).bind fun x1 =>
 (zC7 x1).bind fun r1 =>
 if r1 != 0 then
 some (.inr (.inr r1))
 else
 (zCd y0 x1.1).bind fun r2 =>
 if decide (r2 < s2) then
 some (.inr (.inr 5))
 else
 some (.inl (zR (s2 + 1)))
 else
 some (.inr (.inl ()))
def zBq (y0 : zM) (s4 : Int) : Option (Int ⊕ (Unit ⊕ Int)) :=
 if decide (s4 < (len y0.2.1)) then
 (zD y0.2.1 s4).bind fun x2 =>
 (zEe x2).bind fun r3 =>
 if r3 != 0 then
 some (.inr (.inr r3))
 else
 (zDQ y0 x2.1).bind fun r4 =>
 if decide (r4 < s4) then
 some (.inr (.inr 5))
 else
 some (.inl (zR (s4 + 1)))
 else
 some (.inr (.inl ()))
def zBo (y0 : zM) (s5 : Int) : Option (Int ⊕ Int) :=
 if decide (s5 < (len y0.2.2)) then
 (zD y0.2.2 s5).bind fun x3 =>
 (zCI y0 x3).bind fun r5 =>
 if r5 != 0 then
 some (.inr r5)
 else
 some (.inl (zR (s5 + 1)))
 else
 some (.inr 0)
def zB5 (y0 : zM) : Option Int :=
 if (decide (16 < (len y0.1))) || ((decide (24 < (len y0.2.1))) || (decide (8 < (len y0.2.2)))) then
 some 2
 else
 yC (zW (zBm y0) 0 : Option (Unit ⊕ Int)) fun _ =>
 yC (zW (zBq y0) 0 : Option (Unit ⊕ Int)) fun _ =>
 zW (zBo y0) 0
def zDH (y0 : zM) (s2 : Int × (List zH)) : Option ((Int × (List zH)) ⊕ (List zH)) :=
 if decide (s2.1 < (len y0.1)) then
 (zD y0.1 s2.1).bind fun x1 =>
 (wB s2.2 ([(s2.1, (-1), ([] : List Int), x1.1)] : List zH)).bind fun x2 =>
 some (.inl (zR (s2.1 + 1), x2))
 else
 some (.inr s2.2)
def zBw (y0 : zM) (s4 : Int × (List zH) × (List zH) × Int) (s6 : Int × (List zH)) : Option ((Int × (List zH)) ⊕ ((List zH) ⊕ ((Int × (List zH) × (List zH) × Int) ⊕ ((List zH) × (List zH) × Int)))) :=
 if decide (s6.1 < (len y0.2.1)) then
 (zD y0.2.1 s6.1).bind fun x3 =>
 (
 if decide (0 < (len x3.2.2.2.1)) then
 (zBF (y0, s4.2.1, s6.2, s4.2.2.2) s6.1 ([] : List Int)).bind fun r2 =>
 some r2
 else
 if s4.1 == 1 then
 (wB s6.2 ([((-1), s6.1, ([] : List Int), x3.2.2.2.2)] : List zH)).bind fun x4 =>
 some x4
 else
 some s6.2 : Option (List zH)).bind fun s7 =>
 (zBI (y0, s4.2.1, s7, s4.2.2.2)).bind fun r3 =>
 if r3 then
 some (.inr (.inr (.inr (s4.2.1, s7, s4.2.2.2))))
 else
 some (.inl (zR (s6.1 + 1), s7))
 else
 some (.inr (.inl s6.2))
def zAp (y0 : zM) (s4 : Int × (List zH) × (List zH) × Int) : Option ((Int × (List zH) × (List zH) × Int) ⊕ ((List zH) × (List zH) × Int)) :=
 yC (zW (zBw y0 s4) (0, ([] : List zH)) : Option ((List zH) ⊕ ((Int × (List zH) × (List zH) × Int) ⊕ ((List zH) × (List zH) × Int)))) fun s5 =>
 if (len s5) == 0 then
 some (.inr (s4.2.1, s5, s4.2.2.2))
 else
 (wB s4.2.1 s5).bind fun x5 =>
 some (.inl (zR (s4.1 + 1), x5, s5, len s4.2.1))
def zD9 (y0 : zM) : Option ((List zH) × Int) :=
 (zB5 y0).bind fun r1 =>
 if r1 != 0 then
 some (([] : List zH), r1)
 else
 (zW (zDH y0) (0, ([] : List zH)) : Option (List zH)).bind fun s1 =>
 (zW (zAp y0) (1, s1, ([] : List zH), 0) : Option ((List zH) × (List zH) × Int)).bind fun s3 =>
 (zBI (y0, s3.1, s3.2.1, s3.2.2)).bind fun r4 =>
 if r4 then
 some (([] : List zH), 2)
 else
 some (s3.1, 0)
def zCN (y0 : List zF) : Option (List zF) :=
 (wB ([] : List zF) y0).bind fun x1 =>
 some x1
def zJj (y0 : List zF) (s1 : Int) (s3 : (List zF) × Int × Int) : Option (((List zF) × Int × Int) ⊕ ((List zF) × Int)) :=
 if decide (s3.2.2 < ((Int.toNat (((List.length y0 : Nat) : Int) - s1) : Nat) : Int)) then
 (zSK s3.1 s1 s3.2.2).bind fun x3 =>
 (zSK s3.1 s1 (zR (s3.2.2 - 1))).bind fun x4 =>
 if !(x3 == x4) then
 (zSK s3.1 s1 s3.2.2).bind fun x5 =>
 (zD s3.1 s3.2.1).bind fun _ =>
 some (.inl (List.set s3.1 (Int.toNat s3.2.1) x5, zR (s3.2.1 + 1), zR (s3.2.2 + 1)))
 else
 some (.inl (s3.1, s3.2.1, zR (s3.2.2 + 1)))
 else
 some (.inr (s3.1, s3.2.1))
def zDP (y0 : List zF) (s1 : Int) : Option (Int ⊕ (List zF)) :=
 if decide (s1 < (len y0)) then
 (zD y0 s1).bind fun x1 =>
 (zD y0 (zR (s1 - 1))).bind fun x2 =>
 if x1 == x2 then
 (vY (decide (0 ≤ s1) && decide (s1 ≤ len y0))).bind fun _ =>
 (zW (zJj y0 s1) (y0, s1, 1) : Option ((List zF) × Int)).bind fun s2 =>
 (vY (decide (0 ≤ s2.2) && decide (s2.2 ≤ len s2.1))).bind fun _ =>
 (sub (zC4 s2.1 s2.2 (false, [])) 0 s2.2).bind fun x7 =>
 some (.inr x7)
 else
 some (.inl (zR (s1 + 1)))
 else
 some (.inr y0)
def zBW (y0 : List zF) : Option (List zF) :=
 if decide ((len y0) < 2) then
 some y0
 else
 zW (zDP y0) 1
def zAE (y0 : List zF) : Option (List zF) := zT2 zB9 y0
def zCq (y0 : List zF) : Option (List zF) :=
 (zCN y0).bind fun r1 =>
 (zAE r1).bind fun r2 =>
 (zBW r2).bind fun r3 =>
 some r3
def zCW (y1 : List Int) (y0 : List zH) (s2 : (List zF) × Int) : Option (((List zF) × Int) ⊕ (List zF)) :=
 if decide (s2.2 < (len y1)) then
 (zD y1 s2.2).bind fun x1 =>
 (zAi y0 x1).bind fun r1 =>
 if r1 then
 (zD y0 x1).bind fun x2 =>
 (wB s2.1 ([x2.2.2.2] : List zF)).bind fun x3 =>
 some (.inl (x3, zR (s2.2 + 1)))
 else
 some (.inl (s2.1, zR (s2.2 + 1)))
 else
 some (.inr s2.1)
def zBT (y0 : List zH) (y1 : List Int) : Option (List zF) :=
 (zW (zCW y1 y0) (([] : List zF), 0) : Option (List zF)).bind fun s1 =>
 (zCq s1).bind fun r2 =>
 some r2
def zGo (y0 : zF) : Option zF :=
 some (!y0.1, y0.2)
def zIh (y0 : zM) (y1 : List zH) (y2 : Int) (y3 : Int) : Option (List Int) :=
 (
 (zD y1 y2).bind fun x1 =>
 (zD y1 y3).bind fun x2 =>
 some (x1.2.2.2, x2) : Option (zF × zH)).bind fun s1 =>
 (zGo s1.2.2.2.2).bind fun r1 =>
 if decide (0 ≤ s1.2.1) then
 (
 if s1.1 == r1 then
 (zD y0.1 s1.2.1).bind fun x3 =>
 some (x3.2.1 != 1)
 else
 some false : Option Bool).bind fun s2 =>
 if s2 then
 (wB ([] : List Int) ([1] : List Int)).bind fun x4 =>
 some x4
 else
 some ([] : List Int)
 else
 (zD y0.2.1 s1.2.2.1).bind fun x5 =>
 if !x5.2.1 then
 (
 if s1.1 == r1 then
 (wB ([] : List Int) ([2] : List Int)).bind fun x6 =>
 some x6
 else
 some ([] : List Int) : Option (List Int)).bind fun s3 =>
 (
 if s1.1.1 then
 (zD y0.2.1 s1.2.2.1).bind fun x7 =>
 some (s1.1.2 == x7.1)
 else
 some false : Option Bool).bind fun s4 =>
 if s4 then
 (wB s3 ([3] : List Int)).bind fun x8 =>
 some x8
 else
 some s3
 else
 some ([] : List Int)
def zGI (y0 : Int) : Option Bool :=
 some (y0 != y0)
def zAy (y0 : Int) (y1 : Int) : Option Int :=
 (zGI y0).bind fun r1 =>
 (zGI y1).bind fun r2 =>
 if r1 then
 if r2 then
 some 0
 else
 some (-1)
 else
 if r2 then
 some 1
 else
 if decide (y0 < y1) then
 some (-1)
 else
 if decide (y1 < y0) then
 some 1
 else
 some 0
def zRI (y0 : List Int) (s1 : Int) : Option (Int ⊕ Int) :=
 if decide (s1 < (len y0)) then
 (zD y0 s1).bind fun x1 =>
 if x1 != 0 then
 some (.inr x1)
 else
 some (.inl (zR (s1 + 1)))
 else
 some (.inr 0)
def zGN (y0 : List Int) : Option Int :=
 zW (zRI y0) 0
def zCh (y0 : wT) (y1 : wT) : Option Int :=
 (zAy y0.1 y1.1).bind fun r1 =>
 (zAy y0.2.1 y1.2.1).bind fun r2 =>
 (zAy y0.2.2.1 y1.2.2.1).bind fun r3 =>
 (zAy y0.2.2.2 y1.2.2.2).bind fun r4 =>
 (zGN ([r1, r2, r3, r4] : List Int)).bind fun r5 =>
 some r5
def zAS (y0 : List wT) : Option (List wT) := zT2 zCh y0
def zFT (r1 : (List Int)) (s3 : (List wT) × Int) (s4 : (List wT) × Int) (s2 : (List wT) × Int) (s5 : (List wT) × Int) : Option (((List wT) × Int) ⊕ (((List wT) × Int) ⊕ (((List wT) × Int) ⊕ (((List wT) × Int) ⊕ (List wT))))) :=
 if decide (s5.2 < (len r1)) then
 (zD r1 s5.2).bind fun x1 =>
 (wB s5.1 ([(s3.2, s4.2, s2.2, x1)] : List wT)).bind fun x2 =>
 some (.inl (x2, zR (s5.2 + 1)))
 else
 some (.inr (.inl (s5.1, zR (s4.2 + 1))))
def zCS (y1 : List zH) (s2 : (List wT) × Int) (r1 : (List Int)) (s3 : (List wT) × Int) (s4 : (List wT) × Int) : Option (((List wT) × Int) ⊕ (((List wT) × Int) ⊕ (((List wT) × Int) ⊕ (List wT)))) :=
 if decide (s4.2 < (len y1)) then
 (zDI y1 s4.2).bind fun r2 =>
 (zAn r2 s2.2).bind fun r3 =>
 if !r3 then
 some (.inl (s4.1, zR (s4.2 + 1)))
 else
 zW (zFT r1 s3 s4 s2) (s4.1, 0)
 else
 some (.inr (.inl (s4.1, zR (s3.2 + 1))))
def zCT (y1 : List zH) (y0 : zM) (s2 : (List wT) × Int) (s3 : (List wT) × Int) : Option (((List wT) × Int) ⊕ (((List wT) × Int) ⊕ (List wT))) :=
 if decide (s3.2 < (len y1)) then
 (zIh y0 y1 s3.2 s2.2).bind fun r1 =>
 if (len r1) == 0 then
 some (.inl (s3.1, zR (s3.2 + 1)))
 else
 zW (zCS y1 s2 r1 s3) (s3.1, 0)
 else
 some (.inr (.inl (s3.1, zR (s2.2 + 1))))
def zBx (y1 : List zH) (y0 : zM) (s2 : (List wT) × Int) : Option (((List wT) × Int) ⊕ (List wT)) :=
 if decide (s2.2 < (len y1)) then
 zW (zCT y1 y0 s2) (s2.1, 0)
 else
 some (.inr s2.1)
def zD7 (y0 : zM) (y1 : List zH) : Option (List wT) :=
 (zW (zBx y1 y0) (([] : List wT), 0) : Option (List wT)).bind fun s1 =>
 (zAS s1).bind fun r4 =>
 some r4
def zDW (r1 : (List Int)) (y0 : List zH) (s2 : (List Int) × Int) : Option (((List Int) × Int) ⊕ (List Int)) :=
 if decide (s2.2 < (len r1)) then
 (zD r1 s2.2).bind fun x1 =>
 (zD y0 x1).bind fun x2 =>
 if decide (0 ≤ x2.1) then
 (zD y0 x1).bind fun x3 =>
 (wB s2.1 ([x3.1] : List Int)).bind fun x4 =>
 some (.inl (x4, zR (s2.2 + 1)))
 else
 some (.inl (s2.1, zR (s2.2 + 1)))
 else
 some (.inr s2.1)
def zBu (y0 : List zH) (y1 : Int) : Option (List Int) :=
 (
 (zDI y0 y1).bind fun r1 =>
 zW (zDW r1 y0) (([] : List Int), 0) : Option (List Int)).bind fun s1 =>
 (zBC s1).bind fun r2 =>
 some r2
def zHF (y0 : Int) (y1 : zM) : Option Bool :=
 (zD y1.1 y0).bind fun x1 =>
 some (x1.2.1 == 3)
def zAV (y0 : List Int) (y1 : zM) (s1 : Int) : Option (Int ⊕ Int) :=
 if decide (s1 < (len y0)) then
 (zD y0 s1).bind fun x1 =>
 (zHF x1 y1).bind fun r1 =>
 if r1 then
 some (.inr s1)
 else
 some (.inl (zR (s1 + 1)))
 else
 some (.inr (-1))
def zA3 (y0 : List Int) (y1 : zM) : Option Int :=
 zW (zAV y0 y1) 0
def zAX (y0 : List Int) (y1 : zM) : Option Bool :=
 (zA3 y0 y1).bind fun r1 =>
 some (decide (0 ≤ r1))
def zFf (y0 : zM) (y1 : List zH) (y2 : Int) : Option Bool :=
 (zBu y1 y2).bind fun r1 =>
 (zAX r1 y0).bind fun r2 =>
 some r2
def zCa (x5 : zH) (rec_argument_Last : zM → (List zH) → Int → Option (List Int)) (y0 : zM) (y1 : List zH) (s3 : (List Int) × Int) : Option (((List Int) × Int) ⊕ (List Int)) :=
 if decide (s3.2 < (len x5.2.2.1)) then
 (zD x5.2.2.1 s3.2).bind fun x6 =>
 (rec_argument_Last y0 y1 x6).bind fun r2 =>
 (wB s3.1 r2).bind fun x7 =>
 some (.inl (x7, zR (s3.2 + 1)))
 else
 some (.inr s3.1)
def zEn (rec_argument_Last : zM → (List zH) → Int → Option (List Int)) (y0 : zM) (y1 : List zH) (y2 : Int) : Option (List Int) :=
 (
 (zAi y1 y2).bind fun r1 =>
 if !r1 then
 some true
 else
 (zD y1 y2).bind fun x1 =>
 some (decide (x1.2.1 < 0)) : Option Bool).bind fun s1 =>
 if s1 then
 some ([] : List Int)
 else
 (zD y1 y2).bind fun x2 =>
 (zD y0.2.1 x2.2.1).bind fun x3 =>
 if !x3.2.1 then
 (zD y1 y2).bind fun x4 =>
 some ([x4.2.1] : List Int)
 else
 (
 (zD y1 y2).bind fun x5 =>
 zW (zCa x5 rec_argument_Last y0 y1) (([] : List Int), 0) : Option (List Int)).bind fun s2 =>
 (zBC s2).bind fun r3 =>
 (zAu r3).bind fun r4 =>
 some r4
def zC0 : Nat → zM → (List zH) → Int → Option (List Int)
 | 0 => fun _ _ _ => none
 | k + 1 => fun y0 y1 y2 => zEn (zC0 k) y0 y1 y2
def zGJ (y0 : zM) (y1 : List zH) (y2 : Int) : Option (List Int) := zVb fun k => zC0 k y0 y1 y2
def zIA (y1 : List Int) (y0 : zM) (s1 : (List Int) × Int) : Option (((List Int) × Int) ⊕ (List Int)) :=
 if decide (s1.2 < (len y1)) then
 (zD y1 s1.2).bind fun x1 =>
 (zD y0.2.1 x1).bind fun x2 =>
 (wB s1.1 ([x2.2.2.1] : List Int)).bind fun x3 =>
 some (.inl (x3, zR (s1.2 + 1)))
 else
 some (.inr s1.1)
def zHZ (y0 : zM) (y1 : List Int) : Option (List Int) :=
 zW (zIA y1 y0) (([] : List Int), 0)
def zBt (y0 : zM) (y1 : List zH) (y2 : Int) : Option (List Int) :=
 (zGJ y0 y1 y2).bind fun r1 =>
 (zHZ y0 r1).bind fun r2 =>
 some r2
def zFP (y0 : List Int) (s2 : Int × Int) : Option ((Int × Int) ⊕ Int) :=
 if decide (s2.2 < (len y0)) then
 (zD y0 s2.2).bind fun x2 =>
 some (.inl (if x2 > s2.1 then x2 else s2.1, zR (s2.2 + 1)))
 else
 some (.inr s2.1)
def zCu (y0 : List Int) : Option Int :=
 (
 if decide ((len y0) < 1) then
 none
 else
 some () : Option Unit).bind fun _ =>
 (zD y0 0).bind fun x1 =>
 zW (zFP y0) (x1, 1)
def zFI (y0 : List Int) (s2 : Int × Int) : Option ((Int × Int) ⊕ Int) :=
 if decide (s2.2 < (len y0)) then
 (zD y0 s2.2).bind fun x2 =>
 some (.inl (if x2 < s2.1 then x2 else s2.1, zR (s2.2 + 1)))
 else
 some (.inr s2.1)
def zCp (y0 : List Int) : Option Int :=
 (
 if decide ((len y0) < 1) then
 none
 else
 some () : Option Unit).bind fun _ =>
 (zD y0 0).bind fun x1 =>
 zW (zFI y0) (x1, 1)
def zDE (y0 : List Int) (y1 : List Int) (y2 : Int) : Option Bool :=
 if if y2 != 1 then (y2 != 2) || ((len y0) == 0) else (len y0) == 0 then
 some false
 else
 if (len y1) == 0 then
 some true
 else
 if y2 == 1 then
 (zCp y0).bind fun r1 =>
 (zCp y1).bind fun r2 =>
 some (decide (r1 < r2))
 else
 (zCu y0).bind fun r3 =>
 (zCu y1).bind fun r4 =>
 some (decide (r3 < r4))
def zAh (y0 : zM) (y1 : List zH) (y2 : Int) (y3 : Int) (y4 : yH) : Option Bool :=
 (zBt y0 y1 y2).bind fun r1 =>
 (zBt y0 y1 y3).bind fun r2 =>
 (zDE r1 r2 y4.2).bind fun r3 =>
 some r3
def zD0 (r1 : (List Int)) (y0 : zM) (s1 : (List Int) × Int) : Option (((List Int) × Int) ⊕ (List Int)) :=
 if decide (s1.2 < (len r1)) then
 (zD r1 s1.2).bind fun x1 =>
 (zD y0.1 x1).bind fun x2 =>
 if x2.2.1 == 2 then
 (wB s1.1 ([x2.2.2.1] : List Int)).bind fun x3 =>
 some (.inl (x3, zR (s1.2 + 1)))
 else
 if x2.2.1 == 3 then
 (wB s1.1 ([(-1)] : List Int)).bind fun x4 =>
 some (.inl (x4, zR (s1.2 + 1)))
 else
 some (.inl (s1.1, zR (s1.2 + 1)))
 else
 some (.inr s1.1)
def zBM (y0 : zM) (y1 : List zH) (y2 : Int) : Option (List Int) :=
 (zBu y1 y2).bind fun r1 =>
 zW (zD0 r1 y0) (([] : List Int), 0)
def zAI (y0 : zM) (y1 : List zH) (y2 : Int) (y3 : Int) (y4 : yH) : Option Bool :=
 (zBM y0 y1 y2).bind fun r1 =>
 (zBM y0 y1 y3).bind fun r2 =>
 (zDE r1 r2 y4.2).bind fun r3 =>
 some r3
def zAk (y0 : zM) (y1 : List zH) (y2 : Int) (y3 : Int) : Option Bool :=
 (
 (zBt y0 y1 y2).bind fun r1 =>
 if (len r1) == 0 then
 (zBt y0 y1 y3).bind fun r2 =>
 some ((len r2) == 0)
 else
 some false : Option Bool).bind fun s1 =>
 some s1
def zBf (y1 : zM) (y2 : List zH) (y3 : Int) (y4 : Int) (y5 : yH) : Option Bool :=
 (
 (zAh y1 y2 y3 y4 y5).bind fun r1 =>
 if r1 then
 some true
 else
 (zAk y1 y2 y3 y4).bind fun r2 =>
 if r2 then
 (zAI y1 y2 y3 y4 y5).bind fun r3 =>
 some r3
 else
 some false : Option Bool).bind fun s1 =>
 some s1
def zBs (y0 : zM) (y1 : List zH) (y2 : Int) : Option (List Int) :=
 (zB7 y0 y1 y2).bind fun r1 =>
 (zHZ y0 r1).bind fun r2 =>
 some r2
def zA6 (y0 : zM) (y1 : List zH) (y2 : Int) (y3 : Int) (y4 : yH) : Option Bool :=
 (zBs y0 y1 y2).bind fun r1 =>
 (zBs y0 y1 y3).bind fun r2 =>
 (zDE r1 r2 y4.2).bind fun r3 =>
 some r3
def zAa (y0 : zM) (y1 : List zH) (y2 : Int) (y3 : Int) : Option Bool :=
 (
 (zBM y0 y1 y2).bind fun r1 =>
 if (len r1) == 0 then
 (zBM y0 y1 y3).bind fun r2 =>
 some ((len r2) == 0)
 else
 some false : Option Bool).bind fun s1 =>
 some s1
def zAj (y0 : zM) (y1 : List zH) (y2 : Int) (y3 : Int) : Option Bool :=
 (
 (zBs y0 y1 y2).bind fun r1 =>
 if (len r1) == 0 then
 (zBs y0 y1 y3).bind fun r2 =>
 some ((len r2) == 0)
 else
 some false : Option Bool).bind fun s1 =>
 some s1
def zBi (y1 : zM) (y2 : List zH) (y3 : Int) (y4 : Int) (y6 : yH) : Option Bool :=
 (zAj y1 y2 y3 y4).bind fun r1 =>
 if r1 then
 (zAI y1 y2 y3 y4 y6).bind fun r2 =>
 some r2
 else
 (zAa y1 y2 y3 y4).bind fun r3 =>
 if r3 then
 (zA6 y1 y2 y3 y4 y6).bind fun r4 =>
 some r4
 else
 (
 (zAI y1 y2 y3 y4 y6).bind fun r5 =>
 if r5 then
 (zA6 y1 y2 y3 y4 y6).bind fun r6 =>
 some r6
 else
 some false : Option Bool).bind fun s1 =>
 some s1
def zI2 (y0 : zM) (y1 : List zH) (y2 : Int) (y3 : Int) (y4 : yH) : Option Bool :=
 (
 if decide ((if y3 < y2 then y3 else y2) < 0) then
 some true
 else
 if decide ((len y1) ≤ (if y3 > y2 then y3 else y2)) then
 some true
 else
 (zFf y0 y1 y3).bind fun r1 =>
 some r1 : Option Bool).bind fun s1 =>
 if s1 then
 some false
 else
 if y4.1 == 1 then
 (zBf y0 y1 y2 y3 y4).bind fun r2 =>
 some r2
 else
 if y4.1 == 2 then
 (zBi y0 y1 y2 y3 y4).bind fun r3 =>
 some r3
 else
 some false
def zBl (y0 : wT) (y1 : zM) (y2 : List zH) (y3 : yH) : Option Bool :=
 (
 if y0.2.2.2 != 3 then
 (zI2 y1 y2 y0.1 y0.2.2.1 y3).bind fun r1 =>
 some r1
 else
 some false : Option Bool).bind fun s1 =>
 some s1
def zAs (y0 : List wT) (y1 : zM) (y2 : List zH) (y3 : yH) (s1 : Int) : Option (Int ⊕ Int) :=
 if decide (s1 < (len y0)) then
 (zD y0 s1).bind fun x1 =>
 (zBl x1 y1 y2 y3).bind fun r1 =>
 if r1 then
 some (.inr s1)
 else
 some (.inl (zR (s1 + 1)))
 else
 some (.inr (-1))
def zAc (y0 : List wT) (y1 : zM) (y2 : List zH) (y3 : yH) : Option Int :=
 zW (zAs y0 y1 y2 y3) 0
def zAq (y0 : List wT) (y1 : zM) (y2 : List zH) (y3 : yH) (s2 : (List wT) × Int × Int) : Option (((List wT) × Int × Int) ⊕ ((List wT) × Int)) :=
 if decide (s2.2.2 < (len y0)) then
 (zD s2.1 s2.2.2).bind fun x1 =>
 (zBl x1 y1 y2 y3).bind fun r2 =>
 if !r2 then
 (zD s2.1 s2.2.1).bind fun _ =>
 some (.inl (List.set s2.1 (Int.toNat s2.2.1) x1, zR (s2.2.1 + 1), zR (s2.2.2 + 1)))
 else
 some (.inl (s2.1, s2.2.1, zR (s2.2.2 + 1)))
 else
 some (.inr (s2.1, s2.2.1))
def zAN (y0 : List wT) (y1 : zM) (y2 : List zH) (y3 : yH) : Option (List wT) :=
 (zAc y0 y1 y2 y3).bind fun r1 =>
 if r1 == (-1) then
 some y0
 else
 (zW (zAq y0 y1 y2 y3) (y0, r1, zR (r1 + 1)) : Option ((List wT) × Int)).bind fun s1 =>
 (vY (decide (0 ≤ s1.2) && decide (s1.2 ≤ len s1.1))).bind fun _ =>
 (sub (zC4 s1.1 s1.2 (0, 0, 0, 0)) 0 s1.2).bind fun x3 =>
 some x3
def zCm (y0 : zM) (y1 : List zH) (y2 : yH) : Option (List wT) :=
 (zD7 y0 y1).bind fun r1 =>
 (zAN r1 y0 y1 y2).bind fun r2 =>
 some r2
def zLD (y0 : List wD) (s1 : Int) (s3 : (List wD) × Int × Int) : Option (((List wD) × Int × Int) ⊕ ((List wD) × Int)) :=
 if decide (s3.2.2 < ((Int.toNat (((List.length y0 : Nat) : Int) - s1) : Nat) : Int)) then
 (zSK s3.1 s1 s3.2.2).bind fun x3 =>
 (zSK s3.1 s1 (zR (s3.2.2 - 1))).bind fun x4 =>
 if !(x3 == x4) then
 (zSK s3.1 s1 s3.2.2).bind fun x5 =>
 (zD s3.1 s3.2.1).bind fun _ =>
 some (.inl (List.set s3.1 (Int.toNat s3.2.1) x5, zR (s3.2.1 + 1), zR (s3.2.2 + 1)))
 else
 some (.inl (s3.1, s3.2.1, zR (s3.2.2 + 1)))
 else
 some (.inr (s3.1, s3.2.1))
def zEj (y0 : List wD) (s1 : Int) : Option (Int ⊕ (List wD)) :=
 if decide (s1 < (len y0)) then
 (zD y0 s1).bind fun x1 =>
 (zD y0 (zR (s1 - 1))).bind fun x2 =>
 if x1 == x2 then
 (vY (decide (0 ≤ s1) && decide (s1 ≤ len y0))).bind fun _ =>
 (zW (zLD y0 s1) (y0, s1, 1) : Option ((List wD) × Int)).bind fun s2 =>
 (vY (decide (0 ≤ s2.2) && decide (s2.2 ≤ len s2.1))).bind fun _ =>
 (sub (zC4 s2.1 s2.2 (0, 0)) 0 s2.2).bind fun x7 =>
 some (.inr x7)
 else
 some (.inl (zR (s1 + 1)))
 else
 some (.inr y0)
def zCZ (y0 : List wD) : Option (List wD) :=
 if decide ((len y0) < 2) then
 some y0
 else
 zW (zEj y0) 1
def zDc (y0 : wD) (y1 : wD) : Option Int :=
 (zAy y0.1 y1.1).bind fun r1 =>
 (zAy y0.2 y1.2).bind fun r2 =>
 (zGN ([r1, r2] : List Int)).bind fun r3 =>
 some r3
def zA5 (y0 : List wD) : Option (List wD) := zT2 zDc y0
def zEo (y1 : List wT) (y0 : Int) (s2 : Int × (List wD)) : Option ((Int × (List wD)) ⊕ ((List wD) ⊕ (vH × Int))) :=
 if decide (s2.1 < (len y1)) then
 (zD y1 s2.1).bind fun x1 =>
 if (decide ((if x1.2.1 < x1.1 then x1.2.1 else x1.1) < 0)) || (decide (y0 ≤ (if x1.2.1 > x1.1 then x1.2.1 else x1.1))) then
 some (.inr (.inr ((0, ([] : List wD)), 1)))
 else
 (wB s2.2 ([(x1.1, x1.2.1)] : List wD)).bind fun x2 =>
 some (.inl (zR (s2.1 + 1), x2))
 else
 some (.inr (.inl s2.2))
def zEG (y0 : Int) (y1 : List wT) : Option (vH × Int) :=
 if (decide (y0 < 0)) || (decide (40 < y0)) then
 some ((0, ([] : List wD)), 1)
 else
 yC (zW (zEo y1 y0) (0, ([] : List wD)) : Option ((List wD) ⊕ (vH × Int))) fun s1 =>
 (zA5 s1).bind fun r1 =>
 (zCZ r1).bind fun r2 =>
 some ((y0, r2), 0)
def zCF (y0 : Int) : Option Int :=
 if y0 == 0 then
 some 64
 else
 (zD xL (xR .u64 (IntKind.u64.wrap ((yG .u64 y0 (IntKind.u64.wrap (0 - y0))) * 285870213051353865)) 58)).bind fun x1 =>
 some (zR (x1))
def zEg (s1 : Int × (List Int)) : Option ((Int × (List Int)) ⊕ (List Int)) :=
 if s1.1 != 0 then
 (zCF s1.1).bind fun r1 =>
 (wB s1.2 ([r1] : List Int)).bind fun x1 =>
 some (.inl (yG .u64 s1.1 (IntKind.u64.wrap (s1.1 - 1)), x1))
 else
 some (.inr s1.2)
def zH6 (y0 : Int) : Option (List Int) :=
 zW (zEg) (y0, ([] : List Int))
def zHA (y0 : vH) (s1 : (List Int) × Int) : Option (((List Int) × Int) ⊕ (List Int)) :=
 if decide (s1.2 < (len y0.2)) then
 (zD y0.2 s1.2).bind fun x2 =>
 (zD s1.1 x2.1).bind fun x3 =>
 (z3J .u64 1 x2.2).bind fun x4 =>
 (zD s1.1 x2.1).bind fun _ =>
 some (.inl (List.set s1.1 (Int.toNat x2.1) (bor .u64 x3 x4), zR (s1.2 + 1)))
 else
 some (.inr s1.1)
def zG8 (y0 : vH) : Option (List Int) :=
 (mkS y0.1 y0.1 (0 : Int)).bind fun x1 =>
 zW (zHA y0) (x1, 0)
def zCG (y0 : wD) (y1 : wD) : Option Int :=
 (zAy y0.1 y1.1).bind fun r1 =>
 (zAy y0.2 y1.2).bind fun r2 =>
 (zGN ([r1, r2] : List Int)).bind fun r3 =>
 some r3
def zBJ (y0 : vH) (s1 : Int) : Option (Int ⊕ Int) :=
 if decide (s1 < (len y0.2)) then
 (zD y0.2 s1).bind fun x1 =>
 if (decide ((if x1.2 < x1.1 then x1.2 else x1.1) < 0)) || (decide (y0.1 ≤ (if x1.2 > x1.1 then x1.2 else x1.1))) then
 some (.inr 1)
 else
 (
 if decide (0 < s1) then
 (zD y0.2 (zR (s1 - 1))).bind fun x2 =>
 (zCG x2 x1).bind fun r1 =>
 some (decide (0 ≤ r1))
 else
 some false : Option Bool).bind fun s2 =>
 if s2 then
 some (.inr 8)
 else
 some (.inl (zR (s1 + 1)))
 else
 some (.inr 0)
def zAx (y0 : vH) : Option Int :=
 if (decide (y0.1 < 0)) || (decide (40 < y0.1)) then
 some 1
 else
 zW (zBJ y0) 0
def zEF (y0 : vH) : Option vH :=
 (zAx y0).bind fun r1 =>
 if r1 != 0 then
 some (0, ([] : List wD))
 else
 some y0
def zCK (y0 : vH) (y1 : Int) : Option (List Int) :=
 (zEF y0).bind fun r1 =>
 if (decide (y1 < 0)) || (decide (r1.1 ≤ y1)) then
 some ([] : List Int)
 else
 (zG8 r1).bind fun r2 =>
 (zD r2 y1).bind fun x1 =>
 (zH6 x1).bind fun r3 =>
 some r3
def zL2 (y0 : Int) (y1 : Int) : Option (Int × Int) :=
 some (IntKind.u64.wrap ((IntKind.u64.wrap ((IntKind.u64.wrap ((xR .u64 y0 32) * (xR .u64 y1 32))) + (xR .u64 (IntKind.u64.wrap ((IntKind.u64.wrap ((xR .u64 y0 32) * (yG .u64 y1 4294967295))) + (xR .u64 (IntKind.u64.wrap ((yG .u64 y0 4294967295) * (yG .u64 y1 4294967295))) 32))) 32))) + (xR .u64 (IntKind.u64.wrap ((yG .u64 (IntKind.u64.wrap ((IntKind.u64.wrap ((xR .u64 y0 32) * (yG .u64 y1 4294967295))) + (xR .u64 (IntKind.u64.wrap ((yG .u64 y0 4294967295) * (yG .u64 y1 4294967295))) 32))) 4294967295) + (IntKind.u64.wrap ((yG .u64 y0 4294967295) * (xR .u64 y1 32))))) 32)), IntKind.u64.wrap (y0 * y1))
def zJi (y0 : Int) (y1 : Int) : Option (Int × Int) :=
 (zL2 y0 y1).bind fun r1 =>
 some (r1.1, r1.2)
def zFj (x1 : List Int) (s3 : (List Int) × Int) : Option (((List Int) × Int) ⊕ (List Int)) :=
 if decide (s3.2 < (len x1)) then
 (vY (decide (0 ≤ s3.2) && decide (s3.2 ≤ len s3.1))).bind fun _ =>
 (sub s3.1 0 s3.2).bind fun x2 =>
 some (.inl (zH0 s3.1 s3.2 x2, zR (s3.2 + ((Nat.min (List.length x2) (Int.toNat (((List.length x1 : Nat) : Int) - s3.2)) : Nat) : Int))))
 else
 some (.inr s3.1)
def zCQ (y0 : List Int) (y1 : Int) : Option (List Int) :=
 (
 if decide (y1 < 0) then
 none
 else
 some () : Option Unit).bind fun _ =>
 (zJi (IntKind.u64.wrap (len y0)) (IntKind.u64.wrap (y1))).bind fun r1 =>
 (
 if (decide (0 < r1.1)) || (decide (9223372036854775807 < r1.2)) then
 none
 else
 some () : Option Unit).bind fun _ =>
 (mkS (zR (r1.2)) (zR (r1.2)) (0 : Int)).bind fun x1 =>
 zW (zFj x1) (zH0 x1 0 y0, ((Nat.min (List.length y0) (List.length x1) : Nat) : Int))
def zDL (y0 : vH) (s3 : Int × (List Int)) : Option ((Int × (List Int)) ⊕ (List Int)) :=
 if decide (s3.1 < (len y0.2)) then
 (zD y0.2 s3.1).bind fun x4 =>
 (vY (decide (0 ≤ x4.2) && decide (x4.2 < 40))).bind fun _ =>
 (vY (decide (0 ≤ x4.2) && decide (x4.2 < 40))).bind fun _ =>
 some (.inl (zR (s3.1 + 1), xO 40 s3.2 x4.2 (zR ((yM s3.2 x4.2) + 1))))
 else
 some (.inr s3.2)
def zDT (y0 : vH) (s2 : (List Int)) (s5 : (List Int) × Int) : Option (((List Int) × Int) ⊕ (List Int)) :=
 if decide (s5.2 < y0.1) then
 (vY (decide (0 ≤ s5.2) && decide (s5.2 < 40))).bind fun _ =>
 if (yM s2 s5.2) == 0 then
 (wB s5.1 ([s5.2] : List Int)).bind fun x5 =>
 some (.inl (x5, zR (s5.2 + 1)))
 else
 some (.inl (s5.1, zR (s5.2 + 1)))
 else
 some (.inr s5.1)
def zDN (s6 : (List Int) × (List Int) × (List Int) × Int × (List Int)) (s8 : (List Int) × (List Int) × Int) : Option (((List Int) × (List Int) × Int) ⊕ ((List Int) × (List Int))) :=
 if decide (s8.2.2 < (len s6.2.2.1)) then
 (zD s6.2.2.1 s8.2.2).bind fun x6 =>
 (zD s8.1 x6).bind fun _ =>
 (zD s8.2.1 x6).bind fun _ =>
 some (.inl (List.set s8.1 (Int.toNat x6) 1, List.set s8.2.1 (Int.toNat x6) s6.2.2.2.1, zR (s8.2.2 + 1)))
 else
 some (.inr (s8.1, s8.2.1))
def zDS (r5 : (List Int)) (s10 : (List Int) × (List Int) × (List Int) × Int × (List Int)) (x10 : Int) (s6 : (List Int) × (List Int) × (List Int) × Int × (List Int)) (s11 : (List Int) × Int × (List Int)) : Option (((List Int) × Int × (List Int)) ⊕ (((List Int) × (List Int) × (List Int) × Int × (List Int)) ⊕ (((List Int) × (List Int) × (List Int) × Int × (List Int)) ⊕ (((List Int) × (List Int) × (List Int) × Int × (List Int)) ⊕ ((List Int) × (List Int)))))) :=
 if decide (s11.2.1 < (len r5)) then
 (zD r5 s11.2.1).bind fun x14 =>
 (vY (decide (0 ≤ x14) && decide (x14 < 40))).bind fun _ =>
 (vY (decide (0 ≤ x14) && decide (x14 < 40))).bind fun _ =>
 (
 (vY (decide (0 ≤ x14) && decide (x14 < 40))).bind fun _ =>
 if (yM (xO 40 s11.2.2 x14 (zR ((yM s11.2.2 x14) - 1))) x14) == 0 then
 (zD (List.set s10.1 (Int.toNat x10) 2) x14).bind fun x15 =>
 some (x15 == 3)
 else
 some false : Option Bool).bind fun s12 =>
 if s12 then
 (wB s11.1 ([x14] : List Int)).bind fun x16 =>
 some (.inl (x16, zR (s11.2.1 + 1), xO 40 s11.2.2 x14 (zR ((yM s11.2.2 x14) - 1))))
 else
 some (.inl (s11.1, zR (s11.2.1 + 1), xO 40 s11.2.2 x14 (zR ((yM s11.2.2 x14) - 1))))
 else
 some (.inr (.inl (List.set s10.1 (Int.toNat x10) 2, List.set s10.2.1 (Int.toNat x10) s6.2.2.2.1, s11.1, zR (s10.2.2.2.1 + 1), s11.2.2)))
def zB3 (r4 : (List Int)) (y0 : vH) (s6 : (List Int) × (List Int) × (List Int) × Int × (List Int)) (s9 : (List Int) × (List Int) × (List Int) × Int × (List Int)) (s10 : (List Int) × (List Int) × (List Int) × Int × (List Int)) : Option (((List Int) × (List Int) × (List Int) × Int × (List Int)) ⊕ (((List Int) × (List Int) × (List Int) × Int × (List Int)) ⊕ (((List Int) × (List Int) × (List Int) × Int × (List Int)) ⊕ ((List Int) × (List Int))))) :=
 if decide (s10.2.2.2.1 < (len r4)) then
 (zD r4 s10.2.2.2.1).bind fun x10 =>
 (zD s10.1 x10).bind fun x11 =>
 if x11 != 3 then
 some (.inl (s10.1, s10.2.1, s10.2.2.1, zR (s10.2.2.2.1 + 1), s10.2.2.2.2))
 else
 (zD s10.1 x10).bind fun _ =>
 (zD s10.2.1 x10).bind fun _ =>
 (zCK y0 x10).bind fun r5 =>
 zW (zDS r5 s10 x10 s6) (s10.2.2.1, 0, s10.2.2.2.2)
 else
 some (.inr (.inl (s10.1, s10.2.1, s10.2.2.1, zR (s9.2.2.2.1 + 1), s10.2.2.2.2)))
def zBy (s6 : (List Int) × (List Int) × (List Int) × Int × (List Int)) (y0 : vH) (s9 : (List Int) × (List Int) × (List Int) × Int × (List Int)) : Option (((List Int) × (List Int) × (List Int) × Int × (List Int)) ⊕ (((List Int) × (List Int) × (List Int) × Int × (List Int)) ⊕ ((List Int) × (List Int)))) :=
 if decide (s9.2.2.2.1 < (len s6.2.2.1)) then
 (zD s6.2.2.1 s9.2.2.2.1).bind fun x9 =>
 (zCK y0 x9).bind fun r4 =>
 zW (zB3 r4 y0 s6 s9) (s9.1, s9.2.1, s9.2.2.1, 0, s9.2.2.2.2)
 else
 some (.inr (.inl (s9.1, s9.2.1, s9.2.2.1, zR (s6.2.2.2.1 + 1), s9.2.2.2.2)))
def zBH (y0 : vH) (s6 : (List Int) × (List Int) × (List Int) × Int × (List Int)) : Option (((List Int) × (List Int) × (List Int) × Int × (List Int)) ⊕ ((List Int) × (List Int))) :=
 if decide (0 < (len s6.2.2.1)) then
 (zW (zDN s6) (s6.1, s6.2.1, 0) : Option ((List Int) × (List Int))).bind fun s7 =>
 zW (zBy s6 y0) (s7.1, s7.2, ([] : List Int), 0, s6.2.2.2.2)
 else
 some (.inr (s6.1, s6.2.1))
def zDb (y0 : vH) : Option ((List Int) × (List Int)) :=
 (
 (zCQ ([3] : List Int) y0.1).bind fun r1 =>
 (mkS y0.1 y0.1 (0 : Int)).bind fun x1 =>
 some (r1, x1) : Option ((List Int) × (List Int))).bind fun s1 =>
 (zW (zDL y0) (0, (List.replicate 40 (0 : Int))) : Option (List Int)).bind fun s2 =>
 (zW (zDT y0 s2) (([] : List Int), 0) : Option (List Int)).bind fun s4 =>
 zW (zBH y0) (s1.1, s1.2, s4, 1, s2)
def zCo (y0 : vH) : Option (List Int) :=
 (zDb y0).bind fun r1 =>
 some r1.1
def zFH (y0 : List Int) (y1 : Int) (s1 : (List Int) × Int) : Option (((List Int) × Int) ⊕ (List Int)) :=
 if decide (s1.2 < (len y0)) then
 (zD y0 s1.2).bind fun x1 =>
 if x1 == y1 then
 (wB s1.1 ([s1.2] : List Int)).bind fun x2 =>
 some (.inl (x2, zR (s1.2 + 1)))
 else
 some (.inl (s1.1, zR (s1.2 + 1)))
 else
 some (.inr s1.1)
def zAw (y0 : List Int) (y1 : Int) : Option (List Int) :=
 zW (zFH y0 y1) (([] : List Int), 0)
def zDX (y0 : List vO) : Option (List vO) :=
 (wB ([] : List vO) y0).bind fun x1 =>
 some x1
def zCj (y0 : List vN) : Option (List vN) :=
 (wB ([] : List vN) y0).bind fun x1 =>
 some x1
def zFO (y0 : List qK) : Option (List qK) :=
 (wB ([] : List qK) y0).bind fun x1 =>
 some x1
def zCY (y0 : zM) (x1 : qK) (y1 : List zF) (s3 : Int × (List qK)) (s4 : Int × (List qK)) : Option ((Int × (List qK)) ⊕ ((Int × (List qK)) ⊕ (List qK))) :=
 if decide (s4.1 < (len y0.2.2)) then
 (zD y0.2.2 s4.1).bind fun x3 =>
 (
 if !x1.2.1 then
 if x3.1 == x1.1 then
 (zDf y1 x3.2.2).bind fun r11 =>
 some r11
 else
 some false
 else
 some false : Option Bool).bind fun s5 =>
 if s5 then
 (zD s4.2 s3.1).bind fun x4 =>
 some (.inl (zR (s4.1 + 1), List.set s4.2 (Int.toNat s3.1) (x4.1, x4.2.1, x3.2.1, x4.2.2.2.1, x4.2.2.2.2)))
 else
 some (.inl (zR (s4.1 + 1), s4.2))
 else
 some (.inr (.inl (zR (s3.1 + 1), s4.2)))
def zCB (y0 : zM) (y1 : List zF) (s3 : Int × (List qK)) : Option ((Int × (List qK)) ⊕ (List qK)) :=
 if decide (s3.1 < (len y0.2.1)) then
 (zD y0.2.1 s3.1).bind fun x1 =>
 (zCN x1.2.2.2.1).bind fun r10 =>
 (zD s3.2 s3.1).bind fun x2 =>
 zW (zCY y0 x1 y1 s3) (0, List.set s3.2 (Int.toNat s3.1) (x2.1, x2.2.1, x2.2.2.1, r10, x2.2.2.2.2))
 else
 some (.inr s3.2)
def zC9 (y0 : zM) (y1 : List zF) : Option zM :=
 (
 (zDX y0.1).bind fun r1 =>
 (zFO y0.2.1).bind fun r2 =>
 (zCj y0.2.2).bind fun r3 =>
 some (r1, r2, r3) : Option zM).bind fun s1 =>
 (zW (zCB y0 y1) (0, s1.2.1) : Option (List qK)).bind fun s2 =>
 some (s1.1, s2, s1.2.2)
def zCr (y0 : zM) (y1 : yH) : Option (zFh × Int) :=
 (zD9 y0).bind fun r1 =>
 if r1.2 != 0 then
 some (((([] : List vO), ([] : List qK), ([] : List vN)), ([] : List zH), ([] : List wT), (0, ([] : List wD))), r1.2)
 else
 if if y1.1 != 1 then (y1.1 != 2) || ((y1.2 != 1) && (y1.2 != 2)) else (y1.2 != 1) && (y1.2 != 2) then
 some (((([] : List vO), ([] : List qK), ([] : List vN)), ([] : List zH), ([] : List wT), (0, ([] : List wD))), 4)
 else
 (zCm y0 r1.1 y1).bind fun r2 =>
 (zEG (len r1.1) r2).bind fun r3 =>
 if r3.2 != 0 then
 some (((([] : List vO), ([] : List qK), ([] : List vN)), ([] : List zH), ([] : List wT), (0, ([] : List wD))), r3.2)
 else
 (zCo r3.1).bind fun r4 =>
 (zAw r4 1).bind fun r5 =>
 (zBT r1.1 r5).bind fun r6 =>
 (zC9 y0 r6).bind fun r7 =>
 (zCm r7 r1.1 y1).bind fun r8 =>
 (zEG (len r1.1) r8).bind fun r9 =>
 if r9.2 != 0 then
 some (((([] : List vO), ([] : List qK), ([] : List vN)), ([] : List zH), ([] : List wT), (0, ([] : List wD))), r9.2)
 else
 some ((r7, r1.1, r8, r9.1), 0)
def zD4 : Option Unit :=
 some ()
def zDO : Option Unit :=
 some ()
def zEc : Option Unit :=
 some ()
def zEu : Option Unit :=
 some ()
def zEt : Option Unit :=
 some ()
def zEA : Option Unit :=
 zEt.bind fun _ =>
 some ()
def zEN : Option Unit :=
 some ()
def zGQ : Option Unit :=
 zEN.bind fun _ =>
 some ()
def zEL : Option Unit :=
 some ()
def zGS : Option Unit :=
 zEL.bind fun _ =>
 some ()
def zJO : Option Unit :=
 zEA.bind fun _ =>
 zEu.bind fun _ =>
 zD4.bind fun _ =>
 zEc.bind fun _ =>
 zDO.bind fun _ =>
 zGS.bind fun _ =>
 zGQ.bind fun _ =>
 some ()
def zGA (y0 : vH) : Option ((List Int) × Int) :=
 (zCo y0).bind fun r1 =>
 some (r1, 0)
def zBN (y0 : vH) : Option ((List (List Int)) × Int) :=
 (zGA y0).bind fun r1 =>
 if r1.2 != 0 then
 some (([] : List (List Int)), r1.2)
 else
 some (([r1.1] : List (List Int)), 0)
def zBz (r1 : (List (List Int)) × Int) (s1 : (List (List Int)) × Int) : Option (((List (List Int)) × Int) ⊕ ((List (List Int)) × Int)) :=
 if decide (s1.2 < (len r1.1)) then
 (zD r1.1 s1.2).bind fun x1 =>
 (zAw x1 1).bind fun r2 =>
 (wB s1.1 ([r2] : List (List Int))).bind fun x2 =>
 some (.inl (x2, zR (s1.2 + 1)))
 else
 some (.inr (s1.1, 0))
def zBY (y0 : vH) : Option ((List (List Int)) × Int) :=
 (zBN y0).bind fun r1 =>
 if r1.2 != 0 then
 some (([] : List (List Int)), r1.2)
 else
 zW (zBz r1) (([] : List (List Int)), 0)
def zF1 (y0 : vH) : Option ((List (List Int)) × Int) :=
 none
def zBj (r1 : (List (List Int)) × Int) (s1 : (List (List Int)) × Int) : Option (((List (List Int)) × Int) ⊕ ((List (List Int)) × Int)) :=
 if decide (s1.2 < (len r1.1)) then
 (zD r1.1 s1.2).bind fun x1 =>
 (zAw x1 1).bind fun r2 =>
 (wB s1.1 ([r2] : List (List Int))).bind fun x2 =>
 some (.inl (x2, zR (s1.2 + 1)))
 else
 some (.inr (s1.1, 0))
def zBQ (y0 : vH) : Option ((List (List Int)) × Int) :=
 (zF1 y0).bind fun r1 =>
 if r1.2 != 0 then
 some (([] : List (List Int)), r1.2)
 else
 zW (zBj r1) (([] : List (List Int)), 0)
def zFY (y0 : vH) : Option ((List (List Int)) × Int) :=
 none
def zBk (r1 : (List (List Int)) × Int) (s1 : (List (List Int)) × Int) : Option (((List (List Int)) × Int) ⊕ ((List (List Int)) × Int)) :=
 if decide (s1.2 < (len r1.1)) then
 (zD r1.1 s1.2).bind fun x1 =>
 (zAw x1 1).bind fun r2 =>
 (wB s1.1 ([r2] : List (List Int))).bind fun x2 =>
 some (.inl (x2, zR (s1.2 + 1)))
 else
 some (.inr (s1.1, 0))
def zBR (y0 : vH) : Option ((List (List Int)) × Int) :=
 (zFY y0).bind fun r1 =>
 if r1.2 != 0 then
 some (([] : List (List Int)), r1.2)
 else
 zW (zBk r1) (([] : List (List Int)), 0)
def zA8 (y0 : List wD) : Option (List wD) := zT2 zCG y0
def zFz (r1 : vH) (s2 : Int × (List wD)) : Option ((Int × (List wD)) ⊕ (List wD)) :=
 if decide (s2.1 < (len r1.2)) then
 (zD r1.2 s2.1).bind fun x1 =>
 (wB s2.2 ([(x1.2, x1.1)] : List wD)).bind fun x2 =>
 some (.inl (zR (s2.1 + 1), x2))
 else
 some (.inr s2.2)
def zE4 (y0 : vH) : Option vH :=
 (zEF y0).bind fun r1 =>
 (zW (zFz r1) (0, ([] : List wD)) : Option (List wD)).bind fun s1 =>
 (zA8 s1).bind fun r2 =>
 some (r1.1, r2)
def zDG (y0 : vH) (y1 : Int) : Option (List Int) :=
 (zE4 y0).bind fun r1 =>
 (zCK r1 y1).bind fun r2 =>
 some r2
def zA1 (y0 : uE) (s1 : (List Int) × Int) : Option (((List Int) × Int) ⊕ ((List Int) × Int)) :=
 if decide (s1.2 < y0.1) then
 (vY (decide (0 ≤ s1.2) && decide (s1.2 < 40))).bind fun _ =>
 if (yM y0.2.2.1 s1.2) == 2 then
 (wB s1.1 ([1] : List Int)).bind fun x1 =>
 some (.inl (x1, zR (s1.2 + 1)))
 else
 if (yM y0.2.2.1 s1.2) == 4 then
 (wB s1.1 ([2] : List Int)).bind fun x2 =>
 some (.inl (x2, zR (s1.2 + 1)))
 else
 if (yM y0.2.2.1 s1.2) == 8 then
 (wB s1.1 ([3] : List Int)).bind fun x3 =>
 some (.inl (x3, zR (s1.2 + 1)))
 else
 some (.inr (([] : List Int), s1.2))
 else
 some (.inr (s1.1, (-1)))
def zBA (y0 : uE) : Option ((List Int) × Int) :=
 zW (zA1 y0) (([] : List Int), 0)
def zLX (y1 : List Int) (y0 : uE) (y2 : Int) (s1 : (List Int) × Int) : Option (((List Int) × Int) ⊕ (List Int)) :=
 if decide (s1.2 < (len y1)) then
 (zD y1 s1.2).bind fun x1 =>
 (vY (decide (0 ≤ x1) && decide (x1 < 40))).bind fun _ =>
 if (yG .i64 (yM y0.2.2.1 x1) y2) != 0 then
 (wB s1.1 ([x1] : List Int)).bind fun x2 =>
 some (.inl (x2, zR (s1.2 + 1)))
 else
 some (.inl (s1.1, zR (s1.2 + 1)))
 else
 some (.inr s1.1)
def zC2 (y0 : uE) (y1 : List Int) (y2 : Int) : Option (List Int) :=
 zW (zLX y1 y0 y2) (([] : List Int), 0)
def zBh (x1 : List Int) (s2 : Int × (List Int)) : Option ((Int × (List Int)) ⊕ (Int × (List Int))) :=
 if decide (s2.1 < (len x1)) then
 (zD x1 s2.1).bind fun x2 =>
 (vY (decide (0 ≤ x2) && decide (x2 < 40))).bind fun _ =>
 (vY (decide (0 ≤ x2) && decide (x2 < 40))).bind fun _ =>
 some (.inl (zR (s2.1 + 1), xO 40 s2.2 x2 (yG .i64 (yM s2.2 x2) 4)))
 else
 some (.inr (0, s2.2))
def zBg (x1 : List Int) (s4 : Int × (List Int)) : Option ((Int × (List Int)) ⊕ (List Int)) :=
 if decide (s4.1 < (len x1)) then
 (zD x1 s4.1).bind fun x3 =>
 (vY (decide (0 ≤ x3) && decide (x3 < 40))).bind fun _ =>
 (vY (decide (0 ≤ x3) && decide (x3 < 40))).bind fun _ =>
 some (.inl (zR (s4.1 + 1), xO 40 s4.2 x3 (yG .i64 (yM s4.2 x3) 12)))
 else
 some (.inr s4.2)
def zBa (y0 : uE) (y1 : Int) : Option ((List Int) × (List (List Int))) :=
 (zD y0.2.1 y1).bind fun x1 =>
 (
 (vY (decide (0 ≤ y1) && decide (y1 < 40))).bind fun _ =>
 if (yM y0.2.2.1 y1) == 2 then
 zW (zBh x1) (0, y0.2.2.1)
 else
 if (yM y0.2.2.1 y1) == 4 then
 some (2, y0.2.2.1)
 else
 if (yM y0.2.2.1 y1) == 8 then
 (zW (zBg x1) (0, y0.2.2.1) : Option (List Int)).bind fun s3 =>
 some (8, s3)
 else
 some (0, y0.2.2.1) : Option (Int × (List Int))).bind fun s1 =>
 (zC2 (y0.1, y0.2.1, s1.2, y0.2.2.2.1, y0.2.2.2.2) x1 s1.1).bind fun r1 =>
 if (len r1) == 1 then
 (zD r1 0).bind fun x4 =>
 (vY (decide (0 ≤ x4) && decide (x4 < 40))).bind fun _ =>
 (vY (decide (0 ≤ x4) && decide (x4 < 40))).bind fun _ =>
 some (xO 40 s1.2 x4 (yG .i64 (yM s1.2 x4) s1.1), y0.2.2.2.1)
 else
 some (s1.2, y0.2.2.2.1)
def zDZ (y1 : List Int) (y0 : uE) (y2 : Int) (s1 : (List Int) × Int) : Option (((List Int) × Int) ⊕ (List Int)) :=
 if decide (s1.2 < (len y1)) then
 (zD y1 s1.2).bind fun x1 =>
 (vY (decide (0 ≤ x1) && decide (x1 < 40))).bind fun _ =>
 if (yG .i64 (yM y0.2.2.1 x1) y2) != 0 then
 (wB s1.1 ([x1] : List Int)).bind fun x2 =>
 some (.inl (x2, zR (s1.2 + 1)))
 else
 some (.inl (s1.1, zR (s1.2 + 1)))
 else
 some (.inr s1.1)
def zAr (y0 : uE) (y1 : List Int) (y2 : Int) : Option (List Int) :=
 zW (zDZ y1 y0 y2) (([] : List Int), 0)
def zBV (y0 : uE) (y1 : Int) : Option Int :=
 (zD y0.2.1 y1).bind fun x1 =>
 (
 (zAr y0 x1 4).bind fun r1 =>
 if decide ((len r1) < (len x1)) then
 some (zPn .i64 14 2)
 else
 some 14 : Option Int).bind fun s1 =>
 (
 (zAr y0 x1 2).bind fun r2 =>
 if (len r2) == 0 then
 some (zPn .i64 s1 4)
 else
 some s1 : Option Int).bind fun s2 =>
 (
 (zAr y0 x1 12).bind fun r3 =>
 if decide ((len r3) < (len x1)) then
 some true
 else
 (zAr y0 x1 8).bind fun r4 =>
 some ((len r4) == 0) : Option Bool).bind fun s3 =>
 if s3 then
 some (zPn .i64 s2 8)
 else
 some s2
def zAH (y0 : uE) (s3 : Int × (List Int) × (List (List Int))) : Option ((Int × (List Int) × (List (List Int))) ⊕ (((List Int) × (List (List Int))) ⊕ (((List Int) × (List (List Int))) ⊕ (Bool × (List Int) × (List (List Int)))))) :=
 if decide (s3.1 < y0.1) then
 (vY (decide (0 ≤ s3.1) && decide (s3.1 < 40))).bind fun _ =>
 (zBV (y0.1, y0.2.1, s3.2.1, s3.2.2, y0.2.2.2.2) s3.1).bind fun r1 =>
 (vY (decide (0 ≤ s3.1) && decide (s3.1 < 40))).bind fun _ =>
 (vY (decide (0 ≤ s3.1) && decide (s3.1 < 40))).bind fun _ =>
 if (yM (xO 40 s3.2.1 s3.1 (yG .i64 (yM s3.2.1 s3.1) r1)) s3.1) == 0 then
 some (.inr (.inr (.inr (false, xO 40 s3.2.1 s3.1 (yG .i64 (yM s3.2.1 s3.1) r1), s3.2.2))))
 else
 (zBa (y0.1, y0.2.1, xO 40 s3.2.1 s3.1 (yG .i64 (yM s3.2.1 s3.1) r1), s3.2.2, y0.2.2.2.2) s3.1).bind fun r2 =>
 some (.inl (zR (s3.1 + 1), r2.1, r2.2))
 else
 some (.inr (.inl (s3.2.1, s3.2.2)))
def zB1 (y0 : uE) (s1 : (List Int) × (List (List Int))) : Option (((List Int) × (List (List Int))) ⊕ (Bool × (List Int) × (List (List Int)))) :=
 yC (zW (zAH y0) (0, s1.1, s1.2) : Option (((List Int) × (List (List Int))) ⊕ (((List Int) × (List (List Int))) ⊕ (Bool × (List Int) × (List (List Int)))))) fun s2 =>
 (z1W 40 s2.1 y0.1).bind fun x1 =>
 (zAn x1 0).bind fun r3 =>
 if r3 then
 some (.inr (false, s2.1, s2.2))
 else
 if aeq 40 s2.1 s1.1 then
 some (.inr (true, s2.1, s2.2))
 else
 some (.inl (s2.1, s2.2))
def zAz (y0 : uE) : Option (Bool × (List Int) × (List (List Int))) :=
 zW (zB1 y0) (y0.2.2.1, y0.2.2.2.1)
def zAm (r2 : (List Int) × Int) (s1 : Bool × (List Int) × (List (List Int))) (rec_search_finder_find : uE → Option ((List Int) × (List (List Int)) × Bool)) (y0 : uE) (s2 : Int × (List (List Int)) × Bool) : Option ((Int × (List (List Int)) × Bool) ⊕ ((List Int) × (List (List Int)) × Bool)) :=
 if decide (s2.1 < (len ([2, 4, 8] : List Int))) then
 (zD ([2, 4, 8] : List Int) s2.1).bind fun x2 =>
 (vY (decide (0 ≤ r2.2) && decide (r2.2 < 40))).bind fun _ =>
 if (yG .i64 (yM s1.2.1 r2.2) x2) != 0 then
 (vY (decide (0 ≤ r2.2) && decide (r2.2 < 40))).bind fun _ =>
 (rec_search_finder_find (y0.1, y0.2.1, xO 40 s1.2.1 r2.2 x2, s2.2.1, s2.2.2)).bind fun r3 =>
 some (.inl (zR (s2.1 + 1), r3.2.1, r3.2.2))
 else
 some (.inl (zR (s2.1 + 1), s2.2.1, s2.2.2))
 else
 some (.inr (s1.2.1, s2.2.1, s2.2.2))
def zA9 (rec_search_finder_find : uE → Option ((List Int) × (List (List Int)) × Bool)) (y0 : uE) : Option ((List Int) × (List (List Int)) × Bool) :=
 (
 if y0.2.2.2.2 then
 some (true, y0.2.2.1, y0.2.2.2.1)
 else
 (zAz y0).bind fun r1 =>
 some (!r1.1, r1.2.1, r1.2.2) : Option (Bool × (List Int) × (List (List Int)))).bind fun s1 =>
 if s1.1 then
 some (s1.2.1, s1.2.2, y0.2.2.2.2)
 else
 (zBA (y0.1, y0.2.1, s1.2.1, s1.2.2, y0.2.2.2.2)).bind fun r2 =>
 if decide (r2.2 < 0) then
 (wB s1.2.2 ([r2.1] : List (List Int))).bind fun x1 =>
 some (s1.2.1, x1, (len s1.2.2) == 200)
 else
 zW (zAm r2 s1 rec_search_finder_find y0) (0, s1.2.2, y0.2.2.2.2)
def zAv : Nat → uE → Option ((List Int) × (List (List Int)) × Bool)
 | 0 => fun _ => none
 | k + 1 => fun y0 => zA9 (zAv k) y0
def zCx (y0 : uE) : Option ((List Int) × (List (List Int)) × Bool) := zVb fun k => zAv k y0
def zBS (y0 : vH) (s2 : Int × (List (List Int)) × (List Int)) : Option ((Int × (List (List Int)) × (List Int)) ⊕ ((List (List Int)) × (List Int))) :=
 if decide (s2.1 < y0.1) then
 (zDG y0 s2.1).bind fun r2 =>
 (wB s2.2.1 ([r2] : List (List Int))).bind fun x1 =>
 (vY (decide (0 ≤ s2.1) && decide (s2.1 < 40))).bind fun _ =>
 some (.inl (zR (s2.1 + 1), x1, xO 40 s2.2.2 s2.1 14))
 else
 some (.inr (s2.2.1, s2.2.2))
def zCC (y0 : vH) : Option ((List (List Int)) × Int) :=
 (zAx y0).bind fun r1 =>
 if r1 != 0 then
 some (([] : List (List Int)), r1)
 else
 (zW (zBS y0) (0, ([] : List (List Int)), (List.replicate 40 (0 : Int))) : Option ((List (List Int)) × (List Int))).bind fun s1 =>
 (zCx (y0.1, s1.1, s1.2, ([] : List (List Int)), false)).bind fun r3 =>
 if r3.2.2 then
 some (([] : List (List Int)), 2)
 else
 some (r3.2.1, 0)
def zC1 (y1 : List Int) (y0 : List Int) (s1 : (List Int) × Int) : Option (((List Int) × Int) ⊕ (List Int)) :=
 if decide (s1.2 < (len y1)) then
 (zD y1 s1.2).bind fun x1 =>
 (zAw y0 x1).bind fun r1 =>
 (wB s1.1 r1).bind fun x2 =>
 some (.inl (x2, zR (s1.2 + 1)))
 else
 some (.inr s1.1)
def zCH (y0 : List Int) (y1 : List Int) : Option (List Int) :=
 zW (zC1 y1 y0) (([] : List Int), 0)
def zCz (y0 : Int) (y1 : List Int) : Option Bool :=
 (zAn y1 y0).bind fun r1 =>
 some (!r1)
def zAL (y0 : List Int) (y1 : List Int) (s1 : Int) : Option (Int ⊕ Int) :=
 if decide (s1 < (len y0)) then
 (zD y0 s1).bind fun x1 =>
 (zCz x1 y1).bind fun r1 =>
 if r1 then
 some (.inr s1)
 else
 some (.inl (zR (s1 + 1)))
 else
 some (.inr (-1))
def zAR (y0 : List Int) (y1 : List Int) : Option Int :=
 zW (zAL y0 y1) 0
def zAC (y0 : List Int) (y1 : List Int) : Option Bool :=
 (zAR y0 y1).bind fun r1 =>
 some (decide (0 ≤ r1))
def zCc (y0 : List Int) (y1 : List Int) : Option Bool :=
 (
 if decide ((len y0) < (len y1)) then
 (zAC y0 y1).bind fun r1 =>
 some (!r1)
 else
 some false : Option Bool).bind fun s1 =>
 some s1
def zBb (y0 : List Int) (y1 : List Int) : Option Bool :=
 (zCH y1 ([1] : List Int)).bind fun r1 =>
 (zCH y0 ([1] : List Int)).bind fun r2 =>
 (zCc r1 r2).bind fun r3 =>
 some r3
def zAW (y0 : List Int) (y2 : List Int) : Option Bool :=
 (zBb y0 y2).bind fun r1 =>
 some r1
def zAP (y0 : List (List Int)) (y2 : List Int) (s1 : Int) : Option (Int ⊕ Int) :=
 if decide (s1 < (len y0)) then
 (zD y0 s1).bind fun x1 =>
 (zAW x1 y2).bind fun r1 =>
 if r1 then
 some (.inr s1)
 else
 some (.inl (zR (s1 + 1)))
 else
 some (.inr (-1))
def zAY (y0 : List (List Int)) (y2 : List Int) : Option Int :=
 zW (zAP y0 y2) 0
def zAD (y0 : List (List Int)) (y2 : List Int) : Option Bool :=
 (zAY y0 y2).bind fun r1 =>
 some (decide (0 ≤ r1))
def zAB (r1 : (List (List Int)) × Int) (s1 : (List (List Int)) × Int) : Option (((List (List Int)) × Int) ⊕ ((List (List Int)) × Int)) :=
 if decide (s1.2 < (len r1.1)) then
 (zD r1.1 s1.2).bind fun x1 =>
 (zAD r1.1 x1).bind fun r2 =>
 if !r2 then
 (wB s1.1 ([x1] : List (List Int))).bind fun x2 =>
 some (.inl (x2, zR (s1.2 + 1)))
 else
 some (.inl (s1.1, zR (s1.2 + 1)))
 else
 some (.inr (s1.1, 0))
def zAK (y0 : vH) : Option ((List (List Int)) × Int) :=
 (zCC y0).bind fun r1 =>
 if r1.2 != 0 then
 some (([] : List (List Int)), r1.2)
 else
 zW (zAB r1) (([] : List (List Int)), 0)
def zB8 (y0 : vH) : Option ((List (List Int)) × Int) :=
 (zAK y0).bind fun r1 =>
 some (r1.1, r1.2)
def zAM (r1 : (List (List Int)) × Int) (s1 : (List (List Int)) × Int) : Option (((List (List Int)) × Int) ⊕ ((List (List Int)) × Int)) :=
 if decide (s1.2 < (len r1.1)) then
 (zD r1.1 s1.2).bind fun x1 =>
 (zAw x1 1).bind fun r2 =>
 (wB s1.1 ([r2] : List (List Int))).bind fun x2 =>
 some (.inl (x2, zR (s1.2 + 1)))
 else
 some (.inr (s1.1, 0))
def zAG (y0 : vH) : Option ((List (List Int)) × Int) :=
 (zB8 y0).bind fun r1 =>
 if r1.2 != 0 then
 some (([] : List (List Int)), r1.2)
 else
 zW (zAM r1) (([] : List (List Int)), 0)
def zDB (y0 : vH) : Option ((List (List Int)) × Int) :=
 none
def zDq (y0 : vH) : Option ((List (List Int)) × Int) :=
 none
def zBv (r1 : (List (List Int)) × Int) (s1 : (List (List Int)) × Int) : Option (((List (List Int)) × Int) ⊕ ((List (List Int)) × Int)) :=
 if decide (s1.2 < (len r1.1)) then
 (zD r1.1 s1.2).bind fun x1 =>
 (zAw x1 1).bind fun r2 =>
 (wB s1.1 ([r2] : List (List Int))).bind fun x2 =>
 some (.inl (x2, zR (s1.2 + 1)))
 else
 some (.inr (s1.1, 0))
def zBX (y0 : vH) : Option ((List (List Int)) × Int) :=
 (zCC y0).bind fun r1 =>
 if r1.2 != 0 then
 some (([] : List (List Int)), r1.2)
 else
 zW (zBv r1) (([] : List (List Int)), 0)
def zBG (y0 : vH) (y1 : Int) : Option ((List (List Int)) × Int) :=
 (zAx y0).bind fun r1 =>
 if r1 != 0 then
 some (([] : List (List Int)), r1)
 else
 zJO.bind fun _ =>
 if (decide (y1 < 1)) || (decide (((10 : Nat) : Int) ≤ y1)) then
 some (([] : List (List Int)), 4)
 else
 (
 if y1 == 1 then
 (zBY y0).bind fun r3 =>
 some (r3.1, r3.2)
 else
 if y1 == 2 then
 (zBX y0).bind fun r4 =>
 some (r4.1, r4.2)
 else
 if y1 == 3 then
 (zAG y0).bind fun r5 =>
 some (r5.1, r5.2)
 else
 if y1 == 4 then
 (zDq y0).bind fun r6 =>
 some (r6.1, r6.2)
 else
 if y1 == 5 then
 (zDB y0).bind fun r7 =>
 some (r7.1, r7.2)
 else
 if y1 == 6 then
 (zBQ y0).bind fun r8 =>
 some (r8.1, r8.2)
 else
 if y1 == 7 then
 (zBR y0).bind fun r9 =>
 some (r9.1, r9.2)
 else
 if y1 == 8 then
 none
 else
 if y1 == 9 then
 none
 else
 none : Option ((List (List Int)) × Int)).bind fun s1 =>
 some (s1.1, s1.2)
def zBc (r1 : (List (List Int)) × Int) (y0 : zFh) (s1 : (List (List zF)) × Int) : Option (((List (List zF)) × Int) ⊕ ((List (List zF)) × Int)) :=
 if decide (s1.2 < (len r1.1)) then
 (zD r1.1 s1.2).bind fun x1 =>
 (zBT y0.2.1 x1).bind fun r2 =>
 (wB s1.1 ([r2] : List (List zF))).bind fun x2 =>
 some (.inl (x2, zR (s1.2 + 1)))
 else
 some (.inr (s1.1, 0))
def zAt (y0 : zFh) (y1 : Int) : Option ((List (List zF)) × Int) :=
 (zBG y0.2.2.2 y1).bind fun r1 =>
 if r1.2 != 0 then
 some (([] : List (List zF)), r1.2)
 else
 zW (zBc r1 y0) (([] : List (List zF)), 0)
def zNa (y0 : List Int) : Option uQ :=
 (sub y0 0 (if 2000 < (len y0) then 2000 else len y0)).bind fun x1 =>
 some (x1, 0)
def zJQ : Option (List yH) :=
 some ([(1, 1), (1, 2), (2, 1), (2, 2)] : List yH)
def zJa (y0 : Int) (y1 : Int) : Option Int :=
 if decide (y1 < 1) then
 some 0
 else
 (z13 y0 y1).bind fun x1 =>
 if decide (x1 < 0) then
 some (zR (x1 + y1))
 else
 some x1
def zIc (y0 : uQ) : Option (Int × Int) :=
 if decide ((len y0.1) ≤ y0.2) then
 some (0, y0.2)
 else
 (zD y0.1 (zR ((zR (y0.2 + 1)) - 1))).bind fun x1 =>
 some (x1, zR (y0.2 + 1))
def xN (y0 : uQ) (y1 : Int) : Option (Int × Int) :=
 (zIc y0).bind fun r1 =>
 (zJa r1.1 y1).bind fun r2 =>
 some (r2, r1.2)
def zHz (y0 : Int) : Option (List zF) :=
 (
 if decide (y0 < 0) then
 none
 else
 some () : Option Unit).bind fun _ =>
 if decide (0 < (zR (y0 - (zR (((0 : Nat) : Int) - (len ([] : List zF))))))) then
 (mkS (zR (y0 - (zR (((0 : Nat) : Int) - (len ([] : List zF)))))) (zR (y0 - (zR (((0 : Nat) : Int) - (len ([] : List zF)))))) ((false, []) : zF)).bind fun x1 =>
 (sub x1 0 (len ([] : List zF))).bind fun x2 =>
 some x2
 else
 some ([] : List zF)
def zKL (y0 : List (List zF)) (s2 : Int × Int) : Option ((Int × Int) ⊕ Int) :=
 if decide (s2.2 < (len y0)) then
 (zD y0 s2.2).bind fun x1 =>
 if decide ((zR (s2.1 + (len x1))) < 0) then
 none
 else
 some (.inl (zR (s2.1 + (len x1)), zR (s2.2 + 1)))
 else
 some (.inr s2.1)
def zKI (y0 : List (List zF)) (s3 : (List zF) × Int) : Option (((List zF) × Int) ⊕ (List zF)) :=
 if decide (s3.2 < (len y0)) then
 (zD y0 s3.2).bind fun x2 =>
 (wB s3.1 x2).bind fun x3 =>
 some (.inl (x3, zR (s3.2 + 1)))
 else
 some (.inr s3.1)
def zDD (y0 : List (List zF)) : Option (List zF) :=
 (zW (zKL y0) (0, 0) : Option Int).bind fun s1 =>
 (zHz s1).bind fun r1 =>
 zW (zKI y0) (r1, 0)
def zDu (y0 : List zF) (y1 : zF) : Option Bool :=
 (zDf y0 y1).bind fun r1 =>
 some (!r1)
def zAe (y0 : List (List zF)) (y1 : zF) (s1 : Int) : Option (Int ⊕ Int) :=
 if decide (s1 < (len y0)) then
 (zD y0 s1).bind fun x1 =>
 (zDu x1 y1).bind fun r1 =>
 if r1 then
 some (.inr s1)
 else
 some (.inl (zR (s1 + 1)))
 else
 some (.inr (-1))
def zA0 (y0 : List (List zF)) (y1 : zF) : Option Int :=
 zW (zAe y0 y1) 0
def zAQ (y0 : List (List zF)) (y1 : zF) : Option Bool :=
 (zA0 y0 y1).bind fun r1 =>
 some (decide (0 ≤ r1))
def zDK (y0 : zF) (y1 : Bool) (y2 : List (List zF)) : Option Bool :=
 (
 if y1 then
 (zAQ y2 y0).bind fun r1 =>
 some r1
 else
 some false : Option Bool).bind fun s1 =>
 some s1
def zAo (y0 : List zF) (y1 : Bool) (y2 : List (List zF)) (s1 : Int) : Option (Int ⊕ Int) :=
 if decide (s1 < (len y0)) then
 (zD y0 s1).bind fun x1 =>
 (zDK x1 y1 y2).bind fun r1 =>
 if r1 then
 some (.inr s1)
 else
 some (.inl (zR (s1 + 1)))
 else
 some (.inr (-1))
def zA4 (y0 : List zF) (y1 : Bool) (y2 : List (List zF)) : Option Int :=
 zW (zAo y0 y1 y2) 0
def zAf (y0 : List zF) (y1 : Bool) (y2 : List (List zF)) (s2 : (List zF) × Int × Int) : Option (((List zF) × Int × Int) ⊕ ((List zF) × Int)) :=
 if decide (s2.2.2 < (len y0)) then
 (zD s2.1 s2.2.2).bind fun x1 =>
 (zDK x1 y1 y2).bind fun r2 =>
 if !r2 then
 (zD s2.1 s2.2.1).bind fun _ =>
 some (.inl (List.set s2.1 (Int.toNat s2.2.1) x1, zR (s2.2.1 + 1), zR (s2.2.2 + 1)))
 else
 some (.inl (s2.1, s2.2.1, zR (s2.2.2 + 1)))
 else
 some (.inr (s2.1, s2.2.1))
def zA2 (y0 : List zF) (y1 : Bool) (y2 : List (List zF)) : Option (List zF) :=
 (zA4 y0 y1 y2).bind fun r1 =>
 if r1 == (-1) then
 some y0
 else
 (zW (zAf y0 y1 y2) (y0, r1, zR (r1 + 1)) : Option ((List zF) × Int)).bind fun s1 =>
 (vY (decide (0 ≤ s1.2) && decide (s1.2 ≤ len s1.1))).bind fun _ =>
 (sub (zC4 s1.1 s1.2 (false, [])) 0 s1.2).bind fun x3 =>
 some x3
def zGf (y0 : zFh) (y1 : Int) (y2 : Bool) : Option ((List zF) × Int) :=
 (zAt y0 y1).bind fun r1 =>
 if r1.2 != 0 then
 some (([] : List zF), r1.2)
 else
 (zDD r1.1).bind fun r2 =>
 (zCq r2).bind fun r3 =>
 (zA2 r3 y2 r1.1).bind fun r4 =>
 some (r4, 0)
def zD8 (y0 : zM) (y1 : yH) : Option ((List zF) × Bool) :=
 (zCr y0 y1).bind fun r1 =>
 (zGf r1.1 1 true).bind fun r2 =>
 (
 if r1.2 == 0 then
 some (r2.1, r2.2 == 0)
 else
 some (r2.1, false) : Option ((List zF) × Bool)).bind fun s1 =>
 some (s1.1, s1.2)
def zCv (y0 : zF) : Option qC :=
 (zB6 y0).bind fun r1 =>
 if !r1 then
 some []
 else
 if y0.1 then
 (cat [126] y0.2).bind fun x1 =>
 some x1
 else
 some y0.2
def zFw (y0 : Int) (y1 : Int) : Option qC := z2l y0 y1
def zHp (y0 : Int) : Option qC :=
 (zFw y0 10).bind fun r1 =>
 some r1
def zIj (y0 : Int) : Option qC :=
 (zHp y0).bind fun r1 =>
 some r1
def zKr (y0 : List qC) (y1 : qC) : Option qC := z2p y0 y1
def zDV (y0 : vO) : Option qC :=
 (zD zAd y0.2.1).bind fun x1 =>
 (zCv y0.1).bind fun r1 =>
 (
 if y0.2.1 == 2 then
 (zIj y0.2.2.1).bind fun r2 =>
 (wB ([x1, r1] : List qC) ([r2] : List qC)).bind fun x2 =>
 some x2
 else
 some ([x1, r1] : List qC) : Option (List qC)).bind fun s1 =>
 (
 if !(y0.2.2.2 == []) then
 (wB s1 ([[102, 114, 111, 109], y0.2.2.2] : List qC)).bind fun x3 =>
 some x3
 else
 some s1 : Option (List qC)).bind fun s2 =>
 (zKr s2 [32]).bind fun r3 =>
 some r3
def zCk (y0 : vN) : Option qC :=
 (cat [112, 114, 111, 109, 111, 116, 101, 32] y0.1).bind fun x1 =>
 (cat x1 [32]).bind fun x2 =>
 (zIj y0.2.1).bind fun r1 =>
 (cat x2 r1).bind fun x3 =>
 (cat x3 [32, 105, 102, 32]).bind fun x4 =>
 (zCv y0.2.2).bind fun r2 =>
 (cat x4 r2).bind fun x5 =>
 some x5
def zFl (y0 : qK) (s3 : (List qC) × Int) : Option (((List qC) × Int) ⊕ (List qC)) :=
 if decide (s3.2 < (len y0.2.2.2.1)) then
 (zD y0.2.2.2.1 s3.2).bind fun x3 =>
 (zCv x3).bind fun r2 =>
 (
 if decide (s3.2 < (zR ((len y0.2.2.2.1) - 1))) then
 (cat r2 [44]).bind fun x4 =>
 some x4
 else
 some r2 : Option qC).bind fun s4 =>
 (wB s3.1 ([s4] : List qC)).bind fun x5 =>
 some (.inl (x5, zR (s3.2 + 1)))
 else
 some (.inr s3.1)
def zFG (y0 : qK) : Option qC :=
 (cat y0.1 [58]).bind fun x1 =>
 (
 if !y0.2.1 then
 (zIj y0.2.2.1).bind fun r1 =>
 (cat r1 [58]).bind fun x2 =>
 some (([[114, 117, 108, 101], y0.1, x2] : List qC), [61, 62])
 else
 some (([[115, 116, 114, 105, 99, 116], x1] : List qC), [45, 62]) : Option ((List qC) × qC)).bind fun s1 =>
 (zW (zFl y0) (s1.1, 0) : Option (List qC)).bind fun s2 =>
 (zCv y0.2.2.2.2).bind fun r3 =>
 (wB s2 ([s1.2, r3] : List qC)).bind fun x6 =>
 (zKr x6 [32]).bind fun r4 =>
 some r4
def zBD (y0 : zAT) : Option (qC × (List qC) × Bool) :=
 if (len y0.1) == 0 then
 some ([], y0.1, true)
 else
 (zD y0.1 0).bind fun x1 =>
 (sub y0.1 1 (len y0.1)).bind fun x2 =>
 some (x1, x2, y0.2)
def zHg (y0 : qC) : Option (zF × Int) :=
 (
 (
 if decide (0 < (len y0)) then
 (tW y0 0).bind fun x1 =>
 some (x1 == 126)
 else
 some false : Option Bool).bind fun s2 =>
 if s2 then
 (sub y0 1 (len y0)).bind fun x2 =>
 some (x2, true)
 else
 some (y0, false) : Option (qC × Bool)).bind fun s1 =>
 (zB6 (s1.2, s1.1)).bind fun r1 =>
 if !r1 then
 some ((false, []), 3)
 else
 some ((s1.2, s1.1), 0)
def zEK (y0 : qC) (y1 : qC) : Option Bool :=
 (
 if decide ((len y1) ≤ (len y0)) then
 (sub y0 (zR ((len y0) - (len y1))) (len y0)).bind fun x1 =>
 some (x1 == y1)
 else
 some false : Option Bool).bind fun s1 =>
 some s1
def zEJ (y0 : qC) (y1 : qC) : Option (qC × Bool) :=
 (zEK y0 y1).bind fun r1 =>
 if !r1 then
 some (y0, false)
 else
 (sub y0 0 (zR ((len y0) - (len y1)))).bind fun x1 =>
 some (x1, true)
def zFN (y0 : qC) (y1 : qC) : Option (qC × Bool) :=
 (zEJ y0 y1).bind fun r1 =>
 some (r1.1, r1.2)
def zBB (y0 : zAT) (y1 : qC) : Option (zF × (List qC) × Bool) :=
 (zBD y0).bind fun r1 =>
 (zFN r1.1 y1).bind fun r2 =>
 (zHg r2.1).bind fun r3 =>
 (
 if r1.2.2 then
 some true
 else
 if !r2.2 then
 some true
 else
 some (r3.2 != 0) : Option Bool).bind fun s1 =>
 some (r3.1, r1.2.1, s1)
def zB0 (y0 : zAT) (y1 : qC) : Option (qC × (List qC) × Bool) :=
 (zBD y0).bind fun r1 =>
 (zFN r1.1 y1).bind fun r2 =>
 (
 if r1.2.2 then
 some true
 else
 if !r2.2 then
 some true
 else
 (zBK r2.1).bind fun r3 =>
 some (!r3) : Option Bool).bind fun s1 =>
 some (r2.1, r1.2.1, s1)
def zDj (y0 : zAT) (y1 : qC) : Option (Int × (List qC) × Bool) :=
 (zBD y0).bind fun r1 =>
 (zFN r1.1 y1).bind fun r2 =>
 (
 if !r2.2 then
 some true
 else
 if (len r2.1) != 1 then
 some true
 else
 (tW r2.1 0).bind fun x1 =>
 if decide (x1 < 48) then
 some true
 else
 (tW r2.1 0).bind fun x2 =>
 some (decide (57 < x2)) : Option Bool).bind fun s1 =>
 if s1 then
 some (0, r1.2.1, true)
 else
 (tW r2.1 0).bind fun x3 =>
 some (zR (IntKind.u8.wrap (x3 - 48)), r1.2.1, r1.2.2)
def zC6 (y0 : zAT) (y1 : Int) : Option (vO × (List qC) × Bool) :=
 (zBB y0 []).bind fun r1 =>
 (
 if y1 == 2 then
 (zDj (r1.2.1, r1.2.2) []).bind fun r2 =>
 some (r2.2.1, r2.2.2, r2.1)
 else
 some (r1.2.1, r1.2.2, 0) : Option ((List qC) × Bool × Int)).bind fun s1 =>
 (
 if decide (0 < (len s1.1)) then
 (
 if s1.2.1 then
 some (s1.1, true)
 else
 (zBD (s1.1, s1.2.1)).bind fun r3 =>
 some (r3.2.1, !(r3.1 == [102, 114, 111, 109])) : Option ((List qC) × Bool)).bind fun s3 =>
 (zB0 (s3.1, s3.2) []).bind fun r4 =>
 some (r4.2.1, r4.2.2, r4.1)
 else
 some (s1.1, s1.2.1, []) : Option ((List qC) × Bool × qC)).bind fun s2 =>
 some ((r1.1, y1, s1.2.2, s2.2.2), s2.1, s2.2.1)
def zCM (y0 : zAT) : Option (vN × (List qC) × Bool) :=
 (zB0 y0 []).bind fun r1 =>
 (zDj (r1.2.1, r1.2.2) []).bind fun r2 =>
 (
 if r2.2.2 then
 some (r2.2.1, true)
 else
 (zBD (r2.2.1, r2.2.2)).bind fun r3 =>
 some (r3.2.1, !(r3.1 == [105, 102])) : Option ((List qC) × Bool)).bind fun s1 =>
 (zBB (s1.1, s1.2) []).bind fun r4 =>
 some ((r1.1, r2.1, r4.1), r4.2.1, r4.2.2)
def zEh (s3 : (List qC) × Bool × (List zF)) : Option (((List qC) × Bool × (List zF)) ⊕ ((List qC) × Bool × (List zF))) :=
 if (decide (2 < (len s3.1))) && (!s3.2.1) then
 (
 if (len s3.1) == 3 then
 some []
 else
 some [44] : Option qC).bind fun s4 =>
 (zBB (s3.1, s3.2.1) s4).bind fun r4 =>
 (wB s3.2.2 ([r4.1] : List zF)).bind fun x1 =>
 some (.inl (r4.2.1, r4.2.2, x1))
 else
 some (.inr (s3.1, s3.2.1, s3.2.2))
def zDp (y0 : zAT) (y1 : Bool) : Option (qK × (List qC) × Bool) :=
 (
 if y1 then
 (zB0 y0 [58]).bind fun r1 =>
 some ([45, 62], r1.2.1, r1.2.2, r1.1, 0)
 else
 (zB0 y0 []).bind fun r2 =>
 (zDj (r2.2.1, r2.2.2) [58]).bind fun r3 =>
 some ([61, 62], r3.2.1, r3.2.2, r2.1, r3.1) : Option (qC × (List qC) × Bool × qC × Int)).bind fun s1 =>
 (zW (zEh) (s1.2.1, s1.2.2.1, ([] : List zF)) : Option ((List qC) × Bool × (List zF))).bind fun s2 =>
 (
 if s2.2.1 then
 some (s2.1, true)
 else
 (zBD (s2.1, s2.2.1)).bind fun r5 =>
 some (r5.2.1, !(r5.1 == s1.1)) : Option ((List qC) × Bool)).bind fun s5 =>
 (zBB (s5.1, s5.2) []).bind fun r6 =>
 some ((s1.2.2.2.1, y1, s1.2.2.2.2, s2.2.2, r6.1), r6.2.1, r6.2.2)
def zMC (r1 : qC × (List qC) × Bool) (s3 : Int × Int) : Option ((Int × Int) ⊕ Int) :=
 if decide (s3.2 < 4) then
 (zD zAd s3.2).bind fun x1 =>
 if x1 == r1.1 then
 some (.inl (s3.2, zR (s3.2 + 1)))
 else
 some (.inl (s3.1, zR (s3.2 + 1)))
 else
 some (.inr s3.1)
def zEZ (y0 : zAT) (y1 : zM) : Option (Int × qC × (List qC) × Bool × (List vO) × (List qK) × (List vN)) :=
 (zBD y0).bind fun r1 =>
 (
 if r1.1 == [97, 120, 105, 111, 109] then
 some (r1.1 == [97, 120, 105, 111, 109])
 else
 if r1.1 == [112, 114, 101, 109, 105, 115, 101] then
 some (r1.1 == [112, 114, 101, 109, 105, 115, 101])
 else
 some (r1.1 == [97, 115, 115, 117, 109, 101]) : Option Bool).bind fun s1 =>
 if s1 then
 (zW (zMC r1) (1, 0) : Option Int).bind fun s2 =>
 (zC6 (r1.2.1, r1.2.2) s2).bind fun r2 =>
 (wB y1.1 ([r2.1] : List vO)).bind fun x2 =>
 (zDV r2.1).bind fun r3 =>
 some (1, r3, r2.2.1, r2.2.2, x2, y1.2.1, y1.2.2)
 else
 (
 if r1.1 == [115, 116, 114, 105, 99, 116] then
 some (r1.1 == [115, 116, 114, 105, 99, 116])
 else
 some (r1.1 == [114, 117, 108, 101]) : Option Bool).bind fun s4 =>
 if s4 then
 (zDp (r1.2.1, r1.2.2) (r1.1 == [115, 116, 114, 105, 99, 116])).bind fun r4 =>
 (wB y1.2.1 ([r4.1] : List qK)).bind fun x3 =>
 (zFG r4.1).bind fun r5 =>
 some (2, r5, r4.2.1, r4.2.2, y1.1, x3, y1.2.2)
 else
 if r1.1 == [112, 114, 111, 109, 111, 116, 101] then
 (zCM (r1.2.1, r1.2.2)).bind fun r6 =>
 (wB y1.2.2 ([r6.1] : List vN)).bind fun x4 =>
 (zCk r6.1).bind fun r7 =>
 some (3, r7, r6.2.1, r6.2.2, y1.1, y1.2.1, x4)
 else
 some (0, [], r1.2.1, r1.2.2, y1.1, y1.2.1, y1.2.2)
def zGB (y0 : qC) (y1 : qC) : Option Int := zZC y0 y1
def zGi (y0 : qC) (y1 : qC) : Option (qC × qC × Bool) :=
 (zGB y0 y1).bind fun r1 =>
 if decide (0 ≤ r1) then
 (sub y0 0 r1).bind fun x1 =>
 (sub y0 (zR (r1 + (len y1))) (len y0)).bind fun x2 =>
 some (x1, x2, true)
 else
 some (y0, [], false)
def zPD (y0 : qC) (y1 : qC) : Option (qC × qC × Bool) :=
 (zGi y0 y1).bind fun r1 =>
 some (r1.1, r1.2.1, r1.2.2)
def zMK (y0 : qC) : Option (List qC) := zVz y0
def zHL (s2 : qC × Int × Int × (List vO) × (List qK) × (List vN)) : Option ((qC × Int × Int × (List vO) × (List qK) × (List vN)) ⊕ (((List vO) × (List qK) × (List vN)) ⊕ (zM × Int × Int))) :=
 if !(s2.1 == []) then
 (zPD s2.1 [10]).bind fun r1 =>
 (zMK r1.1).bind fun r2 =>
 (zEZ (r2, false) (s2.2.2.2.1, s2.2.2.2.2.1, s2.2.2.2.2.2)).bind fun r3 =>
 if (!r1.2.2) || (r3.2.2.2.1 || ((decide (0 < (len r3.2.2.1))) || ((!(r3.2.1 == r1.1)) || (decide (r3.1 < s2.2.1))))) then
 some (.inr (.inr ((([] : List vO), ([] : List qK), ([] : List vN)), s2.2.2.1, 3)))
 else
 some (.inl (r1.2.1, r3.1, zR (s2.2.2.1 + 1), r3.2.2.2.2.1, r3.2.2.2.2.2.1, r3.2.2.2.2.2.2))
 else
 some (.inr (.inl (s2.2.2.2.1, s2.2.2.2.2.1, s2.2.2.2.2.2)))
def zHI (y0 : qC) : Option (zM × Int × Int) :=
 if decide (4096 < (len y0)) then
 some ((([] : List vO), ([] : List qK), ([] : List vN)), 0, 2)
 else
 yC (zW (zHL) (y0, 1, 1, ([] : List vO), ([] : List qK), ([] : List vN)) : Option (((List vO) × (List qK) × (List vN)) ⊕ (zM × Int × Int))) fun s1 =>
 (zB5 (s1.1, s1.2.1, s1.2.2)).bind fun r4 =>
 if r4 != 0 then
 some ((([] : List vO), ([] : List qK), ([] : List vN)), 0, r4)
 else
 some ((s1.1, s1.2.1, s1.2.2), 0, 0)
def zHY (y0 : qC) : Option zM :=
 (zHI y0).bind fun r1 =>
 some r1.1
def zDd : Option Bool :=
 (zHY [112, 114, 101, 109, 105, 115, 101, 32, 112, 32, 49, 10, 112, 114, 101, 109, 105, 115, 101, 32, 126, 112, 32, 50, 10]).bind fun r1 =>
 (zD8 r1 (1, 1)).bind fun r2 =>
 (zHY [97, 120, 105, 111, 109, 32, 112, 10, 114, 117, 108, 101, 32, 97, 32, 49, 58, 32, 61, 62, 32, 113, 10, 114, 117, 108, 101, 32, 98, 32, 49, 58, 32, 61, 62, 32, 126, 113, 10, 112, 114, 111, 109, 111, 116, 101, 32, 98, 32, 53, 32, 105, 102, 32, 112, 10]).bind fun r3 =>
 (zD8 r3 (1, 1)).bind fun r4 =>
 (zHY [112, 114, 101, 109, 105, 115, 101, 32, 112, 32, 51, 10, 115, 116, 114, 105, 99, 116, 32, 115, 58, 32, 112, 32, 45, 62, 32, 126, 112, 10]).bind fun r5 =>
 (zD8 r5 (1, 1)).bind fun r6 =>
 (
 if r2.2 then
 if (len r2.1) == 1 then
 (zD r2.1 0).bind fun x1 =>
 if x1 == (true, [112]) then
 if r4.2 then
 if (len r4.1) == 2 then
 (zD r4.1 1).bind fun x2 =>
 if x2 == (true, [113]) then
 if r6.2 then
 some ((len r6.1) == 0)
 else
 some false
 else
 some false
 else
 some false
 else
 some false
 else
 some false
 else
 some false
 else
 some false : Option Bool).bind fun s1 =>
 some s1
def zE3 (y0 : Int) : Option qC :=
 (zJa y0 26).bind fun r1 =>
 (cat [114] (zQV ([IntKind.u8.wrap (zR (97 + r1))] : List Int))).bind fun x1 =>
 some x1
def zCE (y0 : uQ) (y1 : Int) : Option (zF × Int) :=
 (xN y0 (zR (2 * y1))).bind fun r1 =>
 (z1m .i64 r1.1 2).bind fun x1 =>
 some (((yG .i64 r1.1 1) == 1, zQV ([IntKind.u8.wrap (zR (97 + x1))] : List Int)), r1.2)
def zFk (y0 : uQ) (y2 : Int) (s1 : (List zF) × Int × Int) : Option (((List zF) × Int × Int) ⊕ ((List zF) × Int)) :=
 if decide (0 < s1.2.1) then
 (zCE (y0.1, s1.2.2) y2).bind fun r2 =>
 (wB s1.1 ([r2.1] : List zF)).bind fun x1 =>
 some (.inl (x1, zR (s1.2.1 - 1), r2.2))
 else
 some (.inr (s1.1, s1.2.2))
def zEz (y0 : uQ) (y1 : Int) (y2 : Int) : Option ((List zF) × Int) :=
 (xN y0 (zR (y1 + 1))).bind fun r1 =>
 zW (zFk y0 y2) (([] : List zF), r1.1, r1.2)
def zHs (y0 : uQ) (y1 : List Int) : Option (Int × Int) :=
 (xN y0 (len y1)).bind fun r1 =>
 (zD y1 r1.1).bind fun x1 =>
 some (x1, r1.2)
def zHk (y0 : uQ) (y1 : List qC) : Option (qC × Int) :=
 (xN y0 (len y1)).bind fun r1 =>
 (zD y1 r1.1).bind fun x1 =>
 some (x1, r1.2)
def zF9 (s1 : (List zF) × Int) (x1 : zF) (s3 : Int) : Option (Int ⊕ Int) :=
 (
 if decide (s3 < (len s1.1)) then
 (zD s1.1 s3).bind fun x2 =>
 if uI x2.2 x1.2 then
 some true
 else
 (zD s1.1 s3).bind fun x3 =>
 if x3.2 == x1.2 then
 (zD s1.1 s3).bind fun x4 =>
 if !x4.1 then
 some x1.1
 else
 some false
 else
 some false
 else
 some false : Option Bool).bind fun s4 =>
 if s4 then
 some (.inl (zR (s3 + 1)))
 else
 some (.inr s3)
def zHC (y0 : List zF) (s1 : (List zF) × Int) : Option (((List zF) × Int) ⊕ (List zF)) :=
 if decide (s1.2 < (len y0)) then
 (zD y0 s1.2).bind fun x1 =>
 (zW (zF9 s1 x1) 0 : Option Int).bind fun s2 =>
 (
 if decide (s2 < (len s1.1)) then
 (zD s1.1 s2).bind fun x5 =>
 some (x5 == x1)
 else
 some false : Option Bool).bind fun s5 =>
 if s5 then
 some (.inl (s1.1, zR (s1.2 + 1)))
 else
 (wB s1.1 ([(false, [])] : List zF)).bind fun x6 =>
 (vY (decide (0 ≤ (zR (s2 + 1))) && decide ((zR (s2 + 1)) ≤ len x6))).bind fun _ =>
 (vY (decide (0 ≤ s2) && decide (s2 ≤ len x6))).bind fun _ =>
 (zD (zH0 x6 (zR (s2 + 1)) (List.drop (Int.toNat s2) x6)) s2).bind fun _ =>
 some (.inl (List.set (zH0 x6 (zR (s2 + 1)) (List.drop (Int.toNat s2) x6)) (Int.toNat s2) x1, zR (s1.2 + 1)))
 else
 some (.inr s1.1)
def zJ4 (y0 : List zF) : Option (List zF) :=
 zW (zHC y0) (([] : List zF), 0)
def zDx (s2 : Int × Int × (List vO)) (r2 : zF × Int) (s5 : Bool × Int) : Option ((Bool × Int) ⊕ Bool) :=
 if decide (s5.2 < (len s2.2.2)) then
 (zD s2.2.2 s5.2).bind fun x1 =>
 some (.inl (s5.1 || (x1.1 == r2.1), zR (s5.2 + 1)))
 else
 some (.inr s5.1)
def zFt (y0 : uQ) (y1 : Int) (s2 : Int × Int × (List vO)) : Option ((Int × Int × (List vO)) ⊕ (Int × (List vO))) :=
 if decide (0 < s2.1) then
 (zCE (y0.1, s2.2.1) y1).bind fun r2 =>
 (zHs (y0.1, r2.2) ([1, 2, 2, 2, 3] : List Int)).bind fun r3 =>
 (zHk (y0.1, r3.2) ([[], [], [97, 110, 110], [98, 111, 98]] : List qC)).bind fun r4 =>
 (
 if r3.1 == 2 then
 (xN (y0.1, r4.2) 4).bind fun r5 =>
 some (r5.2, r5.1)
 else
 some (r4.2, 0) : Option (Int × Int)).bind fun s3 =>
 (zW (zDx s2 r2) (false, 0) : Option Bool).bind fun s4 =>
 if !s4 then
 (wB s2.2.2 ([(r2.1, r3.1, s3.2, r4.1)] : List vO)).bind fun x2 =>
 some (.inl (zR (s2.1 - 1), s3.1, x2))
 else
 some (.inl (zR (s2.1 - 1), s3.1, s2.2.2))
 else
 some (.inr (s2.2.1, s2.2.2))
def zFu (y0 : uQ) (y1 : Int) (y3 : Int) (s7 : Int × Int × (List qK)) : Option ((Int × Int × (List qK)) ⊕ (Int × (List qK))) :=
 if decide (0 < s7.1) then
 (zE3 (len s7.2.2)).bind fun r7 =>
 (xN (y0.1, s7.2.1) 3).bind fun r8 =>
 (zEz (y0.1, r8.2) 2 y1).bind fun r9 =>
 (zJ4 r9.1).bind fun r10 =>
 (zCE (y0.1, r9.2) y1).bind fun r11 =>
 (
 if !(r8.1 == 0) then
 (xN (y0.1, r11.2) 4).bind fun r12 =>
 some (r12.2, r12.1)
 else
 some (r11.2, 0) : Option (Int × Int)).bind fun s8 =>
 (
 (xN (y0.1, s8.1) 6).bind fun r13 =>
 if r13.1 == 5 then
 (xN (y0.1, r13.2) 4).bind fun r14 =>
 (xN (y0.1, r14.2) y3).bind fun r15 =>
 (zE3 r15.1).bind fun r16 =>
 some (r15.2, decide (0 < r14.1), r16)
 else
 some (r13.2, r11.1.1, r11.1.2) : Option (Int × Bool × qC)).bind fun s9 =>
 (wB s7.2.2 ([(r7, r8.1 == 0, s8.2, r10, (s9.2.1, s9.2.2))] : List qK)).bind fun x3 =>
 some (.inl (zR (s7.1 - 1), s9.1, x3))
 else
 some (.inr (s7.2.1, s7.2.2))
def zGC (s6 : Int × (List qK)) (y0 : uQ) (y1 : Int) (s11 : Int × Int × (List vN)) : Option ((Int × Int × (List vN)) ⊕ (Int × (List vN))) :=
 if (decide (0 < s11.1)) && (decide (0 < (len s6.2))) then
 (
 (xN (y0.1, s11.2.1) (len s6.2)).bind fun r18 =>
 (zD s6.2 r18.1).bind fun x4 =>
 some (r18.2, x4) : Option (Int × qK)).bind fun s12 =>
 if !s12.2.2.1 then
 (xN (y0.1, s12.1) 10).bind fun r20 =>
 (zCE (y0.1, r20.2) y1).bind fun r21 =>
 (wB s11.2.2 ([(s12.2.1, r20.1, r21.1)] : List vN)).bind fun x6 =>
 some (.inl (zR (s11.1 - 1), r21.2, x6))
 else
 some (.inl (zR (s11.1 - 1), s12.1, s11.2.2))
 else
 some (.inr (s11.2.1, s11.2.2))
def zHn (y0 : uQ) (y1 : Int) (y2 : Int) (y3 : Int) : Option (zM × Int) :=
 (
 (xN y0 (zR (y2 + 1))).bind fun r1 =>
 zW (zFt y0 y1) (r1.1, r1.2, ([] : List vO)) : Option (Int × (List vO))).bind fun s1 =>
 (
 (xN (y0.1, s1.1) (zR (y3 + 1))).bind fun r6 =>
 zW (zFu y0 y1 y3) (r6.1, r6.2, ([] : List qK)) : Option (Int × (List qK))).bind fun s6 =>
 (
 (xN (y0.1, s6.1) 3).bind fun r17 =>
 zW (zGC s6 y0 y1) (r17.1, r17.2, ([] : List vN)) : Option (Int × (List vN))).bind fun s10 =>
 some ((s1.2, s6.2, s10.2), s10.1)
def zCg (y0 : zF) : Option zF :=
 some (!y0.1, y0.2)
def zIg (y0 : List zF) (y1 : zF) (s1 : Int) : Option (Int ⊕ Bool) :=
 if decide (s1 < (len y0)) then
 (zD y0 s1).bind fun x1 =>
 if x1 == y1 then
 some (.inr true)
 else
 some (.inl (zR (s1 + 1)))
 else
 some (.inr false)
def zI0 (y0 : List zF) (y1 : zF) : Option Bool :=
 zW (zIg y0 y1) 0
def zDy (y0 : List zF) (s1 : Int) : Option (Int ⊕ Bool) :=
 if decide (s1 < (len y0)) then
 (zD y0 s1).bind fun x1 =>
 (zCg x1).bind fun r1 =>
 (zI0 y0 r1).bind fun r2 =>
 if r2 then
 some (.inr false)
 else
 some (.inl (zR (s1 + 1)))
 else
 some (.inr true)
def zFq (y0 : List zF) : Option Bool :=
 zW (zDy y0) 0
def zEU (y0 : qC) (s2 : Int) : Option (Int ⊕ Bool) :=
 if decide (s2 < (len y0)) then
 (
 (tW y0 s2).bind fun x3 =>
 if decide (x3 < 97) then
 (tW y0 s2).bind fun x4 =>
 if decide (x4 < 48) then
 (tW y0 s2).bind fun x5 =>
 some (x5 != 95)
 else
 (tW y0 s2).bind fun x6 =>
 if decide (57 < x6) then
 (tW y0 s2).bind fun x7 =>
 some (x7 != 95)
 else
 some false
 else
 (tW y0 s2).bind fun x8 =>
 if decide (122 < x8) then
 (tW y0 s2).bind fun x9 =>
 if decide (x9 < 48) then
 (tW y0 s2).bind fun x10 =>
 some (x10 != 95)
 else
 (tW y0 s2).bind fun x11 =>
 if decide (57 < x11) then
 (tW y0 s2).bind fun x12 =>
 some (x12 != 95)
 else
 some false
 else
 some false : Option Bool).bind fun s3 =>
 if s3 then
 some (.inr false)
 else
 some (.inl (zR (s2 + 1)))
 else
 some (.inr true)
def zCO (y0 : qC) : Option Bool :=
 (
 if decide ((len y0) < 1) then
 some true
 else
 if decide (12 < (len y0)) then
 some true
 else
 (tW y0 0).bind fun x1 =>
 if decide (x1 < 97) then
 some true
 else
 (tW y0 0).bind fun x2 =>
 some (decide (122 < x2)) : Option Bool).bind fun s1 =>
 if s1 then
 some false
 else
 zW (zEU y0) 0
def zDl (y0 : zF) : Option Bool :=
 (zCO y0.2).bind fun r1 =>
 some r1
def zHt (y0 : zM) (y1 : qC) (s1 : Int) : Option (Int ⊕ Int) :=
 if decide (s1 < (len y0.2.1)) then
 (zD y0.2.1 s1).bind fun x1 =>
 if x1.1 == y1 then
 some (.inr s1)
 else
 some (.inl (zR (s1 + 1)))
 else
 some (.inr (-1))
def zIm (y0 : zM) (y1 : qC) : Option Int :=
 zW (zHt y0 y1) 0
def zFx (y0 : zM) (y1 : zF) (s1 : Int) : Option (Int ⊕ Int) :=
 if decide (s1 < (len y0.1)) then
 (zD y0.1 s1).bind fun x1 =>
 if x1.1 == y1 then
 some (.inr s1)
 else
 some (.inl (zR (s1 + 1)))
 else
 some (.inr (-1))
def zJu (y0 : zM) (y1 : zF) : Option Int :=
 zW (zFx y0 y1) 0
def zGR (y0 : Int) : Option Bool :=
 some ((decide (0 ≤ y0)) && (decide (y0 ≤ 9)))
def zID (y0 : vO) : Option Int :=
 if (decide (y0.2.1 < 1)) || (decide (3 < y0.2.1)) then
 some 4
 else
 (
 (zDl y0.1).bind fun r1 =>
 if !r1 then
 some true
 else
 (zGR y0.2.2.1).bind fun r2 =>
 if !r2 then
 some true
 else
 if y0.2.1 != 2 then
 if y0.2.2.1 != 0 then
 some true
 else
 if !(y0.2.2.2 == []) then
 (zCO y0.2.2.2).bind fun r3 =>
 some (!r3)
 else
 some false
 else
 if !(y0.2.2.2 == []) then
 (zCO y0.2.2.2).bind fun r4 =>
 some (!r4)
 else
 some false : Option Bool).bind fun s1 =>
 if s1 then
 some 1
 else
 some 0
def zGK (y0 : zF) (y1 : zF) : Option Int :=
 if y0 == y1 then
 some 0
 else
 if (uI y0.2 y1.2) || ((y0.2 == y1.2) && y1.1) then
 some (-1)
 else
 some 1
def zHm (y0 : qK) (s3 : Bool × Int) : Option ((Bool × Int) ⊕ Bool) :=
 if decide (s3.2 < (len y0.2.2.2.1)) then
 (
 if s3.1 then
 (zD y0.2.2.2.1 s3.2).bind fun x1 =>
 (zDl x1).bind fun r5 =>
 some r5
 else
 some false : Option Bool).bind fun s4 =>
 some (.inl (s4, zR (s3.2 + 1)))
 else
 some (.inr s3.1)
def zHh (y0 : qK) (s5 : Int) : Option (Int ⊕ Int) :=
 if decide (s5 < (len y0.2.2.2.1)) then
 (zD y0.2.2.2.1 (zR (s5 - 1))).bind fun x2 =>
 (zD y0.2.2.2.1 s5).bind fun x3 =>
 (zGK x2 x3).bind fun r6 =>
 if decide (0 ≤ r6) then
 some (.inr 8)
 else
 some (.inl (zR (s5 + 1)))
 else
 some (.inr 0)
def zK3 (y0 : qK) : Option Int :=
 if decide (4 < (len y0.2.2.2.1)) then
 some 2
 else
 (
 (zCO y0.1).bind fun r1 =>
 if r1 then
 (zGR y0.2.2.1).bind fun r2 =>
 if r2 then
 if !y0.2.1 then
 (zDl y0.2.2.2.2).bind fun r3 =>
 some r3
 else
 if y0.2.2.1 == 0 then
 (zDl y0.2.2.2.2).bind fun r4 =>
 some r4
 else
 some false
 else
 some false
 else
 some false : Option Bool).bind fun s1 =>
 (zW (zHm y0) (s1, 0) : Option Bool).bind fun s2 =>
 if !s2 then
 some 1
 else
 zW (zHh y0) 1
def zFM (y0 : zM) (s2 : Int) : Option (Int ⊕ (Unit ⊕ Int)) :=
 if decide (s2 < (len y0.1)) then
 (zD y0.1 s2).bind fun x1 =>
 (zID x1).bind fun r1 =>
 if r1 != 0 then
 some (.inr (.inr r1))
 else
 (zD y0.1 s2).bind fun x2 =>
 (zJu y0 x2.1).bind fun r2 =>
 if decide (r2 < s2) then
 some (.inr (.inr 5))
 else
 some (.inl (zR (s2 + 1)))
 else
 some (.inr (.inl ()))
def zEv (y0 : zM) (s4 : Int) : Option (Int ⊕ (Unit ⊕ Int)) :=
 if decide (s4 < (len y0.2.1)) then
 (zD y0.2.1 s4).bind fun x3 =>
 (zK3 x3).bind fun r3 =>
 if r3 != 0 then
 some (.inr (.inr r3))
 else
 (zD y0.2.1 s4).bind fun x4 =>
 (zIm y0 x4.1).bind fun r4 =>
 if decide (r4 < s4) then
 some (.inr (.inr 5))
 else
 some (.inl (zR (s4 + 1)))
 else
 some (.inr (.inl ()))
def zFV (y0 : zM) (s5 : Int) : Option (Int ⊕ Int) :=
 if decide (s5 < (len y0.2.2)) then
 (zD y0.2.2 s5).bind fun x5 =>
 (
 (zGR x5.2.1).bind fun r5 =>
 if !r5 then
 some true
 else
 (zDl x5.2.2).bind fun r6 =>
 some (!r6) : Option Bool).bind fun s6 =>
 if s6 then
 some (.inr 1)
 else
 (zIm y0 x5.1).bind fun r7 =>
 if decide (r7 < 0) then
 some (.inr 6)
 else
 (zD y0.2.1 r7).bind fun x6 =>
 if x6.2.1 then
 some (.inr 4)
 else
 some (.inl (zR (s5 + 1)))
 else
 some (.inr 0)
def zCs (y0 : zM) : Option Int :=
 if (decide (16 < (len y0.1))) || ((decide (24 < (len y0.2.1))) || (decide (8 < (len y0.2.2)))) then
 some 2
 else
 yC (zW (zFM y0) 0 : Option (Unit ⊕ Int)) fun _ =>
 yC (zW (zEv y0) 0 : Option (Unit ⊕ Int)) fun _ =>
 zW (zFV y0) 0
def zEf (y0 : List zF) (y1 : zF) (s2 : Int) : Option (Int ⊕ Int) :=
 (
 if decide (s2 < (len y0)) then
 (zD y0 s2).bind fun x1 =>
 (zGK x1 y1).bind fun r1 =>
 some (decide (r1 < 0))
 else
 some false : Option Bool).bind fun s3 =>
 if s3 then
 some (.inl (zR (s2 + 1)))
 else
 some (.inr s2)
def zFe (y0 : List zF) (y1 : zF) : Option (List zF) :=
 (zW (zEf y0 y1) 0 : Option Int).bind fun s1 =>
 (
 if decide (s1 < (len y0)) then
 (zD y0 s1).bind fun x2 =>
 some (x2 == y1)
 else
 some false : Option Bool).bind fun s4 =>
 if s4 then
 some y0
 else
 (sub y0 0 s1).bind fun x3 =>
 (wB ([] : List zF) x3).bind fun x4 =>
 (sub y0 s1 (len y0)).bind fun x5 =>
 (wB x4 ([y1] : List zF)).bind fun x6 =>
 (wB x6 x5).bind fun x7 =>
 some x7
def zGa (y0 : zM) (s1 : (List zF) × Int) : Option (((List zF) × Int) ⊕ (List zF)) :=
 if decide (s1.2 < (len y0.1)) then
 (zD y0.1 s1.2).bind fun x1 =>
 if x1.2.1 == 1 then
 (zD y0.1 s1.2).bind fun x2 =>
 (zFe s1.1 x2.1).bind fun r1 =>
 some (.inl (r1, zR (s1.2 + 1)))
 else
 some (.inl (s1.1, zR (s1.2 + 1)))
 else
 some (.inr s1.1)
def zFi (y0 : zM) : Option (List zF) :=
 zW (zGa y0) (([] : List zF), 0)
def zRa (y0 : List zF) (y1 : List zF) (s1 : Int) : Option (Int ⊕ Bool) :=
 if decide (s1 < (len y0)) then
 (zD y0 s1).bind fun x1 =>
 (zD y1 s1).bind fun x2 =>
 if !(x1 == x2) then
 some (.inr false)
 else
 some (.inl (zR (s1 + 1)))
 else
 some (.inr true)
def zH5 (y0 : List zF) (y1 : List zF) : Option Bool :=
 if (len y0) != (len y1) then
 some false
 else
 zW (zRa y0 y1) 0
def zJD (y0 : zM) (y1 : qK) (s1 : Int) : Option (Int ⊕ Bool) :=
 if decide (s1 < (len y0.2.1)) then
 (zD y0.2.1 s1).bind fun x1 =>
 (
 if x1.2.1 then
 if x1.2.2.2.2 == y1.2.2.2.2 then
 (zH5 x1.2.2.2.1 y1.2.2.2.1).bind fun r1 =>
 some r1
 else
 some false
 else
 some false : Option Bool).bind fun s2 =>
 if s2 then
 some (.inr true)
 else
 some (.inl (zR (s1 + 1)))
 else
 some (.inr false)
def zJZ (y0 : zM) (y1 : qK) : Option Bool :=
 zW (zJD y0 y1) 0
def zGZ (y0 : List zF) (s1 : (List zF) × Int) : Option (((List zF) × Int) ⊕ (List zF)) :=
 if decide (s1.2 < (len y0)) then
 (zD y0 s1.2).bind fun x1 =>
 (zFe s1.1 x1).bind fun r1 =>
 some (.inl (r1, zR (s1.2 + 1)))
 else
 some (.inr s1.1)
def zIf (y0 : List zF) : Option (List zF) :=
 zW (zGZ y0) (([] : List zF), 0)
def zEY (y0 : qK) (y1 : Int) (s2 : (List zF) × Int) : Option (((List zF) × Int) ⊕ (List zF)) :=
 if decide (s2.2 < (len y0.2.2.2.1)) then
 (zD y0.2.2.2.1 s2.2).bind fun x1 =>
 (zD y0.2.2.2.1 y1).bind fun x2 =>
 if !(x1 == x2) then
 (zD y0.2.2.2.1 s2.2).bind fun x3 =>
 (wB s2.1 ([x3] : List zF)).bind fun x4 =>
 some (.inl (x4, zR (s2.2 + 1)))
 else
 some (.inl (s2.1, zR (s2.2 + 1)))
 else
 some (.inr s2.1)
def zEq (y0 : qK) (y1 : Int) : Option qK :=
 (zW (zEY y0 y1) (([] : List zF), 0) : Option (List zF)).bind fun s1 =>
 (zCg y0.2.2.2.2).bind fun r1 =>
 (wB s1 ([r1] : List zF)).bind fun x5 =>
 (zD y0.2.2.2.1 y1).bind fun x6 =>
 (zIf x5).bind fun r2 =>
 (zCg x6).bind fun r3 =>
 some ([], true, 0, r2, r3)
def zG4 (x1 : qK) (y0 : zM) (s1 : Int) (s2 : Int) : Option (Int ⊕ (Int ⊕ Bool)) :=
 if (decide (s2 < (len x1.2.2.2.1))) && x1.2.1 then
 (zEq x1 s2).bind fun r1 =>
 (zJZ y0 r1).bind fun r2 =>
 if !r2 then
 some (.inr (.inr false))
 else
 some (.inl (zR (s2 + 1)))
 else
 some (.inr (.inl (zR (s1 + 1))))
def zGg (y0 : zM) (s1 : Int) : Option (Int ⊕ Bool) :=
 if decide (s1 < (len y0.2.1)) then
 (zD y0.2.1 s1).bind fun x1 =>
 zW (zG4 x1 y0 s1) 0
 else
 some (.inr true)
def zId (y0 : zM) : Option Bool :=
 zW (zGg y0) 0
def zKu (y1 : List zF) (y0 : List zF) (s1 : Int) : Option (Int ⊕ Bool) :=
 if decide (s1 < (len y1)) then
 (zD y1 s1).bind fun x1 =>
 (zI0 y0 x1).bind fun r1 =>
 if !r1 then
 some (.inr false)
 else
 some (.inl (zR (s1 + 1)))
 else
 some (.inr true)
def zOZ (y0 : List zF) (y1 : List zF) : Option Bool :=
 zW (zKu y1 y0) 0
def zDt (y0 : zM) (s2 : (List zF) × Bool × Int) : Option (((List zF) × Bool × Int) ⊕ (((List zF) × Bool) ⊕ (List zF))) :=
 if decide (s2.2.2 < (len y0.2.1)) then
 (zD y0.2.1 s2.2.2).bind fun x1 =>
 (
 if x1.2.1 then
 (zOZ s2.1 x1.2.2.2.1).bind fun r2 =>
 if r2 then
 (zI0 s2.1 x1.2.2.2.2).bind fun r3 =>
 some (!r3)
 else
 some false
 else
 some false : Option Bool).bind fun s3 =>
 if s3 then
 (zFe s2.1 x1.2.2.2.2).bind fun r4 =>
 some (.inl (r4, true, zR (s2.2.2 + 1)))
 else
 some (.inl (s2.1, s2.2.1, zR (s2.2.2 + 1)))
 else
 some (.inr (.inl (s2.1, s2.2.1)))
def zHi (y0 : zM) (s1 : (List zF) × Bool) : Option (((List zF) × Bool) ⊕ (List zF)) :=
 if s1.2 then
 zW (zDt y0) (s1.1, false, 0)
 else
 some (.inr s1.1)
def zC3 (y0 : zM) (y1 : List zF) : Option (List zF) :=
 (zIf y1).bind fun r1 =>
 zW (zHi y0) (r1, true)
def zJ3 (y0 : zM) : Option Bool :=
 (
 (zCs y0).bind fun r1 =>
 if r1 == 0 then
 (zId y0).bind fun r2 =>
 if r2 then
 (zFi y0).bind fun r3 =>
 (zC3 y0 r3).bind fun r4 =>
 (zFq r4).bind fun r5 =>
 some r5
 else
 some false
 else
 some false : Option Bool).bind fun s1 =>
 some s1
def zHu (y0 : zM) (s3 : Int × (List qK)) : Option ((Int × (List qK)) ⊕ (List qK)) :=
 if decide (s3.1 < (len y0.2.1)) then
 (zD y0.2.1 s3.1).bind fun x27 =>
 (wB ([] : List zF) x27.2.2.2.1).bind fun x28 =>
 (wB s3.2 ([(x27.1, x27.2.1, x27.2.2.1, x28, x27.2.2.2.2)] : List qK)).bind fun x29 =>
 some (.inl (zR (s3.1 + 1), x29))
 else
 some (.inr s3.2)
def zKb (y0 : zM) : Option zM :=
 (
 (wB ([] : List vO) y0.1).bind fun x1 =>
 (wB ([] : List vN) y0.2.2).bind fun x2 =>
 some (x1, ([] : List qK), x2) : Option zM).bind fun s1 =>
 (zW (zHu y0) (0, s1.2.1) : Option (List qK)).bind fun s2 =>
 some (s1.1, s2, s1.2.2)
def zEm (rec_ref06_decimal : Int → Option qC) (y0 : Int) : Option qC :=
 if decide (y0 < 10) then
 (sub [48, 49, 50, 51, 52, 53, 54, 55, 56, 57] y0 (zR (y0 + 1))).bind fun x1 =>
 some x1
 else
 (z1m .i64 y0 10).bind fun x2 =>
 (z13 y0 10).bind fun x3 =>
 (z13 y0 10).bind fun x4 =>
 (sub [48, 49, 50, 51, 52, 53, 54, 55, 56, 57] x3 (zR (x4 + 1))).bind fun x5 =>
 (rec_ref06_decimal x2).bind fun r1 =>
 (cat r1 x5).bind fun x6 =>
 some x6
def zDU : Nat → Int → Option qC
 | 0 => fun _ => none
 | k + 1 => fun y0 => zEm (zDU k) y0
def zHl (y0 : Int) : Option qC := zVb fun k => zDU k y0
def zHy (y0 : zM) (s2 : Int) : Option (Int ⊕ Int) :=
 (zHl s2).bind fun r1 =>
 (cat [116] r1).bind fun x1 =>
 (zIm y0 x1).bind fun r2 =>
 if decide (0 ≤ r2) then
 some (.inl (zR (s2 + 1)))
 else
 some (.inr s2)
def zK6 (y0 : zM) : Option qC :=
 (zW (zHy y0) 1 : Option Int).bind fun s1 =>
 (zHl s1).bind fun r3 =>
 (cat [116] r3).bind fun x2 =>
 some x2
def zE0 (x1 : qK) (r2 : zM) (s2 : Int × (List qK)) (s3 : Int × (List qK)) : Option ((Int × (List qK)) ⊕ ((Int × (List qK)) ⊕ ((List qK) ⊕ (zM × Int)))) :=
 if (decide (s3.1 < (len x1.2.2.2.1))) && x1.2.1 then
 (zEq x1 s3.1).bind fun r3 =>
 (zJZ (r2.1, s3.2, r2.2.2) r3).bind fun r4 =>
 if r4 then
 some (.inl (zR (s3.1 + 1), s3.2))
 else
 if (len s3.2) == 24 then
 some (.inr (.inr (.inr ((([] : List vO), ([] : List qK), ([] : List vN)), 2))))
 else
 (zK6 (r2.1, s3.2, r2.2.2)).bind fun r5 =>
 (wB s3.2 ([(r5, r3.2.1, r3.2.2.1, r3.2.2.2.1, r3.2.2.2.2)] : List qK)).bind fun x2 =>
 some (.inl (zR (s3.1 + 1), x2))
 else
 some (.inr (.inl (zR (s2.1 + 1), s3.2)))
def zET (r2 : zM) (s2 : Int × (List qK)) : Option ((Int × (List qK)) ⊕ ((List qK) ⊕ (zM × Int))) :=
 if decide (s2.1 < (len s2.2)) then
 (zD s2.2 s2.1).bind fun x1 =>
 zW (zE0 x1 r2 s2) (0, s2.2)
 else
 some (.inr (.inl s2.2))
def zGc (y0 : zM) : Option (zM × Int) :=
 (zCs y0).bind fun r1 =>
 if r1 != 0 then
 some ((([] : List vO), ([] : List qK), ([] : List vN)), r1)
 else
 (zKb y0).bind fun r2 =>
 yC (zW (zET r2) (0, r2.2.1) : Option ((List qK) ⊕ (zM × Int))) fun s1 =>
 some ((r2.1, s1, r2.2.2), 0)
def zEp (y0 : List Int) (y1 : Int) (s2 : Int) : Option (Int ⊕ Int) :=
 (
 if decide (s2 < (len y0)) then
 (zD y0 s2).bind fun x1 =>
 some (decide (x1 < y1))
 else
 some false : Option Bool).bind fun s3 =>
 if s3 then
 some (.inl (zR (s2 + 1)))
 else
 some (.inr s2)
def zGy (y0 : List Int) (y1 : Int) : Option (List Int) :=
 (zW (zEp y0 y1) 0 : Option Int).bind fun s1 =>
 (
 if decide (s1 < (len y0)) then
 (zD y0 s1).bind fun x2 =>
 some (x2 == y1)
 else
 some false : Option Bool).bind fun s4 =>
 if s4 then
 some y0
 else
 (sub y0 0 s1).bind fun x3 =>
 (wB ([] : List Int) x3).bind fun x4 =>
 (sub y0 s1 (len y0)).bind fun x5 =>
 (wB x4 ([y1] : List Int)).bind fun x6 =>
 (wB x6 x5).bind fun x7 =>
 some x7
def zHH (y1 : List Int) (s1 : (List Int) × Int) : Option (((List Int) × Int) ⊕ (List Int)) :=
 if decide (s1.2 < (len y1)) then
 (zD y1 s1.2).bind fun x1 =>
 (zGy s1.1 x1).bind fun r1 =>
 some (.inl (r1, zR (s1.2 + 1)))
 else
 some (.inr s1.1)
def zLl (y0 : List Int) (y1 : List Int) : Option (List Int) :=
 zW (zHH y1) (y0, 0)
def zHx (y0 : List zH) (y1 : Int) (rec_ref07_Subs : (List zH) → Int → Option (List Int)) (s1 : (List Int) × Int) : Option (((List Int) × Int) ⊕ (List Int)) :=
 (zD y0 y1).bind fun x1 =>
 if decide (s1.2 < (len x1.2.2.1)) then
 (zD y0 y1).bind fun x2 =>
 (zD x2.2.2.1 s1.2).bind fun x3 =>
 (rec_ref07_Subs y0 x3).bind fun r1 =>
 (zLl s1.1 r1).bind fun r2 =>
 some (.inl (r2, zR (s1.2 + 1)))
 else
 some (.inr s1.1)
def zKc (rec_ref07_Subs : (List zH) → Int → Option (List Int)) (y0 : List zH) (y1 : Int) : Option (List Int) :=
 if (decide (y1 < 0)) || (decide ((len y0) ≤ y1)) then
 some ([] : List Int)
 else
 zW (zHx y0 y1 rec_ref07_Subs) (([y1] : List Int), 0)
def zGW : Nat → (List zH) → Int → Option (List Int)
 | 0 => fun _ _ => none
 | k + 1 => fun y0 y1 => zKc (zGW k) y0 y1
def zNP (y0 : List zH) (y1 : Int) : Option (List Int) := zVb fun k => zGW k y0 y1
def zDv (r1 : (List Int)) (y1 : List zH) (y0 : zM) (s1 : (List Int) × Int) : Option (((List Int) × Int) ⊕ (List Int)) :=
 if decide (s1.2 < (len r1)) then
 (zD r1 s1.2).bind fun x1 =>
 (
 (zD y1 x1).bind fun x2 =>
 if decide (0 ≤ x2.2.1) then
 (zD y1 x1).bind fun x3 =>
 (zD y0.2.1 x3.2.1).bind fun x4 =>
 some (!x4.2.1)
 else
 some false : Option Bool).bind fun s2 =>
 if s2 then
 (zD y1 x1).bind fun x5 =>
 (zGy s1.1 x5.2.1).bind fun r2 =>
 some (.inl (r2, zR (s1.2 + 1)))
 else
 some (.inl (s1.1, zR (s1.2 + 1)))
 else
 some (.inr s1.1)
def zDm (y0 : zM) (y1 : List zH) (y2 : Int) : Option (List Int) :=
 (zNP y1 y2).bind fun r1 =>
 zW (zDv r1 y1 y0) (([] : List Int), 0)
def zEB (y1 : List zH) (y2 : Int) (rec_ref07_Run : zM → (List zH) → Int → Option (List zF)) (y0 : zM) (s2 : (List zF) × Int) : Option (((List zF) × Int) ⊕ (List zF)) :=
 (zD y1 y2).bind fun x5 =>
 if decide (s2.2 < (len x5.2.2.1)) then
 (zD y1 y2).bind fun x6 =>
 (zD x6.2.2.1 s2.2).bind fun x7 =>
 (rec_ref07_Run y0 y1 x7).bind fun r1 =>
 (wB s2.1 r1).bind fun x8 =>
 some (.inl (x8, zR (s2.2 + 1)))
 else
 some (.inr s2.1)
def zFQ (rec_ref07_Run : zM → (List zH) → Int → Option (List zF)) (y0 : zM) (y1 : List zH) (y2 : Int) : Option (List zF) :=
 (zD y1 y2).bind fun x1 =>
 (
 (zD y1 y2).bind fun x2 =>
 if decide (0 ≤ x2.2.1) then
 (zD y1 y2).bind fun x3 =>
 (zD y0.2.1 x3.2.1).bind fun x4 =>
 some x4.2.1
 else
 some false : Option Bool).bind fun s1 =>
 if s1 then
 zW (zEB y1 y2 rec_ref07_Run y0) (([x1.2.2.2] : List zF), 0)
 else
 some ([x1.2.2.2] : List zF)
def zBU : Nat → zM → (List zH) → Int → Option (List zF)
 | 0 => fun _ _ _ => none
 | k + 1 => fun y0 y1 y2 => zFQ (zBU k) y0 y1 y2
def zIY (y0 : zM) (y1 : List zH) (y2 : Int) : Option (List zF) := zVb fun k => zBU k y0 y1 y2
def zJ5 (y0 : List Int) (y1 : Int) (s1 : Int) : Option (Int ⊕ Bool) :=
 if decide (s1 < (len y0)) then
 (zD y0 s1).bind fun x1 =>
 if x1 == y1 then
 some (.inr true)
 else
 some (.inl (zR (s1 + 1)))
 else
 some (.inr false)
def zN6 (y0 : List Int) (y1 : Int) : Option Bool :=
 zW (zJ5 y0 y1) 0
def zG6 (y3 : List Int) (x1 : qK) (y0 : zM) (y1 : List zH) (y2 : Int) (s1 : Int) : Option (Int ⊕ Bool) :=
 if decide (s1 < (len y3)) then
 (
 if x1.2.1 then
 (zD y3 s1).bind fun x2 =>
 (zIY y0 y1 x2).bind fun r1 =>
 (zI0 r1 x1.2.2.2.2).bind fun r2 =>
 if r2 then
 some true
 else
 if !x1.2.1 then
 (zD y3 s1).bind fun x3 =>
 (zDm y0 y1 x3).bind fun r3 =>
 (zN6 r3 y2).bind fun r4 =>
 some r4
 else
 some false
 else
 if !x1.2.1 then
 (zD y3 s1).bind fun x4 =>
 (zDm y0 y1 x4).bind fun r5 =>
 (zN6 r5 y2).bind fun r6 =>
 some r6
 else
 some false : Option Bool).bind fun s2 =>
 if s2 then
 some (.inr false)
 else
 some (.inl (zR (s1 + 1)))
 else
 some (.inr true)
def zFd (y0 : zM) (y1 : List zH) (y2 : Int) (y3 : List Int) : Option Bool :=
 (zD y0.2.1 y2).bind fun x1 =>
 zW (zG6 y3 x1 y0 y1 y2) 0
def zEV (y1 : Int) (y0 : List zH) (y2 : List zF) (y3 : List Int) (rec_ref07_choices_2 : (List zH) → Int → (List zF) → (List Int) → Option (List (List Int))) (s1 : (List (List Int)) × Int) : Option (((List (List Int)) × Int) ⊕ (List (List Int))) :=
 if decide (s1.2 < y1) then
 (zD y0 s1.2).bind fun x2 =>
 (zD y2 (len y3)).bind fun x3 =>
 if x2.2.2.2 == x3 then
 (sub y3 0 (len y3)).bind fun x4 =>
 (wB x4 ([s1.2] : List Int)).bind fun x5 =>
 (rec_ref07_choices_2 y0 y1 y2 x5).bind fun r1 =>
 (wB s1.1 r1).bind fun x6 =>
 some (.inl (x6, zR (s1.2 + 1)))
 else
 some (.inl (s1.1, zR (s1.2 + 1)))
 else
 some (.inr s1.1)
def zGY (rec_ref07_choices_2 : (List zH) → Int → (List zF) → (List Int) → Option (List (List Int))) (y0 : List zH) (y1 : Int) (y2 : List zF) (y3 : List Int) : Option (List (List Int)) :=
 if (len y3) == (len y2) then
 (wB ([] : List Int) y3).bind fun x1 =>
 some ([x1] : List (List Int))
 else
 zW (zEV y1 y0 y2 y3 rec_ref07_choices_2) (([] : List (List Int)), 0)
def zCP : Nat → (List zH) → Int → (List zF) → (List Int) → Option (List (List Int))
 | 0 => fun _ _ _ _ => none
 | k + 1 => fun y0 y1 y2 y3 => zGY (zCP k) y0 y1 y2 y3
def zIX (y0 : List zH) (y1 : Int) (y2 : List zF) (y3 : List Int) : Option (List (List Int)) := zVb fun k => zCP k y0 y1 y2 y3
def zG7 (y0 : List Int) (y1 : Int) (s1 : Int) : Option (Int ⊕ Bool) :=
 if decide (s1 < (len y0)) then
 (zD y0 s1).bind fun x1 =>
 if decide (y1 ≤ x1) then
 some (.inr true)
 else
 some (.inl (zR (s1 + 1)))
 else
 some (.inr false)
def zKo (y0 : List Int) (y1 : Int) : Option Bool :=
 zW (zG7 y0 y1) 0
def zFZ (y0 : zM) (s2 : (List zH) × Int) : Option (((List zH) × Int) ⊕ (List zH)) :=
 if decide (s2.2 < (len y0.1)) then
 (zD y0.1 s2.2).bind fun x1 =>
 (wB s2.1 ([(s2.2, (-1), ([] : List Int), x1.1)] : List zH)).bind fun x2 =>
 some (.inl (x2, zR (s2.2 + 1)))
 else
 some (.inr s2.1)
def zFW (r2 : (List (List Int))) (s3 : (List zH) × Int × Int) (y0 : zM) (s4 : (List zH) × Int) (s5 : (List zH) × Int) : Option (((List zH) × Int) ⊕ (((List zH) × Int) ⊕ (((List zH) × Int × Int) ⊕ ((List zH) × Int)))) :=
 if decide (s5.2 < (len r2)) then
 (zD r2 s5.2).bind fun x4 =>
 (
 (zKo x4 s3.2.1).bind fun r3 =>
 if !r3 then
 if decide (1 < s3.2.2) then
 some true
 else
 if decide (0 < (len x4)) then
 some true
 else
 (zFd y0 s5.1 s4.2 x4).bind fun r4 =>
 some (!r4)
 else
 (zFd y0 s5.1 s4.2 x4).bind fun r5 =>
 some (!r5) : Option Bool).bind fun s6 =>
 if s6 then
 some (.inl (s5.1, zR (s5.2 + 1)))
 else
 (zD y0.2.1 s4.2).bind fun x5 =>
 (wB s5.1 ([((-1), s4.2, x4, x5.2.2.2.2)] : List zH)).bind fun x6 =>
 if decide (40 < (len x6)) then
 some (.inr (.inr (.inr (([] : List zH), 2))))
 else
 some (.inl (x6, zR (s5.2 + 1)))
 else
 some (.inr (.inl (s5.1, zR (s4.2 + 1))))
def zF6 (y0 : zM) (s3 : (List zH) × Int × Int) (s4 : (List zH) × Int) : Option (((List zH) × Int) ⊕ (((List zH) × Int × Int) ⊕ ((List zH) × Int))) :=
 if decide (s4.2 < (len y0.2.1)) then
 (zD y0.2.1 s4.2).bind fun x3 =>
 (zIX s4.1 (len s3.1) x3.2.2.2.1 ([] : List Int)).bind fun r2 =>
 zW (zFW r2 s3 y0 s4) (s4.1, 0)
 else
 some (.inr (.inl (s4.1, len s3.1, zR (s3.2.2 + 1))))
def zDa (y0 : zM) (s3 : (List zH) × Int × Int) : Option (((List zH) × Int × Int) ⊕ ((List zH) × Int)) :=
 if (s3.2.2 == 1) || (decide (s3.2.1 < (len s3.1))) then
 zW (zF6 y0 s3) (s3.1, 0)
 else
 some (.inr (s3.1, 0))
def zDC (y0 : zM) : Option ((List zH) × Int) :=
 (zCs y0).bind fun r1 =>
 if r1 != 0 then
 some (([] : List zH), r1)
 else
 (zW (zFZ y0) (([] : List zH), 0) : Option (List zH)).bind fun s1 =>
 zW (zDa y0) (s1, 0, 1)
def zJN (r1 : zM × Int) (s1 : (List qK) × (List vN)) : Option (((List qK) × (List vN)) ⊕ (zM × Bool × Int)) :=
 (zGc (r1.1.1, s1.1, s1.2)).bind fun r2 =>
 (zDC r2.1).bind fun r3 =>
 (
 if r2.2 == 0 then
 if r3.2 == 0 then
 (zJ3 r2.1).bind fun r4 =>
 if r4 then
 some (decide ((len r3.1) ≤ 16))
 else
 some false
 else
 some false
 else
 some false : Option Bool).bind fun s2 =>
 if s2 then
 some (.inr (r2.1, true, r1.2))
 else
 if (len s1.1) == 0 then
 some (.inr ((r1.1.1, s1.1, ([] : List vN)), false, r1.2))
 else
 (sub s1.1 0 (zR ((len s1.1) - 1))).bind fun x1 =>
 some (.inl (x1, ([] : List vN)))
def zJ0 (y0 : uQ) (y1 : Int) : Option (zM × Bool × Int) :=
 (zHn y0 y1 4 5).bind fun r1 =>
 zW (zJN r1) (r1.1.2.1, r1.1.2.2)
def zBd (r13 : (List (List zF)) × Int) (r2 : zM × Bool × Int) (s3 : Int) : Option (Int ⊕ (Unit ⊕ Bool)) :=
 if decide (s3 < (len r13.1)) then
 (zD r13.1 s3).bind fun x4 =>
 (wB ([] : List zF) x4).bind fun x5 =>
 (zFi r2.1).bind fun r14 =>
 (wB x5 r14).bind fun x6 =>
 (
 (zD r13.1 s3).bind fun x7 =>
 (zD r13.1 s3).bind fun x8 =>
 (zC3 r2.1 x7).bind fun r15 =>
 (zH5 r15 x8).bind fun r16 =>
 if !r16 then
 some true
 else
 (zD r13.1 s3).bind fun x9 =>
 (zC3 r2.1 x6).bind fun r17 =>
 (zH5 r17 x9).bind fun r18 =>
 if !r18 then
 some true
 else
 (zD r13.1 s3).bind fun x10 =>
 (zFq x10).bind fun r19 =>
 some (!r19) : Option Bool).bind fun s4 =>
 if s4 then
 some (.inr (.inr false))
 else
 some (.inl (zR (s3 + 1)))
 else
 some (.inr (.inl ()))
def zEX (y0 : List Int) : Option Bool :=
 (zNa y0).bind fun r1 =>
 (zJ0 r1 4).bind fun r2 =>
 if !r2.2.1 then
 zDd.bind fun r3 =>
 some r3
 else
 (
 zJQ.bind fun r4 =>
 (xN (r1.1, r2.2.2) 4).bind fun r5 =>
 (zD r4 r5.1).bind fun x1 =>
 (zCr r2.1 x1).bind fun r6 =>
 some (r6.2, r6.1) : Option (Int × zFh)).bind fun s1 =>
 (zAt s1.2 3).bind fun r13 =>
 if (s1.1 != 0) || ((r13.2 != 0) && (r13.2 != 2)) then
 some false
 else
 yC (zW (zBd r13 r2) 0 : Option (Unit ⊕ Bool)) fun _ =>
 (
 if r13.2 == 2 then
 zDd.bind fun r20 =>
 some r20
 else
 if decide (0 < (len r13.1)) then
 zDd.bind fun r21 =>
 some r21
 else
 some false : Option Bool).bind fun s5 =>
 some s5
end
end Go.GD
