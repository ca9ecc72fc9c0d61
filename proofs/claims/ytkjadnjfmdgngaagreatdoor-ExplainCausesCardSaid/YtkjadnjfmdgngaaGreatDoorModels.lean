/- Part of the proof. Conditions: none. -/
import Derived.Test.YtkjadnjfmdgngaaGreatDoorLib
namespace Go.GD
set_option autoImplicit false
noncomputable section
set_option linter.unusedVariables false
abbrev zO := Bool × wZ
abbrev vE := zO × Int × Int × wZ
abbrev wD := wZ × Bool × Int × (List zO) × zO
abbrev vQ := wZ × Int × zO
abbrev zT := (List vE) × (List wD) × (List vQ)
abbrev wQ := Int × Int
abbrev wI := Int × Int
abbrev wO := Int × (List wI)
abbrev yG := Int × (List Int) × (List Int)
abbrev uC := (List Int) × Int
abbrev zP := Int × Int × (List Int) × zO
abbrev wB := Int × Int × Int × Int
abbrev zBP := zT × (List zP) × (List wB) × wO
abbrev zAA := zT × (List zP) × (List zP) × Int
def tab_math_bits_deBruijn64tab : List Int := [0, 1, 56, 2, 57, 49, 28, 3, 61, 58, 42, 50, 38, 29, 17, 4, 62, 47, 59, 36, 45, 43, 51, 22, 53, 39, 33, 30, 24, 18, 12, 5, 63, 55, 48, 27, 60, 41, 37, 16, 46, 35, 44, 21, 52, 32, 23, 11, 54, 26, 40, 15, 34, 20, 31, 10, 25, 14, 19, 9, 13, 8, 7, 6]
def zAr (y0 : zAA) : Option Bool :=
 some (decide (40 < (zR ((len y0.2.1) + (len y0.2.2.1)))))
def zAa (y0 : List zP) (y1 : Int) : Option Bool :=
 some ((decide (0 ≤ y1)) && (decide (y1 < (len y0))))
def zKS (y0 : List Int) (s1 : Int) (s3 : (List Int) × Int × Int) : Option (((List Int) × Int × Int) ⊕ ((List Int) × Int)) :=
 if decide (s3.2.2 < ((Int.toNat (((List.length y0 : Nat) : Int) - s1) : Nat) : Int)) then
 (tJ s3.1 s1 s3.2.2).bind fun x3 =>
 (tJ s3.1 s1 (zR (s3.2.2 - 1))).bind fun x4 =>
 if x3 != x4 then
 (tJ s3.1 s1 s3.2.2).bind fun x5 =>
 (zH s3.1 s3.2.1).bind fun _ =>
 some (.inl (List.set s3.1 (Int.toNat s3.2.1) x5, zR (s3.2.1 + 1), zR (s3.2.2 + 1)))
 else
 some (.inl (s3.1, s3.2.1, zR (s3.2.2 + 1)))
 else
 some (.inr (s3.1, s3.2.1))
def zK1 (y0 : List Int) (s1 : Int) : Option (Int ⊕ (List Int)) :=
 if decide (s1 < (len y0)) then
 (zH y0 s1).bind fun x1 =>
 (zH y0 (zR (s1 - 1))).bind fun x2 =>
 if x1 == x2 then
 (yX (decide (0 ≤ s1) && decide (s1 ≤ len y0))).bind fun _ =>
 (zW (zKS y0 s1) (y0, s1, 1) : Option ((List Int) × Int)).bind fun s2 =>
 (yX (decide (0 ≤ s2.2) && decide (s2.2 ≤ len s2.1))).bind fun _ =>
 (sub (zBW s2.1 s2.2 0) 0 s2.2).bind fun x7 =>
 some (.inr x7)
 else
 some (.inl (zR (s1 + 1)))
 else
 some (.inr y0)
def zBO (y0 : List Int) : Option (List Int) :=
 if decide ((len y0) < 2) then
 some y0
 else
 zW (zK1 y0) 1
def zBG (y0 : List Int) : Option (List Int) := zX8 y0
def zFW (x1 : zP) (rec_argument_Subs : (List zP) → Int → Option (List Int)) (y0 : List zP) (s2 : (List Int) × Int) : Option (((List Int) × Int) ⊕ (List Int)) :=
 if decide (s2.2 < (len x1.2.2.1)) then
 (zH x1.2.2.1 s2.2).bind fun x2 =>
 (rec_argument_Subs y0 x2).bind fun r2 =>
 (wJ s2.1 r2).bind fun x3 =>
 some (.inl (x3, zR (s2.2 + 1)))
 else
 some (.inr s2.1)
def zHT (rec_argument_Subs : (List zP) → Int → Option (List Int)) (y0 : List zP) (y1 : Int) : Option (List Int) :=
 (zAa y0 y1).bind fun r1 =>
 if !r1 then
 some ([] : List Int)
 else
 (
 (zH y0 y1).bind fun x1 =>
 zW (zFW x1 rec_argument_Subs y0) (([y1] : List Int), 0) : Option (List Int)).bind fun s1 =>
 (zBG s1).bind fun r3 =>
 (zBO r3).bind fun r4 =>
 some r4
def zCQ : Nat → (List zP) → Int → Option (List Int)
 | 0 => fun _ _ => none
 | k + 1 => fun y0 y1 => zHT (zCQ k) y0 y1
def zFo (y0 : List zP) (y1 : Int) : Option (List Int) := zTt fun k => zCQ k y0 y1
def zBh (r1 : (List Int)) (y1 : List zP) (y0 : zT) (s2 : (List Int) × Int) : Option (((List Int) × Int) ⊕ (List Int)) :=
 if decide (s2.2 < (len r1)) then
 (zH r1 s2.2).bind fun x1 =>
 (zH y1 x1).bind fun x2 =>
 (
 if decide (0 ≤ x2.2.1) then
 (zH y0.2.1 x2.2.1).bind fun x3 =>
 some (!x3.2.1)
 else
 some false : Option Bool).bind fun s3 =>
 if s3 then
 (wJ s2.1 ([x2.2.1] : List Int)).bind fun x4 =>
 some (.inl (x4, zR (s2.2 + 1)))
 else
 some (.inl (s2.1, zR (s2.2 + 1)))
 else
 some (.inr s2.1)
def zBa (y0 : zT) (y1 : List zP) (y2 : Int) : Option (List Int) :=
 (
 (zFo y1 y2).bind fun r1 =>
 zW (zBh r1 y1 y0) (([] : List Int), 0) : Option (List Int)).bind fun s1 =>
 (zBG s1).bind fun r2 =>
 (zBO r2).bind fun r3 =>
 some r3
def zJn (x4 : zP) (rec_argument_run : zT → (List zP) → Int → Option (List zO)) (y0 : zT) (y1 : List zP) (s2 : (List zO) × Int) : Option (((List zO) × Int) ⊕ (List zO)) :=
 if decide (s2.2 < (len x4.2.2.1)) then
 (zH x4.2.2.1 s2.2).bind fun x5 =>
 (rec_argument_run y0 y1 x5).bind fun r1 =>
 (wJ s2.1 r1).bind fun x6 =>
 some (.inl (x6, zR (s2.2 + 1)))
 else
 some (.inr s2.1)
def zHx (rec_argument_run : zT → (List zP) → Int → Option (List zO)) (y0 : zT) (y1 : List zP) (y2 : Int) : Option (List zO) :=
 (zH y1 y2).bind fun x1 =>
 (zH y1 y2).bind fun x2 =>
 (
 if decide (0 ≤ x2.2.1) then
 (zH y0.2.1 x2.2.1).bind fun x3 =>
 some x3.2.1
 else
 some false : Option Bool).bind fun s1 =>
 if s1 then
 (zH y1 y2).bind fun x4 =>
 zW (zJn x4 rec_argument_run y0 y1) (([x1.2.2.2] : List zO), 0)
 else
 some ([x1.2.2.2] : List zO)
def zCG : Nat → zT → (List zP) → Int → Option (List zO)
 | 0 => fun _ _ _ => none
 | k + 1 => fun y0 y1 y2 => zHx (zCG k) y0 y1 y2
def zGR (y0 : zT) (y1 : List zP) (y2 : Int) : Option (List zO) := zTt fun k => zCG k y0 y1 y2
def zJm (y0 : List zO) (y1 : zO) (s1 : Int) : Option (Int ⊕ Int) :=
 if decide (s1 < (len y0)) then
 (zH y0 s1).bind fun x1 =>
 if y1 == x1 then
 some (.inr s1)
 else
 some (.inl (zR (s1 + 1)))
 else
 some (.inr (-1))
def zCa (y0 : List zO) (y1 : zO) : Option Int :=
 zW (zJm y0 y1) 0
def zDJ (y0 : List zO) (y1 : zO) : Option Bool :=
 (zCa y0 y1).bind fun r1 =>
 some (decide (0 ≤ r1))
def zEQ (y0 : List zO) (y1 : zO) : Option Bool :=
 (zDJ y0 y1).bind fun r1 =>
 some r1
def zIQ (y0 : List Int) (y1 : Int) (s1 : Int) : Option (Int ⊕ Int) :=
 if decide (s1 < (len y0)) then
 (zH y0 s1).bind fun x1 =>
 if y1 == x1 then
 some (.inr s1)
 else
 some (.inl (zR (s1 + 1)))
 else
 some (.inr (-1))
def zHE (y0 : List Int) (y1 : Int) : Option Int :=
 zW (zIQ y0 y1) 0
def zBF (y0 : List Int) (y1 : Int) : Option Bool :=
 (zHE y0 y1).bind fun r1 =>
 some (decide (0 ≤ r1))
def zD1 (y3 : List Int) (y0 : zT) (y2 : Int) (y1 : List zP) (s1 : Int) : Option (Int ⊕ Bool) :=
 if decide (s1 < (len y3)) then
 (zH y3 s1).bind fun x1 =>
 (zH y0.2.1 y2).bind fun x2 =>
 if x2.2.1 then
 (zH y0.2.1 y2).bind fun x3 =>
 (zGR y0 y1 x1).bind fun r1 =>
 (zEQ r1 x3.2.2.2.2).bind fun r2 =>
 if r2 then
 some (.inr false)
 else
 some (.inl (zR (s1 + 1)))
 else
 (zBa y0 y1 x1).bind fun r3 =>
 (zBF r3 y2).bind fun r4 =>
 if r4 then
 some (.inr false)
 else
 some (.inl (zR (s1 + 1)))
 else
 some (.inr true)
def zFt (y0 : zT) (y1 : List zP) (y2 : Int) (y3 : List Int) : Option Bool :=
 zW (zD1 y3 y0 y2 y1) 0
def zFK (y0 : List Int) : Option (List Int) :=
 (wJ ([] : List Int) y0).bind fun x1 =>
 some x1
def zCl (y0 : Int) (y2 : zAA) : Option Bool :=
 some (decide (y2.2.2.2 ≤ y0))
def zAD (y0 : List Int) (y2 : zAA) (s1 : Int) : Option (Int ⊕ Int) :=
 if decide (s1 < (len y0)) then
 (zH y0 s1).bind fun x1 =>
 (zCl x1 y2).bind fun r1 =>
 if r1 then
 some (.inr s1)
 else
 some (.inl (zR (s1 + 1)))
 else
 some (.inr (-1))
def zAT (y0 : List Int) (y2 : zAA) : Option Int :=
 zW (zAD y0 y2) 0
def zAC (y0 : List Int) (y2 : zAA) : Option Bool :=
 (zAT y0 y2).bind fun r1 =>
 some (decide (0 ≤ r1))
def zAy (y0 : zAA) (x1 : wD) (y2 : List Int) (rec_argument_builder_apply_2 : zAA → Int → (List Int) → Option (List zP)) (y1 : Int) (s2 : Int × (List zP)) : Option ((Int × (List zP)) ⊕ (Unit ⊕ (List zP))) :=
 if decide (s2.1 < (len y0.2.1)) then
 (zH y0.2.1 s2.1).bind fun x2 =>
 (zH x1.2.2.2.1 (len y2)).bind fun x3 =>
 if x2.2.2.2 == x3 then
 (
 (zFK y2).bind fun r2 =>
 (wJ r2 ([s2.1] : List Int)).bind fun x4 =>
 (rec_argument_builder_apply_2 (y0.1, y0.2.1, s2.2, y0.2.2.2) y1 x4).bind fun r3 =>
 some r3 : Option (List zP)).bind fun s3 =>
 some (.inl (zR (s2.1 + 1), s3))
 else
 some (.inl (zR (s2.1 + 1), s2.2))
 else
 some (.inr (.inr s2.2))
def zBS (rec_argument_builder_apply_2 : zAA → Int → (List Int) → Option (List zP)) (y0 : zAA) (y1 : Int) (y2 : List Int) : Option (List zP) :=
 (zH y0.1.2.1 y1).bind fun x1 =>
 (zAr y0).bind fun r1 =>
 if r1 then
 some y0.2.2.1
 else
 wW (
 if decide ((len y2) < (len x1.2.2.2.1)) then
 zW (zAy y0 x1 y2 rec_argument_builder_apply_2 y1) (0, y0.2.2.1)
 else
 some (.inl ()) : Option (Unit ⊕ (List zP))) fun _ =>
 (
 (zAC y2 y0).bind fun r6 =>
 if r6 then
 (zFt y0.1 y0.2.1 y1 y2).bind fun r7 =>
 some r7
 else
 some false : Option Bool).bind fun s4 =>
 if s4 then
 (zH y0.1.2.1 y1).bind fun x6 =>
 (wJ y0.2.2.1 ([((-1), y1, y2, x6.2.2.2.2)] : List zP)).bind fun x7 =>
 some x7
 else
 some y0.2.2.1
def zAQ : Nat → zAA → Int → (List Int) → Option (List zP)
 | 0 => fun _ _ _ => none
 | k + 1 => fun y0 y1 y2 => zBS (zAQ k) y0 y1 y2
def zBR (y0 : zAA) (y1 : Int) (y2 : List Int) : Option (List zP) := zTt fun k => zAQ k y0 y1 y2
def zHi (y0 : wD) (y1 : wZ) : Option Bool :=
 some (y0.1 == y1)
def zAK (y0 : List wD) (y1 : wZ) (s1 : Int) : Option (Int ⊕ Int) :=
 if decide (s1 < (len y0)) then
 (zH y0 s1).bind fun x1 =>
 (zHi x1 y1).bind fun r1 =>
 if r1 then
 some (.inr s1)
 else
 some (.inl (zR (s1 + 1)))
 else
 some (.inr (-1))
def zAg (y0 : List wD) (y1 : wZ) : Option Int :=
 zW (zAK y0 y1) 0
def zF9 (y0 : zT) (y1 : wZ) : Option Int :=
 (zAg y0.2.1 y1).bind fun r1 =>
 some r1
def zGM (y0 : vE) (y1 : zO) : Option Bool :=
 some (y0.1 == y1)
def zAE (y0 : List vE) (y1 : zO) (s1 : Int) : Option (Int ⊕ Int) :=
 if decide (s1 < (len y0)) then
 (zH y0 s1).bind fun x1 =>
 (zGM x1 y1).bind fun r1 =>
 if r1 then
 some (.inr s1)
 else
 some (.inl (zR (s1 + 1)))
 else
 some (.inr (-1))
def zAV (y0 : List vE) (y1 : zO) : Option Int :=
 zW (zAE y0 y1) 0
def zFT (y0 : zT) (y1 : zO) : Option Int :=
 (zAV y0.1 y1).bind fun r1 =>
 some r1
def zCb (y0 : wZ) (s1 : Int) : Option (Int ⊕ Bool) :=
 if decide (s1 < (len y0)) then
 (zRN y0 s1).bind fun x1 =>
 if (decide (97 ≤ x1)) && (decide (x1 ≤ 122)) then
 some (.inl (zR (s1 + 1)))
 else
 if (decide (0 < s1)) && (if decide (48 ≤ x1) then (decide (x1 ≤ 57)) || (x1 == 95) else x1 == 95) then
 some (.inl (zR (s1 + 1)))
 else
 some (.inr false)
 else
 some (.inr true)
def zB3 (y0 : wZ) : Option Bool :=
 if ((len y0) == 0) || (decide (12 < (len y0))) then
 some false
 else
 zW (zCb y0) 0
def zB8 (y0 : zO) : Option Bool :=
 (zB3 y0.2).bind fun r1 =>
 some r1
def zB0 (y0 : Int) : Option Bool :=
 some ((decide (0 ≤ y0)) && (decide (y0 ≤ 9)))
def zHM (y0 : wZ) : Option Bool :=
 (
 if y0 == [] then
 some true
 else
 (zB3 y0).bind fun r1 =>
 some r1 : Option Bool).bind fun s1 =>
 some s1
def zFQ (y0 : vE) : Option Int :=
 wW (
 (
 if y0.2.1 == 1 then
 some (y0.2.1 == 1)
 else
 some (y0.2.1 == 3) : Option Bool).bind fun s2 =>
 if s2 then
 if y0.2.2.1 != 0 then
 some (.inr 1)
 else
 some (.inl ())
 else
 if y0.2.1 == 2 then
 (zB0 y0.2.2.1).bind fun r1 =>
 if !r1 then
 some (.inr 1)
 else
 some (.inl ())
 else
 some (.inr 4) : Option (Unit ⊕ Int)) fun _ =>
 (
 (zB8 y0.1).bind fun r2 =>
 if !r2 then
 some true
 else
 (zHM y0.2.2.2).bind fun r3 =>
 some (!r3) : Option Bool).bind fun s3 =>
 if s3 then
 some 1
 else
 some 0
def zDZ (y0 : zT) (y1 : vQ) : Option Int :=
 (
 (zB0 y1.2.1).bind fun r1 =>
 if !r1 then
 some true
 else
 (zB8 y1.2.2).bind fun r2 =>
 some (!r2) : Option Bool).bind fun s1 =>
 if s1 then
 some 1
 else
 (zF9 y0 y1.1).bind fun r3 =>
 if decide (r3 < 0) then
 some 6
 else
 (zH y0.2.1 r3).bind fun x1 =>
 if x1.2.1 then
 some 4
 else
 some 0
def zCy (y0 : wZ) : Option Bool :=
 some (!(y0 == y0))
def zD2 (y0 : wZ) (y1 : wZ) : Option Int :=
 (zCy y0).bind fun r1 =>
 (zCy y1).bind fun r2 =>
 if r1 then
 if r2 then
 some 0
 else
 some (-1)
 else
 if r2 then
 some 1
 else
 if yP y0 y1 then
 some (-1)
 else
 if !(yP y0 y1 || y0 == y1) then
 some 1
 else
 some 0
def zAn (y0 : zO) (y1 : zO) : Option Int :=
 (zD2 y0.2 y1.2).bind fun r1 =>
 if (r1 != 0) || (y0.1 == y1.1) then
 some r1
 else
 if y1.1 then
 some (-1)
 else
 some 1
def zFV (y0 : wD) (s3 : Int) : Option (Int ⊕ (Unit ⊕ Int)) :=
 if decide (s3 < (len y0.2.2.2.1)) then
 (zH y0.2.2.2.1 s3).bind fun x1 =>
 (zB8 x1).bind fun r4 =>
 if !r4 then
 some (.inr (.inr 1))
 else
 some (.inl (zR (s3 + 1)))
 else
 some (.inr (.inl ()))
def zFU (y0 : wD) (s4 : Int) : Option (Int ⊕ Int) :=
 if decide (s4 < (len y0.2.2.2.1)) then
 (zH y0.2.2.2.1 (zR (s4 - 1))).bind fun x2 =>
 (zH y0.2.2.2.1 s4).bind fun x3 =>
 (zAn x2 x3).bind fun r5 =>
 if decide (0 ≤ r5) then
 some (.inr 8)
 else
 some (.inl (zR (s4 + 1)))
 else
 some (.inr 0)
def zHK (y0 : wD) : Option Int :=
 if decide (4 < (len y0.2.2.2.1)) then
 some 2
 else
 (
 (zB3 y0.1).bind fun r1 =>
 if !r1 then
 some true
 else
 (zB8 y0.2.2.2.2).bind fun r2 =>
 if !r2 then
 some true
 else
 (zB0 y0.2.2.1).bind fun r3 =>
 if !r3 then
 some true
 else
 if y0.2.1 then
 some (y0.2.2.1 != 0)
 else
 some false : Option Bool).bind fun s1 =>
 if s1 then
 some 1
 else
 wW (zW (zFV y0) 0 : Option (Unit ⊕ Int)) fun _ =>
 zW (zFU y0) 1
def zC5 (y0 : zT) (s2 : Int) : Option (Int ⊕ (Unit ⊕ Int)) :=
 if decide (s2 < (len y0.1)) then
 (zH y0.1 s2).bind fun x1 =>
 (zFQ x1).bind fun r1 =>
 if r1 != 0 then
 some (.inr (.inr r1))
 else
 (zFT y0 x1.1).bind fun r2 =>
 if decide (r2 < s2) then
 some (.inr (.inr 5))
 else
 some (.inl (zR (s2 + 1)))
 else
 some (.inr (.inl ()))
def zC6 (y0 : zT) (s4 : Int) : Option (Int ⊕ (Unit ⊕ Int)) :=
 if decide (s4 < (len y0.2.1)) then
 (zH y0.2.1 s4).bind fun x2 =>
 (zHK x2).bind fun r3 =>
 if r3 != 0 then
 some (.inr (.inr r3))
 else
 (zF9 y0 x2.1).bind fun r4 =>
 if decide (r4 < s4) then
 some (.inr (.inr 5))
 else
 some (.inl (zR (s4 + 1)))
 else
 some (.inr (.inl ()))
def zCc (y0 : zT) (s5 : Int) : Option (Int ⊕ Int) :=
 if decide (s5 < (len y0.2.2)) then
 (zH y0.2.2 s5).bind fun x3 =>
 (zDZ y0 x3).bind fun r5 =>
 if r5 != 0 then
 some (.inr r5)
 else
 some (.inl (zR (s5 + 1)))
 else
 some (.inr 0)
def zC2 (y0 : zT) : Option Int :=
 if (decide (16 < (len y0.1))) || ((decide (24 < (len y0.2.1))) || (decide (8 < (len y0.2.2)))) then
 some 2
 else
 wW (zW (zC5 y0) 0 : Option (Unit ⊕ Int)) fun _ =>
 wW (zW (zC6 y0) 0 : Option (Unit ⊕ Int)) fun _ =>
 zW (zCc y0) 0
def zCM (y0 : zT) (s2 : Int × (List zP)) : Option ((Int × (List zP)) ⊕ (List zP)) :=
 if decide (s2.1 < (len y0.1)) then
 (zH y0.1 s2.1).bind fun x1 =>
 (wJ s2.2 ([(s2.1, (-1), ([] : List Int), x1.1)] : List zP)).bind fun x2 =>
 some (.inl (zR (s2.1 + 1), x2))
 else
 some (.inr s2.2)
def zCT (y0 : zT) (s4 : Int × (List zP) × (List zP) × Int) (s6 : Int × (List zP)) : Option ((Int × (List zP)) ⊕ ((List zP) ⊕ ((Int × (List zP) × (List zP) × Int) ⊕ ((List zP) × (List zP) × Int)))) :=
 if decide (s6.1 < (len y0.2.1)) then
 (zH y0.2.1 s6.1).bind fun x3 =>
 (
 if decide (0 < (len x3.2.2.2.1)) then
 (zBR (y0, s4.2.1, s6.2, s4.2.2.2) s6.1 ([] : List Int)).bind fun r2 =>
 some r2
 else
 if s4.1 == 1 then
 (wJ s6.2 ([((-1), s6.1, ([] : List Int), x3.2.2.2.2)] : List zP)).bind fun x4 =>
 some x4
 else
 some s6.2 : Option (List zP)).bind fun s7 =>
 (zAr (y0, s4.2.1, s7, s4.2.2.2)).bind fun r3 =>
 if r3 then
 some (.inr (.inr (.inr (s4.2.1, s7, s4.2.2.2))))
 else
 some (.inl (zR (s6.1 + 1), s7))
 else
 some (.inr (.inl s6.2))
def zAm (y0 : zT) (s4 : Int × (List zP) × (List zP) × Int) : Option ((Int × (List zP) × (List zP) × Int) ⊕ ((List zP) × (List zP) × Int)) :=
 wW (zW (zCT y0 s4) (0, ([] : List zP)) : Option ((List zP) ⊕ ((Int × (List zP) × (List zP) × Int) ⊕ ((List zP) × (List zP) × Int)))) fun s5 =>
 if (len s5) == 0 then
 some (.inr (s4.2.1, s5, s4.2.2.2))
 else
 (wJ s4.2.1 s5).bind fun x5 =>
 some (.inl (zR (s4.1 + 1), x5, s5, len s4.2.1))
def zCo (y0 : zT) : Option ((List zP) × Int) :=
 (zC2 y0).bind fun r1 =>
 if r1 != 0 then
 some (([] : List zP), r1)
 else
 (zW (zCM y0) (0, ([] : List zP)) : Option (List zP)).bind fun s1 =>
 (zW (zAm y0) (1, s1, ([] : List zP), 0) : Option ((List zP) × (List zP) × Int)).bind fun s3 =>
 (zAr (y0, s3.1, s3.2.1, s3.2.2)).bind fun r4 =>
 if r4 then
 some (([] : List zP), 2)
 else
 some (s3.1, 0)
def zBV (y0 : List zO) : Option (List zO) :=
 (wJ ([] : List zO) y0).bind fun x1 =>
 some x1
def zIs (y0 : List zO) (s1 : Int) (s3 : (List zO) × Int × Int) : Option (((List zO) × Int × Int) ⊕ ((List zO) × Int)) :=
 if decide (s3.2.2 < ((Int.toNat (((List.length y0 : Nat) : Int) - s1) : Nat) : Int)) then
 (tJ s3.1 s1 s3.2.2).bind fun x3 =>
 (tJ s3.1 s1 (zR (s3.2.2 - 1))).bind fun x4 =>
 if !(x3 == x4) then
 (tJ s3.1 s1 s3.2.2).bind fun x5 =>
 (zH s3.1 s3.2.1).bind fun _ =>
 some (.inl (List.set s3.1 (Int.toNat s3.2.1) x5, zR (s3.2.1 + 1), zR (s3.2.2 + 1)))
 else
 some (.inl (s3.1, s3.2.1, zR (s3.2.2 + 1)))
 else
 some (.inr (s3.1, s3.2.1))
def zIu (y0 : List zO) (s1 : Int) : Option (Int ⊕ (List zO)) :=
 if decide (s1 < (len y0)) then
 (zH y0 s1).bind fun x1 =>
 (zH y0 (zR (s1 - 1))).bind fun x2 =>
 if x1 == x2 then
 (yX (decide (0 ≤ s1) && decide (s1 ≤ len y0))).bind fun _ =>
 (zW (zIs y0 s1) (y0, s1, 1) : Option ((List zO) × Int)).bind fun s2 =>
 (yX (decide (0 ≤ s2.2) && decide (s2.2 ≤ len s2.1))).bind fun _ =>
 (sub (zBW s2.1 s2.2 (false, [])) 0 s2.2).bind fun x7 =>
 some (.inr x7)
 else
 some (.inl (zR (s1 + 1)))
 else
 some (.inr y0)
def zBj (y0 : List zO) : Option (List zO) :=
 if decide ((len y0) < 2) then
 some y0
 else
 zW (zIu y0) 1
def zAM (y0 : List zO) : Option (List zO) := zS5 zAn y0
def zEp (y0 : List zO) : Option (List zO) :=
 (zBV y0).bind fun r1 =>
 (zAM r1).bind fun r2 =>
 (zBj r2).bind fun r3 =>
 some r3
def zB7 (y1 : List Int) (y0 : List zP) (s2 : (List zO) × Int) : Option (((List zO) × Int) ⊕ (List zO)) :=
 if decide (s2.2 < (len y1)) then
 (zH y1 s2.2).bind fun x1 =>
 (zAa y0 x1).bind fun r1 =>
 if r1 then
 (zH y0 x1).bind fun x2 =>
 (wJ s2.1 ([x2.2.2.2] : List zO)).bind fun x3 =>
 some (.inl (x3, zR (s2.2 + 1)))
 else
 some (.inl (s2.1, zR (s2.2 + 1)))
 else
 some (.inr s2.1)
def zBY (y0 : List zP) (y1 : List Int) : Option (List zO) :=
 (zW (zB7 y1 y0) (([] : List zO), 0) : Option (List zO)).bind fun s1 =>
 (zEp s1).bind fun r2 =>
 some r2
def zGJ (y0 : zO) : Option zO :=
 some (!y0.1, y0.2)
def zHt (y0 : zT) (y1 : List zP) (y2 : Int) (y3 : Int) : Option (List Int) :=
 (
 (zH y1 y2).bind fun x1 =>
 (zH y1 y3).bind fun x2 =>
 some (x1.2.2.2, x2) : Option (zO × zP)).bind fun s1 =>
 (zGJ s1.2.2.2.2).bind fun r1 =>
 if decide (0 ≤ s1.2.1) then
 (
 if s1.1 == r1 then
 (zH y0.1 s1.2.1).bind fun x3 =>
 some (x3.2.1 != 1)
 else
 some false : Option Bool).bind fun s2 =>
 if s2 then
 (wJ ([] : List Int) ([1] : List Int)).bind fun x4 =>
 some x4
 else
 some ([] : List Int)
 else
 (zH y0.2.1 s1.2.2.1).bind fun x5 =>
 if !x5.2.1 then
 (
 if s1.1 == r1 then
 (wJ ([] : List Int) ([2] : List Int)).bind fun x6 =>
 some x6
 else
 some ([] : List Int) : Option (List Int)).bind fun s3 =>
 (
 if s1.1.1 then
 (zH y0.2.1 s1.2.2.1).bind fun x7 =>
 some (s1.1.2 == x7.1)
 else
 some false : Option Bool).bind fun s4 =>
 if s4 then
 (wJ s3 ([3] : List Int)).bind fun x8 =>
 some x8
 else
 some s3
 else
 some ([] : List Int)
def zFn (y0 : Int) : Option Bool :=
 some (y0 != y0)
def zAR (y0 : Int) (y1 : Int) : Option Int :=
 (zFn y0).bind fun r1 =>
 (zFn y1).bind fun r2 =>
 if r1 then
 if r2 then
 some 0
 else
 some (-1)
 else
 if r2 then
 some 1
 else
 if decide (y0 < y1) then
 some (-1)
 else
 if decide (y1 < y0) then
 some 1
 else
 some 0
def zP2 (y0 : List Int) (s1 : Int) : Option (Int ⊕ Int) :=
 if decide (s1 < (len y0)) then
 (zH y0 s1).bind fun x1 =>
 if x1 != 0 then
 some (.inr x1)
 else
 some (.inl (zR (s1 + 1)))
 else
 some (.inr 0)
def zFi (y0 : List Int) : Option Int :=
 zW (zP2 y0) 0
def zBe (y0 : wB) (y1 : wB) : Option Int :=
 (zAR y0.1 y1.1).bind fun r1 =>
 (zAR y0.2.1 y1.2.1).bind fun r2 =>
 (zAR y0.2.2.1 y1.2.2.1).bind fun r3 =>
 (zAR y0.2.2.2 y1.2.2.2).bind fun r4 =>
 (zFi ([r1, r2, r3, r4] : List Int)).bind fun r5 =>
 some r5
def zA8 (y0 : List wB) : Option (List wB) := zS5 zBe y0
def zE2 (r1 : (List Int)) (s3 : (List wB) × Int) (s4 : (List wB) × Int) (s2 : (List wB) × Int) (s5 : (List wB) × Int) : Option (((List wB) × Int) ⊕ (((List wB) × Int) ⊕ (((List wB) × Int) ⊕ (((List wB) × Int) ⊕ (List wB))))) :=
 if decide (s5.2 < (len r1)) then
 (zH r1 s5.2).bind fun x1 =>
 (wJ s5.1 ([(s3.2, s4.2, s2.2, x1)] : List wB)).bind fun x2 =>
 some (.inl (x2, zR (s5.2 + 1)))
 else
 some (.inr (.inl (s5.1, zR (s4.2 + 1))))
def zEU (y1 : List zP) (s2 : (List wB) × Int) (r1 : (List Int)) (s3 : (List wB) × Int) (s4 : (List wB) × Int) : Option (((List wB) × Int) ⊕ (((List wB) × Int) ⊕ (((List wB) × Int) ⊕ (List wB)))) :=
 if decide (s4.2 < (len y1)) then
 (zFo y1 s4.2).bind fun r2 =>
 (zBF r2 s2.2).bind fun r3 =>
 if !r3 then
 some (.inl (s4.1, zR (s4.2 + 1)))
 else
 zW (zE2 r1 s3 s4 s2) (s4.1, 0)
 else
 some (.inr (.inl (s4.1, zR (s3.2 + 1))))
def zEZ (y1 : List zP) (y0 : zT) (s2 : (List wB) × Int) (s3 : (List wB) × Int) : Option (((List wB) × Int) ⊕ (((List wB) × Int) ⊕ (List wB))) :=
 if decide (s3.2 < (len y1)) then
 (zHt y0 y1 s3.2 s2.2).bind fun r1 =>
 if (len r1) == 0 then
 some (.inl (s3.1, zR (s3.2 + 1)))
 else
 zW (zEU y1 s2 r1 s3) (s3.1, 0)
 else
 some (.inr (.inl (s3.1, zR (s2.2 + 1))))
def zCN (y1 : List zP) (y0 : zT) (s2 : (List wB) × Int) : Option (((List wB) × Int) ⊕ (List wB)) :=
 if decide (s2.2 < (len y1)) then
 zW (zEZ y1 y0 s2) (s2.1, 0)
 else
 some (.inr s2.1)
def zG2 (y0 : zT) (y1 : List zP) : Option (List wB) :=
 (zW (zCN y1 y0) (([] : List wB), 0) : Option (List wB)).bind fun s1 =>
 (zA8 s1).bind fun r4 =>
 some r4
def zC9 (r1 : (List Int)) (y0 : List zP) (s2 : (List Int) × Int) : Option (((List Int) × Int) ⊕ (List Int)) :=
 if decide (s2.2 < (len r1)) then
 (zH r1 s2.2).bind fun x1 =>
 (zH y0 x1).bind fun x2 =>
 if decide (0 ≤ x2.1) then
 (zH y0 x1).bind fun x3 =>
 (wJ s2.1 ([x3.1] : List Int)).bind fun x4 =>
 some (.inl (x4, zR (s2.2 + 1)))
 else
 some (.inl (s2.1, zR (s2.2 + 1)))
 else
 some (.inr s2.1)
def zCR (y0 : List zP) (y1 : Int) : Option (List Int) :=
 (
 (zFo y0 y1).bind fun r1 =>
 zW (zC9 r1 y0) (([] : List Int), 0) : Option (List Int)).bind fun s1 =>
 (zBG s1).bind fun r2 =>
 some r2
def zGW (y0 : Int) (y1 : zT) : Option Bool :=
 (zH y1.1 y0).bind fun x1 =>
 some (x1.2.1 == 3)
def zAF (y0 : List Int) (y1 : zT) (s1 : Int) : Option (Int ⊕ Int) :=
 if decide (s1 < (len y0)) then
 (zH y0 s1).bind fun x1 =>
 (zGW x1 y1).bind fun r1 =>
 if r1 then
 some (.inr s1)
 else
 some (.inl (zR (s1 + 1)))
 else
 some (.inr (-1))
def zAp (y0 : List Int) (y1 : zT) : Option Int :=
 zW (zAF y0 y1) 0
def zAc (y0 : List Int) (y1 : zT) : Option Bool :=
 (zAp y0 y1).bind fun r1 =>
 some (decide (0 ≤ r1))
def zID (y0 : zT) (y1 : List zP) (y2 : Int) : Option Bool :=
 (zCR y1 y2).bind fun r1 =>
 (zAc r1 y0).bind fun r2 =>
 some r2
def zFL (x5 : zP) (rec_argument_Last : zT → (List zP) → Int → Option (List Int)) (y0 : zT) (y1 : List zP) (s3 : (List Int) × Int) : Option (((List Int) × Int) ⊕ (List Int)) :=
 if decide (s3.2 < (len x5.2.2.1)) then
 (zH x5.2.2.1 s3.2).bind fun x6 =>
 (rec_argument_Last y0 y1 x6).bind fun r2 =>
 (wJ s3.1 r2).bind fun x7 =>
 some (.inl (x7, zR (s3.2 + 1)))
 else
 some (.inr s3.1)
def zHW (rec_argument_Last : zT → (List zP) → Int → Option (List Int)) (y0 : zT) (y1 : List zP) (y2 : Int) : Option (List Int) :=
 (
 (zAa y1 y2).bind fun r1 =>
 if !r1 then
 some true
 else
 (zH y1 y2).bind fun x1 =>
 some (decide (x1.2.1 < 0)) : Option Bool).bind fun s1 =>
 if s1 then
 some ([] : List Int)
 else
 (zH y1 y2).bind fun x2 =>
 (zH y0.2.1 x2.2.1).bind fun x3 =>
 if !x3.2.1 then
 (zH y1 y2).bind fun x4 =>
 some ([x4.2.1] : List Int)
 else
 (
 (zH y1 y2).bind fun x5 =>
 zW (zFL x5 rec_argument_Last y0 y1) (([] : List Int), 0) : Option (List Int)).bind fun s2 =>
 (zBG s2).bind fun r3 =>
 (zBO r3).bind fun r4 =>
 some r4
def zC1 : Nat → zT → (List zP) → Int → Option (List Int)
 | 0 => fun _ _ _ => none
 | k + 1 => fun y0 y1 y2 => zHW (zC1 k) y0 y1 y2
def zJM (y0 : zT) (y1 : List zP) (y2 : Int) : Option (List Int) := zTt fun k => zC1 k y0 y1 y2
def zHV (y1 : List Int) (y0 : zT) (s1 : (List Int) × Int) : Option (((List Int) × Int) ⊕ (List Int)) :=
 if decide (s1.2 < (len y1)) then
 (zH y1 s1.2).bind fun x1 =>
 (zH y0.2.1 x1).bind fun x2 =>
 (wJ s1.1 ([x2.2.2.1] : List Int)).bind fun x3 =>
 some (.inl (x3, zR (s1.2 + 1)))
 else
 some (.inr s1.1)
def zJV (y0 : zT) (y1 : List Int) : Option (List Int) :=
 zW (zHV y1 y0) (([] : List Int), 0)
def zBt (y0 : zT) (y1 : List zP) (y2 : Int) : Option (List Int) :=
 (zJM y0 y1 y2).bind fun r1 =>
 (zJV y0 r1).bind fun r2 =>
 some r2
def zEV (y0 : List Int) (s2 : Int × Int) : Option ((Int × Int) ⊕ Int) :=
 if decide (s2.2 < (len y0)) then
 (zH y0 s2.2).bind fun x2 =>
 some (.inl (if x2 > s2.1 then x2 else s2.1, zR (s2.2 + 1)))
 else
 some (.inr s2.1)
def zEj (y0 : List Int) : Option Int :=
 (
 if decide ((len y0) < 1) then
 none
 else
 some () : Option Unit).bind fun _ =>
 (zH y0 0).bind fun x1 =>
 zW (zEV y0) (x1, 1)
def zEG (y0 : List Int) (s2 : Int × Int) : Option ((Int × Int) ⊕ Int) :=
 if decide (s2.2 < (len y0)) then
 (zH y0 s2.2).bind fun x2 =>
 some (.inl (if x2 < s2.1 then x2 else s2.1, zR (s2.2 + 1)))
 else
 some (.inr s2.1)
def zEg (y0 : List Int) : Option Int :=
 (
 if decide ((len y0) < 1) then
 none
 else
 some () : Option Unit).bind fun _ =>
 (zH y0 0).bind fun x1 =>
 zW (zEG y0) (x1, 1)
def zFC (y0 : List Int) (y1 : List Int) (y2 : Int) : Option Bool :=
 if if y2 != 1 then (y2 != 2) || ((len y0) == 0) else (len y0) == 0 then
 some false
 else
 if (len y1) == 0 then
 some true
 else
 if y2 == 1 then
 (zEg y0).bind fun r1 =>
 (zEg y1).bind fun r2 =>
 some (decide (r1 < r2))
 else
 (zEj y0).bind fun r3 =>
 (zEj y1).bind fun r4 =>
 some (decide (r3 < r4))
def zBA (y0 : zT) (y1 : List zP) (y2 : Int) (y3 : Int) (y4 : wQ) : Option Bool :=
 (zBt y0 y1 y2).bind fun r1 =>
 (zBt y0 y1 y3).bind fun r2 =>
 (zFC r1 r2 y4.2).bind fun r3 =>
 some r3
def zBX (r1 : (List Int)) (y0 : zT) (s1 : (List Int) × Int) : Option (((List Int) × Int) ⊕ (List Int)) :=
 if decide (s1.2 < (len r1)) then
 (zH r1 s1.2).bind fun x1 =>
 (zH y0.1 x1).bind fun x2 =>
 if x2.2.1 == 2 then
 (wJ s1.1 ([x2.2.2.1] : List Int)).bind fun x3 =>
 some (.inl (x3, zR (s1.2 + 1)))
 else
 if x2.2.1 == 3 then
 (wJ s1.1 ([(-1)] : List Int)).bind fun x4 =>
 some (.inl (x4, zR (s1.2 + 1)))
 else
 some (.inl (s1.1, zR (s1.2 + 1)))
 else
 some (.inr s1.1)
def zAl (y0 : zT) (y1 : List zP) (y2 : Int) : Option (List Int) :=
 (zCR y1 y2).bind fun r1 =>
 zW (zBX r1 y0) (([] : List Int), 0)
def zAI (y0 : zT) (y1 : List zP) (y2 : Int) (y3 : Int) (y4 : wQ) : Option Bool :=
 (zAl y0 y1 y2).bind fun r1 =>
 (zAl y0 y1 y3).bind fun r2 =>
 (zFC r1 r2 y4.2).bind fun r3 =>
 some r3
def zAz (y0 : zT) (y1 : List zP) (y2 : Int) (y3 : Int) : Option Bool :=
 (
 (zBt y0 y1 y2).bind fun r1 =>
 if (len r1) == 0 then
 (zBt y0 y1 y3).bind fun r2 =>
 some ((len r2) == 0)
 else
 some false : Option Bool).bind fun s1 =>
 some s1
def zCk (y1 : zT) (y2 : List zP) (y3 : Int) (y4 : Int) (y5 : wQ) : Option Bool :=
 (
 (zBA y1 y2 y3 y4 y5).bind fun r1 =>
 if r1 then
 some true
 else
 (zAz y1 y2 y3 y4).bind fun r2 =>
 if r2 then
 (zAI y1 y2 y3 y4 y5).bind fun r3 =>
 some r3
 else
 some false : Option Bool).bind fun s1 =>
 some s1
def zBp (y0 : zT) (y1 : List zP) (y2 : Int) : Option (List Int) :=
 (zBa y0 y1 y2).bind fun r1 =>
 (zJV y0 r1).bind fun r2 =>
 some r2
def zA7 (y0 : zT) (y1 : List zP) (y2 : Int) (y3 : Int) (y4 : wQ) : Option Bool :=
 (zBp y0 y1 y2).bind fun r1 =>
 (zBp y0 y1 y3).bind fun r2 =>
 (zFC r1 r2 y4.2).bind fun r3 =>
 some r3
def zAh (y0 : zT) (y1 : List zP) (y2 : Int) (y3 : Int) : Option Bool :=
 (
 (zAl y0 y1 y2).bind fun r1 =>
 if (len r1) == 0 then
 (zAl y0 y1 y3).bind fun r2 =>
 some ((len r2) == 0)
 else
 some false : Option Bool).bind fun s1 =>
 some s1
def zBB (y0 : zT) (y1 : List zP) (y2 : Int) (y3 : Int) : Option Bool :=
 (
 (zBp y0 y1 y2).bind fun r1 =>
 if (len r1) == 0 then
 (zBp y0 y1 y3).bind fun r2 =>
 some ((len r2) == 0)
 else
 some false : Option Bool).bind fun s1 =>
 some s1
def zCi (y1 : zT) (y2 : List zP) (y3 : Int) (y4 : Int) (y6 : wQ) : Option Bool :=
 (zBB y1 y2 y3 y4).bind fun r1 =>
 if r1 then
 (zAI y1 y2 y3 y4 y6).bind fun r2 =>
 some r2
 else
 (zAh y1 y2 y3 y4).bind fun r3 =>
 if r3 then
 (zA7 y1 y2 y3 y4 y6).bind fun r4 =>
 some r4
 else
 (
 (zAI y1 y2 y3 y4 y6).bind fun r5 =>
 if r5 then
 (zA7 y1 y2 y3 y4 y6).bind fun r6 =>
 some r6
 else
 some false : Option Bool).bind fun s1 =>
 some s1
def zK4 (y0 : zT) (y1 : List zP) (y2 : Int) (y3 : Int) (y4 : wQ) : Option Bool :=
 (
 if decide ((if y3 < y2 then y3 else y2) < 0) then
 some true
 else
 if decide ((len y1) ≤ (if y3 > y2 then y3 else y2)) then
 some true
 else
 (zID y0 y1 y3).bind fun r1 =>
 some r1 : Option Bool).bind fun s1 =>
 if s1 then
 some false
 else
 if y4.1 == 1 then
 (zCk y0 y1 y2 y3 y4).bind fun r2 =>
 some r2
 else
 if y4.1 == 2 then
 (zCi y0 y1 y2 y3 y4).bind fun r3 =>
 some r3
 else
 some false
def zBd (y0 : wB) (y1 : zT) (y2 : List zP) (y3 : wQ) : Option Bool :=
 (
 if y0.2.2.2 != 3 then
 (zK4 y1 y2 y0.1 y0.2.2.1 y3).bind fun r1 =>
 some r1
 else
 some false : Option Bool).bind fun s1 =>
 some s1
def zDS (y0 : List wB) (y1 : zT) (y2 : List zP) (y3 : wQ) (s1 : Int) : Option (Int ⊕ Int) :=
 if decide (s1 < (len y0)) then
 (zH y0 s1).bind fun x1 =>
 (zBd x1 y1 y2 y3).bind fun r1 =>
 if r1 then
 some (.inr s1)
 else
 some (.inl (zR (s1 + 1)))
 else
 some (.inr (-1))
def zBL (y0 : List wB) (y1 : zT) (y2 : List zP) (y3 : wQ) : Option Int :=
 zW (zDS y0 y1 y2 y3) 0
def zDN (y0 : List wB) (y1 : zT) (y2 : List zP) (y3 : wQ) (s2 : (List wB) × Int × Int) : Option (((List wB) × Int × Int) ⊕ ((List wB) × Int)) :=
 if decide (s2.2.2 < (len y0)) then
 (zH s2.1 s2.2.2).bind fun x1 =>
 (zBd x1 y1 y2 y3).bind fun r2 =>
 if !r2 then
 (zH s2.1 s2.2.1).bind fun _ =>
 some (.inl (List.set s2.1 (Int.toNat s2.2.1) x1, zR (s2.2.1 + 1), zR (s2.2.2 + 1)))
 else
 some (.inl (s2.1, s2.2.1, zR (s2.2.2 + 1)))
 else
 some (.inr (s2.1, s2.2.1))
def zAY (y0 : List wB) (y1 : zT) (y2 : List zP) (y3 : wQ) : Option (List wB) :=
 (zBL y0 y1 y2 y3).bind fun r1 =>
 if r1 == (-1) then
 some y0
 else
 (zW (zDN y0 y1 y2 y3) (y0, r1, zR (r1 + 1)) : Option ((List wB) × Int)).bind fun s1 =>
 (yX (decide (0 ≤ s1.2) && decide (s1.2 ≤ len s1.1))).bind fun _ =>
 (sub (zBW s1.1 s1.2 (0, 0, 0, 0)) 0 s1.2).bind fun x3 =>
 some x3
def zEz (y0 : zT) (y1 : List zP) (y2 : wQ) : Option (List wB) :=
 (zG2 y0 y1).bind fun r1 =>
 (zAY r1 y0 y1 y2).bind fun r2 =>
 some r2
def zKI (y0 : List wI) (s1 : Int) (s3 : (List wI) × Int × Int) : Option (((List wI) × Int × Int) ⊕ ((List wI) × Int)) :=
 if decide (s3.2.2 < ((Int.toNat (((List.length y0 : Nat) : Int) - s1) : Nat) : Int)) then
 (tJ s3.1 s1 s3.2.2).bind fun x3 =>
 (tJ s3.1 s1 (zR (s3.2.2 - 1))).bind fun x4 =>
 if !(x3 == x4) then
 (tJ s3.1 s1 s3.2.2).bind fun x5 =>
 (zH s3.1 s3.2.1).bind fun _ =>
 some (.inl (List.set s3.1 (Int.toNat s3.2.1) x5, zR (s3.2.1 + 1), zR (s3.2.2 + 1)))
 else
 some (.inl (s3.1, s3.2.1, zR (s3.2.2 + 1)))
 else
 some (.inr (s3.1, s3.2.1))
def zKK (y0 : List wI) (s1 : Int) : Option (Int ⊕ (List wI)) :=
 if decide (s1 < (len y0)) then
 (zH y0 s1).bind fun x1 =>
 (zH y0 (zR (s1 - 1))).bind fun x2 =>
 if x1 == x2 then
 (yX (decide (0 ≤ s1) && decide (s1 ≤ len y0))).bind fun _ =>
 (zW (zKI y0 s1) (y0, s1, 1) : Option ((List wI) × Int)).bind fun s2 =>
 (yX (decide (0 ≤ s2.2) && decide (s2.2 ≤ len s2.1))).bind fun _ =>
 (sub (zBW s2.1 s2.2 (0, 0)) 0 s2.2).bind fun x7 =>
 some (.inr x7)
 else
 some (.inl (zR (s1 + 1)))
 else
 some (.inr y0)
def zFm (y0 : List wI) : Option (List wI) :=
 if decide ((len y0) < 2) then
 some y0
 else
 zW (zKK y0) 1
def zCm (y0 : wI) (y1 : wI) : Option Int :=
 (zAR y0.1 y1.1).bind fun r1 =>
 (zAR y0.2 y1.2).bind fun r2 =>
 (zFi ([r1, r2] : List Int)).bind fun r3 =>
 some r3
def zAo (y0 : List wI) : Option (List wI) := zS5 zCm y0
def zDh (y1 : List wB) (y0 : Int) (s2 : Int × (List wI)) : Option ((Int × (List wI)) ⊕ ((List wI) ⊕ (wO × Int))) :=
 if decide (s2.1 < (len y1)) then
 (zH y1 s2.1).bind fun x1 =>
 if (decide ((if x1.2.1 < x1.1 then x1.2.1 else x1.1) < 0)) || (decide (y0 ≤ (if x1.2.1 > x1.1 then x1.2.1 else x1.1))) then
 some (.inr (.inr ((0, ([] : List wI)), 1)))
 else
 (wJ s2.2 ([(x1.1, x1.2.1)] : List wI)).bind fun x2 =>
 some (.inl (zR (s2.1 + 1), x2))
 else
 some (.inr (.inl s2.2))
def zGT (y0 : Int) (y1 : List wB) : Option (wO × Int) :=
 if (decide (y0 < 0)) || (decide (40 < y0)) then
 some ((0, ([] : List wI)), 1)
 else
 wW (zW (zDh y1 y0) (0, ([] : List wI)) : Option ((List wI) ⊕ (wO × Int))) fun s1 =>
 (zAo s1).bind fun r1 =>
 (zFm r1).bind fun r2 =>
 some ((y0, r2), 0)
def zAk (y0 : Int) : Option Int :=
 if y0 == 0 then
 some 64
 else
 (zH tab_math_bits_deBruijn64tab (uR .u64 (IntKind.u64.wrap ((vZ .u64 y0 (IntKind.u64.wrap (0 - y0))) * 285870213051353865)) 58)).bind fun x1 =>
 some (zR (x1))
def zDx (s1 : Int × (List Int)) : Option ((Int × (List Int)) ⊕ (List Int)) :=
 if s1.1 != 0 then
 (zAk s1.1).bind fun r1 =>
 (wJ s1.2 ([r1] : List Int)).bind fun x1 =>
 some (.inl (vZ .u64 s1.1 (IntKind.u64.wrap (s1.1 - 1)), x1))
 else
 some (.inr s1.2)
def zJe (y0 : Int) : Option (List Int) :=
 zW (zDx) (y0, ([] : List Int))
def zG6 (y0 : wO) (s1 : (List Int) × Int) : Option (((List Int) × Int) ⊕ (List Int)) :=
 if decide (s1.2 < (len y0.2)) then
 (zH y0.2 s1.2).bind fun x2 =>
 (zH s1.1 x2.1).bind fun x3 =>
 (zV1 .u64 1 x2.2).bind fun x4 =>
 (zH s1.1 x2.1).bind fun _ =>
 some (.inl (List.set s1.1 (Int.toNat x2.1) (bor .u64 x3 x4), zR (s1.2 + 1)))
 else
 some (.inr s1.1)
def zIj (y0 : wO) : Option (List Int) :=
 (mkS y0.1 y0.1 (0 : Int)).bind fun x1 =>
 zW (zG6 y0) (x1, 0)
def zDm (y0 : wI) (y1 : wI) : Option Int :=
 (zAR y0.1 y1.1).bind fun r1 =>
 (zAR y0.2 y1.2).bind fun r2 =>
 (zFi ([r1, r2] : List Int)).bind fun r3 =>
 some r3
def zA5 (y0 : wO) (s1 : Int) : Option (Int ⊕ Int) :=
 if decide (s1 < (len y0.2)) then
 (zH y0.2 s1).bind fun x1 =>
 if (decide ((if x1.2 < x1.1 then x1.2 else x1.1) < 0)) || (decide (y0.1 ≤ (if x1.2 > x1.1 then x1.2 else x1.1))) then
 some (.inr 1)
 else
 (
 if decide (0 < s1) then
 (zH y0.2 (zR (s1 - 1))).bind fun x2 =>
 (zDm x2 x1).bind fun r1 =>
 some (decide (0 ≤ r1))
 else
 some false : Option Bool).bind fun s2 =>
 if s2 then
 some (.inr 8)
 else
 some (.inl (zR (s1 + 1)))
 else
 some (.inr 0)
def zAS (y0 : wO) : Option Int :=
 if (decide (y0.1 < 0)) || (decide (40 < y0.1)) then
 some 1
 else
 zW (zA5 y0) 0
def zIE (y0 : wO) : Option wO :=
 (zAS y0).bind fun r1 =>
 if r1 != 0 then
 some (0, ([] : List wI))
 else
 some y0
def zEx (y0 : wO) (y1 : Int) : Option (List Int) :=
 (zIE y0).bind fun r1 =>
 if (decide (y1 < 0)) || (decide (r1.1 ≤ y1)) then
 some ([] : List Int)
 else
 (zIj r1).bind fun r2 =>
 (zH r2 y1).bind fun x1 =>
 (zJe x1).bind fun r3 =>
 some r3
def zJr (y0 : Int) (y1 : Int) : Option (Int × Int) :=
 some (IntKind.u64.wrap ((IntKind.u64.wrap ((IntKind.u64.wrap ((uR .u64 y0 32) * (uR .u64 y1 32))) + (uR .u64 (IntKind.u64.wrap ((IntKind.u64.wrap ((uR .u64 y0 32) * (vZ .u64 y1 4294967295))) + (uR .u64 (IntKind.u64.wrap ((vZ .u64 y0 4294967295) * (vZ .u64 y1 4294967295))) 32))) 32))) + (uR .u64 (IntKind.u64.wrap ((vZ .u64 (IntKind.u64.wrap ((IntKind.u64.wrap ((uR .u64 y0 32) * (vZ .u64 y1 4294967295))) + (uR .u64 (IntKind.u64.wrap ((vZ .u64 y0 4294967295) * (vZ .u64 y1 4294967295))) 32))) 4294967295) + (IntKind.u64.wrap ((vZ .u64 y0 4294967295) * (uR .u64 y1 32))))) 32)), IntKind.u64.wrap (y0 * y1))
def zIw (y0 : Int) (y1 : Int) : Option (Int × Int) :=
 (zJr y0 y1).bind fun r1 =>
 some (r1.1, r1.2)
def zFG (x1 : List Int) (s3 : (List Int) × Int) : Option (((List Int) × Int) ⊕ (List Int)) :=
 if decide (s3.2 < (len x1)) then
 (yX (decide (0 ≤ s3.2) && decide (s3.2 ≤ len s3.1))).bind fun _ =>
 (sub s3.1 0 s3.2).bind fun x2 =>
 some (.inl (tX s3.1 s3.2 x2, zR (s3.2 + ((Nat.min (List.length x2) (Int.toNat (((List.length x1 : Nat) : Int) - s3.2)) : Nat) : Int))))
 else
 some (.inr s3.1)
def zEI (y0 : List Int) (y1 : Int) : Option (List Int) :=
 (
 if decide (y1 < 0) then
 none
 else
 some () : Option Unit).bind fun _ =>
 (zIw (IntKind.u64.wrap (len y0)) (IntKind.u64.wrap (y1))).bind fun r1 =>
 (
 if (decide (0 < r1.1)) || (decide (9223372036854775807 < r1.2)) then
 none
 else
 some () : Option Unit).bind fun _ =>
 (mkS (zR (r1.2)) (zR (r1.2)) (0 : Int)).bind fun x1 =>
 zW (zFG x1) (tX x1 0 y0, ((Nat.min (List.length y0) (List.length x1) : Nat) : Int))
def zCS (y0 : wO) (s3 : Int × (List Int)) : Option ((Int × (List Int)) ⊕ (List Int)) :=
 if decide (s3.1 < (len y0.2)) then
 (zH y0.2 s3.1).bind fun x4 =>
 (yX (decide (0 ≤ x4.2) && decide (x4.2 < 40))).bind fun _ =>
 (yX (decide (0 ≤ x4.2) && decide (x4.2 < 40))).bind fun _ =>
 some (.inl (zR (s3.1 + 1), zTU 40 s3.2 x4.2 (zR ((zTF s3.2 x4.2) + 1))))
 else
 some (.inr s3.2)
def zCO (y0 : wO) (s2 : (List Int)) (s5 : (List Int) × Int) : Option (((List Int) × Int) ⊕ (List Int)) :=
 if decide (s5.2 < y0.1) then
 (yX (decide (0 ≤ s5.2) && decide (s5.2 < 40))).bind fun _ =>
 if (zTF s2 s5.2) == 0 then
 (wJ s5.1 ([s5.2] : List Int)).bind fun x5 =>
 some (.inl (x5, zR (s5.2 + 1)))
 else
 some (.inl (s5.1, zR (s5.2 + 1)))
 else
 some (.inr s5.1)
def zCX (s6 : (List Int) × (List Int) × (List Int) × Int × (List Int)) (s8 : (List Int) × (List Int) × Int) : Option (((List Int) × (List Int) × Int) ⊕ ((List Int) × (List Int))) :=
 if decide (s8.2.2 < (len s6.2.2.1)) then
 (zH s6.2.2.1 s8.2.2).bind fun x6 =>
 (zH s8.1 x6).bind fun _ =>
 (zH s8.2.1 x6).bind fun _ =>
 some (.inl (List.set s8.1 (Int.toNat x6) 1, List.set s8.2.1 (Int.toNat x6) s6.2.2.2.1, zR (s8.2.2 + 1)))
 else
 some (.inr (s8.1, s8.2.1))
def zCY (r5 : (List Int)) (s10 : (List Int) × (List Int) × (List Int) × Int × (List Int)) (x10 : Int) (s6 : (List Int) × (List Int) × (List Int) × Int × (List Int)) (s11 : (List Int) × Int × (List Int)) : Option (((List Int) × Int × (List Int)) ⊕ (((List Int) × (List Int) × (List Int) × Int × (List Int)) ⊕ (((List Int) × (List Int) × (List Int) × Int × (List Int)) ⊕ (((List Int) × (List Int) × (List Int) × Int × (List Int)) ⊕ ((List Int) × (List Int)))))) :=
 if decide (s11.2.1 < (len r5)) then
 (zH r5 s11.2.1).bind fun x14 =>
 (yX (decide (0 ≤ x14) && decide (x14 < 40))).bind fun _ =>
 (yX (decide (0 ≤ x14) && decide (x14 < 40))).bind fun _ =>
 (
 (yX (decide (0 ≤ x14) && decide (x14 < 40))).bind fun _ =>
 if (zTF (zTU 40 s11.2.2 x14 (zR ((zTF s11.2.2 x14) - 1))) x14) == 0 then
 (zH (List.set s10.1 (Int.toNat x10) 2) x14).bind fun x15 =>
 some (x15 == 3)
 else
 some false : Option Bool).bind fun s12 =>
 if s12 then
 (wJ s11.1 ([x14] : List Int)).bind fun x16 =>
 some (.inl (x16, zR (s11.2.1 + 1), zTU 40 s11.2.2 x14 (zR ((zTF s11.2.2 x14) - 1))))
 else
 some (.inl (s11.1, zR (s11.2.1 + 1), zTU 40 s11.2.2 x14 (zR ((zTF s11.2.2 x14) - 1))))
 else
 some (.inr (.inl (List.set s10.1 (Int.toNat x10) 2, List.set s10.2.1 (Int.toNat x10) s6.2.2.2.1, s11.1, zR (s10.2.2.2.1 + 1), s11.2.2)))
def zB1 (r4 : (List Int)) (y0 : wO) (s6 : (List Int) × (List Int) × (List Int) × Int × (List Int)) (s9 : (List Int) × (List Int) × (List Int) × Int × (List Int)) (s10 : (List Int) × (List Int) × (List Int) × Int × (List Int)) : Option (((List Int) × (List Int) × (List Int) × Int × (List Int)) ⊕ (((List Int) × (List Int) × (List Int) × Int × (List Int)) ⊕ (((List Int) × (List Int) × (List Int) × Int × (List Int)) ⊕ ((List Int) × (List Int))))) :=
 if decide (s10.2.2.2.1 < (len r4)) then
 (zH r4 s10.2.2.2.1).bind fun x10 =>
 (zH s10.1 x10).bind fun x11 =>
 if x11 != 3 then
 some (.inl (s10.1, s10.2.1, s10.2.2.1, zR (s10.2.2.2.1 + 1), s10.2.2.2.2))
 else
 (zH s10.1 x10).bind fun _ =>
 (zH s10.2.1 x10).bind fun _ =>
 (zEx y0 x10).bind fun r5 =>
 zW (zCY r5 s10 x10 s6) (s10.2.2.1, 0, s10.2.2.2.2)
 else
 some (.inr (.inl (s10.1, s10.2.1, s10.2.2.1, zR (s9.2.2.2.1 + 1), s10.2.2.2.2)))
def zCZ (s6 : (List Int) × (List Int) × (List Int) × Int × (List Int)) (y0 : wO) (s9 : (List Int) × (List Int) × (List Int) × Int × (List Int)) : Option (((List Int) × (List Int) × (List Int) × Int × (List Int)) ⊕ (((List Int) × (List Int) × (List Int) × Int × (List Int)) ⊕ ((List Int) × (List Int)))) :=
 if decide (s9.2.2.2.1 < (len s6.2.2.1)) then
 (zH s6.2.2.1 s9.2.2.2.1).bind fun x9 =>
 (zEx y0 x9).bind fun r4 =>
 zW (zB1 r4 y0 s6 s9) (s9.1, s9.2.1, s9.2.2.1, 0, s9.2.2.2.2)
 else
 some (.inr (.inl (s9.1, s9.2.1, s9.2.2.1, zR (s6.2.2.2.1 + 1), s9.2.2.2.2)))
def zBC (y0 : wO) (s6 : (List Int) × (List Int) × (List Int) × Int × (List Int)) : Option (((List Int) × (List Int) × (List Int) × Int × (List Int)) ⊕ ((List Int) × (List Int))) :=
 if decide (0 < (len s6.2.2.1)) then
 (zW (zCX s6) (s6.1, s6.2.1, 0) : Option ((List Int) × (List Int))).bind fun s7 =>
 zW (zCZ s6 y0) (s7.1, s7.2, ([] : List Int), 0, s6.2.2.2.2)
 else
 some (.inr (s6.1, s6.2.1))
def zG3 (y0 : wO) : Option ((List Int) × (List Int)) :=
 (
 (zEI ([3] : List Int) y0.1).bind fun r1 =>
 (mkS y0.1 y0.1 (0 : Int)).bind fun x1 =>
 some (r1, x1) : Option ((List Int) × (List Int))).bind fun s1 =>
 (zW (zCS y0) (0, (List.replicate 40 (0 : Int))) : Option (List Int)).bind fun s2 =>
 (zW (zCO y0 s2) (([] : List Int), 0) : Option (List Int)).bind fun s4 =>
 zW (zBC y0) (s1.1, s1.2, s4, 1, s2)
def zEr (y0 : wO) : Option (List Int) :=
 (zG3 y0).bind fun r1 =>
 some r1.1
def zE1 (y0 : List Int) (y1 : Int) (s1 : (List Int) × Int) : Option (((List Int) × Int) ⊕ (List Int)) :=
 if decide (s1.2 < (len y0)) then
 (zH y0 s1.2).bind fun x1 =>
 if x1 == y1 then
 (wJ s1.1 ([s1.2] : List Int)).bind fun x2 =>
 some (.inl (x2, zR (s1.2 + 1)))
 else
 some (.inl (s1.1, zR (s1.2 + 1)))
 else
 some (.inr s1.1)
def zBo (y0 : List Int) (y1 : Int) : Option (List Int) :=
 zW (zE1 y0 y1) (([] : List Int), 0)
def zC8 (y0 : List vE) : Option (List vE) :=
 (wJ ([] : List vE) y0).bind fun x1 =>
 some x1
def zBg (y0 : List vQ) : Option (List vQ) :=
 (wJ ([] : List vQ) y0).bind fun x1 =>
 some x1
def zEM (y0 : List wD) : Option (List wD) :=
 (wJ ([] : List wD) y0).bind fun x1 =>
 some x1
def zFl (y0 : zT) (x1 : wD) (y1 : List zO) (s3 : Int × (List wD)) (s4 : Int × (List wD)) : Option ((Int × (List wD)) ⊕ ((Int × (List wD)) ⊕ (List wD))) :=
 if decide (s4.1 < (len y0.2.2)) then
 (zH y0.2.2 s4.1).bind fun x3 =>
 (
 if !x1.2.1 then
 if x3.1 == x1.1 then
 (zEQ y1 x3.2.2).bind fun r11 =>
 some r11
 else
 some false
 else
 some false : Option Bool).bind fun s5 =>
 if s5 then
 (zH s4.2 s3.1).bind fun x4 =>
 some (.inl (zR (s4.1 + 1), List.set s4.2 (Int.toNat s3.1) (x4.1, x4.2.1, x3.2.1, x4.2.2.2.1, x4.2.2.2.2)))
 else
 some (.inl (zR (s4.1 + 1), s4.2))
 else
 some (.inr (.inl (zR (s3.1 + 1), s4.2)))
def zDA (y0 : zT) (y1 : List zO) (s3 : Int × (List wD)) : Option ((Int × (List wD)) ⊕ (List wD)) :=
 if decide (s3.1 < (len y0.2.1)) then
 (zH y0.2.1 s3.1).bind fun x1 =>
 (zBV x1.2.2.2.1).bind fun r10 =>
 (zH s3.2 s3.1).bind fun x2 =>
 zW (zFl y0 x1 y1 s3) (0, List.set s3.2 (Int.toNat s3.1) (x2.1, x2.2.1, x2.2.2.1, r10, x2.2.2.2.2))
 else
 some (.inr s3.2)
def zFP (y0 : zT) (y1 : List zO) : Option zT :=
 (
 (zC8 y0.1).bind fun r1 =>
 (zEM y0.2.1).bind fun r2 =>
 (zBg y0.2.2).bind fun r3 =>
 some (r1, r2, r3) : Option zT).bind fun s1 =>
 (zW (zDA y0 y1) (0, s1.2.1) : Option (List wD)).bind fun s2 =>
 some (s1.1, s2, s1.2.2)
def zCq (y0 : zT) (y1 : wQ) : Option (zBP × Int) :=
 (zCo y0).bind fun r1 =>
 if r1.2 != 0 then
 some (((([] : List vE), ([] : List wD), ([] : List vQ)), ([] : List zP), ([] : List wB), (0, ([] : List wI))), r1.2)
 else
 if if y1.1 != 1 then (y1.1 != 2) || ((y1.2 != 1) && (y1.2 != 2)) else (y1.2 != 1) && (y1.2 != 2) then
 some (((([] : List vE), ([] : List wD), ([] : List vQ)), ([] : List zP), ([] : List wB), (0, ([] : List wI))), 4)
 else
 (zEz y0 r1.1 y1).bind fun r2 =>
 (zGT (len r1.1) r2).bind fun r3 =>
 if r3.2 != 0 then
 some (((([] : List vE), ([] : List wD), ([] : List vQ)), ([] : List zP), ([] : List wB), (0, ([] : List wI))), r3.2)
 else
 (zEr r3.1).bind fun r4 =>
 (zBo r4 1).bind fun r5 =>
 (zBY r1.1 r5).bind fun r6 =>
 (zFP y0 r6).bind fun r7 =>
 (zEz r7 r1.1 y1).bind fun r8 =>
 (zGT (len r1.1) r8).bind fun r9 =>
 if r9.2 != 0 then
 some (((([] : List vE), ([] : List wD), ([] : List vQ)), ([] : List zP), ([] : List wB), (0, ([] : List wI))), r9.2)
 else
 some ((r7, r1.1, r8, r9.1), 0)
def zCh : Option Unit :=
 some ()
def zC0 : Option Unit :=
 some ()
def zDs : Option Unit :=
 some ()
def zEE : Option Unit :=
 some ()
def zEC : Option Unit :=
 some ()
def zCv : Option Unit :=
 zEC.bind fun _ =>
 some ()
def zDQ : Option Unit :=
 some ()
def zF6 : Option Unit :=
 zDQ.bind fun _ =>
 some ()
def zDR : Option Unit :=
 some ()
def zFe : Option Unit :=
 zDR.bind fun _ =>
 some ()
def zI0 : Option Unit :=
 zCv.bind fun _ =>
 zEE.bind fun _ =>
 zCh.bind fun _ =>
 zDs.bind fun _ =>
 zC0.bind fun _ =>
 zFe.bind fun _ =>
 zF6.bind fun _ =>
 some ()
def zHX (y0 : wO) : Option ((List Int) × Int) :=
 (zEr y0).bind fun r1 =>
 some (r1, 0)
def zA4 (y0 : wO) : Option ((List (List Int)) × Int) :=
 (zHX y0).bind fun r1 =>
 if r1.2 != 0 then
 some (([] : List (List Int)), r1.2)
 else
 some (([r1.1] : List (List Int)), 0)
def zA2 (r1 : (List (List Int)) × Int) (s1 : (List (List Int)) × Int) : Option (((List (List Int)) × Int) ⊕ ((List (List Int)) × Int)) :=
 if decide (s1.2 < (len r1.1)) then
 (zH r1.1 s1.2).bind fun x1 =>
 (zBo x1 1).bind fun r2 =>
 (wJ s1.1 ([r2] : List (List Int))).bind fun x2 =>
 some (.inl (x2, zR (s1.2 + 1)))
 else
 some (.inr (s1.1, 0))
def zAj (y0 : wO) : Option ((List (List Int)) × Int) :=
 (zA4 y0).bind fun r1 =>
 if r1.2 != 0 then
 some (([] : List (List Int)), r1.2)
 else
 zW (zA2 r1) (([] : List (List Int)), 0)
def zEd (y0 : wO) : Option ((List (List Int)) × Int) :=
 none
def zGF (r1 : (List (List Int)) × Int) (s1 : (List (List Int)) × Int) : Option (((List (List Int)) × Int) ⊕ ((List (List Int)) × Int)) :=
 if decide (s1.2 < (len r1.1)) then
 (zH r1.1 s1.2).bind fun x1 =>
 (zBo x1 1).bind fun r2 =>
 (wJ s1.1 ([r2] : List (List Int))).bind fun x2 =>
 some (.inl (x2, zR (s1.2 + 1)))
 else
 some (.inr (s1.1, 0))
def zCf (y0 : wO) : Option ((List (List Int)) × Int) :=
 (zEd y0).bind fun r1 =>
 if r1.2 != 0 then
 some (([] : List (List Int)), r1.2)
 else
 zW (zGF r1) (([] : List (List Int)), 0)
def zEv (y0 : wO) : Option ((List (List Int)) × Int) :=
 none
def zGI (r1 : (List (List Int)) × Int) (s1 : (List (List Int)) × Int) : Option (((List (List Int)) × Int) ⊕ ((List (List Int)) × Int)) :=
 if decide (s1.2 < (len r1.1)) then
 (zH r1.1 s1.2).bind fun x1 =>
 (zBo x1 1).bind fun r2 =>
 (wJ s1.1 ([r2] : List (List Int))).bind fun x2 =>
 some (.inl (x2, zR (s1.2 + 1)))
 else
 some (.inr (s1.1, 0))
def zCg (y0 : wO) : Option ((List (List Int)) × Int) :=
 (zEv y0).bind fun r1 =>
 if r1.2 != 0 then
 some (([] : List (List Int)), r1.2)
 else
 zW (zGI r1) (([] : List (List Int)), 0)
def zCH (y0 : wO) : Option ((List (List Int)) × Int) :=
 none
def zBx (y0 : wO) : Option ((List (List Int)) × Int) :=
 none
def zCs (y0 : wO) : Option ((List (List Int)) × Int) :=
 none
def zDP (y0 : wO) : Option ((List (List Int)) × Int) :=
 none
def zBD (y0 : wO) (y1 : Int) : Option ((List (List Int)) × Int) :=
 (zAS y0).bind fun r1 =>
 if r1 != 0 then
 some (([] : List (List Int)), r1)
 else
 zI0.bind fun _ =>
 if (decide (y1 < 1)) || (decide (((10 : Nat) : Int) ≤ y1)) then
 some (([] : List (List Int)), 4)
 else
 (
 if y1 == 1 then
 (zAj y0).bind fun r3 =>
 some (r3.1, r3.2)
 else
 if y1 == 2 then
 (zDP y0).bind fun r4 =>
 some (r4.1, r4.2)
 else
 if y1 == 3 then
 (zCH y0).bind fun r5 =>
 some (r5.1, r5.2)
 else
 if y1 == 4 then
 (zCs y0).bind fun r6 =>
 some (r6.1, r6.2)
 else
 if y1 == 5 then
 (zBx y0).bind fun r7 =>
 some (r7.1, r7.2)
 else
 if y1 == 6 then
 (zCf y0).bind fun r8 =>
 some (r8.1, r8.2)
 else
 if y1 == 7 then
 (zCg y0).bind fun r9 =>
 some (r9.1, r9.2)
 else
 if y1 == 8 then
 none
 else
 if y1 == 9 then
 none
 else
 none : Option ((List (List Int)) × Int)).bind fun s1 =>
 some (s1.1, s1.2)
def zCB (r1 : (List (List Int)) × Int) (y0 : zBP) (s1 : (List (List zO)) × Int) : Option (((List (List zO)) × Int) ⊕ ((List (List zO)) × Int)) :=
 if decide (s1.2 < (len r1.1)) then
 (zH r1.1 s1.2).bind fun x1 =>
 (zBY y0.2.1 x1).bind fun r2 =>
 (wJ s1.1 ([r2] : List (List zO))).bind fun x2 =>
 some (.inl (x2, zR (s1.2 + 1)))
 else
 some (.inr (s1.1, 0))
def zDW (y0 : zBP) (y1 : Int) : Option ((List (List zO)) × Int) :=
 (zBD y0.2.2.2 y1).bind fun r1 =>
 if r1.2 != 0 then
 some (([] : List (List zO)), r1.2)
 else
 zW (zCB r1 y0) (([] : List (List zO)), 0)
def zCF (y0 : Int) : Option (List zO) :=
 (
 if decide (y0 < 0) then
 none
 else
 some () : Option Unit).bind fun _ =>
 if decide (0 < (zR (y0 - (zR (((0 : Nat) : Int) - (len ([] : List zO))))))) then
 (mkS (zR (y0 - (zR (((0 : Nat) : Int) - (len ([] : List zO)))))) (zR (y0 - (zR (((0 : Nat) : Int) - (len ([] : List zO)))))) ((false, []) : zO)).bind fun x1 =>
 (sub x1 0 (len ([] : List zO))).bind fun x2 =>
 some x2
 else
 some ([] : List zO)
def zAs (y0 : List (List zO)) (s2 : Int × Int) : Option ((Int × Int) ⊕ Int) :=
 if decide (s2.2 < (len y0)) then
 (zH y0 s2.2).bind fun x1 =>
 if decide ((zR (s2.1 + (len x1))) < 0) then
 none
 else
 some (.inl (zR (s2.1 + (len x1)), zR (s2.2 + 1)))
 else
 some (.inr s2.1)
def zBT (y0 : List (List zO)) (s3 : (List zO) × Int) : Option (((List zO) × Int) ⊕ (List zO)) :=
 if decide (s3.2 < (len y0)) then
 (zH y0 s3.2).bind fun x2 =>
 (wJ s3.1 x2).bind fun x3 =>
 some (.inl (x3, zR (s3.2 + 1)))
 else
 some (.inr s3.1)
def zCE (y0 : List (List zO)) : Option (List zO) :=
 (zW (zAs y0) (0, 0) : Option Int).bind fun s1 =>
 (zCF s1).bind fun r1 =>
 zW (zBT y0) (r1, 0)
def zDH (y0 : List zO) (y1 : zO) : Option Bool :=
 (zEQ y0 y1).bind fun r1 =>
 some (!r1)
def zCe (y0 : List (List zO)) (y1 : zO) (s1 : Int) : Option (Int ⊕ Int) :=
 if decide (s1 < (len y0)) then
 (zH y0 s1).bind fun x1 =>
 (zDH x1 y1).bind fun r1 =>
 if r1 then
 some (.inr s1)
 else
 some (.inl (zR (s1 + 1)))
 else
 some (.inr (-1))
def zAx (y0 : List (List zO)) (y1 : zO) : Option Int :=
 zW (zCe y0 y1) 0
def zAP (y0 : List (List zO)) (y1 : zO) : Option Bool :=
 (zAx y0 y1).bind fun r1 =>
 some (decide (0 ≤ r1))
def zB6 (y0 : zO) (y1 : Bool) (y2 : List (List zO)) : Option Bool :=
 (
 if y1 then
 (zAP y2 y0).bind fun r1 =>
 some r1
 else
 some false : Option Bool).bind fun s1 =>
 some s1
def zCt (y0 : List zO) (y1 : Bool) (y2 : List (List zO)) (s1 : Int) : Option (Int ⊕ Int) :=
 if decide (s1 < (len y0)) then
 (zH y0 s1).bind fun x1 =>
 (zB6 x1 y1 y2).bind fun r1 =>
 if r1 then
 some (.inr s1)
 else
 some (.inl (zR (s1 + 1)))
 else
 some (.inr (-1))
def zBE (y0 : List zO) (y1 : Bool) (y2 : List (List zO)) : Option Int :=
 zW (zCt y0 y1 y2) 0
def zCj (y0 : List zO) (y1 : Bool) (y2 : List (List zO)) (s2 : (List zO) × Int × Int) : Option (((List zO) × Int × Int) ⊕ ((List zO) × Int)) :=
 if decide (s2.2.2 < (len y0)) then
 (zH s2.1 s2.2.2).bind fun x1 =>
 (zB6 x1 y1 y2).bind fun r2 =>
 if !r2 then
 (zH s2.1 s2.2.1).bind fun _ =>
 some (.inl (List.set s2.1 (Int.toNat s2.2.1) x1, zR (s2.2.1 + 1), zR (s2.2.2 + 1)))
 else
 some (.inl (s2.1, s2.2.1, zR (s2.2.2 + 1)))
 else
 some (.inr (s2.1, s2.2.1))
def zAW (y0 : List zO) (y1 : Bool) (y2 : List (List zO)) : Option (List zO) :=
 (zBE y0 y1 y2).bind fun r1 =>
 if r1 == (-1) then
 some y0
 else
 (zW (zCj y0 y1 y2) (y0, r1, zR (r1 + 1)) : Option ((List zO) × Int)).bind fun s1 =>
 (yX (decide (0 ≤ s1.2) && decide (s1.2 ≤ len s1.1))).bind fun _ =>
 (sub (zBW s1.1 s1.2 (false, [])) 0 s1.2).bind fun x3 =>
 some x3
def zDw (y0 : zBP) (y1 : Int) (y2 : Bool) : Option ((List zO) × Int) :=
 (zDW y0 y1).bind fun r1 =>
 if r1.2 != 0 then
 some (([] : List zO), r1.2)
 else
 (zCE r1.1).bind fun r2 =>
 (zEp r2).bind fun r3 =>
 (zAW r3 y2 r1.1).bind fun r4 =>
 some (r4, 0)
def zB9 (y0 : zT) (y3 : List Int) (s2 : Int × (List vE)) : Option ((Int × (List vE)) ⊕ (List vE)) :=
 if decide (s2.1 < (len y0.1)) then
 (zH y0.1 s2.1).bind fun x1 =>
 (zBF y3 s2.1).bind fun r1 =>
 if !r1 then
 (wJ s2.2 ([x1] : List vE)).bind fun x2 =>
 some (.inl (zR (s2.1 + 1), x2))
 else
 some (.inl (zR (s2.1 + 1), s2.2))
 else
 some (.inr s2.2)
def zDE (y0 : zT) (y1 : wQ) (y2 : zO) (y3 : List Int) : Option Bool :=
 (zW (zB9 y0 y3) (0, ([] : List vE)) : Option (List vE)).bind fun s1 =>
 (zCq (s1, y0.2.1, y0.2.2) y1).bind fun r2 =>
 if r2.2 != 0 then
 some false
 else
 (zDw r2.1 1 true).bind fun r3 =>
 (
 if r3.2 == 0 then
 (zEQ r3.1 y2).bind fun r4 =>
 some r4
 else
 some false : Option Bool).bind fun s3 =>
 some s3
def zCx (y0 : List Int) (y1 : zT) (y2 : wQ) (y3 : zO) (y4 : Bool) : Option Bool :=
 (zDE y1 y2 y3 y0).bind fun r1 =>
 some (!(r1 == y4))
def zA0 (y0 : List Int) (y1 : List (List Int)) (y3 : zT) (y4 : wQ) (y5 : zO) (y6 : Bool) : Option (List (List Int)) :=
 (
 if decide (0 < (len y1)) then
 (zH y1 0).bind fun x1 =>
 if decide ((len x1) < (len y0)) then
 some true
 else
 (zCx y0 y3 y4 y5 y6).bind fun r1 =>
 some (!r1)
 else
 (zCx y0 y3 y4 y5 y6).bind fun r2 =>
 some (!r2) : Option Bool).bind fun s1 =>
 if s1 then
 some y1
 else
 (
 (
 if decide (0 < (len y1)) then
 (zH y1 0).bind fun x2 =>
 some (decide ((len y0) < (len x2)))
 else
 some false : Option Bool).bind fun s3 =>
 if s3 then
 some ([] : List (List Int))
 else
 some y1 : Option (List (List Int))).bind fun s2 =>
 (wJ s2 ([y0] : List (List Int))).bind fun x3 =>
 some x3
def zCW (y0 : List Int) (s1 : Int × (List (List Int))) (s3 : (List Int) × Int) : Option (((List Int) × Int) ⊕ (List Int)) :=
 if decide (s3.2 < (len y0)) then
 (zH y0 s3.2).bind fun x2 =>
 (zXc .i64 s1.1 s3.2).bind fun x3 =>
 if (vZ .i64 x3 1) == 1 then
 (wJ s3.1 ([x2] : List Int)).bind fun x4 =>
 some (.inl (x4, zR (s3.2 + 1)))
 else
 some (.inl (s3.1, zR (s3.2 + 1)))
 else
 some (.inr s3.1)
def zA6 (x1 : Int) (y0 : List Int) (y3 : zT) (y4 : wQ) (y5 : zO) (y6 : Bool) (s1 : Int × (List (List Int))) : Option ((Int × (List (List Int))) ⊕ (List (List Int))) :=
 if decide (s1.1 < x1) then
 (zW (zCW y0 s1) (([] : List Int), 0) : Option (List Int)).bind fun s2 =>
 (zA0 s2 s1.2 y3 y4 y5 y6).bind fun r1 =>
 some (.inl (zR (s1.1 + 1), r1))
 else
 some (.inr s1.2)
def zAi (y0 : List Int) (y1 : List (List Int)) (y3 : zT) (y4 : wQ) (y5 : zO) (y6 : Bool) : Option (List (List Int)) :=
 (zV1 .i64 1 (len y0)).bind fun x1 =>
 zW (zA6 x1 y0 y3 y4 y5 y6) (0, y1)
def zA1 (y0 : List Int) (y1 : List Int) (s2 : Int) : Option (Int ⊕ (Unit ⊕ Int)) :=
 if decide (s2 < (len y0)) then
 (zH y0 s2).bind fun x1 =>
 if decide ((len y1) ≤ s2) then
 some (.inr (.inr 1))
 else
 (zH y1 s2).bind fun x2 =>
 (zAR x1 x2).bind fun r1 =>
 if r1 != 0 then
 some (.inr (.inr r1))
 else
 some (.inl (zR (s2 + 1)))
 else
 some (.inr (.inl ()))
def zAH (y0 : List Int) (y1 : List Int) : Option Int :=
 wW (zW (zA1 y0 y1) 0 : Option (Unit ⊕ Int)) fun _ =>
 if decide ((len y0) < (len y1)) then
 some (-1)
 else
 some 0
def zCK (y0 : List Int) (y1 : List Int) : Option Int :=
 (zAH y0 y1).bind fun r1 =>
 some r1
def zAB (y0 : List (List Int)) : Option (List (List Int)) := zRg zCK y0
def zBM (y0 : List Int) (y1 : zT) (y2 : wQ) (y3 : zO) (y4 : Bool) : Option (List (List Int)) :=
 (zAi y0 ([] : List (List Int)) y1 y2 y3 y4).bind fun r1 =>
 (zAB r1).bind fun r2 =>
 some r2
def zCU (y0 : zT) (s2 : (List Int) × Int) : Option (((List Int) × Int) ⊕ (List Int)) :=
 if decide (s2.2 < (len y0.1)) then
 (wJ s2.1 ([s2.2] : List Int)).bind fun x1 =>
 some (.inl (x1, zR (s2.2 + 1)))
 else
 some (.inr s2.1)
def zBq (y0 : zT) (y1 : wQ) (y2 : zO) : Option ((List (List Int)) × Int) :=
 (zCq y0 y1).bind fun r1 =>
 if r1.2 != 0 then
 some (([] : List (List Int)), r1.2)
 else
 (zB8 y2).bind fun r2 =>
 if !r2 then
 some (([] : List (List Int)), 3)
 else
 if decide (10 < (len y0.1)) then
 some (([] : List (List Int)), 2)
 else
 (zW (zCU y0) (([] : List Int), 0) : Option (List Int)).bind fun s1 =>
 (zDE y0 y1 y2 ([] : List Int)).bind fun r3 =>
 (zBM s1 y0 y1 y2 r3).bind fun r4 =>
 if (len r4) == 0 then
 some (([] : List (List Int)), 9)
 else
 some (r4, 0)
def zPg (y0 : List Int) (y1 : List Int) (s1 : Int) : Option (Int ⊕ Bool) :=
 if decide (s1 < (len y0)) then
 (zH y0 s1).bind fun x1 =>
 (zH y1 s1).bind fun x2 =>
 if x1 != x2 then
 some (.inr false)
 else
 some (.inl (zR (s1 + 1)))
 else
 some (.inr true)
def zIz (y0 : List Int) (y1 : List Int) : Option Bool :=
 if (len y0) != (len y1) then
 some false
 else
 zW (zPg y0 y1) 0
def zDn (y0 : List (List Int)) (y1 : List (List Int)) (s1 : Int) : Option (Int ⊕ Bool) :=
 if decide (s1 < (len y0)) then
 (zH y0 s1).bind fun x1 =>
 (zH y1 s1).bind fun x2 =>
 (zIz x1 x2).bind fun r1 =>
 if !r1 then
 some (.inr false)
 else
 some (.inl (zR (s1 + 1)))
 else
 some (.inr true)
def zED (y0 : List (List Int)) (y1 : List (List Int)) : Option Bool :=
 if (len y0) != (len y1) then
 some false
 else
 zW (zDn y0 y1) 0
def zLh (y0 : List Int) : Option uC :=
 (sub y0 0 (if 2000 < (len y0) then 2000 else len y0)).bind fun x1 =>
 some (x1, 0)
def zIq (y0 : Int) (y1 : Int) : Option Int :=
 if decide (y1 < 1) then
 some 0
 else
 (remK y0 y1).bind fun x1 =>
 if decide (x1 < 0) then
 some (zR (x1 + y1))
 else
 some x1
def zDi (y0 : Int) : Option wZ :=
 (zIq y0 26).bind fun r1 =>
 (cat [114] (zOZ ([IntKind.u8.wrap (zR (97 + r1))] : List Int))).bind fun x1 =>
 some x1
def zIB (y0 : uC) : Option (Int × Int) :=
 if decide ((len y0.1) ≤ y0.2) then
 some (0, y0.2)
 else
 (zH y0.1 (zR ((zR (y0.2 + 1)) - 1))).bind fun x1 =>
 some (x1, zR (y0.2 + 1))
def xF (y0 : uC) (y1 : Int) : Option (Int × Int) :=
 (zIB y0).bind fun r1 =>
 (zIq r1.1 y1).bind fun r2 =>
 some (r2, r1.2)
def zAf (y0 : uC) (y1 : Int) : Option (zO × Int) :=
 (xF y0 (zR (2 * y1))).bind fun r1 =>
 (quoK .i64 r1.1 2).bind fun x1 =>
 some (((vZ .i64 r1.1 1) == 1, zOZ ([IntKind.u8.wrap (zR (97 + x1))] : List Int)), r1.2)
def zFH (y0 : uC) (y2 : Int) (s1 : (List zO) × Int × Int) : Option (((List zO) × Int × Int) ⊕ ((List zO) × Int)) :=
 if decide (0 < s1.2.1) then
 (zAf (y0.1, s1.2.2) y2).bind fun r2 =>
 (wJ s1.1 ([r2.1] : List zO)).bind fun x1 =>
 some (.inl (x1, zR (s1.2.1 - 1), r2.2))
 else
 some (.inr (s1.1, s1.2.2))
def zEY (y0 : uC) (y1 : Int) (y2 : Int) : Option ((List zO) × Int) :=
 (xF y0 (zR (y1 + 1))).bind fun r1 =>
 zW (zFH y0 y2) (([] : List zO), r1.1, r1.2)
def zHN (y0 : uC) (y1 : List Int) : Option (Int × Int) :=
 (xF y0 (len y1)).bind fun r1 =>
 (zH y1 r1.1).bind fun x1 =>
 some (x1, r1.2)
def zGw (y0 : uC) (y1 : List wZ) : Option (wZ × Int) :=
 (xF y0 (len y1)).bind fun r1 =>
 (zH y1 r1.1).bind fun x1 =>
 some (x1, r1.2)
def zE7 (s1 : (List zO) × Int) (x1 : zO) (s3 : Int) : Option (Int ⊕ Int) :=
 (
 if decide (s3 < (len s1.1)) then
 (zH s1.1 s3).bind fun x2 =>
 if yP x2.2 x1.2 then
 some true
 else
 (zH s1.1 s3).bind fun x3 =>
 if x3.2 == x1.2 then
 (zH s1.1 s3).bind fun x4 =>
 if !x4.1 then
 some x1.1
 else
 some false
 else
 some false
 else
 some false : Option Bool).bind fun s4 =>
 if s4 then
 some (.inl (zR (s3 + 1)))
 else
 some (.inr s3)
def zGY (y0 : List zO) (s1 : (List zO) × Int) : Option (((List zO) × Int) ⊕ (List zO)) :=
 if decide (s1.2 < (len y0)) then
 (zH y0 s1.2).bind fun x1 =>
 (zW (zE7 s1 x1) 0 : Option Int).bind fun s2 =>
 (
 if decide (s2 < (len s1.1)) then
 (zH s1.1 s2).bind fun x5 =>
 some (x5 == x1)
 else
 some false : Option Bool).bind fun s5 =>
 if s5 then
 some (.inl (s1.1, zR (s1.2 + 1)))
 else
 (wJ s1.1 ([(false, [])] : List zO)).bind fun x6 =>
 (yX (decide (0 ≤ (zR (s2 + 1))) && decide ((zR (s2 + 1)) ≤ len x6))).bind fun _ =>
 (yX (decide (0 ≤ s2) && decide (s2 ≤ len x6))).bind fun _ =>
 (zH (tX x6 (zR (s2 + 1)) (List.drop (Int.toNat s2) x6)) s2).bind fun _ =>
 some (.inl (List.set (tX x6 (zR (s2 + 1)) (List.drop (Int.toNat s2) x6)) (Int.toNat s2) x1, zR (s1.2 + 1)))
 else
 some (.inr s1.1)
def zIm (y0 : List zO) : Option (List zO) :=
 zW (zGY y0) (([] : List zO), 0)
def zDG (s2 : Int × Int × (List vE)) (r2 : zO × Int) (s5 : Bool × Int) : Option ((Bool × Int) ⊕ Bool) :=
 if decide (s5.2 < (len s2.2.2)) then
 (zH s2.2.2 s5.2).bind fun x1 =>
 some (.inl (s5.1 || (x1.1 == r2.1), zR (s5.2 + 1)))
 else
 some (.inr s5.1)
def zFM (y0 : uC) (y1 : Int) (s2 : Int × Int × (List vE)) : Option ((Int × Int × (List vE)) ⊕ (Int × (List vE))) :=
 if decide (0 < s2.1) then
 (zAf (y0.1, s2.2.1) y1).bind fun r2 =>
 (zHN (y0.1, r2.2) ([1, 2, 2, 2, 3] : List Int)).bind fun r3 =>
 (zGw (y0.1, r3.2) ([[], [], [97, 110, 110], [98, 111, 98]] : List wZ)).bind fun r4 =>
 (
 if r3.1 == 2 then
 (xF (y0.1, r4.2) 4).bind fun r5 =>
 some (r5.2, r5.1)
 else
 some (r4.2, 0) : Option (Int × Int)).bind fun s3 =>
 (zW (zDG s2 r2) (false, 0) : Option Bool).bind fun s4 =>
 if !s4 then
 (wJ s2.2.2 ([(r2.1, r3.1, s3.2, r4.1)] : List vE)).bind fun x2 =>
 some (.inl (zR (s2.1 - 1), s3.1, x2))
 else
 some (.inl (zR (s2.1 - 1), s3.1, s2.2.2))
 else
 some (.inr (s2.2.1, s2.2.2))
def zF2 (y0 : uC) (y1 : Int) (y3 : Int) (s7 : Int × Int × (List wD)) : Option ((Int × Int × (List wD)) ⊕ (Int × (List wD))) :=
 if decide (0 < s7.1) then
 (zDi (len s7.2.2)).bind fun r7 =>
 (xF (y0.1, s7.2.1) 3).bind fun r8 =>
 (zEY (y0.1, r8.2) 2 y1).bind fun r9 =>
 (zIm r9.1).bind fun r10 =>
 (zAf (y0.1, r9.2) y1).bind fun r11 =>
 (
 if !(r8.1 == 0) then
 (xF (y0.1, r11.2) 4).bind fun r12 =>
 some (r12.2, r12.1)
 else
 some (r11.2, 0) : Option (Int × Int)).bind fun s8 =>
 (
 (xF (y0.1, s8.1) 6).bind fun r13 =>
 if r13.1 == 5 then
 (xF (y0.1, r13.2) 4).bind fun r14 =>
 (xF (y0.1, r14.2) y3).bind fun r15 =>
 (zDi r15.1).bind fun r16 =>
 some (r15.2, decide (0 < r14.1), r16)
 else
 some (r13.2, r11.1.1, r11.1.2) : Option (Int × Bool × wZ)).bind fun s9 =>
 (wJ s7.2.2 ([(r7, r8.1 == 0, s8.2, r10, (s9.2.1, s9.2.2))] : List wD)).bind fun x3 =>
 some (.inl (zR (s7.1 - 1), s9.1, x3))
 else
 some (.inr (s7.2.1, s7.2.2))
def zFN (s6 : Int × (List wD)) (y0 : uC) (y1 : Int) (s11 : Int × Int × (List vQ)) : Option ((Int × Int × (List vQ)) ⊕ (Int × (List vQ))) :=
 if (decide (0 < s11.1)) && (decide (0 < (len s6.2))) then
 (
 (xF (y0.1, s11.2.1) (len s6.2)).bind fun r18 =>
 (zH s6.2 r18.1).bind fun x4 =>
 some (r18.2, x4) : Option (Int × wD)).bind fun s12 =>
 if !s12.2.2.1 then
 (xF (y0.1, s12.1) 10).bind fun r20 =>
 (zAf (y0.1, r20.2) y1).bind fun r21 =>
 (wJ s11.2.2 ([(s12.2.1, r20.1, r21.1)] : List vQ)).bind fun x6 =>
 some (.inl (zR (s11.1 - 1), r21.2, x6))
 else
 some (.inl (zR (s11.1 - 1), s12.1, s11.2.2))
 else
 some (.inr (s11.2.1, s11.2.2))
def zHC (y0 : uC) (y1 : Int) (y2 : Int) (y3 : Int) : Option (zT × Int) :=
 (
 (xF y0 (zR (y2 + 1))).bind fun r1 =>
 zW (zFM y0 y1) (r1.1, r1.2, ([] : List vE)) : Option (Int × (List vE))).bind fun s1 =>
 (
 (xF (y0.1, s1.1) (zR (y3 + 1))).bind fun r6 =>
 zW (zF2 y0 y1 y3) (r6.1, r6.2, ([] : List wD)) : Option (Int × (List wD))).bind fun s6 =>
 (
 (xF (y0.1, s6.1) 3).bind fun r17 =>
 zW (zFN s6 y0 y1) (r17.1, r17.2, ([] : List vQ)) : Option (Int × (List vQ))).bind fun s10 =>
 some ((s1.2, s6.2, s10.2), s10.1)
def zBs (y0 : uC) (y1 : Int) (y2 : Int) : Option (Int × Int) :=
 (xF y0 (zR ((zR (y2 - y1)) + 1))).bind fun r1 =>
 some (zR (y1 + r1.1), r1.2)
def zLY (s1 : Int × (List Int)) : Option ((Int × (List Int)) ⊕ (List Int)) :=
 if s1.1 != 0 then
 (zAk s1.1).bind fun r1 =>
 (wJ s1.2 ([r1] : List Int)).bind fun x1 =>
 some (.inl (vZ .u64 s1.1 (IntKind.u64.wrap (s1.1 - 1)), x1))
 else
 some (.inr s1.2)
def zAe (y0 : Int) : Option (List Int) :=
 zW (zLY) (y0, ([] : List Int))
def zJQ (r1 : (List Int)) (y0 : yG) (s1 : Int × Int) : Option ((Int × Int) ⊕ Int) :=
 if decide (s1.2 < (len r1)) then
 (zH r1 s1.2).bind fun x1 =>
 (zH y0.2.1 x1).bind fun x2 =>
 some (.inl (bor .u64 s1.1 x2, zR (s1.2 + 1)))
 else
 some (.inr s1.1)
def zCD (y0 : yG) (y1 : Int) : Option Int :=
 (zAe y1).bind fun r1 =>
 zW (zJQ r1 y0) (0, 0)
def zMF (r1 : (List Int)) (y0 : yG) (s1 : Int × Int) : Option ((Int × Int) ⊕ Int) :=
 if decide (s1.2 < (len r1)) then
 (zH r1 s1.2).bind fun x1 =>
 (zH y0.2.2 x1).bind fun x2 =>
 some (.inl (bor .u64 s1.1 x2, zR (s1.2 + 1)))
 else
 some (.inr s1.1)
def zB5 (y0 : yG) (y1 : Int) : Option Int :=
 (zAe y1).bind fun r1 =>
 zW (zMF r1 y0) (0, 0)
def zDD (y0 : yG) (y1 : Int) : Option Bool :=
 (zB5 y0 y1).bind fun r1 =>
 some ((vZ .u64 r1 y1) == 0)
def zBH (y0 : yG) (y1 : Int) : Option Bool :=
 (
 (zDD y0 y1).bind fun r1 =>
 if r1 then
 (zCD y0 y1).bind fun r2 =>
 (zB5 y0 y1).bind fun r3 =>
 some ((zGN .u64 r2 r3) == 0)
 else
 some false : Option Bool).bind fun s1 =>
 some s1
def zBi (y0 : Int) (y1 : Int) : Option Int :=
 (zV1 .u64 1 (IntKind.u64.wrap (y1))).bind fun x1 =>
 some (bor .u64 y0 x1)
def zOd (y0 : List Int) (s1 : Int × Int) : Option ((Int × Int) ⊕ Int) :=
 if decide (s1.2 < (len y0)) then
 (zH y0 s1.2).bind fun x1 =>
 (zBi s1.1 x1).bind fun r1 =>
 some (.inl (r1, zR (s1.2 + 1)))
 else
 some (.inr s1.1)
def zIU (y0 : List Int) : Option Int :=
 zW (zOd y0) (0, 0)
def zDj (y0 : Int) (y1 : Int) : Option Bool :=
 (zXc .u64 y0 (IntKind.u64.wrap (y1))).bind fun x1 =>
 some ((vZ .u64 x1 1) == 1)
def zDX (y0 : List Int) (y1 : Int) (y2 : yG) (y3 : List Int) : Option (List Int) :=
 (zIU y0).bind fun r1 =>
 (
 (zDj r1 y1).bind fun r2 =>
 if r2 then
 (zBH y2 r1).bind fun r3 =>
 some r3
 else
 some false : Option Bool).bind fun s1 =>
 if s1 then
 (wJ y3 ([r1] : List Int)).bind fun x1 =>
 some x1
 else
 some y3
def zGS (y0 : List Int) (s1 : Int × (List Int)) (s3 : (List Int) × Int) : Option (((List Int) × Int) ⊕ (List Int)) :=
 if decide (s3.2 < (len y0)) then
 (zH y0 s3.2).bind fun x2 =>
 (zXc .i64 s1.1 s3.2).bind fun x3 =>
 if (vZ .i64 x3 1) == 1 then
 (wJ s3.1 ([x2] : List Int)).bind fun x4 =>
 some (.inl (x4, zR (s3.2 + 1)))
 else
 some (.inl (s3.1, zR (s3.2 + 1)))
 else
 some (.inr s3.1)
def zAw (x1 : Int) (y0 : List Int) (y1 : Int) (y2 : yG) (s1 : Int × (List Int)) : Option ((Int × (List Int)) ⊕ (List Int)) :=
 if decide (s1.1 < x1) then
 (zW (zGS y0 s1) (([] : List Int), 0) : Option (List Int)).bind fun s2 =>
 (zDX s2 y1 y2 s1.2).bind fun r1 =>
 some (.inl (zR (s1.1 + 1), r1))
 else
 some (.inr s1.2)
def zAd (y0 : List Int) (y1 : Int) (y2 : yG) (y3 : List Int) : Option (List Int) :=
 (zV1 .i64 1 (len y0)).bind fun x1 =>
 zW (zAw x1 y0 y1 y2) (0, y3)
def zOQ (y0 : wO) (s3 : Int × Int) : Option ((Int × Int) ⊕ Int) :=
 if decide (s3.1 < y0.1) then
 (zBi s3.2 s3.1).bind fun r1 =>
 some (.inl (zR (s3.1 + 1), r1))
 else
 some (.inr s3.2)
def zOT (y0 : wO) (s5 : Int × (List Int) × (List Int)) : Option ((Int × (List Int) × (List Int)) ⊕ ((List Int) × (List Int))) :=
 if decide (s5.1 < (len y0.2)) then
 (zH y0.2 s5.1).bind fun x11 =>
 (zH s5.2.1 x11.2).bind fun x12 =>
 (zBi x12 x11.1).bind fun r2 =>
 (zH s5.2.1 x11.2).bind fun _ =>
 (zH s5.2.2 x11.1).bind fun x14 =>
 (zBi x14 x11.2).bind fun r3 =>
 (zH s5.2.2 x11.1).bind fun _ =>
 some (.inl (zR (s5.1 + 1), List.set s5.2.1 (Int.toNat x11.2) r2, List.set s5.2.2 (Int.toNat x11.1) r3))
 else
 some (.inr (s5.2.1, s5.2.2))
def zHD (y0 : wO) : Option yG :=
 (
 (mkS y0.1 y0.1 (0 : Int)).bind fun x1 =>
 (mkS y0.1 y0.1 (0 : Int)).bind fun x2 =>
 some (0, x1, x2) : Option yG).bind fun s1 =>
 (zW (zOQ y0) (0, s1.1) : Option Int).bind fun s2 =>
 (zW (zOT y0) (0, s1.2.1, s1.2.2) : Option ((List Int) × (List Int))).bind fun s4 =>
 some (s2, s4.1, s4.2)
def zIa (y0 : Int) (y1 : Int) : Option Bool :=
 some ((y0 != y1) && ((zGN .u64 y0 y1) == 0))
def zDb (y0 : List Int) (y1 : Int) (s1 : Int) : Option (Int ⊕ Int) :=
 if decide (s1 < (len y0)) then
 (zH y0 s1).bind fun x1 =>
 (zIa x1 y1).bind fun r1 =>
 if r1 then
 some (.inr s1)
 else
 some (.inl (zR (s1 + 1)))
 else
 some (.inr (-1))
def zAN (y0 : List Int) (y1 : Int) : Option Int :=
 zW (zDb y0 y1) 0
def zAG (y0 : List Int) (y1 : Int) : Option Bool :=
 (zAN y0 y1).bind fun r1 =>
 some (decide (0 ≤ r1))
def zD3 (y0 : List Int) (y1 : List Int) : Option Int :=
 (zAH y0 y1).bind fun r1 =>
 some r1
def zAO (y0 : List (List Int)) : Option (List (List Int)) := zRg zD3 y0
def zF8 (r4 : (List Int)) (s2 : (List (List Int)) × Int) : Option (((List (List Int)) × Int) ⊕ (List (List Int))) :=
 if decide (s2.2 < (len r4)) then
 (zH r4 s2.2).bind fun x1 =>
 (zAG r4 x1).bind fun r5 =>
 if !r5 then
 (zAe x1).bind fun r6 =>
 (wJ s2.1 ([r6] : List (List Int))).bind fun x2 =>
 some (.inl (x2, zR (s2.2 + 1)))
 else
 some (.inl (s2.1, zR (s2.2 + 1)))
 else
 some (.inr s2.1)
def zFZ (y0 : wO) (y1 : Int) : Option ((List (List Int)) × Int) :=
 (zAS y0).bind fun r1 =>
 if r1 != 0 then
 some (([] : List (List Int)), r1)
 else
 if (decide (y1 < 0)) || (decide (y0.1 ≤ y1)) then
 some (([] : List (List Int)), 1)
 else
 if decide (10 < y0.1) then
 some (([] : List (List Int)), 2)
 else
 (zHD y0).bind fun r2 =>
 (zAe r2.1).bind fun r3 =>
 (zAd r3 y1 r2 ([] : List Int)).bind fun r4 =>
 (zW (zF8 r4) (([] : List (List Int)), 0) : Option (List (List Int))).bind fun s1 =>
 (zAO s1).bind fun r7 =>
 some (r7, 0)
def zJf (r2 : (List Int)) (y0 : yG) (r1 : Int) (s3 : Int × Int) : Option ((Int × Int) ⊕ Int) :=
 if decide (s3.2 < (len r2)) then
 (zH r2 s3.2).bind fun x1 =>
 (zH y0.2.1 x1).bind fun x2 =>
 if (zGN .u64 x2 r1) == 0 then
 (zBi s3.1 x1).bind fun r3 =>
 some (.inl (r3, zR (s3.2 + 1)))
 else
 some (.inl (s3.1, zR (s3.2 + 1)))
 else
 some (.inr s3.1)
def zDM (y0 : yG) (s1 : (List Int) × Int) : Option (((List Int) × Int) ⊕ (List Int)) :=
 (zB5 y0 s1.2).bind fun r1 =>
 (
 (zAe y0.1).bind fun r2 =>
 zW (zJf r2 y0 r1) (s1.2, 0) : Option Int).bind fun s2 =>
 if s2 == s1.2 then
 some (.inr s1.1)
 else
 (wJ s1.1 ([s2] : List Int)).bind fun x3 =>
 some (.inl (x3, s2))
def zC7 (y0 : yG) : Option (List Int) :=
 zW (zDM y0) (([] : List Int), 0)
def zGZ (y0 : yG) : Option Int :=
 (zC7 y0).bind fun r1 =>
 if (len r1) == 0 then
 some 0
 else
 (zH r1 (zR ((len r1) - 1))).bind fun x1 =>
 some x1
def zBw (y0 : yG) (y1 : Int) : Option Bool :=
 (
 (zDD y0 y1).bind fun r1 =>
 if r1 then
 (zB5 y0 y1).bind fun r2 =>
 some ((zGN .u64 (zGN .u64 y0.1 y1) r2) == 0)
 else
 some false : Option Bool).bind fun s1 =>
 some s1
def zC4 (y0 : Int) (y1 : Int) (y2 : yG) (y3 : Int) (y4 : Bool) (y5 : Bool) : Option (Bool × Bool) :=
 (
 if y1 == 1 then
 (zBH y2 y0).bind fun r1 =>
 if r1 then
 some true
 else
 if y1 != 1 then
 (zBw y2 y0).bind fun r2 =>
 some r2
 else
 some false
 else
 if y1 != 1 then
 (zBw y2 y0).bind fun r3 =>
 some r3
 else
 some false : Option Bool).bind fun s1 =>
 (
 if s1 then
 (zDj y0 y3).bind fun r4 =>
 some (!(r4 == y4))
 else
 some false : Option Bool).bind fun s2 =>
 if s2 then
 some (false, !y4)
 else
 some (true, y5)
def zA9 (y1 : Int) (y2 : yG) (y3 : Int) (y4 : Bool) (y0 : Int) (s1 : Int × Bool) : Option ((Int × Bool) ⊕ Bool) :=
 (
 (zC4 s1.1 y1 y2 y3 y4 s1.2).bind fun r1 =>
 if !r1.1 then
 some (true, r1.2)
 else
 some (s1.1 == 0, r1.2) : Option (Bool × Bool)).bind fun s2 =>
 if s2.1 then
 some (.inr s2.2)
 else
 some (.inl (vZ .u64 (IntKind.u64.wrap (s1.1 - 1)) y0, s2.2))
def zAU (y0 : Int) (y1 : Int) (y2 : yG) (y3 : Int) (y4 : Bool) (y5 : Bool) : Option Bool :=
 zW (zA9 y1 y2 y3 y4 y0) (y0, y5)
def zBv (y0 : yG) (y1 : Int) (y2 : Int) : Option Bool :=
 if y1 == 4 then
 (zGZ y0).bind fun r1 =>
 (zDj r1 y2).bind fun r2 =>
 some r2
 else
 (zAU y0.1 y1 y0 y2 (y1 == 3) (y1 == 3)).bind fun r3 =>
 some r3
def zKR (y0 : yG) (s1 : yG) (y1 : Int) (s3 : Int × (List Int) × (List Int)) : Option ((Int × (List Int) × (List Int)) ⊕ ((List Int) × (List Int))) :=
 if decide (s3.1 < (len y0.2.1)) then
 (zDj s1.1 s3.1).bind fun r1 =>
 if r1 then
 (zH y0.2.1 s3.1).bind fun x11 =>
 (zH y0.2.2 s3.1).bind fun x12 =>
 (zH s3.2.1 s3.1).bind fun _ =>
 (zH s3.2.2 s3.1).bind fun _ =>
 some (.inl (zR (s3.1 + 1), List.set s3.2.1 (Int.toNat s3.1) (vZ .u64 x11 y1), List.set s3.2.2 (Int.toNat s3.1) (vZ .u64 x12 y1)))
 else
 some (.inl (zR (s3.1 + 1), s3.2.1, s3.2.2))
 else
 some (.inr (s3.2.1, s3.2.2))
def zD0 (y0 : yG) (y1 : Int) : Option yG :=
 (
 (mkS (len y0.2.1) (len y0.2.1) (0 : Int)).bind fun x1 =>
 (mkS (len y0.2.1) (len y0.2.1) (0 : Int)).bind fun x2 =>
 some (vZ .u64 y0.1 y1, x1, x2) : Option yG).bind fun s1 =>
 (zW (zKR y0 s1 y1) (0, s1.2.1, s1.2.2) : Option ((List Int) × (List Int))).bind fun s2 =>
 some (s1.1, s2.1, s2.2)
def zBy (y0 : List Int) (y1 : yG) (y2 : Int) (y3 : Int) (y4 : Bool) : Option Bool :=
 (zIU y0).bind fun r1 =>
 (zD0 y1 (zGN .u64 y1.1 r1)).bind fun r2 =>
 (zBv r2 y2 y3).bind fun r3 =>
 some (!(r3 == y4))
def zAX (y0 : List Int) (y1 : List (List Int)) (y3 : yG) (y4 : Int) (y5 : Int) (y6 : Bool) : Option (List (List Int)) :=
 (
 if decide (0 < (len y1)) then
 (zH y1 0).bind fun x1 =>
 if decide ((len x1) < (len y0)) then
 some true
 else
 (zBy y0 y3 y4 y5 y6).bind fun r1 =>
 some (!r1)
 else
 (zBy y0 y3 y4 y5 y6).bind fun r2 =>
 some (!r2) : Option Bool).bind fun s1 =>
 if s1 then
 some y1
 else
 (
 (
 if decide (0 < (len y1)) then
 (zH y1 0).bind fun x2 =>
 some (decide ((len y0) < (len x2)))
 else
 some false : Option Bool).bind fun s3 =>
 if s3 then
 some ([] : List (List Int))
 else
 some y1 : Option (List (List Int))).bind fun s2 =>
 (wJ s2 ([y0] : List (List Int))).bind fun x3 =>
 some x3
def zH0 (y0 : List Int) (s1 : Int × (List (List Int))) (s3 : (List Int) × Int) : Option (((List Int) × Int) ⊕ (List Int)) :=
 if decide (s3.2 < (len y0)) then
 (zH y0 s3.2).bind fun x2 =>
 (zXc .i64 s1.1 s3.2).bind fun x3 =>
 if (vZ .i64 x3 1) == 1 then
 (wJ s3.1 ([x2] : List Int)).bind fun x4 =>
 some (.inl (x4, zR (s3.2 + 1)))
 else
 some (.inl (s3.1, zR (s3.2 + 1)))
 else
 some (.inr s3.1)
def zBJ (x1 : Int) (y0 : List Int) (y3 : yG) (y4 : Int) (y5 : Int) (y6 : Bool) (s1 : Int × (List (List Int))) : Option ((Int × (List (List Int))) ⊕ (List (List Int))) :=
 if decide (s1.1 < x1) then
 (zW (zH0 y0 s1) (([] : List Int), 0) : Option (List Int)).bind fun s2 =>
 (zAX s2 s1.2 y3 y4 y5 y6).bind fun r1 =>
 some (.inl (zR (s1.1 + 1), r1))
 else
 some (.inr s1.2)
def zAu (y0 : List Int) (y1 : List (List Int)) (y3 : yG) (y4 : Int) (y5 : Int) (y6 : Bool) : Option (List (List Int)) :=
 (zV1 .i64 1 (len y0)).bind fun x1 =>
 zW (zBJ x1 y0 y3 y4 y5 y6) (0, y1)
def zA3 (y0 : List Int) (y1 : yG) (y2 : Int) (y3 : Int) (y4 : Bool) : Option (List (List Int)) :=
 (zAu y0 ([] : List (List Int)) y1 y2 y3 y4).bind fun r1 =>
 (zAB r1).bind fun r2 =>
 some r2
def zJ9 (y0 : Int) : Option Bool :=
 some ((decide (1 ≤ y0)) && (decide (y0 ≤ 4)))
def zGK (y0 : Int) (y1 : Int) : Option Bool :=
 some (y0 == y1)
def zDo (y0 : List Int) (y1 : Int) (s1 : Int) : Option (Int ⊕ Int) :=
 if decide (s1 < (len y0)) then
 (zH y0 s1).bind fun x1 =>
 (zGK x1 y1).bind fun r1 =>
 if r1 then
 some (.inr s1)
 else
 some (.inl (zR (s1 + 1)))
 else
 some (.inr (-1))
def zAL (y0 : List Int) (y1 : Int) : Option Int :=
 zW (zDo y0 y1) 0
def zDT (y0 : List Int) (y1 : Int) (s2 : (List Int) × Int × Int) : Option (((List Int) × Int × Int) ⊕ ((List Int) × Int)) :=
 if decide (s2.2.2 < (len y0)) then
 (zH s2.1 s2.2.2).bind fun x1 =>
 (zGK x1 y1).bind fun r2 =>
 if !r2 then
 (zH s2.1 s2.2.1).bind fun _ =>
 some (.inl (List.set s2.1 (Int.toNat s2.2.1) x1, zR (s2.2.1 + 1), zR (s2.2.2 + 1)))
 else
 some (.inl (s2.1, s2.2.1, zR (s2.2.2 + 1)))
 else
 some (.inr (s2.1, s2.2.1))
def zAJ (y0 : List Int) (y1 : Int) : Option (List Int) :=
 (zAL y0 y1).bind fun r1 =>
 if r1 == (-1) then
 some y0
 else
 (zW (zDT y0 y1) (y0, r1, zR (r1 + 1)) : Option ((List Int) × Int)).bind fun s1 =>
 (yX (decide (0 ≤ s1.2) && decide (s1.2 ≤ len s1.1))).bind fun _ =>
 (sub (zBW s1.1 s1.2 0) 0 s1.2).bind fun x3 =>
 some x3
def zFX (y0 : wO) (y1 : Int) (y2 : Int) : Option ((List (List Int)) × Int) :=
 (zAS y0).bind fun r1 =>
 if r1 != 0 then
 some (([] : List (List Int)), r1)
 else
 (zJ9 y1).bind fun r2 =>
 if !r2 then
 some (([] : List (List Int)), 4)
 else
 if (decide (y2 < 0)) || (decide (y0.1 ≤ y2)) then
 some (([] : List (List Int)), 1)
 else
 if decide (10 < y0.1) then
 some (([] : List (List Int)), 2)
 else
 (zHD y0).bind fun r3 =>
 (zBv r3 y1 y2).bind fun r4 =>
 (zAe r3.1).bind fun r5 =>
 (zAJ r5 y2).bind fun r6 =>
 (zA3 r6 r3 y1 y2 r4).bind fun r7 =>
 if (len r7) == 0 then
 some (([] : List (List Int)), 9)
 else
 some (r7, 0)
def zEW : Option Bool :=
 (zFX (2, ([(0, 1)] : List wI)) 4 1).bind fun r1 =>
 (zFZ (3, ([(0, 1), (1, 2)] : List wI)) 2).bind fun r2 =>
 (
 if r1.2 == 0 then
 if r2.2 == 0 then
 (zED r1.1 ([([0] : List Int)] : List (List Int))).bind fun r3 =>
 if r3 then
 (zED r2.1 ([([0, 2] : List Int)] : List (List Int))).bind fun r4 =>
 some r4
 else
 some false
 else
 some false
 else
 some false : Option Bool).bind fun s1 =>
 some s1
def zD7 (y0 : wZ) (s2 : Int) : Option (Int ⊕ Bool) :=
 if decide (s2 < (len y0)) then
 (
 (zRN y0 s2).bind fun x3 =>
 if decide (x3 < 97) then
 (zRN y0 s2).bind fun x4 =>
 if decide (x4 < 48) then
 (zRN y0 s2).bind fun x5 =>
 some (x5 != 95)
 else
 (zRN y0 s2).bind fun x6 =>
 if decide (57 < x6) then
 (zRN y0 s2).bind fun x7 =>
 some (x7 != 95)
 else
 some false
 else
 (zRN y0 s2).bind fun x8 =>
 if decide (122 < x8) then
 (zRN y0 s2).bind fun x9 =>
 if decide (x9 < 48) then
 (zRN y0 s2).bind fun x10 =>
 some (x10 != 95)
 else
 (zRN y0 s2).bind fun x11 =>
 if decide (57 < x11) then
 (zRN y0 s2).bind fun x12 =>
 some (x12 != 95)
 else
 some false
 else
 some false : Option Bool).bind fun s3 =>
 if s3 then
 some (.inr false)
 else
 some (.inl (zR (s2 + 1)))
 else
 some (.inr true)
def zBZ (y0 : wZ) : Option Bool :=
 (
 if decide ((len y0) < 1) then
 some true
 else
 if decide (12 < (len y0)) then
 some true
 else
 (zRN y0 0).bind fun x1 =>
 if decide (x1 < 97) then
 some true
 else
 (zRN y0 0).bind fun x2 =>
 some (decide (122 < x2)) : Option Bool).bind fun s1 =>
 if s1 then
 some false
 else
 zW (zD7 y0) 0
def zCC (y0 : zO) : Option Bool :=
 (zBZ y0.2).bind fun r1 =>
 some r1
def zHv (y0 : List zO) (y1 : zO) (s1 : Int) : Option (Int ⊕ Bool) :=
 if decide (s1 < (len y0)) then
 (zH y0 s1).bind fun x1 =>
 if x1 == y1 then
 some (.inr true)
 else
 some (.inl (zR (s1 + 1)))
 else
 some (.inr false)
def zKO (y0 : List zO) (y1 : zO) : Option Bool :=
 zW (zHv y0 y1) 0
def zH5 (y0 : zT) (s3 : Int × (List wD)) : Option ((Int × (List wD)) ⊕ (List wD)) :=
 if decide (s3.1 < (len y0.2.1)) then
 (zH y0.2.1 s3.1).bind fun x27 =>
 (wJ ([] : List zO) x27.2.2.2.1).bind fun x28 =>
 (wJ s3.2 ([(x27.1, x27.2.1, x27.2.2.1, x28, x27.2.2.2.2)] : List wD)).bind fun x29 =>
 some (.inl (zR (s3.1 + 1), x29))
 else
 some (.inr s3.2)
def zJT (y0 : zT) : Option zT :=
 (
 (wJ ([] : List vE) y0.1).bind fun x1 =>
 (wJ ([] : List vQ) y0.2.2).bind fun x2 =>
 some (x1, ([] : List wD), x2) : Option zT).bind fun s1 =>
 (zW (zH5 y0) (0, s1.2.1) : Option (List wD)).bind fun s2 =>
 some (s1.1, s2, s1.2.2)
def zHO (y0 : zT) (s2 : Int × (List wD)) (y1 : List zO) (s3 : Int × (List wD)) : Option ((Int × (List wD)) ⊕ ((Int × (List wD)) ⊕ (List wD))) :=
 if decide (s3.1 < (len y0.2.2)) then
 (zH y0.2.2 s3.1).bind fun x1 =>
 (
 (zH s3.2 s2.1).bind fun x2 =>
 if x1.1 == x2.1 then
 (zH s3.2 s2.1).bind fun x3 =>
 if !x3.2.1 then
 (zKO y1 x1.2.2).bind fun r2 =>
 some r2
 else
 some false
 else
 some false : Option Bool).bind fun s4 =>
 if s4 then
 (zH s3.2 s2.1).bind fun x4 =>
 some (.inl (zR (s3.1 + 1), List.set s3.2 (Int.toNat s2.1) (x4.1, x4.2.1, x1.2.1, x4.2.2.2.1, x4.2.2.2.2)))
 else
 some (.inl (zR (s3.1 + 1), s3.2))
 else
 some (.inr (.inl (zR (s2.1 + 1), s3.2)))
def zFO (y0 : zT) (y1 : List zO) (s2 : Int × (List wD)) : Option ((Int × (List wD)) ⊕ (List wD)) :=
 if decide (s2.1 < (len s2.2)) then
 zW (zHO y0 s2 y1) (0, s2.2)
 else
 some (.inr s2.2)
def zHY (y0 : zT) (y1 : List zO) : Option zT :=
 (zJT y0).bind fun r1 =>
 (zW (zFO y0 y1) (0, r1.2.1) : Option (List wD)).bind fun s1 =>
 some (r1.1, s1, r1.2.2)
def zHU (y0 : zT) (y1 : wZ) (s1 : Int) : Option (Int ⊕ Int) :=
 if decide (s1 < (len y0.2.1)) then
 (zH y0.2.1 s1).bind fun x1 =>
 if x1.1 == y1 then
 some (.inr s1)
 else
 some (.inl (zR (s1 + 1)))
 else
 some (.inr (-1))
def zJd (y0 : zT) (y1 : wZ) : Option Int :=
 zW (zHU y0 y1) 0
def zF3 (y0 : zT) (y1 : zO) (s1 : Int) : Option (Int ⊕ Int) :=
 if decide (s1 < (len y0.1)) then
 (zH y0.1 s1).bind fun x1 =>
 if x1.1 == y1 then
 some (.inr s1)
 else
 some (.inl (zR (s1 + 1)))
 else
 some (.inr (-1))
def zJG (y0 : zT) (y1 : zO) : Option Int :=
 zW (zF3 y0 y1) 0
def zFb (y0 : Int) : Option Bool :=
 some ((decide (0 ≤ y0)) && (decide (y0 ≤ 9)))
def zHR (y0 : vE) : Option Int :=
 if (decide (y0.2.1 < 1)) || (decide (3 < y0.2.1)) then
 some 4
 else
 (
 (zCC y0.1).bind fun r1 =>
 if !r1 then
 some true
 else
 (zFb y0.2.2.1).bind fun r2 =>
 if !r2 then
 some true
 else
 if y0.2.1 != 2 then
 if y0.2.2.1 != 0 then
 some true
 else
 if !(y0.2.2.2 == []) then
 (zBZ y0.2.2.2).bind fun r3 =>
 some (!r3)
 else
 some false
 else
 if !(y0.2.2.2 == []) then
 (zBZ y0.2.2.2).bind fun r4 =>
 some (!r4)
 else
 some false : Option Bool).bind fun s1 =>
 if s1 then
 some 1
 else
 some 0
def zF5 (y0 : zO) (y1 : zO) : Option Int :=
 if y0 == y1 then
 some 0
 else
 if (yP y0.2 y1.2) || ((y0.2 == y1.2) && y1.1) then
 some (-1)
 else
 some 1
def zHP (y0 : wD) (s3 : Bool × Int) : Option ((Bool × Int) ⊕ Bool) :=
 if decide (s3.2 < (len y0.2.2.2.1)) then
 (
 if s3.1 then
 (zH y0.2.2.2.1 s3.2).bind fun x1 =>
 (zCC x1).bind fun r5 =>
 some r5
 else
 some false : Option Bool).bind fun s4 =>
 some (.inl (s4, zR (s3.2 + 1)))
 else
 some (.inr s3.1)
def zGs (y0 : wD) (s5 : Int) : Option (Int ⊕ Int) :=
 if decide (s5 < (len y0.2.2.2.1)) then
 (zH y0.2.2.2.1 (zR (s5 - 1))).bind fun x2 =>
 (zH y0.2.2.2.1 s5).bind fun x3 =>
 (zF5 x2 x3).bind fun r6 =>
 if decide (0 ≤ r6) then
 some (.inr 8)
 else
 some (.inl (zR (s5 + 1)))
 else
 some (.inr 0)
def zJ5 (y0 : wD) : Option Int :=
 if decide (4 < (len y0.2.2.2.1)) then
 some 2
 else
 (
 (zBZ y0.1).bind fun r1 =>
 if r1 then
 (zFb y0.2.2.1).bind fun r2 =>
 if r2 then
 if !y0.2.1 then
 (zCC y0.2.2.2.2).bind fun r3 =>
 some r3
 else
 if y0.2.2.1 == 0 then
 (zCC y0.2.2.2.2).bind fun r4 =>
 some r4
 else
 some false
 else
 some false
 else
 some false : Option Bool).bind fun s1 =>
 (zW (zHP y0) (s1, 0) : Option Bool).bind fun s2 =>
 if !s2 then
 some 1
 else
 zW (zGs y0) 1
def zET (y0 : zT) (s2 : Int) : Option (Int ⊕ (Unit ⊕ Int)) :=
 if decide (s2 < (len y0.1)) then
 (zH y0.1 s2).bind fun x1 =>
 (zHR x1).bind fun r1 =>
 if r1 != 0 then
 some (.inr (.inr r1))
 else
 (zH y0.1 s2).bind fun x2 =>
 (zJG y0 x2.1).bind fun r2 =>
 if decide (r2 < s2) then
 some (.inr (.inr 5))
 else
 some (.inl (zR (s2 + 1)))
 else
 some (.inr (.inl ()))
def zEJ (y0 : zT) (s4 : Int) : Option (Int ⊕ (Unit ⊕ Int)) :=
 if decide (s4 < (len y0.2.1)) then
 (zH y0.2.1 s4).bind fun x3 =>
 (zJ5 x3).bind fun r3 =>
 if r3 != 0 then
 some (.inr (.inr r3))
 else
 (zH y0.2.1 s4).bind fun x4 =>
 (zJd y0 x4.1).bind fun r4 =>
 if decide (r4 < s4) then
 some (.inr (.inr 5))
 else
 some (.inl (zR (s4 + 1)))
 else
 some (.inr (.inl ()))
def zEF (y0 : zT) (s5 : Int) : Option (Int ⊕ Int) :=
 if decide (s5 < (len y0.2.2)) then
 (zH y0.2.2 s5).bind fun x5 =>
 (
 (zFb x5.2.1).bind fun r5 =>
 if !r5 then
 some true
 else
 (zCC x5.2.2).bind fun r6 =>
 some (!r6) : Option Bool).bind fun s6 =>
 if s6 then
 some (.inr 1)
 else
 (zJd y0 x5.1).bind fun r7 =>
 if decide (r7 < 0) then
 some (.inr 6)
 else
 (zH y0.2.1 r7).bind fun x6 =>
 if x6.2.1 then
 some (.inr 4)
 else
 some (.inl (zR (s5 + 1)))
 else
 some (.inr 0)
def zEo (y0 : zT) : Option Int :=
 if (decide (16 < (len y0.1))) || ((decide (24 < (len y0.2.1))) || (decide (8 < (len y0.2.2)))) then
 some 2
 else
 wW (zW (zET y0) 0 : Option (Unit ⊕ Int)) fun _ =>
 wW (zW (zEJ y0) 0 : Option (Unit ⊕ Int)) fun _ =>
 zW (zEF y0) 0
def zDp (y0 : List Int) (y1 : Int) (s2 : Int) : Option (Int ⊕ Int) :=
 (
 if decide (s2 < (len y0)) then
 (zH y0 s2).bind fun x1 =>
 some (decide (x1 < y1))
 else
 some false : Option Bool).bind fun s3 =>
 if s3 then
 some (.inl (zR (s2 + 1)))
 else
 some (.inr s2)
def zFE (y0 : List Int) (y1 : Int) : Option (List Int) :=
 (zW (zDp y0 y1) 0 : Option Int).bind fun s1 =>
 (
 if decide (s1 < (len y0)) then
 (zH y0 s1).bind fun x2 =>
 some (x2 == y1)
 else
 some false : Option Bool).bind fun s4 =>
 if s4 then
 some y0
 else
 (sub y0 0 s1).bind fun x3 =>
 (wJ ([] : List Int) x3).bind fun x4 =>
 (sub y0 s1 (len y0)).bind fun x5 =>
 (wJ x4 ([y1] : List Int)).bind fun x6 =>
 (wJ x6 x5).bind fun x7 =>
 some x7
def zGX (y1 : List Int) (s1 : (List Int) × Int) : Option (((List Int) × Int) ⊕ (List Int)) :=
 if decide (s1.2 < (len y1)) then
 (zH y1 s1.2).bind fun x1 =>
 (zFE s1.1 x1).bind fun r1 =>
 some (.inl (r1, zR (s1.2 + 1)))
 else
 some (.inr s1.1)
def zIk (y0 : List Int) (y1 : List Int) : Option (List Int) :=
 zW (zGX y1) (y0, 0)
def zGv (y0 : List zP) (y1 : Int) (rec_ref07_Subs : (List zP) → Int → Option (List Int)) (s1 : (List Int) × Int) : Option (((List Int) × Int) ⊕ (List Int)) :=
 (zH y0 y1).bind fun x1 =>
 if decide (s1.2 < (len x1.2.2.1)) then
 (zH y0 y1).bind fun x2 =>
 (zH x2.2.2.1 s1.2).bind fun x3 =>
 (rec_ref07_Subs y0 x3).bind fun r1 =>
 (zIk s1.1 r1).bind fun r2 =>
 some (.inl (r2, zR (s1.2 + 1)))
 else
 some (.inr s1.1)
def zJ8 (rec_ref07_Subs : (List zP) → Int → Option (List Int)) (y0 : List zP) (y1 : Int) : Option (List Int) :=
 if (decide (y1 < 0)) || (decide ((len y0) ≤ y1)) then
 some ([] : List Int)
 else
 zW (zGv y0 y1 rec_ref07_Subs) (([y1] : List Int), 0)
def zFd : Nat → (List zP) → Int → Option (List Int)
 | 0 => fun _ _ => none
 | k + 1 => fun y0 y1 => zJ8 (zFd k) y0 y1
def zIS (y0 : List zP) (y1 : Int) : Option (List Int) := zTt fun k => zFd k y0 y1
def zCz (r1 : (List Int)) (y1 : List zP) (y0 : zT) (s1 : (List Int) × Int) : Option (((List Int) × Int) ⊕ (List Int)) :=
 if decide (s1.2 < (len r1)) then
 (zH r1 s1.2).bind fun x1 =>
 (
 (zH y1 x1).bind fun x2 =>
 if decide (0 ≤ x2.2.1) then
 (zH y1 x1).bind fun x3 =>
 (zH y0.2.1 x3.2.1).bind fun x4 =>
 some (!x4.2.1)
 else
 some false : Option Bool).bind fun s2 =>
 if s2 then
 (zH y1 x1).bind fun x5 =>
 (zFE s1.1 x5.2.1).bind fun r2 =>
 some (.inl (r2, zR (s1.2 + 1)))
 else
 some (.inl (s1.1, zR (s1.2 + 1)))
 else
 some (.inr s1.1)
def zBm (y0 : zT) (y1 : List zP) (y2 : Int) : Option (List Int) :=
 (zIS y1 y2).bind fun r1 =>
 zW (zCz r1 y1 y0) (([] : List Int), 0)
def zDO (y1 : List zP) (y2 : Int) (rec_ref07_Run : zT → (List zP) → Int → Option (List zO)) (y0 : zT) (s2 : (List zO) × Int) : Option (((List zO) × Int) ⊕ (List zO)) :=
 (zH y1 y2).bind fun x5 =>
 if decide (s2.2 < (len x5.2.2.1)) then
 (zH y1 y2).bind fun x6 =>
 (zH x6.2.2.1 s2.2).bind fun x7 =>
 (rec_ref07_Run y0 y1 x7).bind fun r1 =>
 (wJ s2.1 r1).bind fun x8 =>
 some (.inl (x8, zR (s2.2 + 1)))
 else
 some (.inr s2.1)
def zEK (rec_ref07_Run : zT → (List zP) → Int → Option (List zO)) (y0 : zT) (y1 : List zP) (y2 : Int) : Option (List zO) :=
 (zH y1 y2).bind fun x1 =>
 (
 (zH y1 y2).bind fun x2 =>
 if decide (0 ≤ x2.2.1) then
 (zH y1 y2).bind fun x3 =>
 (zH y0.2.1 x3.2.1).bind fun x4 =>
 some x4.2.1
 else
 some false : Option Bool).bind fun s1 =>
 if s1 then
 zW (zDO y1 y2 rec_ref07_Run y0) (([x1.2.2.2] : List zO), 0)
 else
 some ([x1.2.2.2] : List zO)
def zAb : Nat → zT → (List zP) → Int → Option (List zO)
 | 0 => fun _ _ _ => none
 | k + 1 => fun y0 y1 y2 => zEK (zAb k) y0 y1 y2
def zHo (y0 : zT) (y1 : List zP) (y2 : Int) : Option (List zO) := zTt fun k => zAb k y0 y1 y2
def zId (y0 : List Int) (y1 : Int) (s1 : Int) : Option (Int ⊕ Bool) :=
 if decide (s1 < (len y0)) then
 (zH y0 s1).bind fun x1 =>
 if x1 == y1 then
 some (.inr true)
 else
 some (.inl (zR (s1 + 1)))
 else
 some (.inr false)
def zLo (y0 : List Int) (y1 : Int) : Option Bool :=
 zW (zId y0 y1) 0
def zFu (y3 : List Int) (x1 : wD) (y0 : zT) (y1 : List zP) (y2 : Int) (s1 : Int) : Option (Int ⊕ Bool) :=
 if decide (s1 < (len y3)) then
 (
 if x1.2.1 then
 (zH y3 s1).bind fun x2 =>
 (zHo y0 y1 x2).bind fun r1 =>
 (zKO r1 x1.2.2.2.2).bind fun r2 =>
 if r2 then
 some true
 else
 if !x1.2.1 then
 (zH y3 s1).bind fun x3 =>
 (zBm y0 y1 x3).bind fun r3 =>
 (zLo r3 y2).bind fun r4 =>
 some r4
 else
 some false
 else
 if !x1.2.1 then
 (zH y3 s1).bind fun x4 =>
 (zBm y0 y1 x4).bind fun r5 =>
 (zLo r5 y2).bind fun r6 =>
 some r6
 else
 some false : Option Bool).bind fun s2 =>
 if s2 then
 some (.inr false)
 else
 some (.inl (zR (s1 + 1)))
 else
 some (.inr true)
def zFD (y0 : zT) (y1 : List zP) (y2 : Int) (y3 : List Int) : Option Bool :=
 (zH y0.2.1 y2).bind fun x1 =>
 zW (zFu y3 x1 y0 y1 y2) 0
def zDY (y1 : Int) (y0 : List zP) (y2 : List zO) (y3 : List Int) (rec_ref07_choices_2 : (List zP) → Int → (List zO) → (List Int) → Option (List (List Int))) (s1 : (List (List Int)) × Int) : Option (((List (List Int)) × Int) ⊕ (List (List Int))) :=
 if decide (s1.2 < y1) then
 (zH y0 s1.2).bind fun x2 =>
 (zH y2 (len y3)).bind fun x3 =>
 if x2.2.2.2 == x3 then
 (sub y3 0 (len y3)).bind fun x4 =>
 (wJ x4 ([s1.2] : List Int)).bind fun x5 =>
 (rec_ref07_choices_2 y0 y1 y2 x5).bind fun r1 =>
 (wJ s1.1 r1).bind fun x6 =>
 some (.inl (x6, zR (s1.2 + 1)))
 else
 some (.inl (s1.1, zR (s1.2 + 1)))
 else
 some (.inr s1.1)
def zFy (rec_ref07_choices_2 : (List zP) → Int → (List zO) → (List Int) → Option (List (List Int))) (y0 : List zP) (y1 : Int) (y2 : List zO) (y3 : List Int) : Option (List (List Int)) :=
 if (len y3) == (len y2) then
 (wJ ([] : List Int) y3).bind fun x1 =>
 some ([x1] : List (List Int))
 else
 zW (zDY y1 y0 y2 y3 rec_ref07_choices_2) (([] : List (List Int)), 0)
def zB4 : Nat → (List zP) → Int → (List zO) → (List Int) → Option (List (List Int))
 | 0 => fun _ _ _ _ => none
 | k + 1 => fun y0 y1 y2 y3 => zFy (zB4 k) y0 y1 y2 y3
def zHn (y0 : List zP) (y1 : Int) (y2 : List zO) (y3 : List Int) : Option (List (List Int)) := zTt fun k => zB4 k y0 y1 y2 y3
def zGB (y0 : List Int) (y1 : Int) (s1 : Int) : Option (Int ⊕ Bool) :=
 if decide (s1 < (len y0)) then
 (zH y0 s1).bind fun x1 =>
 if decide (y1 ≤ x1) then
 some (.inr true)
 else
 some (.inl (zR (s1 + 1)))
 else
 some (.inr false)
def zJj (y0 : List Int) (y1 : Int) : Option Bool :=
 zW (zGB y0 y1) 0
def zEa (y0 : zT) (s2 : (List zP) × Int) : Option (((List zP) × Int) ⊕ (List zP)) :=
 if decide (s2.2 < (len y0.1)) then
 (zH y0.1 s2.2).bind fun x1 =>
 (wJ s2.1 ([(s2.2, (-1), ([] : List Int), x1.1)] : List zP)).bind fun x2 =>
 some (.inl (x2, zR (s2.2 + 1)))
 else
 some (.inr s2.1)
def zE6 (r2 : (List (List Int))) (s3 : (List zP) × Int × Int) (y0 : zT) (s4 : (List zP) × Int) (s5 : (List zP) × Int) : Option (((List zP) × Int) ⊕ (((List zP) × Int) ⊕ (((List zP) × Int × Int) ⊕ ((List zP) × Int)))) :=
 if decide (s5.2 < (len r2)) then
 (zH r2 s5.2).bind fun x4 =>
 (
 (zJj x4 s3.2.1).bind fun r3 =>
 if !r3 then
 if decide (1 < s3.2.2) then
 some true
 else
 if decide (0 < (len x4)) then
 some true
 else
 (zFD y0 s5.1 s4.2 x4).bind fun r4 =>
 some (!r4)
 else
 (zFD y0 s5.1 s4.2 x4).bind fun r5 =>
 some (!r5) : Option Bool).bind fun s6 =>
 if s6 then
 some (.inl (s5.1, zR (s5.2 + 1)))
 else
 (zH y0.2.1 s4.2).bind fun x5 =>
 (wJ s5.1 ([((-1), s4.2, x4, x5.2.2.2.2)] : List zP)).bind fun x6 =>
 if decide (40 < (len x6)) then
 some (.inr (.inr (.inr (([] : List zP), 2))))
 else
 some (.inl (x6, zR (s5.2 + 1)))
 else
 some (.inr (.inl (s5.1, zR (s4.2 + 1))))
def zFB (y0 : zT) (s3 : (List zP) × Int × Int) (s4 : (List zP) × Int) : Option (((List zP) × Int) ⊕ (((List zP) × Int × Int) ⊕ ((List zP) × Int))) :=
 if decide (s4.2 < (len y0.2.1)) then
 (zH y0.2.1 s4.2).bind fun x3 =>
 (zHn s4.1 (len s3.1) x3.2.2.2.1 ([] : List Int)).bind fun r2 =>
 zW (zE6 r2 s3 y0 s4) (s4.1, 0)
 else
 some (.inr (.inl (s4.1, len s3.1, zR (s3.2.2 + 1))))
def zCn (y0 : zT) (s3 : (List zP) × Int × Int) : Option (((List zP) × Int × Int) ⊕ ((List zP) × Int)) :=
 if (s3.2.2 == 1) || (decide (s3.2.1 < (len s3.1))) then
 zW (zFB y0 s3) (s3.1, 0)
 else
 some (.inr (s3.1, 0))
def zFw (y0 : zT) : Option ((List zP) × Int) :=
 (zEo y0).bind fun r1 =>
 if r1 != 0 then
 some (([] : List zP), r1)
 else
 (zW (zEa y0) (([] : List zP), 0) : Option (List zP)).bind fun s1 =>
 zW (zCn y0) (s1, 0, 1)
def zD9 (y0 : List zO) (y1 : zO) (s2 : Int) : Option (Int ⊕ Int) :=
 (
 if decide (s2 < (len y0)) then
 (zH y0 s2).bind fun x1 =>
 (zF5 x1 y1).bind fun r1 =>
 some (decide (r1 < 0))
 else
 some false : Option Bool).bind fun s3 =>
 if s3 then
 some (.inl (zR (s2 + 1)))
 else
 some (.inr s2)
def zHs (y0 : List zO) (y1 : zO) : Option (List zO) :=
 (zW (zD9 y0 y1) 0 : Option Int).bind fun s1 =>
 (
 if decide (s1 < (len y0)) then
 (zH y0 s1).bind fun x2 =>
 some (x2 == y1)
 else
 some false : Option Bool).bind fun s4 =>
 if s4 then
 some y0
 else
 (sub y0 0 s1).bind fun x3 =>
 (wJ ([] : List zO) x3).bind fun x4 =>
 (sub y0 s1 (len y0)).bind fun x5 =>
 (wJ x4 ([y1] : List zO)).bind fun x6 =>
 (wJ x6 x5).bind fun x7 =>
 some x7
def zC3 (y1 : List Int) (y0 : List zP) (s1 : (List zO) × Int) : Option (((List zO) × Int) ⊕ (List zO)) :=
 if decide (s1.2 < (len y1)) then
 (
 (zH y1 s1.2).bind fun x1 =>
 if decide (0 ≤ x1) then
 (zH y1 s1.2).bind fun x2 =>
 some (decide (x2 < (len y0)))
 else
 some false : Option Bool).bind fun s2 =>
 if s2 then
 (zH y1 s1.2).bind fun x3 =>
 (zH y0 x3).bind fun x4 =>
 (zHs s1.1 x4.2.2.2).bind fun r1 =>
 some (.inl (r1, zR (s1.2 + 1)))
 else
 some (.inl (s1.1, zR (s1.2 + 1)))
 else
 some (.inr s1.1)
def zEH (y0 : List zP) (y1 : List Int) : Option (List zO) :=
 zW (zC3 y1 y0) (([] : List zO), 0)
def zEO (r1 : (List Int)) (y0 : List zP) (s1 : (List Int) × Int) : Option (((List Int) × Int) ⊕ (List Int)) :=
 if decide (s1.2 < (len r1)) then
 (zH r1 s1.2).bind fun x1 =>
 (zH y0 x1).bind fun x2 =>
 if decide (0 ≤ x2.1) then
 (zH y0 x1).bind fun x3 =>
 (zFE s1.1 x3.1).bind fun r2 =>
 some (.inl (r2, zR (s1.2 + 1)))
 else
 some (.inl (s1.1, zR (s1.2 + 1)))
 else
 some (.inr s1.1)
def zFA (y0 : List zP) (y1 : Int) : Option (List Int) :=
 (zIS y0 y1).bind fun r1 =>
 zW (zEO r1 y0) (([] : List Int), 0)
def zF0 (r1 : (List Int)) (y0 : zT) (s1 : Int) : Option (Int ⊕ Bool) :=
 if decide (s1 < (len r1)) then
 (zH r1 s1).bind fun x1 =>
 (zH y0.1 x1).bind fun x2 =>
 if x2.2.1 == 3 then
 some (.inr true)
 else
 some (.inl (zR (s1 + 1)))
 else
 some (.inr false)
def zHS (y0 : zT) (y1 : List zP) (y2 : Int) : Option Bool :=
 (zFA y1 y2).bind fun r1 =>
 zW (zF0 r1 y0) 0
def zHF (y1 : List zP) (y2 : Int) (rec_ref07_Last : zT → (List zP) → Int → Option (List Int)) (y0 : zT) (s2 : (List Int) × Int) : Option (((List Int) × Int) ⊕ (List Int)) :=
 (zH y1 y2).bind fun x5 =>
 if decide (s2.2 < (len x5.2.2.1)) then
 (zH y1 y2).bind fun x6 =>
 (zH x6.2.2.1 s2.2).bind fun x7 =>
 (rec_ref07_Last y0 y1 x7).bind fun r1 =>
 (zIk s2.1 r1).bind fun r2 =>
 some (.inl (r2, zR (s2.2 + 1)))
 else
 some (.inr s2.1)
def zJc (rec_ref07_Last : zT → (List zP) → Int → Option (List Int)) (y0 : zT) (y1 : List zP) (y2 : Int) : Option (List Int) :=
 (
 if decide (y2 < 0) then
 some true
 else
 if decide ((len y1) ≤ y2) then
 some true
 else
 (zH y1 y2).bind fun x1 =>
 some (decide (x1.2.1 < 0)) : Option Bool).bind fun s1 =>
 if s1 then
 some ([] : List Int)
 else
 (zH y1 y2).bind fun x2 =>
 (zH y0.2.1 x2.2.1).bind fun x3 =>
 if !x3.2.1 then
 (zH y1 y2).bind fun x4 =>
 some ([x4.2.1] : List Int)
 else
 zW (zHF y1 y2 rec_ref07_Last y0) (([] : List Int), 0)
def zFp : Nat → zT → (List zP) → Int → Option (List Int)
 | 0 => fun _ _ _ => none
 | k + 1 => fun y0 y1 y2 => zJc (zFp k) y0 y1 y2
def zLX (y0 : zT) (y1 : List zP) (y2 : Int) : Option (List Int) := zTt fun k => zFp k y0 y1 y2
def zMD (r1 : (List Int)) (y0 : zT) (s1 : (List Int) × Int) : Option (((List Int) × Int) ⊕ (List Int)) :=
 if decide (s1.2 < (len r1)) then
 (zH r1 s1.2).bind fun x1 =>
 (zH y0.2.1 x1).bind fun x2 =>
 (wJ s1.1 ([x2.2.2.1] : List Int)).bind fun x3 =>
 some (.inl (x3, zR (s1.2 + 1)))
 else
 some (.inr s1.1)
def zDe (y0 : zT) (y1 : List zP) (y2 : Int) : Option (List Int) :=
 (zLX y0 y1 y2).bind fun r1 =>
 zW (zMD r1 y0) (([] : List Int), 0)
def zHJ (r1 : (List Int)) (y0 : zT) (s1 : (List Int) × Int) : Option (((List Int) × Int) ⊕ (List Int)) :=
 if decide (s1.2 < (len r1)) then
 (zH r1 s1.2).bind fun x1 =>
 (zH y0.1 x1).bind fun x2 =>
 if x2.2.1 == 2 then
 (zH y0.1 x1).bind fun x3 =>
 (wJ s1.1 ([x3.2.2.1] : List Int)).bind fun x4 =>
 some (.inl (x4, zR (s1.2 + 1)))
 else
 if x2.2.1 == 3 then
 (wJ s1.1 ([(-1)] : List Int)).bind fun x5 =>
 some (.inl (x5, zR (s1.2 + 1)))
 else
 some (.inl (s1.1, zR (s1.2 + 1)))
 else
 some (.inr s1.1)
def zAt (y0 : zT) (y1 : List zP) (y2 : Int) : Option (List Int) :=
 (zFA y1 y2).bind fun r1 =>
 zW (zHJ r1 y0) (([] : List Int), 0)
def zLt (r1 : (List Int)) (y0 : zT) (s1 : (List Int) × Int) : Option (((List Int) × Int) ⊕ (List Int)) :=
 if decide (s1.2 < (len r1)) then
 (zH r1 s1.2).bind fun x1 =>
 (zH y0.2.1 x1).bind fun x2 =>
 (wJ s1.1 ([x2.2.2.1] : List Int)).bind fun x3 =>
 some (.inl (x3, zR (s1.2 + 1)))
 else
 some (.inr s1.1)
def zD8 (y0 : zT) (y1 : List zP) (y2 : Int) : Option (List Int) :=
 (zBm y0 y1 y2).bind fun r1 =>
 zW (zLt r1 y0) (([] : List Int), 0)
def zEN (y0 : List Int) (s1 : Int × Int × Int) : Option ((Int × Int × Int) ⊕ (Int × Int)) :=
 if decide (s1.2.2 < (len y0)) then
 (zH y0 s1.2.2).bind fun x3 =>
 (zH y0 s1.2.2).bind fun x4 =>
 some (.inl (if x3 < s1.1 then x3 else s1.1, if x4 > s1.2.1 then x4 else s1.2.1, zR (s1.2.2 + 1)))
 else
 some (.inr (s1.1, s1.2.1))
def zEn (y0 : List Int) : Option (Int × Int) :=
 (zH y0 0).bind fun x1 =>
 (zH y0 0).bind fun x2 =>
 zW (zEN y0) (x1, x2, 1)
def zDk (y0 : List Int) (y1 : List Int) (y2 : Int) : Option Bool :=
 if if y2 != 1 then (y2 != 2) || ((len y0) == 0) else (len y0) == 0 then
 some false
 else
 if (len y1) == 0 then
 some true
 else
 (zEn y0).bind fun r1 =>
 (zEn y1).bind fun r2 =>
 if y2 == 1 then
 some (decide (r1.1 < r2.1))
 else
 some (decide (r1.2 < r2.2))
def zIK (y0 : zT) (y1 : List zP) (y2 : Int) (y3 : Int) (y4 : wQ) : Option Bool :=
 (
 if decide (y2 < 0) then
 some true
 else
 if decide ((len y1) ≤ y2) then
 some true
 else
 if decide (y3 < 0) then
 some true
 else
 if decide ((len y1) ≤ y3) then
 some true
 else
 (zHS y0 y1 y3).bind fun r1 =>
 some r1 : Option Bool).bind fun s1 =>
 if s1 then
 some false
 else
 (zAt y0 y1 y2).bind fun r2 =>
 (zAt y0 y1 y3).bind fun r3 =>
 (zDk r2 r3 y4.2).bind fun r4 =>
 if y4.1 == 1 then
 (zDe y0 y1 y2).bind fun r5 =>
 (zDe y0 y1 y3).bind fun r6 =>
 (
 (zDk r5 r6 y4.2).bind fun r7 =>
 if r7 then
 some true
 else
 if (len r5) == 0 then
 if (len r6) == 0 then
 some r4
 else
 some false
 else
 some false : Option Bool).bind fun s2 =>
 some s2
 else
 if y4.1 == 2 then
 (zD8 y0 y1 y2).bind fun r8 =>
 (zD8 y0 y1 y3).bind fun r9 =>
 if ((len r8) == 0) && ((len r9) == 0) then
 some r4
 else
 (zDk r8 r9 y4.2).bind fun r10 =>
 (
 (zAt y0 y1 y2).bind fun r11 =>
 if (len r11) == 0 then
 (zAt y0 y1 y3).bind fun r12 =>
 some ((len r12) == 0)
 else
 some false : Option Bool).bind fun s3 =>
 if s3 then
 some r10
 else
 some (r4 && r10)
 else
 some false
def zHZ (y0 : zO) : Option zO :=
 some (!y0.1, y0.2)
def zH3 (y0 : zT) (y1 : List zP) (y2 : Int) (y3 : Int) (y4 : Int) : Option Bool :=
 (zH y1 y2).bind fun x1 =>
 (zH y1 y3).bind fun x2 =>
 (zHZ x2.2.2.2).bind fun r1 =>
 (zH y1 y3).bind fun x3 =>
 if decide (x3.2.1 < 0) then
 (
 if y4 == 1 then
 (zH y1 y3).bind fun x4 =>
 (zH y0.1 x4.1).bind fun x5 =>
 if x5.2.1 != 1 then
 some (x1.2.2.2 == r1)
 else
 some false
 else
 some false : Option Bool).bind fun s1 =>
 some s1
 else
 (zH y1 y3).bind fun x6 =>
 (zH y0.2.1 x6.2.1).bind fun x7 =>
 if y4 == 2 then
 some ((!x7.2.1) && (x1.2.2.2 == r1))
 else
 if y4 == 3 then
 (
 if !x7.2.1 then
 (zH y1 y2).bind fun x8 =>
 some (x8.2.2.2 == (true, x7.1))
 else
 some false : Option Bool).bind fun s2 =>
 some s2
 else
 some false
def zDB (y0 : zT) (y1 : List zP) (s1 : (List wB) × Int) (x1 : Int) (s2 : (List wB) × Int) (s3 : (List wB) × Int) (s4 : (List wB) × Int) : Option (((List wB) × Int) ⊕ (((List wB) × Int) ⊕ (((List wB) × Int) ⊕ (((List wB) × Int) ⊕ (List wB))))) :=
 if decide (s4.2 ≤ 3) then
 (zH3 y0 y1 s1.2 x1 s4.2).bind fun r2 =>
 if r2 then
 (wJ s4.1 ([(s1.2, s2.2, x1, s4.2)] : List wB)).bind fun x2 =>
 some (.inl (x2, zR (s4.2 + 1)))
 else
 some (.inl (s4.1, zR (s4.2 + 1)))
 else
 some (.inr (.inl (s4.1, zR (s3.2 + 1))))
def zFY (r1 : (List Int)) (y0 : zT) (y1 : List zP) (s1 : (List wB) × Int) (s2 : (List wB) × Int) (s3 : (List wB) × Int) : Option (((List wB) × Int) ⊕ (((List wB) × Int) ⊕ (((List wB) × Int) ⊕ (List wB)))) :=
 if decide (s3.2 < (len r1)) then
 (zH r1 s3.2).bind fun x1 =>
 zW (zDB y0 y1 s1 x1 s2 s3) (s3.1, 1)
 else
 some (.inr (.inl (s3.1, zR (s2.2 + 1))))
def zFR (y1 : List zP) (y0 : zT) (s1 : (List wB) × Int) (s2 : (List wB) × Int) : Option (((List wB) × Int) ⊕ (((List wB) × Int) ⊕ (List wB))) :=
 if decide (s2.2 < (len y1)) then
 (zIS y1 s2.2).bind fun r1 =>
 zW (zFY r1 y0 y1 s1 s2) (s2.1, 0)
 else
 some (.inr (.inl (s2.1, zR (s1.2 + 1))))
def zFS (y1 : List zP) (y0 : zT) (s1 : (List wB) × Int) : Option (((List wB) × Int) ⊕ (List wB)) :=
 if decide (s1.2 < (len y1)) then
 zW (zFR y1 y0 s1) (s1.1, 0)
 else
 some (.inr s1.1)
def zHI (y0 : zT) (y1 : List zP) : Option (List wB) :=
 zW (zFS y1 y0) (([] : List wB), 0)
def zF1 (r1 : (List wB)) (y0 : zT) (y1 : List zP) (y2 : wQ) (s1 : (List wB) × Int) : Option (((List wB) × Int) ⊕ (List wB)) :=
 if decide (s1.2 < (len r1)) then
 (
 (zH r1 s1.2).bind fun x1 =>
 if x1.2.2.2 == 3 then
 some true
 else
 (zH r1 s1.2).bind fun x2 =>
 (zH r1 s1.2).bind fun x3 =>
 (zIK y0 y1 x2.1 x3.2.2.1 y2).bind fun r2 =>
 some (!r2) : Option Bool).bind fun s2 =>
 if s2 then
 (zH r1 s1.2).bind fun x4 =>
 (wJ s1.1 ([x4] : List wB)).bind fun x5 =>
 some (.inl (x5, zR (s1.2 + 1)))
 else
 some (.inl (s1.1, zR (s1.2 + 1)))
 else
 some (.inr s1.1)
def zFc (y0 : zT) (y1 : List zP) (y2 : wQ) : Option (List wB) :=
 (zHI y0 y1).bind fun r1 =>
 zW (zF1 r1 y0 y1 y2) (([] : List wB), 0)
def zEi (y1 : List wB) (y0 : Int) (s2 : Int) : Option (Int ⊕ (Unit ⊕ (wO × Int))) :=
 if decide (s2 < (len y1)) then
 (
 (zH y1 s2).bind fun x1 =>
 if decide (x1.1 < 0) then
 some true
 else
 (zH y1 s2).bind fun x2 =>
 if decide (y0 ≤ x2.1) then
 some true
 else
 (zH y1 s2).bind fun x3 =>
 if decide (x3.2.1 < 0) then
 some true
 else
 (zH y1 s2).bind fun x4 =>
 some (decide (y0 ≤ x4.2.1)) : Option Bool).bind fun s3 =>
 if s3 then
 some (.inr (.inr ((0, ([] : List wI)), 1)))
 else
 some (.inl (zR (s2 + 1)))
 else
 some (.inr (.inl ()))
def zEl (y1 : List wB) (s5 : Int × (List wI)) (s6 : Int × (List wI)) (s8 : Bool × Int) : Option ((Bool × Int) ⊕ Bool) :=
 if decide (s8.2 < (len y1)) then
 (
 if s8.1 then
 some true
 else
 (zH y1 s8.2).bind fun x5 =>
 if x5.1 == s5.1 then
 (zH y1 s8.2).bind fun x6 =>
 some (x6.2.1 == s6.1)
 else
 some false : Option Bool).bind fun s9 =>
 some (.inl (s9, zR (s8.2 + 1)))
 else
 some (.inr s8.1)
def zE9 (y0 : Int) (y1 : List wB) (s5 : Int × (List wI)) (s6 : Int × (List wI)) : Option ((Int × (List wI)) ⊕ ((Int × (List wI)) ⊕ (List wI))) :=
 if decide (s6.1 < y0) then
 (zW (zEl y1 s5 s6) (false, 0) : Option Bool).bind fun s7 =>
 if s7 then
 (wJ s6.2 ([(s5.1, s6.1)] : List wI)).bind fun x7 =>
 some (.inl (zR (s6.1 + 1), x7))
 else
 some (.inl (zR (s6.1 + 1), s6.2))
 else
 some (.inr (.inl (zR (s5.1 + 1), s6.2)))
def zE4 (y0 : Int) (y1 : List wB) (s5 : Int × (List wI)) : Option ((Int × (List wI)) ⊕ (List wI)) :=
 if decide (s5.1 < y0) then
 zW (zE9 y0 y1 s5) (0, s5.2)
 else
 some (.inr s5.2)
def zHB (y0 : Int) (y1 : List wB) : Option (wO × Int) :=
 if (decide (y0 < 0)) || (decide (40 < y0)) then
 some ((0, ([] : List wI)), 1)
 else
 wW (zW (zEi y1 y0) 0 : Option (Unit ⊕ (wO × Int))) fun _ =>
 (zW (zE4 y0 y1) (0, ([] : List wI)) : Option (List wI)).bind fun s4 =>
 some ((y0, s4), 0)
def zP1 (y0 : List Int) (y1 : Int) (s1 : (List Int) × Int) : Option (((List Int) × Int) ⊕ (List Int)) :=
 if decide (s1.2 < (len y0)) then
 (zH y0 s1.2).bind fun x1 =>
 if x1 == y1 then
 (wJ s1.1 ([s1.2] : List Int)).bind fun x2 =>
 some (.inl (x2, zR (s1.2 + 1)))
 else
 some (.inl (s1.1, zR (s1.2 + 1)))
 else
 some (.inr s1.1)
def zLa (y0 : List Int) (y1 : Int) : Option (List Int) :=
 zW (zP1 y0 y1) (([] : List Int), 0)
def zEL (y0 : wO) (s1 : Int) : Option (Int ⊕ Int) :=
 if decide (s1 < (len y0.2)) then
 (zH y0.2 s1).bind fun x1 =>
 if (decide (x1.1 < 0)) || ((decide (y0.1 ≤ x1.1)) || ((decide (x1.2 < 0)) || (decide (y0.1 ≤ x1.2)))) then
 some (.inr 1)
 else
 (
 if decide (0 < s1) then
 (zH y0.2 (zR (s1 - 1))).bind fun x2 =>
 if decide (x1.1 < x2.1) then
 some true
 else
 (zH y0.2 (zR (s1 - 1))).bind fun x3 =>
 if x3.1 == x1.1 then
 (zH y0.2 (zR (s1 - 1))).bind fun x4 =>
 some (decide (x1.2 ≤ x4.2))
 else
 some false
 else
 some false : Option Bool).bind fun s2 =>
 if s2 then
 some (.inr 8)
 else
 some (.inl (zR (s1 + 1)))
 else
 some (.inr 0)
def zCp (y0 : wO) : Option Int :=
 if (decide (y0.1 < 0)) || (decide (40 < y0.1)) then
 some 1
 else
 zW (zEL y0) 0
def zIh (y0 : wO) : Option wO :=
 (zCp y0).bind fun r1 =>
 if r1 != 0 then
 some (0, ([] : List wI))
 else
 some y0
def zD5 (r1 : wO) (y1 : Int) (s1 : (List Int) × Int) : Option (((List Int) × Int) ⊕ (List Int)) :=
 if decide (s1.2 < (len r1.2)) then
 (zH r1.2 s1.2).bind fun x1 =>
 if x1.2 == y1 then
 (zH r1.2 s1.2).bind fun x2 =>
 (wJ s1.1 ([x2.1] : List Int)).bind fun x3 =>
 some (.inl (x3, zR (s1.2 + 1)))
 else
 some (.inl (s1.1, zR (s1.2 + 1)))
 else
 some (.inr s1.1)
def zDr (y0 : wO) (y1 : Int) : Option (List Int) :=
 (zIh y0).bind fun r1 =>
 zW (zD5 r1 y1) (([] : List Int), 0)
def zEf (y0 : wO) (s2 : (List Int) × (List Int) × Int) : Option (((List Int) × (List Int) × Int) ⊕ ((List Int) × (List Int))) :=
 if decide (s2.2.2 < y0.1) then
 (wJ s2.1 ([3] : List Int)).bind fun x1 =>
 (wJ s2.2.1 ([0] : List Int)).bind fun x2 =>
 some (.inl (x1, x2, zR (s2.2.2 + 1)))
 else
 some (.inr (s2.1, s2.2.1))
def zEc (r1 : (List Int)) (x3 : List Int) (s7 : Bool × Int) : Option ((Bool × Int) ⊕ Bool) :=
 if decide (s7.2 < (len r1)) then
 (zH r1 s7.2).bind fun x5 =>
 (
 if s7.1 then
 (zH x3 x5).bind fun x6 =>
 some (x6 == 2)
 else
 some false : Option Bool).bind fun s8 =>
 some (.inl (s8, zR (s7.2 + 1)))
 else
 some (.inr s7.1)
def zE5 (y0 : wO) (x3 : List Int) (s3 : (List Int) × (List Int) × Int) (s5 : (List Int) × (List Int) × Bool × Int) : Option (((List Int) × (List Int) × Bool × Int) ⊕ ((List Int) × (List Int) × Bool)) :=
 if decide (s5.2.2.2 < y0.1) then
 (zH x3 s5.2.2.2).bind fun x4 =>
 (
 (zDr y0 s5.2.2.2).bind fun r1 =>
 zW (zEc r1 x3) (x4 == 3, 0) : Option Bool).bind fun s6 =>
 if s6 then
 (zH s5.1 s5.2.2.2).bind fun _ =>
 (zH s5.2.1 s5.2.2.2).bind fun _ =>
 some (.inl (List.set s5.1 (Int.toNat s5.2.2.2) 1, List.set s5.2.1 (Int.toNat s5.2.2.2) s3.2.2, true, zR (s5.2.2.2 + 1)))
 else
 some (.inl (s5.1, s5.2.1, s5.2.2.1, zR (s5.2.2.2 + 1)))
 else
 some (.inr (s5.1, s5.2.1, s5.2.2.1))
def zEs (r2 : (List Int)) (s10 : (List Int) × (List Int) × Int) (s3 : (List Int) × (List Int) × Int) (s11 : (List Int) × (List Int) × Int) : Option (((List Int) × (List Int) × Int) ⊕ (((List Int) × (List Int) × Int) ⊕ ((List Int) × (List Int)))) :=
 if decide (s11.2.2 < (len r2)) then
 (zH r2 s11.2.2).bind fun x9 =>
 (
 (zH s11.1 s10.2.2).bind fun x10 =>
 if x10 == 3 then
 (zH s11.1 x9).bind fun x11 =>
 if x11 == 1 then
 (zH s11.2.1 x9).bind fun x12 =>
 some (x12 == s3.2.2)
 else
 some false
 else
 some false : Option Bool).bind fun s12 =>
 if s12 then
 (zH s11.1 s10.2.2).bind fun _ =>
 (zH s11.2.1 s10.2.2).bind fun _ =>
 some (.inl (List.set s11.1 (Int.toNat s10.2.2) 2, List.set s11.2.1 (Int.toNat s10.2.2) s3.2.2, zR (s11.2.2 + 1)))
 else
 some (.inl (s11.1, s11.2.1, zR (s11.2.2 + 1)))
 else
 some (.inr (.inl (s11.1, s11.2.1, zR (s10.2.2 + 1))))
def zEm (y0 : wO) (s3 : (List Int) × (List Int) × Int) (s10 : (List Int) × (List Int) × Int) : Option (((List Int) × (List Int) × Int) ⊕ ((List Int) × (List Int))) :=
 if decide (s10.2.2 < y0.1) then
 (zDr y0 s10.2.2).bind fun r2 =>
 zW (zEs r2 s10 s3) (s10.1, s10.2.1, 0)
 else
 some (.inr (s10.1, s10.2.1))
def zG0 (y0 : wO) (s3 : (List Int) × (List Int) × Int) : Option (((List Int) × (List Int) × Int) ⊕ ((List Int) × (List Int))) :=
 (wJ ([] : List Int) s3.1).bind fun x3 =>
 (zW (zE5 y0 x3 s3) (s3.1, s3.2.1, false, 0) : Option ((List Int) × (List Int) × Bool)).bind fun s4 =>
 (zW (zEm y0 s3) (s4.1, s4.2.1, 0) : Option ((List Int) × (List Int))).bind fun s9 =>
 if !s4.2.2 then
 some (.inr (s9.1, s9.2))
 else
 some (.inl (s9.1, s9.2, zR (s3.2.2 + 1)))
def zIl (y0 : wO) : Option ((List Int) × (List Int)) :=
 (zW (zEf y0) (([] : List Int), ([] : List Int), 0) : Option ((List Int) × (List Int))).bind fun s1 =>
 zW (zG0 y0) (s1.1, s1.2, 1)
def zIf (y0 : wO) : Option (List Int) :=
 (zIl y0).bind fun r1 =>
 some r1.1
def zDl (y0 : zT) (y1 : wQ) : Option (zBP × Int) :=
 (zFw y0).bind fun r1 =>
 if r1.2 != 0 then
 some (((([] : List vE), ([] : List wD), ([] : List vQ)), ([] : List zP), ([] : List wB), (0, ([] : List wI))), r1.2)
 else
 if if y1.1 != 1 then (y1.1 != 2) || ((y1.2 != 1) && (y1.2 != 2)) else (y1.2 != 1) && (y1.2 != 2) then
 some (((([] : List vE), ([] : List wD), ([] : List vQ)), ([] : List zP), ([] : List wB), (0, ([] : List wI))), 4)
 else
 (zFc y0 r1.1 y1).bind fun r2 =>
 (zHB (len r1.1) r2).bind fun r3 =>
 (zIf r3.1).bind fun r4 =>
 (zLa r4 1).bind fun r5 =>
 (zEH r1.1 r5).bind fun r6 =>
 (zHY y0 r6).bind fun r7 =>
 (zFc r7 r1.1 y1).bind fun r8 =>
 (zHB (len r1.1) r8).bind fun r9 =>
 some ((r7, r1.1, r8, r9.1), 0)
def zLH (y0 : wO) (y1 : Int) (y2 : Int) (s1 : Int) : Option (Int ⊕ Bool) :=
 if decide (s1 < (len y0.2)) then
 (
 (zH y0.2 s1).bind fun x1 =>
 if x1.1 == y1 then
 (zH y0.2 s1).bind fun x2 =>
 some (x2.2 == y2)
 else
 some false : Option Bool).bind fun s2 =>
 if s2 then
 some (.inr true)
 else
 some (.inl (zR (s1 + 1)))
 else
 some (.inr false)
def zLN (y0 : wO) (y1 : Int) (y2 : Int) : Option Bool :=
 zW (zLH y0 y1 y2) 0
def zHj (y1 : List Int) (y0 : wO) (y2 : Int) (s1 : Int) : Option (Int ⊕ Bool) :=
 if decide (s1 < (len y1)) then
 (zH y1 s1).bind fun x1 =>
 (zLN y0 x1 y2).bind fun r1 =>
 if r1 then
 some (.inr true)
 else
 some (.inl (zR (s1 + 1)))
 else
 some (.inr false)
def zHq (y0 : wO) (y1 : List Int) (y2 : Int) : Option Bool :=
 zW (zHj y1 y0 y2) 0
def zDc (y0 : wO) (s3 : (List Int) × Int) : Option (((List Int) × Int) ⊕ (List Int)) :=
 if decide (s3.2 < y0.1) then
 (zH s3.1 s3.2).bind fun _ =>
 some (.inl (List.set s3.1 (Int.toNat s3.2) 3, zR (s3.2 + 1)))
 else
 some (.inr s3.1)
def zDu (y0 : wO) (s6 : (List Int) × Int) (s4 : (List Int) × (List Int) × Int) (s8 : Bool × Int) : Option ((Bool × Int) ⊕ Bool) :=
 if decide (s8.2 < y0.1) then
 (
 if s8.1 then
 (zLN y0 s8.2 s6.2).bind fun r1 =>
 if !r1 then
 some true
 else
 (zH s4.1 s8.2).bind fun x7 =>
 some (x7 == 2)
 else
 some false : Option Bool).bind fun s9 =>
 some (.inl (s9, zR (s8.2 + 1)))
 else
 some (.inr s8.1)
def zCI (y0 : wO) (s4 : (List Int) × (List Int) × Int) (s6 : (List Int) × Int) : Option (((List Int) × Int) ⊕ (List Int)) :=
 if decide (s6.2 < y0.1) then
 (zH s4.1 s6.2).bind fun x6 =>
 (zW (zDu y0 s6 s4) (x6 == 3, 0) : Option Bool).bind fun s7 =>
 if s7 then
 (wJ s6.1 ([s6.2] : List Int)).bind fun x8 =>
 some (.inl (x8, zR (s6.2 + 1)))
 else
 some (.inl (s6.1, zR (s6.2 + 1)))
 else
 some (.inr s6.1)
def zCJ (s5 : (List Int)) (s4 : (List Int) × (List Int) × Int) (s11 : (List Int) × (List Int) × Int) : Option (((List Int) × (List Int) × Int) ⊕ ((List Int) × (List Int))) :=
 if decide (s11.2.2 < (len s5)) then
 (zH s5 s11.2.2).bind fun x9 =>
 (zH s11.1 x9).bind fun _ =>
 (zH s11.2.1 x9).bind fun _ =>
 some (.inl (List.set s11.1 (Int.toNat x9) 1, List.set s11.2.1 (Int.toNat x9) s4.2.2, zR (s11.2.2 + 1)))
 else
 some (.inr (s11.1, s11.2.1))
def zCL (y0 : wO) (s5 : (List Int)) (s4 : (List Int) × (List Int) × Int) (s12 : (List Int) × (List Int) × Int) : Option (((List Int) × (List Int) × Int) ⊕ (((List Int) × (List Int) × Int) ⊕ ((List Int) × (List Int)))) :=
 if decide (s12.2.2 < y0.1) then
 (
 (zH s12.1 s12.2.2).bind fun x12 =>
 if x12 == 3 then
 (zHq y0 s5 s12.2.2).bind fun r2 =>
 some r2
 else
 some false : Option Bool).bind fun s13 =>
 if s13 then
 (zH s12.1 s12.2.2).bind fun _ =>
 (zH s12.2.1 s12.2.2).bind fun _ =>
 some (.inl (List.set s12.1 (Int.toNat s12.2.2) 2, List.set s12.2.1 (Int.toNat s12.2.2) s4.2.2, zR (s12.2.2 + 1)))
 else
 some (.inl (s12.1, s12.2.1, zR (s12.2.2 + 1)))
 else
 some (.inr (.inl (s12.1, s12.2.1, zR (s4.2.2 + 1))))
def zB2 (y0 : wO) (s4 : (List Int) × (List Int) × Int) : Option (((List Int) × (List Int) × Int) ⊕ ((List Int) × (List Int))) :=
 if decide (s4.2.2 ≤ (zR (y0.1 + 1))) then
 (zW (zCI y0 s4) (([] : List Int), 0) : Option (List Int)).bind fun s5 =>
 (zW (zCJ s5 s4) (s4.1, s4.2.1, 0) : Option ((List Int) × (List Int))).bind fun s10 =>
 zW (zCL y0 s5 s4) (s10.1, s10.2, 0)
 else
 some (.inr (s4.1, s4.2.1))
def zHr (y0 : wO) : Option ((List Int) × (List Int)) :=
 (
 (mkS y0.1 y0.1 (0 : Int)).bind fun x1 =>
 (mkS y0.1 y0.1 (0 : Int)).bind fun x2 =>
 some (x1, x2) : Option ((List Int) × (List Int))).bind fun s1 =>
 (zW (zDc y0) (s1.1, 0) : Option (List Int)).bind fun s2 =>
 zW (zB2 y0) (s2, s1.2, 1)
def zM2 (y0 : List Int) (y1 : Int) (s1 : Int) : Option (Int ⊕ Bool) :=
 if decide (s1 < (len y0)) then
 (zH y0 s1).bind fun x1 =>
 if x1 == y1 then
 some (.inr true)
 else
 some (.inl (zR (s1 + 1)))
 else
 some (.inr false)
def zMx (y0 : List Int) (y1 : Int) : Option Bool :=
 zW (zM2 y0 y1) 0
def zBz (y0 : zT) (y3 : List Int) (s2 : Int × (List vE)) : Option ((Int × (List vE)) ⊕ (List vE)) :=
 if decide (s2.1 < (len y0.1)) then
 (zMx y3 s2.1).bind fun r1 =>
 if !r1 then
 (zH y0.1 s2.1).bind fun x1 =>
 (wJ s2.2 ([x1] : List vE)).bind fun x2 =>
 some (.inl (zR (s2.1 + 1), x2))
 else
 some (.inl (zR (s2.1 + 1), s2.2))
 else
 some (.inr s2.2)
def zBN (r2 : zBP × Int) (r3 : (List Int) × (List Int)) (y2 : zO) (s3 : Int) : Option (Int ⊕ Bool) :=
 if decide (s3 < (len r2.1.2.1)) then
 (
 (zH r3.1 s3).bind fun x3 =>
 if x3 == 1 then
 (zH r2.1.2.1 s3).bind fun x4 =>
 some (x4.2.2.2 == y2)
 else
 some false : Option Bool).bind fun s4 =>
 if s4 then
 some (.inr true)
 else
 some (.inl (zR (s3 + 1)))
 else
 some (.inr false)
def zDy (y0 : zT) (y1 : wQ) (y2 : zO) (y3 : List Int) : Option Bool :=
 (zW (zBz y0 y3) (0, ([] : List vE)) : Option (List vE)).bind fun s1 =>
 (zDl (s1, y0.2.1, y0.2.2) y1).bind fun r2 =>
 if r2.2 != 0 then
 some false
 else
 (zHr r2.1.2.2.2).bind fun r3 =>
 zW (zBN r2 r3 y2) 0
def zCw (r1 : (List (List Int))) (s1 : (List (List Int)) × Int) (s2 : (List (List Int)) × Int) : Option (((List (List Int)) × Int) ⊕ (((List (List Int)) × Int) ⊕ (List (List Int)))) :=
 if decide (s2.2 < (len r1)) then
 (zH r1 s2.2).bind fun x1 =>
 (wJ ([s1.2] : List Int) x1).bind fun x2 =>
 (wJ s2.1 ([x2] : List (List Int))).bind fun x3 =>
 some (.inl (x3, zR (s2.2 + 1)))
 else
 some (.inr (.inl (s2.1, zR (s1.2 + 1))))
def zDF (y0 : Int) (rec_ref24_subsets : Int → Int → Int → Option (List (List Int))) (y1 : Int) (s1 : (List (List Int)) × Int) : Option (((List (List Int)) × Int) ⊕ (List (List Int))) :=
 if decide (s1.2 < y0) then
 (rec_ref24_subsets y0 (zR (y1 - 1)) (zR (s1.2 + 1))).bind fun r1 =>
 zW (zCw r1 s1) (s1.1, 0)
 else
 some (.inr s1.1)
def zHQ (rec_ref24_subsets : Int → Int → Int → Option (List (List Int))) (y0 : Int) (y1 : Int) (y2 : Int) : Option (List (List Int)) :=
 if y1 == 0 then
 some ([([] : List Int)] : List (List Int))
 else
 zW (zDF y0 rec_ref24_subsets y1) (([] : List (List Int)), y2)
def zBI : Nat → Int → Int → Int → Option (List (List Int))
 | 0 => fun _ _ _ => none
 | k + 1 => fun y0 y1 y2 => zHQ (zBI k) y0 y1 y2
def zGz (y0 : Int) (y1 : Int) (y2 : Int) : Option (List (List Int)) := zTt fun k => zBI k y0 y1 y2
def zDq (r4 : (List (List Int))) (y0 : zT) (y1 : wQ) (y2 : zO) (r3 : Bool) (s3 : (List (List Int)) × Int) : Option (((List (List Int)) × Int) ⊕ (List (List Int))) :=
 if decide (s3.2 < (len r4)) then
 (zH r4 s3.2).bind fun x1 =>
 (zDy y0 y1 y2 x1).bind fun r5 =>
 if !(r5 == r3) then
 (wJ s3.1 ([x1] : List (List Int))).bind fun x2 =>
 some (.inl (x2, zR (s3.2 + 1)))
 else
 some (.inl (s3.1, zR (s3.2 + 1)))
 else
 some (.inr s3.1)
def zDd (y0 : zT) (y1 : wQ) (y2 : zO) (r3 : Bool) (s1 : Int) : Option (Int ⊕ ((List (List Int)) × Int)) :=
 if decide (s1 ≤ (len y0.1)) then
 (
 (zGz (len y0.1) s1 0).bind fun r4 =>
 zW (zDq r4 y0 y1 y2 r3) (([] : List (List Int)), 0) : Option (List (List Int))).bind fun s2 =>
 if decide (0 < (len s2)) then
 some (.inr (s2, 0))
 else
 some (.inl (zR (s1 + 1)))
 else
 some (.inr (([] : List (List Int)), 9))
def zDL (y0 : zT) (y1 : wQ) (y2 : zO) : Option ((List (List Int)) × Int) :=
 (zDl y0 y1).bind fun r1 =>
 if r1.2 != 0 then
 some (([] : List (List Int)), r1.2)
 else
 (zCC y2).bind fun r2 =>
 if !r2 then
 some (([] : List (List Int)), 3)
 else
 if decide (10 < (len y0.1)) then
 some (([] : List (List Int)), 2)
 else
 (zDy y0 y1 y2 ([] : List Int)).bind fun r3 =>
 zW (zDd y0 y1 y2 r3) 1
def zBn (y0 : zT) (y1 : wQ) (y2 : zO) (r3 : zT × Int) (r4 : Int × Int) (r5 : Int × Int) (r6 : zO × Int) (s2 : Int) : Option (Int ⊕ (Unit ⊕ Bool)) :=
 if decide (s2 < (len ([(y0, y1, y2), (r3.1, (r4.1, r5.1), r6.1), (r3.1, (r4.1, r5.1), y2), (r3.1, y1, r6.1), (y0, (r4.1, r5.1), r6.1)] : List (zT × wQ × zO)))) then
 (zH ([(y0, y1, y2), (r3.1, (r4.1, r5.1), r6.1), (r3.1, (r4.1, r5.1), y2), (r3.1, y1, r6.1), (y0, (r4.1, r5.1), r6.1)] : List (zT × wQ × zO)) s2).bind fun x1 =>
 (zBq x1.1 x1.2.1 x1.2.2).bind fun r7 =>
 (zDL x1.1 x1.2.1 x1.2.2).bind fun r8 =>
 (
 if r7.2 != r8.2 then
 some true
 else
 (zED r7.1 r8.1).bind fun r9 =>
 some (!r9) : Option Bool).bind fun s3 =>
 if s3 then
 some (.inr (.inr false))
 else
 some (.inl (zR (s2 + 1)))
 else
 some (.inr (.inl ()))
def zCr (y0 : zT) (y1 : wQ) (y2 : zO) (y3 : List Int) : Option Bool :=
 if (decide (5 < (len y0.1))) || ((decide (8 < (len y0.2.1))) || (decide (20 < (len y0.2.2)))) then
 zEW.bind fun r1 =>
 some r1
 else
 (zLh y3).bind fun r2 =>
 (zHC r2 3 4 5).bind fun r3 =>
 (zBs (r2.1, r3.2) 1 2).bind fun r4 =>
 (zBs (r2.1, r4.2) 1 2).bind fun r5 =>
 (zAf (r2.1, r5.2) 3).bind fun r6 =>
 wW (zW (zBn y0 y1 y2 r3 r4 r5 r6) 0 : Option (Unit ⊕ Bool)) fun _ =>
 zEW.bind fun r10 =>
 some r10
end
end Go.GD
