/- Part of the proof. Conditions: none. -/
import Derived.Test.YthlaikjapnddkaaGreatDoorLib
namespace Go.GD
set_option autoImplicit false
noncomputable section
set_option linter.unusedVariables false
abbrev zN := Bool × qC
abbrev vO := zN × Int × Int × qC
abbrev qR := qC × Bool × Int × (List zN) × zN
abbrev vH := qC × Int × zN
abbrev zM := (List vO) × (List qR) × (List vH)
abbrev vN := Int × Int
abbrev uD := (List Int) × Int
abbrev zI := Int × Int × (List Int) × zN
abbrev qU := Int × Int × Int × Int
abbrev wQ := Int × Int
abbrev wY := Int × (List wQ)
abbrev zBa := zM × (List zI) × (List qU) × wY
abbrev uP := zM × (List zI) × (List zI) × Int
abbrev zAJ := (List qC) × Bool
def zAY : List qC := [[], [97, 120, 105, 111, 109], [112, 114, 101, 109, 105, 115, 101], [97, 115, 115, 117, 109, 101]]
def tJ : List Int := [0, 1, 56, 2, 57, 49, 28, 3, 61, 58, 42, 50, 38, 29, 17, 4, 62, 47, 59, 36, 45, 43, 51, 22, 53, 39, 33, 30, 24, 18, 12, 5, 63, 55, 48, 27, 60, 41, 37, 16, 46, 35, 44, 21, 52, 32, 23, 11, 54, 26, 40, 15, 34, 20, 31, 10, 25, 14, 19, 9, 13, 8, 7, 6]
def zAj (y0 : uP) : Option Bool :=
 some (decide (40 < (zW ((len y0.2.1) + (len y0.2.2.1)))))
def zA2 (y0 : List zI) (y1 : Int) : Option Bool :=
 some ((decide (0 ≤ y1)) && (decide (y1 < (len y0))))
def zKt (y0 : List Int) (s1 : Int) (s3 : (List Int) × Int × Int) : Option (((List Int) × Int × Int) ⊕ ((List Int) × Int)) :=
 if decide (s3.2.2 < ((Int.toNat (((List.length y0 : Nat) : Int) - s1) : Nat) : Int)) then
 (tT s3.1 s1 s3.2.2).bind fun x3 =>
 (tT s3.1 s1 (zW (s3.2.2 - 1))).bind fun x4 =>
 if x3 != x4 then
 (tT s3.1 s1 s3.2.2).bind fun x5 =>
 (zF s3.1 s3.2.1).bind fun _ =>
 some (.inl (List.set s3.1 (Int.toNat s3.2.1) x5, zW (s3.2.1 + 1), zW (s3.2.2 + 1)))
 else
 some (.inl (s3.1, s3.2.1, zW (s3.2.2 + 1)))
 else
 some (.inr (s3.1, s3.2.1))
def zE9 (y0 : List Int) (s1 : Int) : Option (Int ⊕ (List Int)) :=
 if decide (s1 < (len y0)) then
 (zF y0 s1).bind fun x1 =>
 (zF y0 (zW (s1 - 1))).bind fun x2 =>
 if x1 == x2 then
 (uI (decide (0 ≤ s1) && decide (s1 ≤ len y0))).bind fun _ =>
 (zZ (zKt y0 s1) (y0, s1, 1) : Option ((List Int) × Int)).bind fun s2 =>
 (uI (decide (0 ≤ s2.2) && decide (s2.2 ≤ len s2.1))).bind fun _ =>
 (sub (zBv s2.1 s2.2 0) 0 s2.2).bind fun x7 =>
 some (.inr x7)
 else
 some (.inl (zW (s1 + 1)))
 else
 some (.inr y0)
def zAb (y0 : List Int) : Option (List Int) :=
 if decide ((len y0) < 2) then
 some y0
 else
 zZ (zE9 y0) 1
def zAd (y0 : List Int) : Option (List Int) := zYm y0
def zCQ (x1 : zI) (rec_argument_Subs : (List zI) → Int → Option (List Int)) (y0 : List zI) (s2 : (List Int) × Int) : Option (((List Int) × Int) ⊕ (List Int)) :=
 if decide (s2.2 < (len x1.2.2.1)) then
 (zF x1.2.2.1 s2.2).bind fun x2 =>
 (rec_argument_Subs y0 x2).bind fun r2 =>
 (wI s2.1 r2).bind fun x3 =>
 some (.inl (x3, zW (s2.2 + 1)))
 else
 some (.inr s2.1)
def zDp (rec_argument_Subs : (List zI) → Int → Option (List Int)) (y0 : List zI) (y1 : Int) : Option (List Int) :=
 (zA2 y0 y1).bind fun r1 =>
 if !r1 then
 some ([] : List Int)
 else
 (
 (zF y0 y1).bind fun x1 =>
 zZ (zCQ x1 rec_argument_Subs y0) (([y1] : List Int), 0) : Option (List Int)).bind fun s1 =>
 (zAd s1).bind fun r3 =>
 (zAb r3).bind fun r4 =>
 some r4
def zCA : Nat → (List zI) → Int → Option (List Int)
 | 0 => fun _ _ => none
 | k + 1 => fun y0 y1 => zDp (zCA k) y0 y1
def zC6 (y0 : List zI) (y1 : Int) : Option (List Int) := zVZ fun k => zCA k y0 y1
def zCP (r1 : (List Int)) (y1 : List zI) (y0 : zM) (s2 : (List Int) × Int) : Option (((List Int) × Int) ⊕ (List Int)) :=
 if decide (s2.2 < (len r1)) then
 (zF r1 s2.2).bind fun x1 =>
 (zF y1 x1).bind fun x2 =>
 (
 if decide (0 ≤ x2.2.1) then
 (zF y0.2.1 x2.2.1).bind fun x3 =>
 some (!x3.2.1)
 else
 some false : Option Bool).bind fun s3 =>
 if s3 then
 (wI s2.1 ([x2.2.1] : List Int)).bind fun x4 =>
 some (.inl (x4, zW (s2.2 + 1)))
 else
 some (.inl (s2.1, zW (s2.2 + 1)))
 else
 some (.inr s2.1)
def zBB (y0 : zM) (y1 : List zI) (y2 : Int) : Option (List Int) :=
 (
 (zC6 y1 y2).bind fun r1 =>
 zZ (zCP r1 y1 y0) (([] : List Int), 0) : Option (List Int)).bind fun s1 =>
 (zAd s1).bind fun r2 =>
 (zAb r2).bind fun r3 =>
 some r3
def zFx (x4 : zI) (rec_argument_run : zM → (List zI) → Int → Option (List zN)) (y0 : zM) (y1 : List zI) (s2 : (List zN) × Int) : Option (((List zN) × Int) ⊕ (List zN)) :=
 if decide (s2.2 < (len x4.2.2.1)) then
 (zF x4.2.2.1 s2.2).bind fun x5 =>
 (rec_argument_run y0 y1 x5).bind fun r1 =>
 (wI s2.1 r1).bind fun x6 =>
 some (.inl (x6, zW (s2.2 + 1)))
 else
 some (.inr s2.1)
def zFG (rec_argument_run : zM → (List zI) → Int → Option (List zN)) (y0 : zM) (y1 : List zI) (y2 : Int) : Option (List zN) :=
 (zF y1 y2).bind fun x1 =>
 (zF y1 y2).bind fun x2 =>
 (
 if decide (0 ≤ x2.2.1) then
 (zF y0.2.1 x2.2.1).bind fun x3 =>
 some x3.2.1
 else
 some false : Option Bool).bind fun s1 =>
 if s1 then
 (zF y1 y2).bind fun x4 =>
 zZ (zFx x4 rec_argument_run y0 y1) (([x1.2.2.2] : List zN), 0)
 else
 some ([x1.2.2.2] : List zN)
def zBs : Nat → zM → (List zI) → Int → Option (List zN)
 | 0 => fun _ _ _ => none
 | k + 1 => fun y0 y1 y2 => zFG (zBs k) y0 y1 y2
def zDV (y0 : zM) (y1 : List zI) (y2 : Int) : Option (List zN) := zVZ fun k => zBs k y0 y1 y2
def zKE (y0 : List zN) (y1 : zN) (s1 : Int) : Option (Int ⊕ Int) :=
 if decide (s1 < (len y0)) then
 (zF y0 s1).bind fun x1 =>
 if y1 == x1 then
 some (.inr s1)
 else
 some (.inl (zW (s1 + 1)))
 else
 some (.inr (-1))
def zBQ (y0 : List zN) (y1 : zN) : Option Int :=
 zZ (zKE y0 y1) 0
def zBV (y0 : List zN) (y1 : zN) : Option Bool :=
 (zBQ y0 y1).bind fun r1 =>
 some (decide (0 ≤ r1))
def zDG (y0 : List zN) (y1 : zN) : Option Bool :=
 (zBV y0 y1).bind fun r1 =>
 some r1
def zIQ (y0 : List Int) (y1 : Int) (s1 : Int) : Option (Int ⊕ Int) :=
 if decide (s1 < (len y0)) then
 (zF y0 s1).bind fun x1 =>
 if y1 == x1 then
 some (.inr s1)
 else
 some (.inl (zW (s1 + 1)))
 else
 some (.inr (-1))
def zDT (y0 : List Int) (y1 : Int) : Option Int :=
 zZ (zIQ y0 y1) 0
def zBG (y0 : List Int) (y1 : Int) : Option Bool :=
 (zDT y0 y1).bind fun r1 =>
 some (decide (0 ≤ r1))
def zBc (y3 : List Int) (y0 : zM) (y2 : Int) (y1 : List zI) (s1 : Int) : Option (Int ⊕ Bool) :=
 if decide (s1 < (len y3)) then
 (zF y3 s1).bind fun x1 =>
 (zF y0.2.1 y2).bind fun x2 =>
 if x2.2.1 then
 (zF y0.2.1 y2).bind fun x3 =>
 (zDV y0 y1 x1).bind fun r1 =>
 (zDG r1 x3.2.2.2.2).bind fun r2 =>
 if r2 then
 some (.inr false)
 else
 some (.inl (zW (s1 + 1)))
 else
 (zBB y0 y1 x1).bind fun r3 =>
 (zBG r3 y2).bind fun r4 =>
 if r4 then
 some (.inr false)
 else
 some (.inl (zW (s1 + 1)))
 else
 some (.inr true)
def zBo (y0 : zM) (y1 : List zI) (y2 : Int) (y3 : List Int) : Option Bool :=
 zZ (zBc y3 y0 y2 y1) 0
def zDN (y0 : List Int) : Option (List Int) :=
 (wI ([] : List Int) y0).bind fun x1 =>
 some x1
def zCu (y0 : Int) (y2 : uP) : Option Bool :=
 some (decide (y2.2.2.2 ≤ y0))
def zAG (y0 : List Int) (y2 : uP) (s1 : Int) : Option (Int ⊕ Int) :=
 if decide (s1 < (len y0)) then
 (zF y0 s1).bind fun x1 =>
 (zCu x1 y2).bind fun r1 =>
 if r1 then
 some (.inr s1)
 else
 some (.inl (zW (s1 + 1)))
 else
 some (.inr (-1))
def zAC (y0 : List Int) (y2 : uP) : Option Int :=
 zZ (zAG y0 y2) 0
def zAA (y0 : List Int) (y2 : uP) : Option Bool :=
 (zAC y0 y2).bind fun r1 =>
 some (decide (0 ≤ r1))
def zA1 (y0 : uP) (x1 : qR) (y2 : List Int) (rec_argument_builder_apply_2 : uP → Int → (List Int) → Option (List zI)) (y1 : Int) (s2 : Int × (List zI)) : Option ((Int × (List zI)) ⊕ (Unit ⊕ (List zI))) :=
 if decide (s2.1 < (len y0.2.1)) then
 (zF y0.2.1 s2.1).bind fun x2 =>
 (zF x1.2.2.2.1 (len y2)).bind fun x3 =>
 if x2.2.2.2 == x3 then
 (
 (zDN y2).bind fun r2 =>
 (wI r2 ([s2.1] : List Int)).bind fun x4 =>
 (rec_argument_builder_apply_2 (y0.1, y0.2.1, s2.2, y0.2.2.2) y1 x4).bind fun r3 =>
 some r3 : Option (List zI)).bind fun s3 =>
 some (.inl (zW (s2.1 + 1), s3))
 else
 some (.inl (zW (s2.1 + 1), s2.2))
 else
 some (.inr (.inr s2.2))
def zAi (rec_argument_builder_apply_2 : uP → Int → (List Int) → Option (List zI)) (y0 : uP) (y1 : Int) (y2 : List Int) : Option (List zI) :=
 (zF y0.1.2.1 y1).bind fun x1 =>
 (zAj y0).bind fun r1 =>
 if r1 then
 some y0.2.2.1
 else
 yC (
 if decide ((len y2) < (len x1.2.2.2.1)) then
 zZ (zA1 y0 x1 y2 rec_argument_builder_apply_2 y1) (0, y0.2.2.1)
 else
 some (.inl ()) : Option (Unit ⊕ (List zI))) fun _ =>
 (
 (zAA y2 y0).bind fun r6 =>
 if r6 then
 (zBo y0.1 y0.2.1 y1 y2).bind fun r7 =>
 some r7
 else
 some false : Option Bool).bind fun s4 =>
 if s4 then
 (zF y0.1.2.1 y1).bind fun x6 =>
 (wI y0.2.2.1 ([((-1), y1, y2, x6.2.2.2.2)] : List zI)).bind fun x7 =>
 some x7
 else
 some y0.2.2.1
def zAU : Nat → uP → Int → (List Int) → Option (List zI)
 | 0 => fun _ _ _ => none
 | k + 1 => fun y0 y1 y2 => zAi (zAU k) y0 y1 y2
def zAh (y0 : uP) (y1 : Int) (y2 : List Int) : Option (List zI) := zVZ fun k => zAU k y0 y1 y2
def zHm (y0 : qR) (y1 : qC) : Option Bool :=
 some (y0.1 == y1)
def zAW (y0 : List qR) (y1 : qC) (s1 : Int) : Option (Int ⊕ Int) :=
 if decide (s1 < (len y0)) then
 (zF y0 s1).bind fun x1 =>
 (zHm x1 y1).bind fun r1 =>
 if r1 then
 some (.inr s1)
 else
 some (.inl (zW (s1 + 1)))
 else
 some (.inr (-1))
def zAN (y0 : List qR) (y1 : qC) : Option Int :=
 zZ (zAW y0 y1) 0
def zCe (y0 : zM) (y1 : qC) : Option Int :=
 (zAN y0.2.1 y1).bind fun r1 =>
 some r1
def zGM (y0 : vO) (y1 : zN) : Option Bool :=
 some (y0.1 == y1)
def zAK (y0 : List vO) (y1 : zN) (s1 : Int) : Option (Int ⊕ Int) :=
 if decide (s1 < (len y0)) then
 (zF y0 s1).bind fun x1 =>
 (zGM x1 y1).bind fun r1 =>
 if r1 then
 some (.inr s1)
 else
 some (.inl (zW (s1 + 1)))
 else
 some (.inr (-1))
def zAE (y0 : List vO) (y1 : zN) : Option Int :=
 zZ (zAK y0 y1) 0
def zCH (y0 : zM) (y1 : zN) : Option Int :=
 (zAE y0.1 y1).bind fun r1 =>
 some r1
def zCn (y0 : qC) (s1 : Int) : Option (Int ⊕ Bool) :=
 if decide (s1 < (len y0)) then
 (tM y0 s1).bind fun x1 =>
 if (decide (97 ≤ x1)) && (decide (x1 ≤ 122)) then
 some (.inl (zW (s1 + 1)))
 else
 if (decide (0 < s1)) && (if decide (48 ≤ x1) then (decide (x1 ≤ 57)) || (x1 == 95) else x1 == 95) then
 some (.inl (zW (s1 + 1)))
 else
 some (.inr false)
 else
 some (.inr true)
def zAl (y0 : qC) : Option Bool :=
 if ((len y0) == 0) || (decide (12 < (len y0))) then
 some false
 else
 zZ (zCn y0) 0
def zAy (y0 : zN) : Option Bool :=
 (zAl y0.2).bind fun r1 =>
 some r1
def zBk (y0 : Int) : Option Bool :=
 some ((decide (0 ≤ y0)) && (decide (y0 ≤ 9)))
def zDH (y0 : qC) : Option Bool :=
 (
 if y0 == [] then
 some true
 else
 (zAl y0).bind fun r1 =>
 some r1 : Option Bool).bind fun s1 =>
 some s1
def zCK (y0 : vO) : Option Int :=
 yC (
 (
 if y0.2.1 == 1 then
 some (y0.2.1 == 1)
 else
 some (y0.2.1 == 3) : Option Bool).bind fun s2 =>
 if s2 then
 if y0.2.2.1 != 0 then
 some (.inr 1)
 else
 some (.inl ())
 else
 if y0.2.1 == 2 then
 (zBk y0.2.2.1).bind fun r1 =>
 if !r1 then
 some (.inr 1)
 else
 some (.inl ())
 else
 some (.inr 4) : Option (Unit ⊕ Int)) fun _ =>
 (
 (zAy y0.1).bind fun r2 =>
 if !r2 then
 some true
 else
 (zDH y0.2.2.2).bind fun r3 =>
 some (!r3) : Option Bool).bind fun s3 =>
 if s3 then
 some 1
 else
 some 0
def zBd (y0 : zM) (y1 : vH) : Option Int :=
 (
 (zBk y1.2.1).bind fun r1 =>
 if !r1 then
 some true
 else
 (zAy y1.2.2).bind fun r2 =>
 some (!r2) : Option Bool).bind fun s1 =>
 if s1 then
 some 1
 else
 (zCe y0 y1.1).bind fun r3 =>
 if decide (r3 < 0) then
 some 6
 else
 (zF y0.2.1 r3).bind fun x1 =>
 if x1.2.1 then
 some 4
 else
 some 0
def zDS (y0 : qC) : Option Bool :=
 some (!(y0 == y0))
def zDg (y0 : qC) (y1 : qC) : Option Int :=
 (zDS y0).bind fun r1 =>
 (zDS y1).bind fun r2 =>
 if r1 then
 if r2 then
 some 0
 else
 some (-1)
 else
 if r2 then
 some 1
 else
 if yY y0 y1 then
 some (-1)
 else
 if !(yY y0 y1 || y0 == y1) then
 some 1
 else
 some 0
def zBH (y0 : zN) (y1 : zN) : Option Int :=
 (zDg y0.2 y1.2).bind fun r1 =>
 if (r1 != 0) || (y0.1 == y1.1) then
 some r1
 else
 if y1.1 then
 some (-1)
 else
 some 1
def zCE (y0 : qR) (s3 : Int) : Option (Int ⊕ (Unit ⊕ Int)) :=
 if decide (s3 < (len y0.2.2.2.1)) then
 (zF y0.2.2.2.1 s3).bind fun x1 =>
 (zAy x1).bind fun r4 =>
 if !r4 then
 some (.inr (.inr 1))
 else
 some (.inl (zW (s3 + 1)))
 else
 some (.inr (.inl ()))
def zFS (y0 : qR) (s4 : Int) : Option (Int ⊕ Int) :=
 if decide (s4 < (len y0.2.2.2.1)) then
 (zF y0.2.2.2.1 (zW (s4 - 1))).bind fun x2 =>
 (zF y0.2.2.2.1 s4).bind fun x3 =>
 (zBH x2 x3).bind fun r5 =>
 if decide (0 ≤ r5) then
 some (.inr 8)
 else
 some (.inl (zW (s4 + 1)))
 else
 some (.inr 0)
def zEH (y0 : qR) : Option Int :=
 if decide (4 < (len y0.2.2.2.1)) then
 some 2
 else
 (
 (zAl y0.1).bind fun r1 =>
 if !r1 then
 some true
 else
 (zAy y0.2.2.2.2).bind fun r2 =>
 if !r2 then
 some true
 else
 (zBk y0.2.2.1).bind fun r3 =>
 if !r3 then
 some true
 else
 if y0.2.1 then
 some (y0.2.2.1 != 0)
 else
 some false : Option Bool).bind fun s1 =>
 if s1 then
 some 1
 else
 yC (zZ (zCE y0) 0 : Option (Unit ⊕ Int)) fun _ =>
 zZ (zFS y0) 1
def zBR (y0 : zM) (s2 : Int) : Option (Int ⊕ (Unit ⊕ Int)) :=
 if decide (s2 < (len y0.1)) then
 (zF y0.1 s2).bind fun x1 =>
 (zCK x1).bind fun r1 =>
 if r1 != 0 then
 some (.inr (.inr r1))
 else
 (zCH y0 x1.1).bind fun r2 =>
 if decide (r2 < s2) then
 some (.inr (.inr 5))
 else
 some (.inl (zW (s2 + 1)))
 else
 some (.inr (.inl ()))
def zBU (y0 : zM) (s4 : Int) : Option (Int ⊕ (Unit ⊕ Int)) :=
 if decide (s4 < (len y0.2.1)) then
 (zF y0.2.1 s4).bind fun x2 =>
 (zEH x2).bind fun r3 =>
 if r3 != 0 then
 some (.inr (.inr r3))
 else
 (zCe y0 x2.1).bind fun r4 =>
 if decide (r4 < s4) then
 some (.inr (.inr 5))
 else
 some (.inl (zW (s4 + 1)))
 else
 some (.inr (.inl ()))
def zBS (y0 : zM) (s5 : Int) : Option (Int ⊕ Int) :=
 if decide (s5 < (len y0.2.2)) then
 (zF y0.2.2 s5).bind fun x3 =>
 (zBd y0 x3).bind fun r5 =>
 if r5 != 0 then
 some (.inr r5)
 else
 some (.inl (zW (s5 + 1)))
 else
 some (.inr 0)
def zBC (y0 : zM) : Option Int :=
 if (decide (16 < (len y0.1))) || ((decide (24 < (len y0.2.1))) || (decide (8 < (len y0.2.2)))) then
 some 2
 else
 yC (zZ (zBR y0) 0 : Option (Unit ⊕ Int)) fun _ =>
 yC (zZ (zBU y0) 0 : Option (Unit ⊕ Int)) fun _ =>
 zZ (zBS y0) 0
def zCd (y0 : zM) (s2 : Int × (List zI)) : Option ((Int × (List zI)) ⊕ (List zI)) :=
 if decide (s2.1 < (len y0.1)) then
 (zF y0.1 s2.1).bind fun x1 =>
 (wI s2.2 ([(s2.1, (-1), ([] : List Int), x1.1)] : List zI)).bind fun x2 =>
 some (.inl (zW (s2.1 + 1), x2))
 else
 some (.inr s2.2)
def zB2 (y0 : zM) (s4 : Int × (List zI) × (List zI) × Int) (s6 : Int × (List zI)) : Option ((Int × (List zI)) ⊕ ((List zI) ⊕ ((Int × (List zI) × (List zI) × Int) ⊕ ((List zI) × (List zI) × Int)))) :=
 if decide (s6.1 < (len y0.2.1)) then
 (zF y0.2.1 s6.1).bind fun x3 =>
 (
 if decide (0 < (len x3.2.2.2.1)) then
 (zAh (y0, s4.2.1, s6.2, s4.2.2.2) s6.1 ([] : List Int)).bind fun r2 =>
 some r2
 else
 if s4.1 == 1 then
 (wI s6.2 ([((-1), s6.1, ([] : List Int), x3.2.2.2.2)] : List zI)).bind fun x4 =>
 some x4
 else
 some s6.2 : Option (List zI)).bind fun s7 =>
 (zAj (y0, s4.2.1, s7, s4.2.2.2)).bind fun r3 =>
 if r3 then
 some (.inr (.inr (.inr (s4.2.1, s7, s4.2.2.2))))
 else
 some (.inl (zW (s6.1 + 1), s7))
 else
 some (.inr (.inl s6.2))
def zA8 (y0 : zM) (s4 : Int × (List zI) × (List zI) × Int) : Option ((Int × (List zI) × (List zI) × Int) ⊕ ((List zI) × (List zI) × Int)) :=
 yC (zZ (zB2 y0 s4) (0, ([] : List zI)) : Option ((List zI) ⊕ ((Int × (List zI) × (List zI) × Int) ⊕ ((List zI) × (List zI) × Int)))) fun s5 =>
 if (len s5) == 0 then
 some (.inr (s4.2.1, s5, s4.2.2.2))
 else
 (wI s4.2.1 s5).bind fun x5 =>
 some (.inl (zW (s4.1 + 1), x5, s5, len s4.2.1))
def zBf (y0 : zM) : Option ((List zI) × Int) :=
 (zBC y0).bind fun r1 =>
 if r1 != 0 then
 some (([] : List zI), r1)
 else
 (zZ (zCd y0) (0, ([] : List zI)) : Option (List zI)).bind fun s1 =>
 (zZ (zA8 y0) (1, s1, ([] : List zI), 0) : Option ((List zI) × (List zI) × Int)).bind fun s3 =>
 (zAj (y0, s3.1, s3.2.1, s3.2.2)).bind fun r4 =>
 if r4 then
 some (([] : List zI), 2)
 else
 some (s3.1, 0)
def zBj (y0 : List zN) : Option (List zN) :=
 (wI ([] : List zN) y0).bind fun x1 =>
 some x1
def zIp (y0 : List zN) (s1 : Int) (s3 : (List zN) × Int × Int) : Option (((List zN) × Int × Int) ⊕ ((List zN) × Int)) :=
 if decide (s3.2.2 < ((Int.toNat (((List.length y0 : Nat) : Int) - s1) : Nat) : Int)) then
 (tT s3.1 s1 s3.2.2).bind fun x3 =>
 (tT s3.1 s1 (zW (s3.2.2 - 1))).bind fun x4 =>
 if !(x3 == x4) then
 (tT s3.1 s1 s3.2.2).bind fun x5 =>
 (zF s3.1 s3.2.1).bind fun _ =>
 some (.inl (List.set s3.1 (Int.toNat s3.2.1) x5, zW (s3.2.1 + 1), zW (s3.2.2 + 1)))
 else
 some (.inl (s3.1, s3.2.1, zW (s3.2.2 + 1)))
 else
 some (.inr (s3.1, s3.2.1))
def zC8 (y0 : List zN) (s1 : Int) : Option (Int ⊕ (List zN)) :=
 if decide (s1 < (len y0)) then
 (zF y0 s1).bind fun x1 =>
 (zF y0 (zW (s1 - 1))).bind fun x2 =>
 if x1 == x2 then
 (uI (decide (0 ≤ s1) && decide (s1 ≤ len y0))).bind fun _ =>
 (zZ (zIp y0 s1) (y0, s1, 1) : Option ((List zN) × Int)).bind fun s2 =>
 (uI (decide (0 ≤ s2.2) && decide (s2.2 ≤ len s2.1))).bind fun _ =>
 (sub (zBv s2.1 s2.2 (false, [])) 0 s2.2).bind fun x7 =>
 some (.inr x7)
 else
 some (.inl (zW (s1 + 1)))
 else
 some (.inr y0)
def zAw (y0 : List zN) : Option (List zN) :=
 if decide ((len y0) < 2) then
 some y0
 else
 zZ (zC8 y0) 1
def zAB (y0 : List zN) : Option (List zN) := zSa zBH y0
def zCY (y0 : List zN) : Option (List zN) :=
 (zBj y0).bind fun r1 =>
 (zAB r1).bind fun r2 =>
 (zAw r2).bind fun r3 =>
 some r3
def zBt (y1 : List Int) (y0 : List zI) (s2 : (List zN) × Int) : Option (((List zN) × Int) ⊕ (List zN)) :=
 if decide (s2.2 < (len y1)) then
 (zF y1 s2.2).bind fun x1 =>
 (zA2 y0 x1).bind fun r1 =>
 if r1 then
 (zF y0 x1).bind fun x2 =>
 (wI s2.1 ([x2.2.2.2] : List zN)).bind fun x3 =>
 some (.inl (x3, zW (s2.2 + 1)))
 else
 some (.inl (s2.1, zW (s2.2 + 1)))
 else
 some (.inr s2.1)
def zAu (y0 : List zI) (y1 : List Int) : Option (List zN) :=
 (zZ (zBt y1 y0) (([] : List zN), 0) : Option (List zN)).bind fun s1 =>
 (zCY s1).bind fun r2 =>
 some r2
def zGK (y0 : zN) : Option zN :=
 some (!y0.1, y0.2)
def zHr (y0 : zM) (y1 : List zI) (y2 : Int) (y3 : Int) : Option (List Int) :=
 (
 (zF y1 y2).bind fun x1 =>
 (zF y1 y3).bind fun x2 =>
 some (x1.2.2.2, x2) : Option (zN × zI)).bind fun s1 =>
 (zGK s1.2.2.2.2).bind fun r1 =>
 if decide (0 ≤ s1.2.1) then
 (
 if s1.1 == r1 then
 (zF y0.1 s1.2.1).bind fun x3 =>
 some (x3.2.1 != 1)
 else
 some false : Option Bool).bind fun s2 =>
 if s2 then
 (wI ([] : List Int) ([1] : List Int)).bind fun x4 =>
 some x4
 else
 some ([] : List Int)
 else
 (zF y0.2.1 s1.2.2.1).bind fun x5 =>
 if !x5.2.1 then
 (
 if s1.1 == r1 then
 (wI ([] : List Int) ([2] : List Int)).bind fun x6 =>
 some x6
 else
 some ([] : List Int) : Option (List Int)).bind fun s3 =>
 (
 if s1.1.1 then
 (zF y0.2.1 s1.2.2.1).bind fun x7 =>
 some (s1.1.2 == x7.1)
 else
 some false : Option Bool).bind fun s4 =>
 if s4 then
 (wI s3 ([3] : List Int)).bind fun x8 =>
 some x8
 else
 some s3
 else
 some ([] : List Int)
def zF8 (y0 : Int) : Option Bool :=
 some (y0 != y0)
def zAe (y0 : Int) (y1 : Int) : Option Int :=
 (zF8 y0).bind fun r1 =>
 (zF8 y1).bind fun r2 =>
 if r1 then
 if r2 then
 some 0
 else
 some (-1)
 else
 if r2 then
 some 1
 else
 if decide (y0 < y1) then
 some (-1)
 else
 if decide (y1 < y0) then
 some 1
 else
 some 0
def zPo (y0 : List Int) (s1 : Int) : Option (Int ⊕ Int) :=
 if decide (s1 < (len y0)) then
 (zF y0 s1).bind fun x1 =>
 if x1 != 0 then
 some (.inr x1)
 else
 some (.inl (zW (s1 + 1)))
 else
 some (.inr 0)
def zFd (y0 : List Int) : Option Int :=
 zZ (zPo y0) 0
def zCG (y0 : qU) (y1 : qU) : Option Int :=
 (zAe y0.1 y1.1).bind fun r1 =>
 (zAe y0.2.1 y1.2.1).bind fun r2 =>
 (zAe y0.2.2.1 y1.2.2.1).bind fun r3 =>
 (zAe y0.2.2.2 y1.2.2.2).bind fun r4 =>
 (zFd ([r1, r2, r3, r4] : List Int)).bind fun r5 =>
 some r5
def zAI (y0 : List qU) : Option (List qU) := zSa zCG y0
def zEc (r1 : (List Int)) (s3 : (List qU) × Int) (s4 : (List qU) × Int) (s2 : (List qU) × Int) (s5 : (List qU) × Int) : Option (((List qU) × Int) ⊕ (((List qU) × Int) ⊕ (((List qU) × Int) ⊕ (((List qU) × Int) ⊕ (List qU))))) :=
 if decide (s5.2 < (len r1)) then
 (zF r1 s5.2).bind fun x1 =>
 (wI s5.1 ([(s3.2, s4.2, s2.2, x1)] : List qU)).bind fun x2 =>
 some (.inl (x2, zW (s5.2 + 1)))
 else
 some (.inr (.inl (s5.1, zW (s4.2 + 1))))
def zBm (y1 : List zI) (s2 : (List qU) × Int) (r1 : (List Int)) (s3 : (List qU) × Int) (s4 : (List qU) × Int) : Option (((List qU) × Int) ⊕ (((List qU) × Int) ⊕ (((List qU) × Int) ⊕ (List qU)))) :=
 if decide (s4.2 < (len y1)) then
 (zC6 y1 s4.2).bind fun r2 =>
 (zBG r2 s2.2).bind fun r3 =>
 if !r3 then
 some (.inl (s4.1, zW (s4.2 + 1)))
 else
 zZ (zEc r1 s3 s4 s2) (s4.1, 0)
 else
 some (.inr (.inl (s4.1, zW (s3.2 + 1))))
def zBr (y1 : List zI) (y0 : zM) (s2 : (List qU) × Int) (s3 : (List qU) × Int) : Option (((List qU) × Int) ⊕ (((List qU) × Int) ⊕ (List qU))) :=
 if decide (s3.2 < (len y1)) then
 (zHr y0 y1 s3.2 s2.2).bind fun r1 =>
 if (len r1) == 0 then
 some (.inl (s3.1, zW (s3.2 + 1)))
 else
 zZ (zBm y1 s2 r1 s3) (s3.1, 0)
 else
 some (.inr (.inl (s3.1, zW (s2.2 + 1))))
def zB1 (y1 : List zI) (y0 : zM) (s2 : (List qU) × Int) : Option (((List qU) × Int) ⊕ (List qU)) :=
 if decide (s2.2 < (len y1)) then
 zZ (zBr y1 y0 s2) (s2.1, 0)
 else
 some (.inr s2.1)
def zCy (y0 : zM) (y1 : List zI) : Option (List qU) :=
 (zZ (zB1 y1 y0) (([] : List qU), 0) : Option (List qU)).bind fun s1 =>
 (zAI s1).bind fun r4 =>
 some r4
def zCl (r1 : (List Int)) (y0 : List zI) (s2 : (List Int) × Int) : Option (((List Int) × Int) ⊕ (List Int)) :=
 if decide (s2.2 < (len r1)) then
 (zF r1 s2.2).bind fun x1 =>
 (zF y0 x1).bind fun x2 =>
 if decide (0 ≤ x2.1) then
 (zF y0 x1).bind fun x3 =>
 (wI s2.1 ([x3.1] : List Int)).bind fun x4 =>
 some (.inl (x4, zW (s2.2 + 1)))
 else
 some (.inl (s2.1, zW (s2.2 + 1)))
 else
 some (.inr s2.1)
def zB3 (y0 : List zI) (y1 : Int) : Option (List Int) :=
 (
 (zC6 y0 y1).bind fun r1 =>
 zZ (zCl r1 y0) (([] : List Int), 0) : Option (List Int)).bind fun s1 =>
 (zAd s1).bind fun r2 =>
 some r2
def zG0 (y0 : Int) (y1 : zM) : Option Bool :=
 (zF y1.1 y0).bind fun x1 =>
 some (x1.2.1 == 3)
def zAL (y0 : List Int) (y1 : zM) (s1 : Int) : Option (Int ⊕ Int) :=
 if decide (s1 < (len y0)) then
 (zF y0 s1).bind fun x1 =>
 (zG0 x1 y1).bind fun r1 =>
 if r1 then
 some (.inr s1)
 else
 some (.inl (zW (s1 + 1)))
 else
 some (.inr (-1))
def zAQ (y0 : List Int) (y1 : zM) : Option Int :=
 zZ (zAL y0 y1) 0
def zAM (y0 : List Int) (y1 : zM) : Option Bool :=
 (zAQ y0 y1).bind fun r1 =>
 some (decide (0 ≤ r1))
def zFJ (y0 : zM) (y1 : List zI) (y2 : Int) : Option Bool :=
 (zB3 y1 y2).bind fun r1 =>
 (zAM r1 y0).bind fun r2 =>
 some r2
def zCI (x5 : zI) (rec_argument_Last : zM → (List zI) → Int → Option (List Int)) (y0 : zM) (y1 : List zI) (s3 : (List Int) × Int) : Option (((List Int) × Int) ⊕ (List Int)) :=
 if decide (s3.2 < (len x5.2.2.1)) then
 (zF x5.2.2.1 s3.2).bind fun x6 =>
 (rec_argument_Last y0 y1 x6).bind fun r2 =>
 (wI s3.1 r2).bind fun x7 =>
 some (.inl (x7, zW (s3.2 + 1)))
 else
 some (.inr s3.1)
def zEG (rec_argument_Last : zM → (List zI) → Int → Option (List Int)) (y0 : zM) (y1 : List zI) (y2 : Int) : Option (List Int) :=
 (
 (zA2 y1 y2).bind fun r1 =>
 if !r1 then
 some true
 else
 (zF y1 y2).bind fun x1 =>
 some (decide (x1.2.1 < 0)) : Option Bool).bind fun s1 =>
 if s1 then
 some ([] : List Int)
 else
 (zF y1 y2).bind fun x2 =>
 (zF y0.2.1 x2.2.1).bind fun x3 =>
 if !x3.2.1 then
 (zF y1 y2).bind fun x4 =>
 some ([x4.2.1] : List Int)
 else
 (
 (zF y1 y2).bind fun x5 =>
 zZ (zCI x5 rec_argument_Last y0 y1) (([] : List Int), 0) : Option (List Int)).bind fun s2 =>
 (zAd s2).bind fun r3 =>
 (zAb r3).bind fun r4 =>
 some r4
def zBu : Nat → zM → (List zI) → Int → Option (List Int)
 | 0 => fun _ _ _ => none
 | k + 1 => fun y0 y1 y2 => zEG (zBu k) y0 y1 y2
def zFh (y0 : zM) (y1 : List zI) (y2 : Int) : Option (List Int) := zVZ fun k => zBu k y0 y1 y2
def zHG (y1 : List Int) (y0 : zM) (s1 : (List Int) × Int) : Option (((List Int) × Int) ⊕ (List Int)) :=
 if decide (s1.2 < (len y1)) then
 (zF y1 s1.2).bind fun x1 =>
 (zF y0.2.1 x1).bind fun x2 =>
 (wI s1.1 ([x2.2.2.1] : List Int)).bind fun x3 =>
 some (.inl (x3, zW (s1.2 + 1)))
 else
 some (.inr s1.1)
def zGm (y0 : zM) (y1 : List Int) : Option (List Int) :=
 zZ (zHG y1 y0) (([] : List Int), 0)
def zBW (y0 : zM) (y1 : List zI) (y2 : Int) : Option (List Int) :=
 (zFh y0 y1 y2).bind fun r1 =>
 (zGm y0 r1).bind fun r2 =>
 some r2
def zE7 (y0 : List Int) (s2 : Int × Int) : Option ((Int × Int) ⊕ Int) :=
 if decide (s2.2 < (len y0)) then
 (zF y0 s2.2).bind fun x2 =>
 some (.inl (if x2 > s2.1 then x2 else s2.1, zW (s2.2 + 1)))
 else
 some (.inr s2.1)
def zCT (y0 : List Int) : Option Int :=
 (
 if decide ((len y0) < 1) then
 none
 else
 some () : Option Unit).bind fun _ =>
 (zF y0 0).bind fun x1 =>
 zZ (zE7 y0) (x1, 1)
def zEX (y0 : List Int) (s2 : Int × Int) : Option ((Int × Int) ⊕ Int) :=
 if decide (s2.2 < (len y0)) then
 (zF y0 s2.2).bind fun x2 =>
 some (.inl (if x2 < s2.1 then x2 else s2.1, zW (s2.2 + 1)))
 else
 some (.inr s2.1)
def zCU (y0 : List Int) : Option Int :=
 (
 if decide ((len y0) < 1) then
 none
 else
 some () : Option Unit).bind fun _ =>
 (zF y0 0).bind fun x1 =>
 zZ (zEX y0) (x1, 1)
def zC2 (y0 : List Int) (y1 : List Int) (y2 : Int) : Option Bool :=
 if if y2 != 1 then (y2 != 2) || ((len y0) == 0) else (len y0) == 0 then
 some false
 else
 if (len y1) == 0 then
 some true
 else
 if y2 == 1 then
 (zCU y0).bind fun r1 =>
 (zCU y1).bind fun r2 =>
 some (decide (r1 < r2))
 else
 (zCT y0).bind fun r3 =>
 (zCT y1).bind fun r4 =>
 some (decide (r3 < r4))
def zA5 (y0 : zM) (y1 : List zI) (y2 : Int) (y3 : Int) (y4 : vN) : Option Bool :=
 (zBW y0 y1 y2).bind fun r1 =>
 (zBW y0 y1 y3).bind fun r2 =>
 (zC2 r1 r2 y4.2).bind fun r3 =>
 some r3
def zBi (r1 : (List Int)) (y0 : zM) (s1 : (List Int) × Int) : Option (((List Int) × Int) ⊕ (List Int)) :=
 if decide (s1.2 < (len r1)) then
 (zF r1 s1.2).bind fun x1 =>
 (zF y0.1 x1).bind fun x2 =>
 if x2.2.1 == 2 then
 (wI s1.1 ([x2.2.2.1] : List Int)).bind fun x3 =>
 some (.inl (x3, zW (s1.2 + 1)))
 else
 if x2.2.1 == 3 then
 (wI s1.1 ([(-1)] : List Int)).bind fun x4 =>
 some (.inl (x4, zW (s1.2 + 1)))
 else
 some (.inl (s1.1, zW (s1.2 + 1)))
 else
 some (.inr s1.1)
def zA9 (y0 : zM) (y1 : List zI) (y2 : Int) : Option (List Int) :=
 (zB3 y1 y2).bind fun r1 =>
 zZ (zBi r1 y0) (([] : List Int), 0)
def zAD (y0 : zM) (y1 : List zI) (y2 : Int) (y3 : Int) (y4 : vN) : Option Bool :=
 (zA9 y0 y1 y2).bind fun r1 =>
 (zA9 y0 y1 y3).bind fun r2 =>
 (zC2 r1 r2 y4.2).bind fun r3 =>
 some r3
def zA4 (y0 : zM) (y1 : List zI) (y2 : Int) (y3 : Int) : Option Bool :=
 (
 (zBW y0 y1 y2).bind fun r1 =>
 if (len r1) == 0 then
 (zBW y0 y1 y3).bind fun r2 =>
 some ((len r2) == 0)
 else
 some false : Option Bool).bind fun s1 =>
 some s1
def zBK (y1 : zM) (y2 : List zI) (y3 : Int) (y4 : Int) (y5 : vN) : Option Bool :=
 (
 (zA5 y1 y2 y3 y4 y5).bind fun r1 =>
 if r1 then
 some true
 else
 (zA4 y1 y2 y3 y4).bind fun r2 =>
 if r2 then
 (zAD y1 y2 y3 y4 y5).bind fun r3 =>
 some r3
 else
 some false : Option Bool).bind fun s1 =>
 some s1
def zBY (y0 : zM) (y1 : List zI) (y2 : Int) : Option (List Int) :=
 (zBB y0 y1 y2).bind fun r1 =>
 (zGm y0 r1).bind fun r2 =>
 some r2
def zAT (y0 : zM) (y1 : List zI) (y2 : Int) (y3 : Int) (y4 : vN) : Option Bool :=
 (zBY y0 y1 y2).bind fun r1 =>
 (zBY y0 y1 y3).bind fun r2 =>
 (zC2 r1 r2 y4.2).bind fun r3 =>
 some r3
def zAV (y0 : zM) (y1 : List zI) (y2 : Int) (y3 : Int) : Option Bool :=
 (
 (zA9 y0 y1 y2).bind fun r1 =>
 if (len r1) == 0 then
 (zA9 y0 y1 y3).bind fun r2 =>
 some ((len r2) == 0)
 else
 some false : Option Bool).bind fun s1 =>
 some s1
def zA3 (y0 : zM) (y1 : List zI) (y2 : Int) (y3 : Int) : Option Bool :=
 (
 (zBY y0 y1 y2).bind fun r1 =>
 if (len r1) == 0 then
 (zBY y0 y1 y3).bind fun r2 =>
 some ((len r2) == 0)
 else
 some false : Option Bool).bind fun s1 =>
 some s1
def zBJ (y1 : zM) (y2 : List zI) (y3 : Int) (y4 : Int) (y6 : vN) : Option Bool :=
 (zA3 y1 y2 y3 y4).bind fun r1 =>
 if r1 then
 (zAD y1 y2 y3 y4 y6).bind fun r2 =>
 some r2
 else
 (zAV y1 y2 y3 y4).bind fun r3 =>
 if r3 then
 (zAT y1 y2 y3 y4 y6).bind fun r4 =>
 some r4
 else
 (
 (zAD y1 y2 y3 y4 y6).bind fun r5 =>
 if r5 then
 (zAT y1 y2 y3 y4 y6).bind fun r6 =>
 some r6
 else
 some false : Option Bool).bind fun s1 =>
 some s1
def zHe (y0 : zM) (y1 : List zI) (y2 : Int) (y3 : Int) (y4 : vN) : Option Bool :=
 (
 if decide ((if y3 < y2 then y3 else y2) < 0) then
 some true
 else
 if decide ((len y1) ≤ (if y3 > y2 then y3 else y2)) then
 some true
 else
 (zFJ y0 y1 y3).bind fun r1 =>
 some r1 : Option Bool).bind fun s1 =>
 if s1 then
 some false
 else
 if y4.1 == 1 then
 (zBK y0 y1 y2 y3 y4).bind fun r2 =>
 some r2
 else
 if y4.1 == 2 then
 (zBJ y0 y1 y2 y3 y4).bind fun r3 =>
 some r3
 else
 some false
def zBP (y0 : qU) (y1 : zM) (y2 : List zI) (y3 : vN) : Option Bool :=
 (
 if y0.2.2.2 != 3 then
 (zHe y1 y2 y0.1 y0.2.2.1 y3).bind fun r1 =>
 some r1
 else
 some false : Option Bool).bind fun s1 =>
 some s1
def zAa (y0 : List qU) (y1 : zM) (y2 : List zI) (y3 : vN) (s1 : Int) : Option (Int ⊕ Int) :=
 if decide (s1 < (len y0)) then
 (zF y0 s1).bind fun x1 =>
 (zBP x1 y1 y2 y3).bind fun r1 =>
 if r1 then
 some (.inr s1)
 else
 some (.inl (zW (s1 + 1)))
 else
 some (.inr (-1))
def zAX (y0 : List qU) (y1 : zM) (y2 : List zI) (y3 : vN) : Option Int :=
 zZ (zAa y0 y1 y2 y3) 0
def zA7 (y0 : List qU) (y1 : zM) (y2 : List zI) (y3 : vN) (s2 : (List qU) × Int × Int) : Option (((List qU) × Int × Int) ⊕ ((List qU) × Int)) :=
 if decide (s2.2.2 < (len y0)) then
 (zF s2.1 s2.2.2).bind fun x1 =>
 (zBP x1 y1 y2 y3).bind fun r2 =>
 if !r2 then
 (zF s2.1 s2.2.1).bind fun _ =>
 some (.inl (List.set s2.1 (Int.toNat s2.2.1) x1, zW (s2.2.1 + 1), zW (s2.2.2 + 1)))
 else
 some (.inl (s2.1, s2.2.1, zW (s2.2.2 + 1)))
 else
 some (.inr (s2.1, s2.2.1))
def zAF (y0 : List qU) (y1 : zM) (y2 : List zI) (y3 : vN) : Option (List qU) :=
 (zAX y0 y1 y2 y3).bind fun r1 =>
 if r1 == (-1) then
 some y0
 else
 (zZ (zA7 y0 y1 y2 y3) (y0, r1, zW (r1 + 1)) : Option ((List qU) × Int)).bind fun s1 =>
 (uI (decide (0 ≤ s1.2) && decide (s1.2 ≤ len s1.1))).bind fun _ =>
 (sub (zBv s1.1 s1.2 (0, 0, 0, 0)) 0 s1.2).bind fun x3 =>
 some x3
def zCV (y0 : zM) (y1 : List zI) (y2 : vN) : Option (List qU) :=
 (zCy y0 y1).bind fun r1 =>
 (zAF r1 y0 y1 y2).bind fun r2 =>
 some r2
def zKb (y0 : List wQ) (s1 : Int) (s3 : (List wQ) × Int × Int) : Option (((List wQ) × Int × Int) ⊕ ((List wQ) × Int)) :=
 if decide (s3.2.2 < ((Int.toNat (((List.length y0 : Nat) : Int) - s1) : Nat) : Int)) then
 (tT s3.1 s1 s3.2.2).bind fun x3 =>
 (tT s3.1 s1 (zW (s3.2.2 - 1))).bind fun x4 =>
 if !(x3 == x4) then
 (tT s3.1 s1 s3.2.2).bind fun x5 =>
 (zF s3.1 s3.2.1).bind fun _ =>
 some (.inl (List.set s3.1 (Int.toNat s3.2.1) x5, zW (s3.2.1 + 1), zW (s3.2.2 + 1)))
 else
 some (.inl (s3.1, s3.2.1, zW (s3.2.2 + 1)))
 else
 some (.inr (s3.1, s3.2.1))
def zDw (y0 : List wQ) (s1 : Int) : Option (Int ⊕ (List wQ)) :=
 if decide (s1 < (len y0)) then
 (zF y0 s1).bind fun x1 =>
 (zF y0 (zW (s1 - 1))).bind fun x2 =>
 if x1 == x2 then
 (uI (decide (0 ≤ s1) && decide (s1 ≤ len y0))).bind fun _ =>
 (zZ (zKb y0 s1) (y0, s1, 1) : Option ((List wQ) × Int)).bind fun s2 =>
 (uI (decide (0 ≤ s2.2) && decide (s2.2 ≤ len s2.1))).bind fun _ =>
 (sub (zBv s2.1 s2.2 (0, 0)) 0 s2.2).bind fun x7 =>
 some (.inr x7)
 else
 some (.inl (zW (s1 + 1)))
 else
 some (.inr y0)
def zBw (y0 : List wQ) : Option (List wQ) :=
 if decide ((len y0) < 2) then
 some y0
 else
 zZ (zDw y0) 1
def zCz (y0 : wQ) (y1 : wQ) : Option Int :=
 (zAe y0.1 y1.1).bind fun r1 =>
 (zAe y0.2 y1.2).bind fun r2 =>
 (zFd ([r1, r2] : List Int)).bind fun r3 =>
 some r3
def zAR (y0 : List wQ) : Option (List wQ) := zSa zCz y0
def zDl (y1 : List qU) (y0 : Int) (s2 : Int × (List wQ)) : Option ((Int × (List wQ)) ⊕ ((List wQ) ⊕ (wY × Int))) :=
 if decide (s2.1 < (len y1)) then
 (zF y1 s2.1).bind fun x1 =>
 if (decide ((if x1.2.1 < x1.1 then x1.2.1 else x1.1) < 0)) || (decide (y0 ≤ (if x1.2.1 > x1.1 then x1.2.1 else x1.1))) then
 some (.inr (.inr ((0, ([] : List wQ)), 1)))
 else
 (wI s2.2 ([(x1.1, x1.2.1)] : List wQ)).bind fun x2 =>
 some (.inl (zW (s2.1 + 1), x2))
 else
 some (.inr (.inl s2.2))
def zDY (y0 : Int) (y1 : List qU) : Option (wY × Int) :=
 if (decide (y0 < 0)) || (decide (40 < y0)) then
 some ((0, ([] : List wQ)), 1)
 else
 yC (zZ (zDl y1 y0) (0, ([] : List wQ)) : Option ((List wQ) ⊕ (wY × Int))) fun s1 =>
 (zAR s1).bind fun r1 =>
 (zBw r1).bind fun r2 =>
 some ((y0, r2), 0)
def zB9 (y0 : Int) : Option Int :=
 if y0 == 0 then
 some 64
 else
 (zF tJ (xO .u64 (IntKind.u64.wrap ((xA .u64 y0 (IntKind.u64.wrap (0 - y0))) * 285870213051353865)) 58)).bind fun x1 =>
 some (zW (x1))
def zDv (s1 : Int × (List Int)) : Option ((Int × (List Int)) ⊕ (List Int)) :=
 if s1.1 != 0 then
 (zB9 s1.1).bind fun r1 =>
 (wI s1.2 ([r1] : List Int)).bind fun x1 =>
 some (.inl (xA .u64 s1.1 (IntKind.u64.wrap (s1.1 - 1)), x1))
 else
 some (.inr s1.2)
def zGj (y0 : Int) : Option (List Int) :=
 zZ (zDv) (y0, ([] : List Int))
def zGS (y0 : wY) (s1 : (List Int) × Int) : Option (((List Int) × Int) ⊕ (List Int)) :=
 if decide (s1.2 < (len y0.2)) then
 (zF y0.2 s1.2).bind fun x2 =>
 (zF s1.1 x2.1).bind fun x3 =>
 (z03 .u64 1 x2.2).bind fun x4 =>
 (zF s1.1 x2.1).bind fun _ =>
 some (.inl (List.set s1.1 (Int.toNat x2.1) (bor .u64 x3 x4), zW (s1.2 + 1)))
 else
 some (.inr s1.1)
def zFm (y0 : wY) : Option (List Int) :=
 (mkS y0.1 y0.1 (0 : Int)).bind fun x1 =>
 zZ (zGS y0) (x1, 0)
def zEB (y0 : wQ) (y1 : wQ) : Option Int :=
 (zAe y0.1 y1.1).bind fun r1 =>
 (zAe y0.2 y1.2).bind fun r2 =>
 (zFd ([r1, r2] : List Int)).bind fun r3 =>
 some r3
def zAk (y0 : wY) (s1 : Int) : Option (Int ⊕ Int) :=
 if decide (s1 < (len y0.2)) then
 (zF y0.2 s1).bind fun x1 =>
 if (decide ((if x1.2 < x1.1 then x1.2 else x1.1) < 0)) || (decide (y0.1 ≤ (if x1.2 > x1.1 then x1.2 else x1.1))) then
 some (.inr 1)
 else
 (
 if decide (0 < s1) then
 (zF y0.2 (zW (s1 - 1))).bind fun x2 =>
 (zEB x2 x1).bind fun r1 =>
 some (decide (0 ≤ r1))
 else
 some false : Option Bool).bind fun s2 =>
 if s2 then
 some (.inr 8)
 else
 some (.inl (zW (s1 + 1)))
 else
 some (.inr 0)
def zAq (y0 : wY) : Option Int :=
 if (decide (y0.1 < 0)) || (decide (40 < y0.1)) then
 some 1
 else
 zZ (zAk y0) 0
def zFF (y0 : wY) : Option wY :=
 (zAq y0).bind fun r1 =>
 if r1 != 0 then
 some (0, ([] : List wQ))
 else
 some y0
def zCW (y0 : wY) (y1 : Int) : Option (List Int) :=
 (zFF y0).bind fun r1 =>
 if (decide (y1 < 0)) || (decide (r1.1 ≤ y1)) then
 some ([] : List Int)
 else
 (zFm r1).bind fun r2 =>
 (zF r2 y1).bind fun x1 =>
 (zGj x1).bind fun r3 =>
 some r3
def zKT (y0 : Int) (y1 : Int) : Option (Int × Int) :=
 some (IntKind.u64.wrap ((IntKind.u64.wrap ((IntKind.u64.wrap ((xO .u64 y0 32) * (xO .u64 y1 32))) + (xO .u64 (IntKind.u64.wrap ((IntKind.u64.wrap ((xO .u64 y0 32) * (xA .u64 y1 4294967295))) + (xO .u64 (IntKind.u64.wrap ((xA .u64 y0 4294967295) * (xA .u64 y1 4294967295))) 32))) 32))) + (xO .u64 (IntKind.u64.wrap ((xA .u64 (IntKind.u64.wrap ((IntKind.u64.wrap ((xO .u64 y0 32) * (xA .u64 y1 4294967295))) + (xO .u64 (IntKind.u64.wrap ((xA .u64 y0 4294967295) * (xA .u64 y1 4294967295))) 32))) 4294967295) + (IntKind.u64.wrap ((xA .u64 y0 4294967295) * (xO .u64 y1 32))))) 32)), IntKind.u64.wrap (y0 * y1))
def zIu (y0 : Int) (y1 : Int) : Option (Int × Int) :=
 (zKT y0 y1).bind fun r1 =>
 some (r1.1, r1.2)
def zFN (x1 : List Int) (s3 : (List Int) × Int) : Option (((List Int) × Int) ⊕ (List Int)) :=
 if decide (s3.2 < (len x1)) then
 (uI (decide (0 ≤ s3.2) && decide (s3.2 ≤ len s3.1))).bind fun _ =>
 (sub s3.1 0 s3.2).bind fun x2 =>
 some (.inl (tX s3.1 s3.2 x2, zW (s3.2 + ((Nat.min (List.length x2) (Int.toNat (((List.length x1 : Nat) : Int) - s3.2)) : Nat) : Int))))
 else
 some (.inr s3.1)
def zBq (y0 : List Int) (y1 : Int) : Option (List Int) :=
 (
 if decide (y1 < 0) then
 none
 else
 some () : Option Unit).bind fun _ =>
 (zIu (IntKind.u64.wrap (len y0)) (IntKind.u64.wrap (y1))).bind fun r1 =>
 (
 if (decide (0 < r1.1)) || (decide (9223372036854775807 < r1.2)) then
 none
 else
 some () : Option Unit).bind fun _ =>
 (mkS (zW (r1.2)) (zW (r1.2)) (0 : Int)).bind fun x1 =>
 zZ (zFN x1) (tX x1 0 y0, ((Nat.min (List.length y0) (List.length x1) : Nat) : Int))
def zC7 (y0 : wY) (s3 : Int × (List Int)) : Option ((Int × (List Int)) ⊕ (List Int)) :=
 if decide (s3.1 < (len y0.2)) then
 (zF y0.2 s3.1).bind fun x4 =>
 (uI (decide (0 ≤ x4.2) && decide (x4.2 < 40))).bind fun _ =>
 (uI (decide (0 ≤ x4.2) && decide (x4.2 < 40))).bind fun _ =>
 some (.inl (zW (s3.1 + 1), zV6 40 s3.2 x4.2 (zW ((zVP s3.2 x4.2) + 1))))
 else
 some (.inr s3.2)
def zC9 (y0 : wY) (s2 : (List Int)) (s5 : (List Int) × Int) : Option (((List Int) × Int) ⊕ (List Int)) :=
 if decide (s5.2 < y0.1) then
 (uI (decide (0 ≤ s5.2) && decide (s5.2 < 40))).bind fun _ =>
 if (zVP s2 s5.2) == 0 then
 (wI s5.1 ([s5.2] : List Int)).bind fun x5 =>
 some (.inl (x5, zW (s5.2 + 1)))
 else
 some (.inl (s5.1, zW (s5.2 + 1)))
 else
 some (.inr s5.1)
def zC5 (s6 : (List Int) × (List Int) × (List Int) × Int × (List Int)) (s8 : (List Int) × (List Int) × Int) : Option (((List Int) × (List Int) × Int) ⊕ ((List Int) × (List Int))) :=
 if decide (s8.2.2 < (len s6.2.2.1)) then
 (zF s6.2.2.1 s8.2.2).bind fun x6 =>
 (zF s8.1 x6).bind fun _ =>
 (zF s8.2.1 x6).bind fun _ =>
 some (.inl (List.set s8.1 (Int.toNat x6) 1, List.set s8.2.1 (Int.toNat x6) s6.2.2.2.1, zW (s8.2.2 + 1)))
 else
 some (.inr (s8.1, s8.2.1))
def zCb (r5 : (List Int)) (s10 : (List Int) × (List Int) × (List Int) × Int × (List Int)) (x10 : Int) (s6 : (List Int) × (List Int) × (List Int) × Int × (List Int)) (s11 : (List Int) × Int × (List Int)) : Option (((List Int) × Int × (List Int)) ⊕ (((List Int) × (List Int) × (List Int) × Int × (List Int)) ⊕ (((List Int) × (List Int) × (List Int) × Int × (List Int)) ⊕ (((List Int) × (List Int) × (List Int) × Int × (List Int)) ⊕ ((List Int) × (List Int)))))) :=
 if decide (s11.2.1 < (len r5)) then
 (zF r5 s11.2.1).bind fun x14 =>
 (uI (decide (0 ≤ x14) && decide (x14 < 40))).bind fun _ =>
 (uI (decide (0 ≤ x14) && decide (x14 < 40))).bind fun _ =>
 (
 (uI (decide (0 ≤ x14) && decide (x14 < 40))).bind fun _ =>
 if (zVP (zV6 40 s11.2.2 x14 (zW ((zVP s11.2.2 x14) - 1))) x14) == 0 then
 (zF (List.set s10.1 (Int.toNat x10) 2) x14).bind fun x15 =>
 some (x15 == 3)
 else
 some false : Option Bool).bind fun s12 =>
 if s12 then
 (wI s11.1 ([x14] : List Int)).bind fun x16 =>
 some (.inl (x16, zW (s11.2.1 + 1), zV6 40 s11.2.2 x14 (zW ((zVP s11.2.2 x14) - 1))))
 else
 some (.inl (s11.1, zW (s11.2.1 + 1), zV6 40 s11.2.2 x14 (zW ((zVP s11.2.2 x14) - 1))))
 else
 some (.inr (.inl (List.set s10.1 (Int.toNat x10) 2, List.set s10.2.1 (Int.toNat x10) s6.2.2.2.1, s11.1, zW (s10.2.2.2.1 + 1), s11.2.2)))
def zBD (r4 : (List Int)) (y0 : wY) (s6 : (List Int) × (List Int) × (List Int) × Int × (List Int)) (s9 : (List Int) × (List Int) × (List Int) × Int × (List Int)) (s10 : (List Int) × (List Int) × (List Int) × Int × (List Int)) : Option (((List Int) × (List Int) × (List Int) × Int × (List Int)) ⊕ (((List Int) × (List Int) × (List Int) × Int × (List Int)) ⊕ (((List Int) × (List Int) × (List Int) × Int × (List Int)) ⊕ ((List Int) × (List Int))))) :=
 if decide (s10.2.2.2.1 < (len r4)) then
 (zF r4 s10.2.2.2.1).bind fun x10 =>
 (zF s10.1 x10).bind fun x11 =>
 if x11 != 3 then
 some (.inl (s10.1, s10.2.1, s10.2.2.1, zW (s10.2.2.2.1 + 1), s10.2.2.2.2))
 else
 (zF s10.1 x10).bind fun _ =>
 (zF s10.2.1 x10).bind fun _ =>
 (zCW y0 x10).bind fun r5 =>
 zZ (zCb r5 s10 x10 s6) (s10.2.2.1, 0, s10.2.2.2.2)
 else
 some (.inr (.inl (s10.1, s10.2.1, s10.2.2.1, zW (s9.2.2.2.1 + 1), s10.2.2.2.2)))
def zBZ (s6 : (List Int) × (List Int) × (List Int) × Int × (List Int)) (y0 : wY) (s9 : (List Int) × (List Int) × (List Int) × Int × (List Int)) : Option (((List Int) × (List Int) × (List Int) × Int × (List Int)) ⊕ (((List Int) × (List Int) × (List Int) × Int × (List Int)) ⊕ ((List Int) × (List Int)))) :=
 if decide (s9.2.2.2.1 < (len s6.2.2.1)) then
 (zF s6.2.2.1 s9.2.2.2.1).bind fun x9 =>
 (zCW y0 x9).bind fun r4 =>
 zZ (zBD r4 y0 s6 s9) (s9.1, s9.2.1, s9.2.2.1, 0, s9.2.2.2.2)
 else
 some (.inr (.inl (s9.1, s9.2.1, s9.2.2.1, zW (s6.2.2.2.1 + 1), s9.2.2.2.2)))
def zAn (y0 : wY) (s6 : (List Int) × (List Int) × (List Int) × Int × (List Int)) : Option (((List Int) × (List Int) × (List Int) × Int × (List Int)) ⊕ ((List Int) × (List Int))) :=
 if decide (0 < (len s6.2.2.1)) then
 (zZ (zC5 s6) (s6.1, s6.2.1, 0) : Option ((List Int) × (List Int))).bind fun s7 =>
 zZ (zBZ s6 y0) (s7.1, s7.2, ([] : List Int), 0, s6.2.2.2.2)
 else
 some (.inr (s6.1, s6.2.1))
def zCx (y0 : wY) : Option ((List Int) × (List Int)) :=
 (
 (zBq ([3] : List Int) y0.1).bind fun r1 =>
 (mkS y0.1 y0.1 (0 : Int)).bind fun x1 =>
 some (r1, x1) : Option ((List Int) × (List Int))).bind fun s1 =>
 (zZ (zC7 y0) (0, (List.replicate 40 (0 : Int))) : Option (List Int)).bind fun s2 =>
 (zZ (zC9 y0 s2) (([] : List Int), 0) : Option (List Int)).bind fun s4 =>
 zZ (zAn y0) (s1.1, s1.2, s4, 1, s2)
def zCR (y0 : wY) : Option (List Int) :=
 (zCx y0).bind fun r1 =>
 some r1.1
def zEd (y0 : List Int) (y1 : Int) (s1 : (List Int) × Int) : Option (((List Int) × Int) ⊕ (List Int)) :=
 if decide (s1.2 < (len y0)) then
 (zF y0 s1.2).bind fun x1 =>
 if x1 == y1 then
 (wI s1.1 ([s1.2] : List Int)).bind fun x2 =>
 some (.inl (x2, zW (s1.2 + 1)))
 else
 some (.inl (s1.1, zW (s1.2 + 1)))
 else
 some (.inr s1.1)
def zBX (y0 : List Int) (y1 : Int) : Option (List Int) :=
 zZ (zEd y0 y1) (([] : List Int), 0)
def zCk (y0 : List vO) : Option (List vO) :=
 (wI ([] : List vO) y0).bind fun x1 =>
 some x1
def zCO (y0 : List vH) : Option (List vH) :=
 (wI ([] : List vH) y0).bind fun x1 =>
 some x1
def zE2 (y0 : List qR) : Option (List qR) :=
 (wI ([] : List qR) y0).bind fun x1 =>
 some x1
def zBx (y0 : zM) (x1 : qR) (y1 : List zN) (s3 : Int × (List qR)) (s4 : Int × (List qR)) : Option ((Int × (List qR)) ⊕ ((Int × (List qR)) ⊕ (List qR))) :=
 if decide (s4.1 < (len y0.2.2)) then
 (zF y0.2.2 s4.1).bind fun x3 =>
 (
 if !x1.2.1 then
 if x3.1 == x1.1 then
 (zDG y1 x3.2.2).bind fun r11 =>
 some r11
 else
 some false
 else
 some false : Option Bool).bind fun s5 =>
 if s5 then
 (zF s4.2 s3.1).bind fun x4 =>
 some (.inl (zW (s4.1 + 1), List.set s4.2 (Int.toNat s3.1) (x4.1, x4.2.1, x3.2.1, x4.2.2.2.1, x4.2.2.2.2)))
 else
 some (.inl (zW (s4.1 + 1), s4.2))
 else
 some (.inr (.inl (zW (s3.1 + 1), s4.2)))
def zB5 (y0 : zM) (y1 : List zN) (s3 : Int × (List qR)) : Option ((Int × (List qR)) ⊕ (List qR)) :=
 if decide (s3.1 < (len y0.2.1)) then
 (zF y0.2.1 s3.1).bind fun x1 =>
 (zBj x1.2.2.2.1).bind fun r10 =>
 (zF s3.2 s3.1).bind fun x2 =>
 zZ (zBx y0 x1 y1 s3) (0, List.set s3.2 (Int.toNat s3.1) (x2.1, x2.2.1, x2.2.2.1, r10, x2.2.2.2.2))
 else
 some (.inr s3.2)
def zCD (y0 : zM) (y1 : List zN) : Option zM :=
 (
 (zCk y0.1).bind fun r1 =>
 (zE2 y0.2.1).bind fun r2 =>
 (zCO y0.2.2).bind fun r3 =>
 some (r1, r2, r3) : Option zM).bind fun s1 =>
 (zZ (zB5 y0 y1) (0, s1.2.1) : Option (List qR)).bind fun s2 =>
 some (s1.1, s2, s1.2.2)
def zBe (y0 : zM) (y1 : vN) : Option (zBa × Int) :=
 (zBf y0).bind fun r1 =>
 if r1.2 != 0 then
 some (((([] : List vO), ([] : List qR), ([] : List vH)), ([] : List zI), ([] : List qU), (0, ([] : List wQ))), r1.2)
 else
 if if y1.1 != 1 then (y1.1 != 2) || ((y1.2 != 1) && (y1.2 != 2)) else (y1.2 != 1) && (y1.2 != 2) then
 some (((([] : List vO), ([] : List qR), ([] : List vH)), ([] : List zI), ([] : List qU), (0, ([] : List wQ))), 4)
 else
 (zCV y0 r1.1 y1).bind fun r2 =>
 (zDY (len r1.1) r2).bind fun r3 =>
 if r3.2 != 0 then
 some (((([] : List vO), ([] : List qR), ([] : List vH)), ([] : List zI), ([] : List qU), (0, ([] : List wQ))), r3.2)
 else
 (zCR r3.1).bind fun r4 =>
 (zBX r4 1).bind fun r5 =>
 (zAu r1.1 r5).bind fun r6 =>
 (zCD y0 r6).bind fun r7 =>
 (zCV r7 r1.1 y1).bind fun r8 =>
 (zDY (len r1.1) r8).bind fun r9 =>
 if r9.2 != 0 then
 some (((([] : List vO), ([] : List qR), ([] : List vH)), ([] : List zI), ([] : List qU), (0, ([] : List wQ))), r9.2)
 else
 some ((r7, r1.1, r8, r9.1), 0)
def zM9 (y0 : List Int) : Option uD :=
 (sub y0 0 (if 2000 < (len y0) then 2000 else len y0)).bind fun x1 =>
 some (x1, 0)
def zIY : Option (List vN) :=
 some ([(1, 1), (1, 2), (2, 1), (2, 2)] : List vN)
def zGd (y0 : zM) (s2 : Int) : Option (Int ⊕ (Unit ⊕ Bool)) :=
 if decide (s2 < (len y0.1)) then
 (zF y0.1 s2).bind fun x1 =>
 if (decide (50 < (len x1.1.2))) || (decide (50 < (len x1.2.2.2))) then
 some (.inr (.inr false))
 else
 some (.inl (zW (s2 + 1)))
 else
 some (.inr (.inl ()))
def zG6 (x2 : qR) (s4 : Int) (s5 : Int) : Option (Int ⊕ (Int ⊕ (Unit ⊕ Bool))) :=
 if decide (s5 < (len x2.2.2.2.1)) then
 (zF x2.2.2.2.1 s5).bind fun x3 =>
 if decide (50 < (len x3.2)) then
 some (.inr (.inr (.inr false)))
 else
 some (.inl (zW (s5 + 1)))
 else
 some (.inr (.inl (zW (s4 + 1))))
def zGb (y0 : zM) (s4 : Int) : Option (Int ⊕ (Unit ⊕ Bool)) :=
 if decide (s4 < (len y0.2.1)) then
 (zF y0.2.1 s4).bind fun x2 =>
 if (decide (8 < (len x2.2.2.2.1))) || ((decide (50 < (len x2.1))) || (decide (50 < (len x2.2.2.2.2.2)))) then
 some (.inr (.inr false))
 else
 zZ (zG6 x2 s4) 0
 else
 some (.inr (.inl ()))
def zG5 (y0 : zM) (s6 : Int) : Option (Int ⊕ Bool) :=
 if decide (s6 < (len y0.2.2)) then
 (zF y0.2.2 s6).bind fun x4 =>
 if (decide (50 < (len x4.1))) || (decide (50 < (len x4.2.2.2))) then
 some (.inr false)
 else
 some (.inl (zW (s6 + 1)))
 else
 some (.inr true)
def zG2 (y0 : zM) : Option Bool :=
 if (decide (30 < (len y0.1))) || ((decide (30 < (len y0.2.1))) || (decide (20 < (len y0.2.2)))) then
 some false
 else
 yC (zZ (zGd y0) 0 : Option (Unit ⊕ Bool)) fun _ =>
 yC (zZ (zGb y0) 0 : Option (Unit ⊕ Bool)) fun _ =>
 zZ (zG5 y0) 0
def zIm (y0 : Int) (y1 : Int) : Option Int :=
 if decide (y1 < 1) then
 some 0
 else
 (remK y0 y1).bind fun x1 =>
 if decide (x1 < 0) then
 some (zW (x1 + y1))
 else
 some x1
def zEJ (y0 : Int) : Option qC :=
 (zIm y0 26).bind fun r1 =>
 (cat [114] (zPR ([IntKind.u8.wrap (zW (97 + r1))] : List Int))).bind fun x1 =>
 some x1
def zHn (y0 : uD) : Option (Int × Int) :=
 if decide ((len y0.1) ≤ y0.2) then
 some (0, y0.2)
 else
 (zF y0.1 (zW ((zW (y0.2 + 1)) - 1))).bind fun x1 =>
 some (x1, zW (y0.2 + 1))
def uM (y0 : uD) (y1 : Int) : Option (Int × Int) :=
 (zHn y0).bind fun r1 =>
 (zIm r1.1 y1).bind fun r2 =>
 some (r2, r1.2)
def zAf (y0 : uD) (y1 : Int) : Option (zN × Int) :=
 (uM y0 (zW (2 * y1))).bind fun r1 =>
 (quoK .i64 r1.1 2).bind fun x1 =>
 some (((xA .i64 r1.1 1) == 1, zPR ([IntKind.u8.wrap (zW (97 + x1))] : List Int)), r1.2)
def zFM (y0 : uD) (y2 : Int) (s1 : (List zN) × Int × Int) : Option (((List zN) × Int × Int) ⊕ ((List zN) × Int)) :=
 if decide (0 < s1.2.1) then
 (zAf (y0.1, s1.2.2) y2).bind fun r2 =>
 (wI s1.1 ([r2.1] : List zN)).bind fun x1 =>
 some (.inl (x1, zW (s1.2.1 - 1), r2.2))
 else
 some (.inr (s1.1, s1.2.2))
def zBn (y0 : uD) (y1 : Int) (y2 : Int) : Option ((List zN) × Int) :=
 (uM y0 (zW (y1 + 1))).bind fun r1 =>
 zZ (zFM y0 y2) (([] : List zN), r1.1, r1.2)
def zBy (y0 : uD) (y1 : List Int) : Option (Int × Int) :=
 (uM y0 (len y1)).bind fun r1 =>
 (zF y1 r1.1).bind fun x1 =>
 some (x1, r1.2)
def zB8 (y0 : uD) (y1 : List qC) : Option (qC × Int) :=
 (uM y0 (len y1)).bind fun r1 =>
 (zF y1 r1.1).bind fun x1 =>
 some (x1, r1.2)
def zEm (s1 : (List zN) × Int) (x1 : zN) (s3 : Int) : Option (Int ⊕ Int) :=
 (
 if decide (s3 < (len s1.1)) then
 (zF s1.1 s3).bind fun x2 =>
 if yY x2.2 x1.2 then
 some true
 else
 (zF s1.1 s3).bind fun x3 =>
 if x3.2 == x1.2 then
 (zF s1.1 s3).bind fun x4 =>
 if !x4.1 then
 some x1.1
 else
 some false
 else
 some false
 else
 some false : Option Bool).bind fun s4 =>
 if s4 then
 some (.inl (zW (s3 + 1)))
 else
 some (.inr s3)
def zG4 (y0 : List zN) (s1 : (List zN) × Int) : Option (((List zN) × Int) ⊕ (List zN)) :=
 if decide (s1.2 < (len y0)) then
 (zF y0 s1.2).bind fun x1 =>
 (zZ (zEm s1 x1) 0 : Option Int).bind fun s2 =>
 (
 if decide (s2 < (len s1.1)) then
 (zF s1.1 s2).bind fun x5 =>
 some (x5 == x1)
 else
 some false : Option Bool).bind fun s5 =>
 if s5 then
 some (.inl (s1.1, zW (s1.2 + 1)))
 else
 (wI s1.1 ([(false, [])] : List zN)).bind fun x6 =>
 (uI (decide (0 ≤ (zW (s2 + 1))) && decide ((zW (s2 + 1)) ≤ len x6))).bind fun _ =>
 (uI (decide (0 ≤ s2) && decide (s2 ≤ len x6))).bind fun _ =>
 (zF (tX x6 (zW (s2 + 1)) (List.drop (Int.toNat s2) x6)) s2).bind fun _ =>
 some (.inl (List.set (tX x6 (zW (s2 + 1)) (List.drop (Int.toNat s2) x6)) (Int.toNat s2) x1, zW (s1.2 + 1)))
 else
 some (.inr s1.1)
def zIc (y0 : List zN) : Option (List zN) :=
 zZ (zG4 y0) (([] : List zN), 0)
def zDQ (s2 : Int × Int × (List vO)) (r2 : zN × Int) (s5 : Bool × Int) : Option ((Bool × Int) ⊕ Bool) :=
 if decide (s5.2 < (len s2.2.2)) then
 (zF s2.2.2 s5.2).bind fun x1 =>
 some (.inl (s5.1 || (x1.1 == r2.1), zW (s5.2 + 1)))
 else
 some (.inr s5.1)
def zF1 (y0 : uD) (y1 : Int) (s2 : Int × Int × (List vO)) : Option ((Int × Int × (List vO)) ⊕ (Int × (List vO))) :=
 if decide (0 < s2.1) then
 (zAf (y0.1, s2.2.1) y1).bind fun r2 =>
 (zBy (y0.1, r2.2) ([1, 2, 2, 2, 3] : List Int)).bind fun r3 =>
 (zB8 (y0.1, r3.2) ([[], [], [97, 110, 110], [98, 111, 98]] : List qC)).bind fun r4 =>
 (
 if r3.1 == 2 then
 (uM (y0.1, r4.2) 4).bind fun r5 =>
 some (r5.2, r5.1)
 else
 some (r4.2, 0) : Option (Int × Int)).bind fun s3 =>
 (zZ (zDQ s2 r2) (false, 0) : Option Bool).bind fun s4 =>
 if !s4 then
 (wI s2.2.2 ([(r2.1, r3.1, s3.2, r4.1)] : List vO)).bind fun x2 =>
 some (.inl (zW (s2.1 - 1), s3.1, x2))
 else
 some (.inl (zW (s2.1 - 1), s3.1, s2.2.2))
 else
 some (.inr (s2.2.1, s2.2.2))
def zFT (y0 : uD) (y1 : Int) (y3 : Int) (s7 : Int × Int × (List qR)) : Option ((Int × Int × (List qR)) ⊕ (Int × (List qR))) :=
 if decide (0 < s7.1) then
 (zEJ (len s7.2.2)).bind fun r7 =>
 (uM (y0.1, s7.2.1) 3).bind fun r8 =>
 (zBn (y0.1, r8.2) 2 y1).bind fun r9 =>
 (zIc r9.1).bind fun r10 =>
 (zAf (y0.1, r9.2) y1).bind fun r11 =>
 (
 if !(r8.1 == 0) then
 (uM (y0.1, r11.2) 4).bind fun r12 =>
 some (r12.2, r12.1)
 else
 some (r11.2, 0) : Option (Int × Int)).bind fun s8 =>
 (
 (uM (y0.1, s8.1) 6).bind fun r13 =>
 if r13.1 == 5 then
 (uM (y0.1, r13.2) 4).bind fun r14 =>
 (uM (y0.1, r14.2) y3).bind fun r15 =>
 (zEJ r15.1).bind fun r16 =>
 some (r15.2, decide (0 < r14.1), r16)
 else
 some (r13.2, r11.1.1, r11.1.2) : Option (Int × Bool × qC)).bind fun s9 =>
 (wI s7.2.2 ([(r7, r8.1 == 0, s8.2, r10, (s9.2.1, s9.2.2))] : List qR)).bind fun x3 =>
 some (.inl (zW (s7.1 - 1), s9.1, x3))
 else
 some (.inr (s7.2.1, s7.2.2))
def zFQ (s6 : Int × (List qR)) (y0 : uD) (y1 : Int) (s11 : Int × Int × (List vH)) : Option ((Int × Int × (List vH)) ⊕ (Int × (List vH))) :=
 if (decide (0 < s11.1)) && (decide (0 < (len s6.2))) then
 (
 (uM (y0.1, s11.2.1) (len s6.2)).bind fun r18 =>
 (zF s6.2 r18.1).bind fun x4 =>
 some (r18.2, x4) : Option (Int × qR)).bind fun s12 =>
 if !s12.2.2.1 then
 (uM (y0.1, s12.1) 10).bind fun r20 =>
 (zAf (y0.1, r20.2) y1).bind fun r21 =>
 (wI s11.2.2 ([(s12.2.1, r20.1, r21.1)] : List vH)).bind fun x6 =>
 some (.inl (zW (s11.1 - 1), r21.2, x6))
 else
 some (.inl (zW (s11.1 - 1), s12.1, s11.2.2))
 else
 some (.inr (s11.2.1, s11.2.2))
def zHN (y0 : uD) (y1 : Int) (y2 : Int) (y3 : Int) : Option (zM × Int) :=
 (
 (uM y0 (zW (y2 + 1))).bind fun r1 =>
 zZ (zF1 y0 y1) (r1.1, r1.2, ([] : List vO)) : Option (Int × (List vO))).bind fun s1 =>
 (
 (uM (y0.1, s1.1) (zW (y3 + 1))).bind fun r6 =>
 zZ (zFT y0 y1 y3) (r6.1, r6.2, ([] : List qR)) : Option (Int × (List qR))).bind fun s6 =>
 (
 (uM (y0.1, s6.1) 3).bind fun r17 =>
 zZ (zFQ s6 y0 y1) (r17.1, r17.2, ([] : List vH)) : Option (Int × (List vH))).bind fun s10 =>
 some ((s1.2, s6.2, s10.2), s10.1)
def zFI (y0 : uD) : Option (zN × Int) :=
 (uM y0 2).bind fun r1 =>
 (zB8 (y0.1, r1.2) ([[], [97], [65], [97, 49, 95], [49, 97], [95, 97], [97, 98, 99, 100, 101, 102, 103, 104, 105, 106, 107, 108], [97, 98, 99, 100, 101, 102, 103, 104, 105, 106, 107, 108, 109], [97, 126], [126, 97], [97, 32, 98]] : List qC)).bind fun r2 =>
 some ((r1.1 == 1, r2.1), r2.2)
def zB7 (y1 : zM) (s3 : Int × (List qR)) : Option ((Int × (List qR)) ⊕ (List qR)) :=
 if decide (s3.1 < (len y1.2.1)) then
 (zF y1.2.1 s3.1).bind fun x27 =>
 (wI ([] : List zN) x27.2.2.2.1).bind fun x28 =>
 (wI s3.2 [(x27.1, x27.2.1, x27.2.2.1, x28, x27.2.2.2.2)]).bind fun x29 =>
 some (.inl (zW (s3.1 + 1), x29))
 else
 some (.inr s3.2)
def zDR (y0 : uD) (y1 : zM) : Option (zM × Int) :=
 (
 (wI ([] : List vO) y1.1).bind fun x1 =>
 (wI ([] : List vH) y1.2.2).bind fun x2 =>
 some (x1, ([] : List qR), x2) : Option zM).bind fun s1 =>
 (zZ (zB7 y1) (0, s1.2.1) : Option (List qR)).bind fun s2 =>
 (uM y0 (len s1.1)).bind fun r1 =>
 (
 if decide (0 < (len s1.1)) then
 (uM (y0.1, r1.2) 3).bind fun r2 =>
 some (r2.1 == 0, r2.2)
 else
 some (false, r1.2) : Option (Bool × Int)).bind fun s4 =>
 if s4.1 then
 (
 (uM (y0.1, s4.2) 5).bind fun r3 =>
 if r3.1 == 0 then
 (uM (y0.1, r3.2) 6).bind fun r4 =>
 (zF s1.1 r1.1).bind fun x30 =>
 some (r4.2, List.set s1.1 (Int.toNat r1.1) (x30.1, zW (r4.1 - 1), x30.2.2.1, x30.2.2.2), s2)
 else
 if r3.1 == 1 then
 (zBy (y0.1, r3.2) ([(-1), 0, 9, 10] : List Int)).bind fun r5 =>
 (zF s1.1 r1.1).bind fun x31 =>
 some (r5.2, List.set s1.1 (Int.toNat r1.1) (x31.1, x31.2.1, r5.1, x31.2.2.2), s2)
 else
 if r3.1 == 2 then
 (zFI (y0.1, r3.2)).bind fun r6 =>
 (zF s1.1 r1.1).bind fun x32 =>
 some (r6.2, List.set s1.1 (Int.toNat r1.1) (r6.1, x32.2.1, x32.2.2.1, x32.2.2.2), s2)
 else
 if r3.1 == 3 then
 (zB8 (y0.1, r3.2) ([[65], [], [97]] : List qC)).bind fun r7 =>
 (zF s1.1 r1.1).bind fun x33 =>
 some (r7.2, List.set s1.1 (Int.toNat r1.1) (x33.1, x33.2.1, x33.2.2.1, r7.1), s2)
 else
 (zF s1.1 0).bind fun x34 =>
 (zF s1.1 r1.1).bind fun x35 =>
 some (r3.2, List.set s1.1 (Int.toNat r1.1) (x34.1, x35.2.1, x35.2.2.1, x35.2.2.2), s2) : Option (Int × (List vO) × (List qR))).bind fun s5 =>
 some ((s5.2.1, s5.2.2, s1.2.2), s5.1)
 else
 (uM (y0.1, s4.2) (len s2)).bind fun r8 =>
 (
 if decide (0 < (len s2)) then
 (uM (y0.1, r8.2) 3).bind fun r9 =>
 some (decide (0 < r9.1), r9.2)
 else
 some (false, r8.2) : Option (Bool × Int)).bind fun s6 =>
 if s6.1 then
 (
 (uM (y0.1, s6.2) 7).bind fun r10 =>
 if r10.1 == 0 then
 (zB8 (y0.1, r10.2) ([[], [114, 97], [82], [114, 98]] : List qC)).bind fun r11 =>
 (zF s2 r8.1).bind fun x36 =>
 some (r11.2, List.set s2 (Int.toNat r8.1) (r11.1, x36.2.1, x36.2.2.1, x36.2.2.2.1, x36.2.2.2.2))
 else
 if r10.1 == 1 then
 (zBy (y0.1, r10.2) ([(-1), 0, 1, 9, 10] : List Int)).bind fun r12 =>
 (zF s2 r8.1).bind fun x37 =>
 some (r12.2, List.set s2 (Int.toNat r8.1) (x37.1, x37.2.1, r12.1, x37.2.2.2.1, x37.2.2.2.2))
 else
 if r10.1 == 2 then
 (zF s2 r8.1).bind fun x38 =>
 (zF s2 r8.1).bind fun x39 =>
 some (r10.2, List.set s2 (Int.toNat r8.1) (x39.1, !x38.2.1, x39.2.2.1, x39.2.2.2.1, x39.2.2.2.2))
 else
 if r10.1 == 3 then
 (zFI (y0.1, r10.2)).bind fun r13 =>
 (zF s2 r8.1).bind fun x40 =>
 some (r13.2, List.set s2 (Int.toNat r8.1) (x40.1, x40.2.1, x40.2.2.1, x40.2.2.2.1, r13.1))
 else
 if r10.1 == 4 then
 (zF s2 r8.1).bind fun x41 =>
 (zF s2 r8.1).bind fun _ =>
 (zAf (y0.1, r10.2) 3).bind fun r14 =>
 (wI x41.2.2.2.1 ([r14.1] : List zN)).bind fun x43 =>
 (zF s2 r8.1).bind fun _ =>
 some (r14.2, List.set s2 (Int.toNat r8.1) (x41.1, x41.2.1, x41.2.2.1, x43, x41.2.2.2.2))
 else
 if r10.1 == 5 then
 (zBn (y0.1, r10.2) 6 4).bind fun r15 =>
 (zF s2 r8.1).bind fun x45 =>
 some (r15.2, List.set s2 (Int.toNat r8.1) (x45.1, x45.2.1, x45.2.2.1, r15.1, x45.2.2.2.2))
 else
 (zF s2 r8.1).bind fun x46 =>
 (wI s2 ([x46] : List qR)).bind fun x47 =>
 some (r10.2, x47) : Option (Int × (List qR))).bind fun s7 =>
 some ((s1.1, s7.2, s1.2.2), s7.1)
 else
 (
 (zB8 (y0.1, s6.2) ([[114, 97], [114, 98], [120], []] : List qC)).bind fun r16 =>
 (zBy (y0.1, r16.2) ([(-1), 0, 9, 10] : List Int)).bind fun r17 =>
 (zAf (y0.1, r17.2) 3).bind fun r18 =>
 (wI s1.2.2 ([(r16.1, r17.1, r18.1)] : List vH)).bind fun x48 =>
 some (r18.2, x48) : Option (Int × (List vH))).bind fun s8 =>
 some ((s1.1, s2, s8.2), s8.1)
def zCs : Option Unit :=
 some ()
def zCg : Option Unit :=
 some ()
def zDx : Option Unit :=
 some ()
def zEN : Option Unit :=
 some ()
def zEM : Option Unit :=
 some ()
def zDB : Option Unit :=
 zEM.bind fun _ =>
 some ()
def zD0 : Option Unit :=
 some ()
def zFj : Option Unit :=
 zD0.bind fun _ =>
 some ()
def zD5 : Option Unit :=
 some ()
def zFi : Option Unit :=
 zD5.bind fun _ =>
 some ()
def zLZ : Option Unit :=
 zDB.bind fun _ =>
 zEN.bind fun _ =>
 zCs.bind fun _ =>
 zDx.bind fun _ =>
 zCg.bind fun _ =>
 zFi.bind fun _ =>
 zFj.bind fun _ =>
 some ()
def zF2 (y0 : wY) : Option ((List Int) × Int) :=
 (zCR y0).bind fun r1 =>
 some (r1, 0)
def zAm (y0 : wY) : Option ((List (List Int)) × Int) :=
 (zF2 y0).bind fun r1 =>
 if r1.2 != 0 then
 some (([] : List (List Int)), r1.2)
 else
 some (([r1.1] : List (List Int)), 0)
def zB0 (r1 : (List (List Int)) × Int) (s1 : (List (List Int)) × Int) : Option (((List (List Int)) × Int) ⊕ ((List (List Int)) × Int)) :=
 if decide (s1.2 < (len r1.1)) then
 (zF r1.1 s1.2).bind fun x1 =>
 (zBX x1 1).bind fun r2 =>
 (wI s1.1 ([r2] : List (List Int))).bind fun x2 =>
 some (.inl (x2, zW (s1.2 + 1)))
 else
 some (.inr (s1.1, 0))
def zAx (y0 : wY) : Option ((List (List Int)) × Int) :=
 (zAm y0).bind fun r1 =>
 if r1.2 != 0 then
 some (([] : List (List Int)), r1.2)
 else
 zZ (zB0 r1) (([] : List (List Int)), 0)
def zFA (y0 : wY) : Option ((List (List Int)) × Int) :=
 none
def zBN (r1 : (List (List Int)) × Int) (s1 : (List (List Int)) × Int) : Option (((List (List Int)) × Int) ⊕ ((List (List Int)) × Int)) :=
 if decide (s1.2 < (len r1.1)) then
 (zF r1.1 s1.2).bind fun x1 =>
 (zBX x1 1).bind fun r2 =>
 (wI s1.1 ([r2] : List (List Int))).bind fun x2 =>
 some (.inl (x2, zW (s1.2 + 1)))
 else
 some (.inr (s1.1, 0))
def zAs (y0 : wY) : Option ((List (List Int)) × Int) :=
 (zFA y0).bind fun r1 =>
 if r1.2 != 0 then
 some (([] : List (List Int)), r1.2)
 else
 zZ (zBN r1) (([] : List (List Int)), 0)
def zEf (y0 : wY) : Option ((List (List Int)) × Int) :=
 none
def zBL (r1 : (List (List Int)) × Int) (s1 : (List (List Int)) × Int) : Option (((List (List Int)) × Int) ⊕ ((List (List Int)) × Int)) :=
 if decide (s1.2 < (len r1.1)) then
 (zF r1.1 s1.2).bind fun x1 =>
 (zBX x1 1).bind fun r2 =>
 (wI s1.1 ([r2] : List (List Int))).bind fun x2 =>
 some (.inl (x2, zW (s1.2 + 1)))
 else
 some (.inr (s1.1, 0))
def zAt (y0 : wY) : Option ((List (List Int)) × Int) :=
 (zEf y0).bind fun r1 =>
 if r1.2 != 0 then
 some (([] : List (List Int)), r1.2)
 else
 zZ (zBL r1) (([] : List (List Int)), 0)
def zC3 (y0 : wY) : Option ((List (List Int)) × Int) :=
 none
def zC0 (y0 : wY) : Option ((List (List Int)) × Int) :=
 none
def zDJ (y0 : wY) : Option ((List (List Int)) × Int) :=
 none
def zD2 (y0 : wY) : Option ((List (List Int)) × Int) :=
 none
def zEY (y0 : wY) (y1 : Int) : Option ((List (List Int)) × Int) :=
 (zAq y0).bind fun r1 =>
 if r1 != 0 then
 some (([] : List (List Int)), r1)
 else
 zLZ.bind fun _ =>
 if (decide (y1 < 1)) || (decide (((10 : Nat) : Int) ≤ y1)) then
 some (([] : List (List Int)), 4)
 else
 (
 if y1 == 1 then
 (zAx y0).bind fun r3 =>
 some (r3.1, r3.2)
 else
 if y1 == 2 then
 (zD2 y0).bind fun r4 =>
 some (r4.1, r4.2)
 else
 if y1 == 3 then
 (zC3 y0).bind fun r5 =>
 some (r5.1, r5.2)
 else
 if y1 == 4 then
 (zDJ y0).bind fun r6 =>
 some (r6.1, r6.2)
 else
 if y1 == 5 then
 (zC0 y0).bind fun r7 =>
 some (r7.1, r7.2)
 else
 if y1 == 6 then
 (zAs y0).bind fun r8 =>
 some (r8.1, r8.2)
 else
 if y1 == 7 then
 (zAt y0).bind fun r9 =>
 some (r9.1, r9.2)
 else
 if y1 == 8 then
 none
 else
 if y1 == 9 then
 none
 else
 none : Option ((List (List Int)) × Int)).bind fun s1 =>
 some (s1.1, s1.2)
def zEU (r1 : (List (List Int)) × Int) (y0 : zBa) (s1 : (List (List zN)) × Int) : Option (((List (List zN)) × Int) ⊕ ((List (List zN)) × Int)) :=
 if decide (s1.2 < (len r1.1)) then
 (zF r1.1 s1.2).bind fun x1 =>
 (zAu y0.2.1 x1).bind fun r2 =>
 (wI s1.1 ([r2] : List (List zN))).bind fun x2 =>
 some (.inl (x2, zW (s1.2 + 1)))
 else
 some (.inr (s1.1, 0))
def zDd (y0 : zBa) (y1 : Int) : Option ((List (List zN)) × Int) :=
 (zEY y0.2.2.2 y1).bind fun r1 =>
 if r1.2 != 0 then
 some (([] : List (List zN)), r1.2)
 else
 zZ (zEU r1 y0) (([] : List (List zN)), 0)
def zHX (y0 : Int) : Option (List zN) :=
 (
 if decide (y0 < 0) then
 none
 else
 some () : Option Unit).bind fun _ =>
 if decide (0 < (zW (y0 - (zW (((0 : Nat) : Int) - (len ([] : List zN))))))) then
 (mkS (zW (y0 - (zW (((0 : Nat) : Int) - (len ([] : List zN)))))) (zW (y0 - (zW (((0 : Nat) : Int) - (len ([] : List zN)))))) ((false, []) : zN)).bind fun x1 =>
 (sub x1 0 (len ([] : List zN))).bind fun x2 =>
 some x2
 else
 some ([] : List zN)
def zJd (y0 : List (List zN)) (s2 : Int × Int) : Option ((Int × Int) ⊕ Int) :=
 if decide (s2.2 < (len y0)) then
 (zF y0 s2.2).bind fun x1 =>
 if decide ((zW (s2.1 + (len x1))) < 0) then
 none
 else
 some (.inl (zW (s2.1 + (len x1)), zW (s2.2 + 1)))
 else
 some (.inr s2.1)
def zJa (y0 : List (List zN)) (s3 : (List zN) × Int) : Option (((List zN) × Int) ⊕ (List zN)) :=
 if decide (s3.2 < (len y0)) then
 (zF y0 s3.2).bind fun x2 =>
 (wI s3.1 x2).bind fun x3 =>
 some (.inl (x3, zW (s3.2 + 1)))
 else
 some (.inr s3.1)
def zC1 (y0 : List (List zN)) : Option (List zN) :=
 (zZ (zJd y0) (0, 0) : Option Int).bind fun s1 =>
 (zHX s1).bind fun r1 =>
 zZ (zJa y0) (r1, 0)
def zDC (y0 : List zN) (y1 : zN) : Option Bool :=
 (zDG y0 y1).bind fun r1 =>
 some (!r1)
def zAZ (y0 : List (List zN)) (y1 : zN) (s1 : Int) : Option (Int ⊕ Int) :=
 if decide (s1 < (len y0)) then
 (zF y0 s1).bind fun x1 =>
 (zDC x1 y1).bind fun r1 =>
 if r1 then
 some (.inr s1)
 else
 some (.inl (zW (s1 + 1)))
 else
 some (.inr (-1))
def zAO (y0 : List (List zN)) (y1 : zN) : Option Int :=
 zZ (zAZ y0 y1) 0
def zAH (y0 : List (List zN)) (y1 : zN) : Option Bool :=
 (zAO y0 y1).bind fun r1 =>
 some (decide (0 ≤ r1))
def zCf (y0 : zN) (y1 : Bool) (y2 : List (List zN)) : Option Bool :=
 (
 if y1 then
 (zAH y2 y0).bind fun r1 =>
 some r1
 else
 some false : Option Bool).bind fun s1 =>
 some s1
def zA6 (y0 : List zN) (y1 : Bool) (y2 : List (List zN)) (s1 : Int) : Option (Int ⊕ Int) :=
 if decide (s1 < (len y0)) then
 (zF y0 s1).bind fun x1 =>
 (zCf x1 y1 y2).bind fun r1 =>
 if r1 then
 some (.inr s1)
 else
 some (.inl (zW (s1 + 1)))
 else
 some (.inr (-1))
def zAS (y0 : List zN) (y1 : Bool) (y2 : List (List zN)) : Option Int :=
 zZ (zA6 y0 y1 y2) 0
def zA0 (y0 : List zN) (y1 : Bool) (y2 : List (List zN)) (s2 : (List zN) × Int × Int) : Option (((List zN) × Int × Int) ⊕ ((List zN) × Int)) :=
 if decide (s2.2.2 < (len y0)) then
 (zF s2.1 s2.2.2).bind fun x1 =>
 (zCf x1 y1 y2).bind fun r2 =>
 if !r2 then
 (zF s2.1 s2.2.1).bind fun _ =>
 some (.inl (List.set s2.1 (Int.toNat s2.2.1) x1, zW (s2.2.1 + 1), zW (s2.2.2 + 1)))
 else
 some (.inl (s2.1, s2.2.1, zW (s2.2.2 + 1)))
 else
 some (.inr (s2.1, s2.2.1))
def zAP (y0 : List zN) (y1 : Bool) (y2 : List (List zN)) : Option (List zN) :=
 (zAS y0 y1 y2).bind fun r1 =>
 if r1 == (-1) then
 some y0
 else
 (zZ (zA0 y0 y1 y2) (y0, r1, zW (r1 + 1)) : Option ((List zN) × Int)).bind fun s1 =>
 (uI (decide (0 ≤ s1.2) && decide (s1.2 ≤ len s1.1))).bind fun _ =>
 (sub (zBv s1.1 s1.2 (false, [])) 0 s1.2).bind fun x3 =>
 some x3
def zFo (y0 : zBa) (y1 : Int) (y2 : Bool) : Option ((List zN) × Int) :=
 (zDd y0 y1).bind fun r1 =>
 if r1.2 != 0 then
 some (([] : List zN), r1.2)
 else
 (zC1 r1.1).bind fun r2 =>
 (zCY r2).bind fun r3 =>
 (zAP r3 y2 r1.1).bind fun r4 =>
 some (r4, 0)
def zCv (y0 : zM) (y1 : vN) : Option ((List zN) × Bool) :=
 (zBe y0 y1).bind fun r1 =>
 (zFo r1.1 1 true).bind fun r2 =>
 (
 if r1.2 == 0 then
 some (r2.1, r2.2 == 0)
 else
 some (r2.1, false) : Option ((List zN) × Bool)).bind fun s1 =>
 some (s1.1, s1.2)
def zCX (y0 : zN) : Option qC :=
 (zAy y0).bind fun r1 =>
 if !r1 then
 some []
 else
 if y0.1 then
 (cat [126] y0.2).bind fun x1 =>
 some x1
 else
 some y0.2
def zF3 (y0 : Int) (y1 : Int) : Option qC := zZ5 y0 y1
def zHC (y0 : Int) : Option qC :=
 (zF3 y0 10).bind fun r1 =>
 some r1
def zHq (y0 : Int) : Option qC :=
 (zHC y0).bind fun r1 =>
 some r1
def zKJ (y0 : List qC) (y1 : qC) : Option qC := z0L y0 y1
def zCo (y0 : vO) : Option qC :=
 (zF zAY y0.2.1).bind fun x1 =>
 (zCX y0.1).bind fun r1 =>
 (
 if y0.2.1 == 2 then
 (zHq y0.2.2.1).bind fun r2 =>
 (wI ([x1, r1] : List qC) ([r2] : List qC)).bind fun x2 =>
 some x2
 else
 some ([x1, r1] : List qC) : Option (List qC)).bind fun s1 =>
 (
 if !(y0.2.2.2 == []) then
 (wI s1 ([[102, 114, 111, 109], y0.2.2.2] : List qC)).bind fun x3 =>
 some x3
 else
 some s1 : Option (List qC)).bind fun s2 =>
 (zKJ s2 [32]).bind fun r3 =>
 some r3
def zCB (y0 : vH) : Option qC :=
 (cat [112, 114, 111, 109, 111, 116, 101, 32] y0.1).bind fun x1 =>
 (cat x1 [32]).bind fun x2 =>
 (zHq y0.2.1).bind fun r1 =>
 (cat x2 r1).bind fun x3 =>
 (cat x3 [32, 105, 102, 32]).bind fun x4 =>
 (zCX y0.2.2).bind fun r2 =>
 (cat x4 r2).bind fun x5 =>
 some x5
def zFK (y0 : qR) (s3 : (List qC) × Int) : Option (((List qC) × Int) ⊕ (List qC)) :=
 if decide (s3.2 < (len y0.2.2.2.1)) then
 (zF y0.2.2.2.1 s3.2).bind fun x3 =>
 (zCX x3).bind fun r2 =>
 (
 if decide (s3.2 < (zW ((len y0.2.2.2.1) - 1))) then
 (cat r2 [44]).bind fun x4 =>
 some x4
 else
 some r2 : Option qC).bind fun s4 =>
 (wI s3.1 ([s4] : List qC)).bind fun x5 =>
 some (.inl (x5, zW (s3.2 + 1)))
 else
 some (.inr s3.1)
def zE4 (y0 : qR) : Option qC :=
 (cat y0.1 [58]).bind fun x1 =>
 (
 if !y0.2.1 then
 (zHq y0.2.2.1).bind fun r1 =>
 (cat r1 [58]).bind fun x2 =>
 some (([[114, 117, 108, 101], y0.1, x2] : List qC), [61, 62])
 else
 some (([[115, 116, 114, 105, 99, 116], x1] : List qC), [45, 62]) : Option ((List qC) × qC)).bind fun s1 =>
 (zZ (zFK y0) (s1.1, 0) : Option (List qC)).bind fun s2 =>
 (zCX y0.2.2.2.2).bind fun r3 =>
 (wI s2 ([s1.2, r3] : List qC)).bind fun x6 =>
 (zKJ x6 [32]).bind fun r4 =>
 some r4
def zAg (y0 : zAJ) : Option (qC × (List qC) × Bool) :=
 if (len y0.1) == 0 then
 some ([], y0.1, true)
 else
 (zF y0.1 0).bind fun x1 =>
 (sub y0.1 1 (len y0.1)).bind fun x2 =>
 some (x1, x2, y0.2)
def zHU (y0 : qC) : Option (zN × Int) :=
 (
 (
 if decide (0 < (len y0)) then
 (tM y0 0).bind fun x1 =>
 some (x1 == 126)
 else
 some false : Option Bool).bind fun s2 =>
 if s2 then
 (sub y0 1 (len y0)).bind fun x2 =>
 some (x2, true)
 else
 some (y0, false) : Option (qC × Bool)).bind fun s1 =>
 (zAy (s1.2, s1.1)).bind fun r1 =>
 if !r1 then
 some ((false, []), 3)
 else
 some ((s1.2, s1.1), 0)
def zD4 (y0 : qC) (y1 : qC) : Option Bool :=
 (
 if decide ((len y1) ≤ (len y0)) then
 (sub y0 (zW ((len y0) - (len y1))) (len y0)).bind fun x1 =>
 some (x1 == y1)
 else
 some false : Option Bool).bind fun s1 =>
 some s1
def zD3 (y0 : qC) (y1 : qC) : Option (qC × Bool) :=
 (zD4 y0 y1).bind fun r1 =>
 if !r1 then
 some (y0, false)
 else
 (sub y0 0 (zW ((len y0) - (len y1)))).bind fun x1 =>
 some (x1, true)
def zER (y0 : qC) (y1 : qC) : Option (qC × Bool) :=
 (zD3 y0 y1).bind fun r1 =>
 some (r1.1, r1.2)
def zAc (y0 : zAJ) (y1 : qC) : Option (zN × (List qC) × Bool) :=
 (zAg y0).bind fun r1 =>
 (zER r1.1 y1).bind fun r2 =>
 (zHU r2.1).bind fun r3 =>
 (
 if r1.2.2 then
 some true
 else
 if !r2.2 then
 some true
 else
 some (r3.2 != 0) : Option Bool).bind fun s1 =>
 some (r3.1, r1.2.1, s1)
def zAz (y0 : zAJ) (y1 : qC) : Option (qC × (List qC) × Bool) :=
 (zAg y0).bind fun r1 =>
 (zER r1.1 y1).bind fun r2 =>
 (
 if r1.2.2 then
 some true
 else
 if !r2.2 then
 some true
 else
 (zAl r2.1).bind fun r3 =>
 some (!r3) : Option Bool).bind fun s1 =>
 some (r2.1, r1.2.1, s1)
def zDM (y0 : zAJ) (y1 : qC) : Option (Int × (List qC) × Bool) :=
 (zAg y0).bind fun r1 =>
 (zER r1.1 y1).bind fun r2 =>
 (
 if !r2.2 then
 some true
 else
 if (len r2.1) != 1 then
 some true
 else
 (tM r2.1 0).bind fun x1 =>
 if decide (x1 < 48) then
 some true
 else
 (tM r2.1 0).bind fun x2 =>
 some (decide (57 < x2)) : Option Bool).bind fun s1 =>
 if s1 then
 some (0, r1.2.1, true)
 else
 (tM r2.1 0).bind fun x3 =>
 some (zW (IntKind.u8.wrap (x3 - 48)), r1.2.1, r1.2.2)
def zCN (y0 : zAJ) (y1 : Int) : Option (vO × (List qC) × Bool) :=
 (zAc y0 []).bind fun r1 =>
 (
 if y1 == 2 then
 (zDM (r1.2.1, r1.2.2) []).bind fun r2 =>
 some (r2.2.1, r2.2.2, r2.1)
 else
 some (r1.2.1, r1.2.2, 0) : Option ((List qC) × Bool × Int)).bind fun s1 =>
 (
 if decide (0 < (len s1.1)) then
 (
 if s1.2.1 then
 some (s1.1, true)
 else
 (zAg (s1.1, s1.2.1)).bind fun r3 =>
 some (r3.2.1, !(r3.1 == [102, 114, 111, 109])) : Option ((List qC) × Bool)).bind fun s3 =>
 (zAz (s3.1, s3.2) []).bind fun r4 =>
 some (r4.2.1, r4.2.2, r4.1)
 else
 some (s1.1, s1.2.1, []) : Option ((List qC) × Bool × qC)).bind fun s2 =>
 some ((r1.1, y1, s1.2.2, s2.2.2), s2.1, s2.2.1)
def zBh (y0 : zAJ) : Option (vH × (List qC) × Bool) :=
 (zAz y0 []).bind fun r1 =>
 (zDM (r1.2.1, r1.2.2) []).bind fun r2 =>
 (
 if r2.2.2 then
 some (r2.2.1, true)
 else
 (zAg (r2.2.1, r2.2.2)).bind fun r3 =>
 some (r3.2.1, !(r3.1 == [105, 102])) : Option ((List qC) × Bool)).bind fun s1 =>
 (zAc (s1.1, s1.2) []).bind fun r4 =>
 some ((r1.1, r2.1, r4.1), r4.2.1, r4.2.2)
def zDz (s3 : (List qC) × Bool × (List zN)) : Option (((List qC) × Bool × (List zN)) ⊕ ((List qC) × Bool × (List zN))) :=
 if (decide (2 < (len s3.1))) && (!s3.2.1) then
 (
 if (len s3.1) == 3 then
 some []
 else
 some [44] : Option qC).bind fun s4 =>
 (zAc (s3.1, s3.2.1) s4).bind fun r4 =>
 (wI s3.2.2 ([r4.1] : List zN)).bind fun x1 =>
 some (.inl (r4.2.1, r4.2.2, x1))
 else
 some (.inr (s3.1, s3.2.1, s3.2.2))
def zDD (y0 : zAJ) (y1 : Bool) : Option (qR × (List qC) × Bool) :=
 (
 if y1 then
 (zAz y0 [58]).bind fun r1 =>
 some ([45, 62], r1.2.1, r1.2.2, r1.1, 0)
 else
 (zAz y0 []).bind fun r2 =>
 (zDM (r2.2.1, r2.2.2) [58]).bind fun r3 =>
 some ([61, 62], r3.2.1, r3.2.2, r2.1, r3.1) : Option (qC × (List qC) × Bool × qC × Int)).bind fun s1 =>
 (zZ (zDz) (s1.2.1, s1.2.2.1, ([] : List zN)) : Option ((List qC) × Bool × (List zN))).bind fun s2 =>
 (
 if s2.2.1 then
 some (s2.1, true)
 else
 (zAg (s2.1, s2.2.1)).bind fun r5 =>
 some (r5.2.1, !(r5.1 == s1.1)) : Option ((List qC) × Bool)).bind fun s5 =>
 (zAc (s5.1, s5.2) []).bind fun r6 =>
 some ((s1.2.2.2.1, y1, s1.2.2.2.2, s2.2.2, r6.1), r6.2.1, r6.2.2)
def zKo (r1 : qC × (List qC) × Bool) (s3 : Int × Int) : Option ((Int × Int) ⊕ Int) :=
 if decide (s3.2 < 4) then
 (zF zAY s3.2).bind fun x1 =>
 if x1 == r1.1 then
 some (.inl (s3.2, zW (s3.2 + 1)))
 else
 some (.inl (s3.1, zW (s3.2 + 1)))
 else
 some (.inr s3.1)
def zDf (y0 : zAJ) (y1 : zM) : Option (Int × qC × (List qC) × Bool × (List vO) × (List qR) × (List vH)) :=
 (zAg y0).bind fun r1 =>
 (
 if r1.1 == [97, 120, 105, 111, 109] then
 some (r1.1 == [97, 120, 105, 111, 109])
 else
 if r1.1 == [112, 114, 101, 109, 105, 115, 101] then
 some (r1.1 == [112, 114, 101, 109, 105, 115, 101])
 else
 some (r1.1 == [97, 115, 115, 117, 109, 101]) : Option Bool).bind fun s1 =>
 if s1 then
 (zZ (zKo r1) (1, 0) : Option Int).bind fun s2 =>
 (zCN (r1.2.1, r1.2.2) s2).bind fun r2 =>
 (wI y1.1 ([r2.1] : List vO)).bind fun x2 =>
 (zCo r2.1).bind fun r3 =>
 some (1, r3, r2.2.1, r2.2.2, x2, y1.2.1, y1.2.2)
 else
 (
 if r1.1 == [115, 116, 114, 105, 99, 116] then
 some (r1.1 == [115, 116, 114, 105, 99, 116])
 else
 some (r1.1 == [114, 117, 108, 101]) : Option Bool).bind fun s4 =>
 if s4 then
 (zDD (r1.2.1, r1.2.2) (r1.1 == [115, 116, 114, 105, 99, 116])).bind fun r4 =>
 (wI y1.2.1 ([r4.1] : List qR)).bind fun x3 =>
 (zE4 r4.1).bind fun r5 =>
 some (2, r5, r4.2.1, r4.2.2, y1.1, x3, y1.2.2)
 else
 if r1.1 == [112, 114, 111, 109, 111, 116, 101] then
 (zBh (r1.2.1, r1.2.2)).bind fun r6 =>
 (wI y1.2.2 ([r6.1] : List vH)).bind fun x4 =>
 (zCB r6.1).bind fun r7 =>
 some (3, r7, r6.2.1, r6.2.2, y1.1, y1.2.1, x4)
 else
 some (0, [], r1.2.1, r1.2.2, y1.1, y1.2.1, y1.2.2)
def zFY (y0 : qC) (y1 : qC) : Option Int := zWn y0 y1
def zGD (y0 : qC) (y1 : qC) : Option (qC × qC × Bool) :=
 (zFY y0 y1).bind fun r1 =>
 if decide (0 ≤ r1) then
 (sub y0 0 r1).bind fun x1 =>
 (sub y0 (zW (r1 + (len y1))) (len y0)).bind fun x2 =>
 some (x1, x2, true)
 else
 some (y0, [], false)
def zOM (y0 : qC) (y1 : qC) : Option (qC × qC × Bool) :=
 (zGD y0 y1).bind fun r1 =>
 some (r1.1, r1.2.1, r1.2.2)
def zLP (y0 : qC) : Option (List qC) := zU1 y0
def zGg (s2 : qC × Int × Int × (List vO) × (List qR) × (List vH)) : Option ((qC × Int × Int × (List vO) × (List qR) × (List vH)) ⊕ (((List vO) × (List qR) × (List vH)) ⊕ (zM × Int × Int))) :=
 if !(s2.1 == []) then
 (zOM s2.1 [10]).bind fun r1 =>
 (zLP r1.1).bind fun r2 =>
 (zDf (r2, false) (s2.2.2.2.1, s2.2.2.2.2.1, s2.2.2.2.2.2)).bind fun r3 =>
 if (!r1.2.2) || (r3.2.2.2.1 || ((decide (0 < (len r3.2.2.1))) || ((!(r3.2.1 == r1.1)) || (decide (r3.1 < s2.2.1))))) then
 some (.inr (.inr ((([] : List vO), ([] : List qR), ([] : List vH)), s2.2.2.1, 3)))
 else
 some (.inl (r1.2.1, r3.1, zW (s2.2.2.1 + 1), r3.2.2.2.2.1, r3.2.2.2.2.2.1, r3.2.2.2.2.2.2))
 else
 some (.inr (.inl (s2.2.2.2.1, s2.2.2.2.2.1, s2.2.2.2.2.2)))
def zGX (y0 : qC) : Option (zM × Int × Int) :=
 if decide (4096 < (len y0)) then
 some ((([] : List vO), ([] : List qR), ([] : List vH)), 0, 2)
 else
 yC (zZ (zGg) (y0, 1, 1, ([] : List vO), ([] : List qR), ([] : List vH)) : Option (((List vO) × (List qR) × (List vH)) ⊕ (zM × Int × Int))) fun s1 =>
 (zBC (s1.1, s1.2.1, s1.2.2)).bind fun r4 =>
 if r4 != 0 then
 some ((([] : List vO), ([] : List qR), ([] : List vH)), 0, r4)
 else
 some ((s1.1, s1.2.1, s1.2.2), 0, 0)
def zGn (y0 : qC) : Option zM :=
 (zGX y0).bind fun r1 =>
 some r1.1
def zFq : Option Bool :=
 (zGn [112, 114, 101, 109, 105, 115, 101, 32, 112, 32, 49, 10, 112, 114, 101, 109, 105, 115, 101, 32, 126, 112, 32, 50, 10]).bind fun r1 =>
 (zCv r1 (1, 1)).bind fun r2 =>
 (zGn [97, 120, 105, 111, 109, 32, 112, 10, 114, 117, 108, 101, 32, 97, 32, 49, 58, 32, 61, 62, 32, 113, 10, 114, 117, 108, 101, 32, 98, 32, 49, 58, 32, 61, 62, 32, 126, 113, 10, 112, 114, 111, 109, 111, 116, 101, 32, 98, 32, 53, 32, 105, 102, 32, 112, 10]).bind fun r3 =>
 (zCv r3 (1, 1)).bind fun r4 =>
 (zGn [112, 114, 101, 109, 105, 115, 101, 32, 112, 32, 51, 10, 115, 116, 114, 105, 99, 116, 32, 115, 58, 32, 112, 32, 45, 62, 32, 126, 112, 10]).bind fun r5 =>
 (zCv r5 (1, 1)).bind fun r6 =>
 (
 if r2.2 then
 if (len r2.1) == 1 then
 (zF r2.1 0).bind fun x1 =>
 if x1 == (true, [112]) then
 if r4.2 then
 if (len r4.1) == 2 then
 (zF r4.1 1).bind fun x2 =>
 if x2 == (true, [113]) then
 if r6.2 then
 some ((len r6.1) == 0)
 else
 some false
 else
 some false
 else
 some false
 else
 some false
 else
 some false
 else
 some false
 else
 some false : Option Bool).bind fun s1 =>
 some s1
def zHt (y0 : List zN) (y1 : zN) (s1 : Int) : Option (Int ⊕ Bool) :=
 if decide (s1 < (len y0)) then
 (zF y0 s1).bind fun x1 =>
 if x1 == y1 then
 some (.inr true)
 else
 some (.inl (zW (s1 + 1)))
 else
 some (.inr false)
def zKx (y0 : List zN) (y1 : zN) : Option Bool :=
 zZ (zHt y0 y1) 0
def zHL (y0 : zM) (s3 : Int × (List qR)) : Option ((Int × (List qR)) ⊕ (List qR)) :=
 if decide (s3.1 < (len y0.2.1)) then
 (zF y0.2.1 s3.1).bind fun x27 =>
 (wI ([] : List zN) x27.2.2.2.1).bind fun x28 =>
 (wI s3.2 ([(x27.1, x27.2.1, x27.2.2.1, x28, x27.2.2.2.2)] : List qR)).bind fun x29 =>
 some (.inl (zW (s3.1 + 1), x29))
 else
 some (.inr s3.2)
def zJy (y0 : zM) : Option zM :=
 (
 (wI ([] : List vO) y0.1).bind fun x1 =>
 (wI ([] : List vH) y0.2.2).bind fun x2 =>
 some (x1, ([] : List qR), x2) : Option zM).bind fun s1 =>
 (zZ (zHL y0) (0, s1.2.1) : Option (List qR)).bind fun s2 =>
 some (s1.1, s2, s1.2.2)
def zHI (y0 : zM) (s2 : Int × (List qR)) (y1 : List zN) (s3 : Int × (List qR)) : Option ((Int × (List qR)) ⊕ ((Int × (List qR)) ⊕ (List qR))) :=
 if decide (s3.1 < (len y0.2.2)) then
 (zF y0.2.2 s3.1).bind fun x1 =>
 (
 (zF s3.2 s2.1).bind fun x2 =>
 if x1.1 == x2.1 then
 (zF s3.2 s2.1).bind fun x3 =>
 if !x3.2.1 then
 (zKx y1 x1.2.2).bind fun r2 =>
 some r2
 else
 some false
 else
 some false : Option Bool).bind fun s4 =>
 if s4 then
 (zF s3.2 s2.1).bind fun x4 =>
 some (.inl (zW (s3.1 + 1), List.set s3.2 (Int.toNat s2.1) (x4.1, x4.2.1, x1.2.1, x4.2.2.2.1, x4.2.2.2.2)))
 else
 some (.inl (zW (s3.1 + 1), s3.2))
 else
 some (.inr (.inl (zW (s2.1 + 1), s3.2)))
def zFR (y0 : zM) (y1 : List zN) (s2 : Int × (List qR)) : Option ((Int × (List qR)) ⊕ (List qR)) :=
 if decide (s2.1 < (len s2.2)) then
 zZ (zHI y0 s2 y1) (0, s2.2)
 else
 some (.inr s2.2)
def zHO (y0 : zM) (y1 : List zN) : Option zM :=
 (zJy y0).bind fun r1 =>
 (zZ (zFR y0 y1) (0, r1.2.1) : Option (List qR)).bind fun s1 =>
 some (r1.1, s1, r1.2.2)
def zDb (y0 : qC) (s2 : Int) : Option (Int ⊕ Bool) :=
 if decide (s2 < (len y0)) then
 (
 (tM y0 s2).bind fun x3 =>
 if decide (x3 < 97) then
 (tM y0 s2).bind fun x4 =>
 if decide (x4 < 48) then
 (tM y0 s2).bind fun x5 =>
 some (x5 != 95)
 else
 (tM y0 s2).bind fun x6 =>
 if decide (57 < x6) then
 (tM y0 s2).bind fun x7 =>
 some (x7 != 95)
 else
 some false
 else
 (tM y0 s2).bind fun x8 =>
 if decide (122 < x8) then
 (tM y0 s2).bind fun x9 =>
 if decide (x9 < 48) then
 (tM y0 s2).bind fun x10 =>
 some (x10 != 95)
 else
 (tM y0 s2).bind fun x11 =>
 if decide (57 < x11) then
 (tM y0 s2).bind fun x12 =>
 some (x12 != 95)
 else
 some false
 else
 some false : Option Bool).bind fun s3 =>
 if s3 then
 some (.inr false)
 else
 some (.inl (zW (s2 + 1)))
 else
 some (.inr true)
def zBl (y0 : qC) : Option Bool :=
 (
 if decide ((len y0) < 1) then
 some true
 else
 if decide (12 < (len y0)) then
 some true
 else
 (tM y0 0).bind fun x1 =>
 if decide (x1 < 97) then
 some true
 else
 (tM y0 0).bind fun x2 =>
 some (decide (122 < x2)) : Option Bool).bind fun s1 =>
 if s1 then
 some false
 else
 zZ (zDb y0) 0
def zDF (y0 : zN) : Option Bool :=
 (zBl y0.2).bind fun r1 =>
 some r1
def zHH (y0 : zM) (y1 : qC) (s1 : Int) : Option (Int ⊕ Int) :=
 if decide (s1 < (len y0.2.1)) then
 (zF y0.2.1 s1).bind fun x1 =>
 if x1.1 == y1 then
 some (.inr s1)
 else
 some (.inl (zW (s1 + 1)))
 else
 some (.inr (-1))
def zJp (y0 : zM) (y1 : qC) : Option Int :=
 zZ (zHH y0 y1) 0
def zFV (y0 : zM) (y1 : zN) (s1 : Int) : Option (Int ⊕ Int) :=
 if decide (s1 < (len y0.1)) then
 (zF y0.1 s1).bind fun x1 =>
 if x1.1 == y1 then
 some (.inr s1)
 else
 some (.inl (zW (s1 + 1)))
 else
 some (.inr (-1))
def zJR (y0 : zM) (y1 : zN) : Option Int :=
 zZ (zFV y0 y1) 0
def zFl (y0 : Int) : Option Bool :=
 some ((decide (0 ≤ y0)) && (decide (y0 ≤ 9)))
def zHA (y0 : vO) : Option Int :=
 if (decide (y0.2.1 < 1)) || (decide (3 < y0.2.1)) then
 some 4
 else
 (
 (zDF y0.1).bind fun r1 =>
 if !r1 then
 some true
 else
 (zFl y0.2.2.1).bind fun r2 =>
 if !r2 then
 some true
 else
 if y0.2.1 != 2 then
 if y0.2.2.1 != 0 then
 some true
 else
 if !(y0.2.2.2 == []) then
 (zBl y0.2.2.2).bind fun r3 =>
 some (!r3)
 else
 some false
 else
 if !(y0.2.2.2 == []) then
 (zBl y0.2.2.2).bind fun r4 =>
 some (!r4)
 else
 some false : Option Bool).bind fun s1 =>
 if s1 then
 some 1
 else
 some 0
def zFe (y0 : zN) (y1 : zN) : Option Int :=
 if y0 == y1 then
 some 0
 else
 if (yY y0.2 y1.2) || ((y0.2 == y1.2) && y1.1) then
 some (-1)
 else
 some 1
def zHJ (y0 : qR) (s3 : Bool × Int) : Option ((Bool × Int) ⊕ Bool) :=
 if decide (s3.2 < (len y0.2.2.2.1)) then
 (
 if s3.1 then
 (zF y0.2.2.2.1 s3.2).bind fun x1 =>
 (zDF x1).bind fun r5 =>
 some r5
 else
 some false : Option Bool).bind fun s4 =>
 some (.inl (s4, zW (s3.2 + 1)))
 else
 some (.inr s3.1)
def zHV (y0 : qR) (s5 : Int) : Option (Int ⊕ Int) :=
 if decide (s5 < (len y0.2.2.2.1)) then
 (zF y0.2.2.2.1 (zW (s5 - 1))).bind fun x2 =>
 (zF y0.2.2.2.1 s5).bind fun x3 =>
 (zFe x2 x3).bind fun r6 =>
 if decide (0 ≤ r6) then
 some (.inr 8)
 else
 some (.inl (zW (s5 + 1)))
 else
 some (.inr 0)
def zJk (y0 : qR) : Option Int :=
 if decide (4 < (len y0.2.2.2.1)) then
 some 2
 else
 (
 (zBl y0.1).bind fun r1 =>
 if r1 then
 (zFl y0.2.2.1).bind fun r2 =>
 if r2 then
 if !y0.2.1 then
 (zDF y0.2.2.2.2).bind fun r3 =>
 some r3
 else
 if y0.2.2.1 == 0 then
 (zDF y0.2.2.2.2).bind fun r4 =>
 some r4
 else
 some false
 else
 some false
 else
 some false : Option Bool).bind fun s1 =>
 (zZ (zHJ y0) (s1, 0) : Option Bool).bind fun s2 =>
 if !s2 then
 some 1
 else
 zZ (zHV y0) 1
def zEb (y0 : zM) (s2 : Int) : Option (Int ⊕ (Unit ⊕ Int)) :=
 if decide (s2 < (len y0.1)) then
 (zF y0.1 s2).bind fun x1 =>
 (zHA x1).bind fun r1 =>
 if r1 != 0 then
 some (.inr (.inr r1))
 else
 (zF y0.1 s2).bind fun x2 =>
 (zJR y0 x2.1).bind fun r2 =>
 if decide (r2 < s2) then
 some (.inr (.inr 5))
 else
 some (.inl (zW (s2 + 1)))
 else
 some (.inr (.inl ()))
def zEQ (y0 : zM) (s4 : Int) : Option (Int ⊕ (Unit ⊕ Int)) :=
 if decide (s4 < (len y0.2.1)) then
 (zF y0.2.1 s4).bind fun x3 =>
 (zJk x3).bind fun r3 =>
 if r3 != 0 then
 some (.inr (.inr r3))
 else
 (zF y0.2.1 s4).bind fun x4 =>
 (zJp y0 x4.1).bind fun r4 =>
 if decide (r4 < s4) then
 some (.inr (.inr 5))
 else
 some (.inl (zW (s4 + 1)))
 else
 some (.inr (.inl ()))
def zEP (y0 : zM) (s5 : Int) : Option (Int ⊕ Int) :=
 if decide (s5 < (len y0.2.2)) then
 (zF y0.2.2 s5).bind fun x5 =>
 (
 (zFl x5.2.1).bind fun r5 =>
 if !r5 then
 some true
 else
 (zDF x5.2.2).bind fun r6 =>
 some (!r6) : Option Bool).bind fun s6 =>
 if s6 then
 some (.inr 1)
 else
 (zJp y0 x5.1).bind fun r7 =>
 if decide (r7 < 0) then
 some (.inr 6)
 else
 (zF y0.2.1 r7).bind fun x6 =>
 if x6.2.1 then
 some (.inr 4)
 else
 some (.inl (zW (s5 + 1)))
 else
 some (.inr 0)
def zEr (y0 : zM) : Option Int :=
 if (decide (16 < (len y0.1))) || ((decide (24 < (len y0.2.1))) || (decide (8 < (len y0.2.2)))) then
 some 2
 else
 yC (zZ (zEb y0) 0 : Option (Unit ⊕ Int)) fun _ =>
 yC (zZ (zEQ y0) 0 : Option (Unit ⊕ Int)) fun _ =>
 zZ (zEP y0) 0
def zEF (y0 : List Int) (y1 : Int) (s2 : Int) : Option (Int ⊕ Int) :=
 (
 if decide (s2 < (len y0)) then
 (zF y0 s2).bind fun x1 =>
 some (decide (x1 < y1))
 else
 some false : Option Bool).bind fun s3 =>
 if s3 then
 some (.inl (zW (s2 + 1)))
 else
 some (.inr s2)
def zFE (y0 : List Int) (y1 : Int) : Option (List Int) :=
 (zZ (zEF y0 y1) 0 : Option Int).bind fun s1 =>
 (
 if decide (s1 < (len y0)) then
 (zF y0 s1).bind fun x2 =>
 some (x2 == y1)
 else
 some false : Option Bool).bind fun s4 =>
 if s4 then
 some y0
 else
 (sub y0 0 s1).bind fun x3 =>
 (wI ([] : List Int) x3).bind fun x4 =>
 (sub y0 s1 (len y0)).bind fun x5 =>
 (wI x4 ([y1] : List Int)).bind fun x6 =>
 (wI x6 x5).bind fun x7 =>
 some x7
def zG3 (y1 : List Int) (s1 : (List Int) × Int) : Option (((List Int) × Int) ⊕ (List Int)) :=
 if decide (s1.2 < (len y1)) then
 (zF y1 s1.2).bind fun x1 =>
 (zFE s1.1 x1).bind fun r1 =>
 some (.inl (r1, zW (s1.2 + 1)))
 else
 some (.inr s1.1)
def zIk (y0 : List Int) (y1 : List Int) : Option (List Int) :=
 zZ (zG3 y1) (y0, 0)
def zHK (y0 : List zI) (y1 : Int) (rec_ref07_Subs : (List zI) → Int → Option (List Int)) (s1 : (List Int) × Int) : Option (((List Int) × Int) ⊕ (List Int)) :=
 (zF y0 y1).bind fun x1 =>
 if decide (s1.2 < (len x1.2.2.1)) then
 (zF y0 y1).bind fun x2 =>
 (zF x2.2.2.1 s1.2).bind fun x3 =>
 (rec_ref07_Subs y0 x3).bind fun r1 =>
 (zIk s1.1 r1).bind fun r2 =>
 some (.inl (r2, zW (s1.2 + 1)))
 else
 some (.inr s1.1)
def zJx (rec_ref07_Subs : (List zI) → Int → Option (List Int)) (y0 : List zI) (y1 : Int) : Option (List Int) :=
 if (decide (y1 < 0)) || (decide ((len y0) ≤ y1)) then
 some ([] : List Int)
 else
 zZ (zHK y0 y1 rec_ref07_Subs) (([y1] : List Int), 0)
def zF7 : Nat → (List zI) → Int → Option (List Int)
 | 0 => fun _ _ => none
 | k + 1 => fun y0 y1 => zJx (zF7 k) y0 y1
def zIB (y0 : List zI) (y1 : Int) : Option (List Int) := zVZ fun k => zF7 k y0 y1
def zDL (r1 : (List Int)) (y1 : List zI) (y0 : zM) (s1 : (List Int) × Int) : Option (((List Int) × Int) ⊕ (List Int)) :=
 if decide (s1.2 < (len r1)) then
 (zF r1 s1.2).bind fun x1 =>
 (
 (zF y1 x1).bind fun x2 =>
 if decide (0 ≤ x2.2.1) then
 (zF y1 x1).bind fun x3 =>
 (zF y0.2.1 x3.2.1).bind fun x4 =>
 some (!x4.2.1)
 else
 some false : Option Bool).bind fun s2 =>
 if s2 then
 (zF y1 x1).bind fun x5 =>
 (zFE s1.1 x5.2.1).bind fun r2 =>
 some (.inl (r2, zW (s1.2 + 1)))
 else
 some (.inl (s1.1, zW (s1.2 + 1)))
 else
 some (.inr s1.1)
def zCC (y0 : zM) (y1 : List zI) (y2 : Int) : Option (List Int) :=
 (zIB y1 y2).bind fun r1 =>
 zZ (zDL r1 y1 y0) (([] : List Int), 0)
def zDX (y1 : List zI) (y2 : Int) (rec_ref07_Run : zM → (List zI) → Int → Option (List zN)) (y0 : zM) (s2 : (List zN) × Int) : Option (((List zN) × Int) ⊕ (List zN)) :=
 (zF y1 y2).bind fun x5 =>
 if decide (s2.2 < (len x5.2.2.1)) then
 (zF y1 y2).bind fun x6 =>
 (zF x6.2.2.1 s2.2).bind fun x7 =>
 (rec_ref07_Run y0 y1 x7).bind fun r1 =>
 (wI s2.1 r1).bind fun x8 =>
 some (.inl (x8, zW (s2.2 + 1)))
 else
 some (.inr s2.1)
def zE1 (rec_ref07_Run : zM → (List zI) → Int → Option (List zN)) (y0 : zM) (y1 : List zI) (y2 : Int) : Option (List zN) :=
 (zF y1 y2).bind fun x1 =>
 (
 (zF y1 y2).bind fun x2 =>
 if decide (0 ≤ x2.2.1) then
 (zF y1 y2).bind fun x3 =>
 (zF y0.2.1 x3.2.1).bind fun x4 =>
 some x4.2.1
 else
 some false : Option Bool).bind fun s1 =>
 if s1 then
 zZ (zDX y1 y2 rec_ref07_Run y0) (([x1.2.2.2] : List zN), 0)
 else
 some ([x1.2.2.2] : List zN)
def zAv : Nat → zM → (List zI) → Int → Option (List zN)
 | 0 => fun _ _ _ => none
 | k + 1 => fun y0 y1 y2 => zE1 (zAv k) y0 y1 y2
def zHi (y0 : zM) (y1 : List zI) (y2 : Int) : Option (List zN) := zVZ fun k => zAv k y0 y1 y2
def zIh (y0 : List Int) (y1 : Int) (s1 : Int) : Option (Int ⊕ Bool) :=
 if decide (s1 < (len y0)) then
 (zF y0 s1).bind fun x1 =>
 if x1 == y1 then
 some (.inr true)
 else
 some (.inl (zW (s1 + 1)))
 else
 some (.inr false)
def zMa (y0 : List Int) (y1 : Int) : Option Bool :=
 zZ (zIh y0 y1) 0
def zGA (y3 : List Int) (x1 : qR) (y0 : zM) (y1 : List zI) (y2 : Int) (s1 : Int) : Option (Int ⊕ Bool) :=
 if decide (s1 < (len y3)) then
 (
 if x1.2.1 then
 (zF y3 s1).bind fun x2 =>
 (zHi y0 y1 x2).bind fun r1 =>
 (zKx r1 x1.2.2.2.2).bind fun r2 =>
 if r2 then
 some true
 else
 if !x1.2.1 then
 (zF y3 s1).bind fun x3 =>
 (zCC y0 y1 x3).bind fun r3 =>
 (zMa r3 y2).bind fun r4 =>
 some r4
 else
 some false
 else
 if !x1.2.1 then
 (zF y3 s1).bind fun x4 =>
 (zCC y0 y1 x4).bind fun r5 =>
 (zMa r5 y2).bind fun r6 =>
 some r6
 else
 some false : Option Bool).bind fun s2 =>
 if s2 then
 some (.inr false)
 else
 some (.inl (zW (s1 + 1)))
 else
 some (.inr true)
def zFH (y0 : zM) (y1 : List zI) (y2 : Int) (y3 : List Int) : Option Bool :=
 (zF y0.2.1 y2).bind fun x1 =>
 zZ (zGA y3 x1 y0 y1 y2) 0
def zDh (y1 : Int) (y0 : List zI) (y2 : List zN) (y3 : List Int) (rec_ref07_choices_2 : (List zI) → Int → (List zN) → (List Int) → Option (List (List Int))) (s1 : (List (List Int)) × Int) : Option (((List (List Int)) × Int) ⊕ (List (List Int))) :=
 if decide (s1.2 < y1) then
 (zF y0 s1.2).bind fun x2 =>
 (zF y2 (len y3)).bind fun x3 =>
 if x2.2.2.2 == x3 then
 (sub y3 0 (len y3)).bind fun x4 =>
 (wI x4 ([s1.2] : List Int)).bind fun x5 =>
 (rec_ref07_choices_2 y0 y1 y2 x5).bind fun r1 =>
 (wI s1.1 r1).bind fun x6 =>
 some (.inl (x6, zW (s1.2 + 1)))
 else
 some (.inl (s1.1, zW (s1.2 + 1)))
 else
 some (.inr s1.1)
def zFu (rec_ref07_choices_2 : (List zI) → Int → (List zN) → (List Int) → Option (List (List Int))) (y0 : List zI) (y1 : Int) (y2 : List zN) (y3 : List Int) : Option (List (List Int)) :=
 if (len y3) == (len y2) then
 (wI ([] : List Int) y3).bind fun x1 =>
 some ([x1] : List (List Int))
 else
 zZ (zDh y1 y0 y2 y3 rec_ref07_choices_2) (([] : List (List Int)), 0)
def zBp : Nat → (List zI) → Int → (List zN) → (List Int) → Option (List (List Int))
 | 0 => fun _ _ _ _ => none
 | k + 1 => fun y0 y1 y2 y3 => zFu (zBp k) y0 y1 y2 y3
def zHd (y0 : List zI) (y1 : Int) (y2 : List zN) (y3 : List Int) : Option (List (List Int)) := zVZ fun k => zBp k y0 y1 y2 y3
def zFp (y0 : List Int) (y1 : Int) (s1 : Int) : Option (Int ⊕ Bool) :=
 if decide (s1 < (len y0)) then
 (zF y0 s1).bind fun x1 =>
 if decide (y1 ≤ x1) then
 some (.inr true)
 else
 some (.inl (zW (s1 + 1)))
 else
 some (.inr false)
def zKF (y0 : List Int) (y1 : Int) : Option Bool :=
 zZ (zFp y0 y1) 0
def zEi (y0 : zM) (s2 : (List zI) × Int) : Option (((List zI) × Int) ⊕ (List zI)) :=
 if decide (s2.2 < (len y0.1)) then
 (zF y0.1 s2.2).bind fun x1 =>
 (wI s2.1 ([(s2.2, (-1), ([] : List Int), x1.1)] : List zI)).bind fun x2 =>
 some (.inl (x2, zW (s2.2 + 1)))
 else
 some (.inr s2.1)
def zEg (r2 : (List (List Int))) (s3 : (List zI) × Int × Int) (y0 : zM) (s4 : (List zI) × Int) (s5 : (List zI) × Int) : Option (((List zI) × Int) ⊕ (((List zI) × Int) ⊕ (((List zI) × Int × Int) ⊕ ((List zI) × Int)))) :=
 if decide (s5.2 < (len r2)) then
 (zF r2 s5.2).bind fun x4 =>
 (
 (zKF x4 s3.2.1).bind fun r3 =>
 if !r3 then
 if decide (1 < s3.2.2) then
 some true
 else
 if decide (0 < (len x4)) then
 some true
 else
 (zFH y0 s5.1 s4.2 x4).bind fun r4 =>
 some (!r4)
 else
 (zFH y0 s5.1 s4.2 x4).bind fun r5 =>
 some (!r5) : Option Bool).bind fun s6 =>
 if s6 then
 some (.inl (s5.1, zW (s5.2 + 1)))
 else
 (zF y0.2.1 s4.2).bind fun x5 =>
 (wI s5.1 ([((-1), s4.2, x4, x5.2.2.2.2)] : List zI)).bind fun x6 =>
 if decide (40 < (len x6)) then
 some (.inr (.inr (.inr (([] : List zI), 2))))
 else
 some (.inl (x6, zW (s5.2 + 1)))
 else
 some (.inr (.inl (s5.1, zW (s4.2 + 1))))
def zEy (y0 : zM) (s3 : (List zI) × Int × Int) (s4 : (List zI) × Int) : Option (((List zI) × Int) ⊕ (((List zI) × Int × Int) ⊕ ((List zI) × Int))) :=
 if decide (s4.2 < (len y0.2.1)) then
 (zF y0.2.1 s4.2).bind fun x3 =>
 (zHd s4.1 (len s3.1) x3.2.2.2.1 ([] : List Int)).bind fun r2 =>
 zZ (zEg r2 s3 y0 s4) (s4.1, 0)
 else
 some (.inr (.inl (s4.1, len s3.1, zW (s3.2.2 + 1))))
def zDA (y0 : zM) (s3 : (List zI) × Int × Int) : Option (((List zI) × Int × Int) ⊕ ((List zI) × Int)) :=
 if (s3.2.2 == 1) || (decide (s3.2.1 < (len s3.1))) then
 zZ (zEy y0 s3) (s3.1, 0)
 else
 some (.inr (s3.1, 0))
def zFt (y0 : zM) : Option ((List zI) × Int) :=
 (zEr y0).bind fun r1 =>
 if r1 != 0 then
 some (([] : List zI), r1)
 else
 (zZ (zEi y0) (([] : List zI), 0) : Option (List zI)).bind fun s1 =>
 zZ (zDA y0) (s1, 0, 1)
def zEI (y0 : List zN) (y1 : zN) (s2 : Int) : Option (Int ⊕ Int) :=
 (
 if decide (s2 < (len y0)) then
 (zF y0 s2).bind fun x1 =>
 (zFe x1 y1).bind fun r1 =>
 some (decide (r1 < 0))
 else
 some false : Option Bool).bind fun s3 =>
 if s3 then
 some (.inl (zW (s2 + 1)))
 else
 some (.inr s2)
def zHp (y0 : List zN) (y1 : zN) : Option (List zN) :=
 (zZ (zEI y0 y1) 0 : Option Int).bind fun s1 =>
 (
 if decide (s1 < (len y0)) then
 (zF y0 s1).bind fun x2 =>
 some (x2 == y1)
 else
 some false : Option Bool).bind fun s4 =>
 if s4 then
 some y0
 else
 (sub y0 0 s1).bind fun x3 =>
 (wI ([] : List zN) x3).bind fun x4 =>
 (sub y0 s1 (len y0)).bind fun x5 =>
 (wI x4 ([y1] : List zN)).bind fun x6 =>
 (wI x6 x5).bind fun x7 =>
 some x7
def zCm (y1 : List Int) (y0 : List zI) (s1 : (List zN) × Int) : Option (((List zN) × Int) ⊕ (List zN)) :=
 if decide (s1.2 < (len y1)) then
 (
 (zF y1 s1.2).bind fun x1 =>
 if decide (0 ≤ x1) then
 (zF y1 s1.2).bind fun x2 =>
 some (decide (x2 < (len y0)))
 else
 some false : Option Bool).bind fun s2 =>
 if s2 then
 (zF y1 s1.2).bind fun x3 =>
 (zF y0 x3).bind fun x4 =>
 (zHp s1.1 x4.2.2.2).bind fun r1 =>
 some (.inl (r1, zW (s1.2 + 1)))
 else
 some (.inl (s1.1, zW (s1.2 + 1)))
 else
 some (.inr s1.1)
def zE8 (y0 : List zI) (y1 : List Int) : Option (List zN) :=
 zZ (zCm y1 y0) (([] : List zN), 0)
def zET (r1 : (List Int)) (y0 : List zI) (s1 : (List Int) × Int) : Option (((List Int) × Int) ⊕ (List Int)) :=
 if decide (s1.2 < (len r1)) then
 (zF r1 s1.2).bind fun x1 =>
 (zF y0 x1).bind fun x2 =>
 if decide (0 ≤ x2.1) then
 (zF y0 x1).bind fun x3 =>
 (zFE s1.1 x3.1).bind fun r2 =>
 some (.inl (r2, zW (s1.2 + 1)))
 else
 some (.inl (s1.1, zW (s1.2 + 1)))
 else
 some (.inr s1.1)
def zEk (y0 : List zI) (y1 : Int) : Option (List Int) :=
 (zIB y0 y1).bind fun r1 =>
 zZ (zET r1 y0) (([] : List Int), 0)
def zF0 (r1 : (List Int)) (y0 : zM) (s1 : Int) : Option (Int ⊕ Bool) :=
 if decide (s1 < (len r1)) then
 (zF r1 s1).bind fun x1 =>
 (zF y0.1 x1).bind fun x2 =>
 if x2.2.1 == 3 then
 some (.inr true)
 else
 some (.inl (zW (s1 + 1)))
 else
 some (.inr false)
def zHD (y0 : zM) (y1 : List zI) (y2 : Int) : Option Bool :=
 (zEk y1 y2).bind fun r1 =>
 zZ (zF0 r1 y0) 0
def zHB (y1 : List zI) (y2 : Int) (rec_ref07_Last : zM → (List zI) → Int → Option (List Int)) (y0 : zM) (s2 : (List Int) × Int) : Option (((List Int) × Int) ⊕ (List Int)) :=
 (zF y1 y2).bind fun x5 =>
 if decide (s2.2 < (len x5.2.2.1)) then
 (zF y1 y2).bind fun x6 =>
 (zF x6.2.2.1 s2.2).bind fun x7 =>
 (rec_ref07_Last y0 y1 x7).bind fun r1 =>
 (zIk s2.1 r1).bind fun r2 =>
 some (.inl (r2, zW (s2.2 + 1)))
 else
 some (.inr s2.1)
def zJh (rec_ref07_Last : zM → (List zI) → Int → Option (List Int)) (y0 : zM) (y1 : List zI) (y2 : Int) : Option (List Int) :=
 (
 if decide (y2 < 0) then
 some true
 else
 if decide ((len y1) ≤ y2) then
 some true
 else
 (zF y1 y2).bind fun x1 =>
 some (decide (x1.2.1 < 0)) : Option Bool).bind fun s1 =>
 if s1 then
 some ([] : List Int)
 else
 (zF y1 y2).bind fun x2 =>
 (zF y0.2.1 x2.2.1).bind fun x3 =>
 if !x3.2.1 then
 (zF y1 y2).bind fun x4 =>
 some ([x4.2.1] : List Int)
 else
 zZ (zHB y1 y2 rec_ref07_Last y0) (([] : List Int), 0)
def zF9 : Nat → zM → (List zI) → Int → Option (List Int)
 | 0 => fun _ _ _ => none
 | k + 1 => fun y0 y1 y2 => zJh (zF9 k) y0 y1 y2
def zLm (y0 : zM) (y1 : List zI) (y2 : Int) : Option (List Int) := zVZ fun k => zF9 k y0 y1 y2
def zMk (r1 : (List Int)) (y0 : zM) (s1 : (List Int) × Int) : Option (((List Int) × Int) ⊕ (List Int)) :=
 if decide (s1.2 < (len r1)) then
 (zF r1 s1.2).bind fun x1 =>
 (zF y0.2.1 x1).bind fun x2 =>
 (wI s1.1 ([x2.2.2.1] : List Int)).bind fun x3 =>
 some (.inl (x3, zW (s1.2 + 1)))
 else
 some (.inr s1.1)
def zDu (y0 : zM) (y1 : List zI) (y2 : Int) : Option (List Int) :=
 (zLm y0 y1 y2).bind fun r1 =>
 zZ (zMk r1 y0) (([] : List Int), 0)
def zHF (r1 : (List Int)) (y0 : zM) (s1 : (List Int) × Int) : Option (((List Int) × Int) ⊕ (List Int)) :=
 if decide (s1.2 < (len r1)) then
 (zF r1 s1.2).bind fun x1 =>
 (zF y0.1 x1).bind fun x2 =>
 if x2.2.1 == 2 then
 (zF y0.1 x1).bind fun x3 =>
 (wI s1.1 ([x3.2.2.1] : List Int)).bind fun x4 =>
 some (.inl (x4, zW (s1.2 + 1)))
 else
 if x2.2.1 == 3 then
 (wI s1.1 ([(-1)] : List Int)).bind fun x5 =>
 some (.inl (x5, zW (s1.2 + 1)))
 else
 some (.inl (s1.1, zW (s1.2 + 1)))
 else
 some (.inr s1.1)
def zBM (y0 : zM) (y1 : List zI) (y2 : Int) : Option (List Int) :=
 (zEk y1 y2).bind fun r1 =>
 zZ (zHF r1 y0) (([] : List Int), 0)
def zMo (r1 : (List Int)) (y0 : zM) (s1 : (List Int) × Int) : Option (((List Int) × Int) ⊕ (List Int)) :=
 if decide (s1.2 < (len r1)) then
 (zF r1 s1.2).bind fun x1 =>
 (zF y0.2.1 x1).bind fun x2 =>
 (wI s1.1 ([x2.2.2.1] : List Int)).bind fun x3 =>
 some (.inl (x3, zW (s1.2 + 1)))
 else
 some (.inr s1.1)
def zDs (y0 : zM) (y1 : List zI) (y2 : Int) : Option (List Int) :=
 (zCC y0 y1 y2).bind fun r1 =>
 zZ (zMo r1 y0) (([] : List Int), 0)
def zEO (y0 : List Int) (s1 : Int × Int × Int) : Option ((Int × Int × Int) ⊕ (Int × Int)) :=
 if decide (s1.2.2 < (len y0)) then
 (zF y0 s1.2.2).bind fun x3 =>
 (zF y0 s1.2.2).bind fun x4 =>
 some (.inl (if x3 < s1.1 then x3 else s1.1, if x4 > s1.2.1 then x4 else s1.2.1, zW (s1.2.2 + 1)))
 else
 some (.inr (s1.1, s1.2.1))
def zEp (y0 : List Int) : Option (Int × Int) :=
 (zF y0 0).bind fun x1 =>
 (zF y0 0).bind fun x2 =>
 zZ (zEO y0) (x1, x2, 1)
def zDm (y0 : List Int) (y1 : List Int) (y2 : Int) : Option Bool :=
 if if y2 != 1 then (y2 != 2) || ((len y0) == 0) else (len y0) == 0 then
 some false
 else
 if (len y1) == 0 then
 some true
 else
 (zEp y0).bind fun r1 =>
 (zEp y1).bind fun r2 =>
 if y2 == 1 then
 some (decide (r1.1 < r2.1))
 else
 some (decide (r1.2 < r2.2))
def zID (y0 : zM) (y1 : List zI) (y2 : Int) (y3 : Int) (y4 : vN) : Option Bool :=
 (
 if decide (y2 < 0) then
 some true
 else
 if decide ((len y1) ≤ y2) then
 some true
 else
 if decide (y3 < 0) then
 some true
 else
 if decide ((len y1) ≤ y3) then
 some true
 else
 (zHD y0 y1 y3).bind fun r1 =>
 some r1 : Option Bool).bind fun s1 =>
 if s1 then
 some false
 else
 (zBM y0 y1 y2).bind fun r2 =>
 (zBM y0 y1 y3).bind fun r3 =>
 (zDm r2 r3 y4.2).bind fun r4 =>
 if y4.1 == 1 then
 (zDu y0 y1 y2).bind fun r5 =>
 (zDu y0 y1 y3).bind fun r6 =>
 (
 (zDm r5 r6 y4.2).bind fun r7 =>
 if r7 then
 some true
 else
 if (len r5) == 0 then
 if (len r6) == 0 then
 some r4
 else
 some false
 else
 some false : Option Bool).bind fun s2 =>
 some s2
 else
 if y4.1 == 2 then
 (zDs y0 y1 y2).bind fun r8 =>
 (zDs y0 y1 y3).bind fun r9 =>
 if ((len r8) == 0) && ((len r9) == 0) then
 some r4
 else
 (zDm r8 r9 y4.2).bind fun r10 =>
 (
 (zBM y0 y1 y2).bind fun r11 =>
 if (len r11) == 0 then
 (zBM y0 y1 y3).bind fun r12 =>
 some ((len r12) == 0)
 else
 some false : Option Bool).bind fun s3 =>
 if s3 then
 some r10
 else
 some (r4 && r10)
 else
 some false
def zGz (y0 : zN) : Option zN :=
 some (!y0.1, y0.2)
def zHE (y0 : zM) (y1 : List zI) (y2 : Int) (y3 : Int) (y4 : Int) : Option Bool :=
 (zF y1 y2).bind fun x1 =>
 (zF y1 y3).bind fun x2 =>
 (zGz x2.2.2.2).bind fun r1 =>
 (zF y1 y3).bind fun x3 =>
 if decide (x3.2.1 < 0) then
 (
 if y4 == 1 then
 (zF y1 y3).bind fun x4 =>
 (zF y0.1 x4.1).bind fun x5 =>
 if x5.2.1 != 1 then
 some (x1.2.2.2 == r1)
 else
 some false
 else
 some false : Option Bool).bind fun s1 =>
 some s1
 else
 (zF y1 y3).bind fun x6 =>
 (zF y0.2.1 x6.2.1).bind fun x7 =>
 if y4 == 2 then
 some ((!x7.2.1) && (x1.2.2.2 == r1))
 else
 if y4 == 3 then
 (
 if !x7.2.1 then
 (zF y1 y2).bind fun x8 =>
 some (x8.2.2.2 == (true, x7.1))
 else
 some false : Option Bool).bind fun s2 =>
 some s2
 else
 some false
def zDI (y0 : zM) (y1 : List zI) (s1 : (List qU) × Int) (x1 : Int) (s2 : (List qU) × Int) (s3 : (List qU) × Int) (s4 : (List qU) × Int) : Option (((List qU) × Int) ⊕ (((List qU) × Int) ⊕ (((List qU) × Int) ⊕ (((List qU) × Int) ⊕ (List qU))))) :=
 if decide (s4.2 ≤ 3) then
 (zHE y0 y1 s1.2 x1 s4.2).bind fun r2 =>
 if r2 then
 (wI s4.1 ([(s1.2, s2.2, x1, s4.2)] : List qU)).bind fun x2 =>
 some (.inl (x2, zW (s4.2 + 1)))
 else
 some (.inl (s4.1, zW (s4.2 + 1)))
 else
 some (.inr (.inl (s4.1, zW (s3.2 + 1))))
def zFP (r1 : (List Int)) (y0 : zM) (y1 : List zI) (s1 : (List qU) × Int) (s2 : (List qU) × Int) (s3 : (List qU) × Int) : Option (((List qU) × Int) ⊕ (((List qU) × Int) ⊕ (((List qU) × Int) ⊕ (List qU)))) :=
 if decide (s3.2 < (len r1)) then
 (zF r1 s3.2).bind fun x1 =>
 zZ (zDI y0 y1 s1 x1 s2 s3) (s3.1, 1)
 else
 some (.inr (.inl (s3.1, zW (s2.2 + 1))))
def zFU (y1 : List zI) (y0 : zM) (s1 : (List qU) × Int) (s2 : (List qU) × Int) : Option (((List qU) × Int) ⊕ (((List qU) × Int) ⊕ (List qU))) :=
 if decide (s2.2 < (len y1)) then
 (zIB y1 s2.2).bind fun r1 =>
 zZ (zFP r1 y0 y1 s1 s2) (s2.1, 0)
 else
 some (.inr (.inl (s2.1, zW (s1.2 + 1))))
def zFZ (y1 : List zI) (y0 : zM) (s1 : (List qU) × Int) : Option (((List qU) × Int) ⊕ (List qU)) :=
 if decide (s1.2 < (len y1)) then
 zZ (zFU y1 y0 s1) (s1.1, 0)
 else
 some (.inr s1.1)
def zHW (y0 : zM) (y1 : List zI) : Option (List qU) :=
 zZ (zFZ y1 y0) (([] : List qU), 0)
def zFX (r1 : (List qU)) (y0 : zM) (y1 : List zI) (y2 : vN) (s1 : (List qU) × Int) : Option (((List qU) × Int) ⊕ (List qU)) :=
 if decide (s1.2 < (len r1)) then
 (
 (zF r1 s1.2).bind fun x1 =>
 if x1.2.2.2 == 3 then
 some true
 else
 (zF r1 s1.2).bind fun x2 =>
 (zF r1 s1.2).bind fun x3 =>
 (zID y0 y1 x2.1 x3.2.2.1 y2).bind fun r2 =>
 some (!r2) : Option Bool).bind fun s2 =>
 if s2 then
 (zF r1 s1.2).bind fun x4 =>
 (wI s1.1 ([x4] : List qU)).bind fun x5 =>
 some (.inl (x5, zW (s1.2 + 1)))
 else
 some (.inl (s1.1, zW (s1.2 + 1)))
 else
 some (.inr s1.1)
def zFc (y0 : zM) (y1 : List zI) (y2 : vN) : Option (List qU) :=
 (zHW y0 y1).bind fun r1 =>
 zZ (zFX r1 y0 y1 y2) (([] : List qU), 0)
def zEo (y1 : List qU) (y0 : Int) (s2 : Int) : Option (Int ⊕ (Unit ⊕ (wY × Int))) :=
 if decide (s2 < (len y1)) then
 (
 (zF y1 s2).bind fun x1 =>
 if decide (x1.1 < 0) then
 some true
 else
 (zF y1 s2).bind fun x2 =>
 if decide (y0 ≤ x2.1) then
 some true
 else
 (zF y1 s2).bind fun x3 =>
 if decide (x3.2.1 < 0) then
 some true
 else
 (zF y1 s2).bind fun x4 =>
 some (decide (y0 ≤ x4.2.1)) : Option Bool).bind fun s3 =>
 if s3 then
 some (.inr (.inr ((0, ([] : List wQ)), 1)))
 else
 some (.inl (zW (s2 + 1)))
 else
 some (.inr (.inl ()))
def zFD (y1 : List qU) (s5 : Int × (List wQ)) (s6 : Int × (List wQ)) (s8 : Bool × Int) : Option ((Bool × Int) ⊕ Bool) :=
 if decide (s8.2 < (len y1)) then
 (
 if s8.1 then
 some true
 else
 (zF y1 s8.2).bind fun x5 =>
 if x5.1 == s5.1 then
 (zF y1 s8.2).bind fun x6 =>
 some (x6.2.1 == s6.1)
 else
 some false : Option Bool).bind fun s9 =>
 some (.inl (s9, zW (s8.2 + 1)))
 else
 some (.inr s8.1)
def zEw (y0 : Int) (y1 : List qU) (s5 : Int × (List wQ)) (s6 : Int × (List wQ)) : Option ((Int × (List wQ)) ⊕ ((Int × (List wQ)) ⊕ (List wQ))) :=
 if decide (s6.1 < y0) then
 (zZ (zFD y1 s5 s6) (false, 0) : Option Bool).bind fun s7 =>
 if s7 then
 (wI s6.2 ([(s5.1, s6.1)] : List wQ)).bind fun x7 =>
 some (.inl (zW (s6.1 + 1), x7))
 else
 some (.inl (zW (s6.1 + 1), s6.2))
 else
 some (.inr (.inl (zW (s5.1 + 1), s6.2)))
def zFC (y0 : Int) (y1 : List qU) (s5 : Int × (List wQ)) : Option ((Int × (List wQ)) ⊕ (List wQ)) :=
 if decide (s5.1 < y0) then
 zZ (zEw y0 y1 s5) (0, s5.2)
 else
 some (.inr s5.2)
def zGx (y0 : Int) (y1 : List qU) : Option (wY × Int) :=
 if (decide (y0 < 0)) || (decide (40 < y0)) then
 some ((0, ([] : List wQ)), 1)
 else
 yC (zZ (zEo y1 y0) 0 : Option (Unit ⊕ (wY × Int))) fun _ =>
 (zZ (zFC y0 y1) (0, ([] : List wQ)) : Option (List wQ)).bind fun s4 =>
 some ((y0, s4), 0)
def zQq (y0 : List Int) (y1 : Int) (s1 : (List Int) × Int) : Option (((List Int) × Int) ⊕ (List Int)) :=
 if decide (s1.2 < (len y0)) then
 (zF y0 s1.2).bind fun x1 =>
 if x1 == y1 then
 (wI s1.1 ([s1.2] : List Int)).bind fun x2 =>
 some (.inl (x2, zW (s1.2 + 1)))
 else
 some (.inl (s1.1, zW (s1.2 + 1)))
 else
 some (.inr s1.1)
def zLk (y0 : List Int) (y1 : Int) : Option (List Int) :=
 zZ (zQq y0 y1) (([] : List Int), 0)
def zEa (y0 : wY) (s1 : Int) : Option (Int ⊕ Int) :=
 if decide (s1 < (len y0.2)) then
 (zF y0.2 s1).bind fun x1 =>
 if (decide (x1.1 < 0)) || ((decide (y0.1 ≤ x1.1)) || ((decide (x1.2 < 0)) || (decide (y0.1 ≤ x1.2)))) then
 some (.inr 1)
 else
 (
 if decide (0 < s1) then
 (zF y0.2 (zW (s1 - 1))).bind fun x2 =>
 if decide (x1.1 < x2.1) then
 some true
 else
 (zF y0.2 (zW (s1 - 1))).bind fun x3 =>
 if x3.1 == x1.1 then
 (zF y0.2 (zW (s1 - 1))).bind fun x4 =>
 some (decide (x1.2 ≤ x4.2))
 else
 some false
 else
 some false : Option Bool).bind fun s2 =>
 if s2 then
 some (.inr 8)
 else
 some (.inl (zW (s1 + 1)))
 else
 some (.inr 0)
def zCw (y0 : wY) : Option Int :=
 if (decide (y0.1 < 0)) || (decide (40 < y0.1)) then
 some 1
 else
 zZ (zEa y0) 0
def zIe (y0 : wY) : Option wY :=
 (zCw y0).bind fun r1 =>
 if r1 != 0 then
 some (0, ([] : List wQ))
 else
 some y0
def zDi (r1 : wY) (y1 : Int) (s1 : (List Int) × Int) : Option (((List Int) × Int) ⊕ (List Int)) :=
 if decide (s1.2 < (len r1.2)) then
 (zF r1.2 s1.2).bind fun x1 =>
 if x1.2 == y1 then
 (zF r1.2 s1.2).bind fun x2 =>
 (wI s1.1 ([x2.1] : List Int)).bind fun x3 =>
 some (.inl (x3, zW (s1.2 + 1)))
 else
 some (.inl (s1.1, zW (s1.2 + 1)))
 else
 some (.inr s1.1)
def zDk (y0 : wY) (y1 : Int) : Option (List Int) :=
 (zIe y0).bind fun r1 =>
 zZ (zDi r1 y1) (([] : List Int), 0)
def zEh (y0 : wY) (s2 : (List Int) × (List Int) × Int) : Option (((List Int) × (List Int) × Int) ⊕ ((List Int) × (List Int))) :=
 if decide (s2.2.2 < y0.1) then
 (wI s2.1 ([3] : List Int)).bind fun x1 =>
 (wI s2.2.1 ([0] : List Int)).bind fun x2 =>
 some (.inl (x1, x2, zW (s2.2.2 + 1)))
 else
 some (.inr (s2.1, s2.2.1))
def zEj (r1 : (List Int)) (x3 : List Int) (s7 : Bool × Int) : Option ((Bool × Int) ⊕ Bool) :=
 if decide (s7.2 < (len r1)) then
 (zF r1 s7.2).bind fun x5 =>
 (
 if s7.1 then
 (zF x3 x5).bind fun x6 =>
 some (x6 == 2)
 else
 some false : Option Bool).bind fun s8 =>
 some (.inl (s8, zW (s7.2 + 1)))
 else
 some (.inr s7.1)
def zEq (y0 : wY) (x3 : List Int) (s3 : (List Int) × (List Int) × Int) (s5 : (List Int) × (List Int) × Bool × Int) : Option (((List Int) × (List Int) × Bool × Int) ⊕ ((List Int) × (List Int) × Bool)) :=
 if decide (s5.2.2.2 < y0.1) then
 (zF x3 s5.2.2.2).bind fun x4 =>
 (
 (zDk y0 s5.2.2.2).bind fun r1 =>
 zZ (zEj r1 x3) (x4 == 3, 0) : Option Bool).bind fun s6 =>
 if s6 then
 (zF s5.1 s5.2.2.2).bind fun _ =>
 (zF s5.2.1 s5.2.2.2).bind fun _ =>
 some (.inl (List.set s5.1 (Int.toNat s5.2.2.2) 1, List.set s5.2.1 (Int.toNat s5.2.2.2) s3.2.2, true, zW (s5.2.2.2 + 1)))
 else
 some (.inl (s5.1, s5.2.1, s5.2.2.1, zW (s5.2.2.2 + 1)))
 else
 some (.inr (s5.1, s5.2.1, s5.2.2.1))
def zEu (r2 : (List Int)) (s10 : (List Int) × (List Int) × Int) (s3 : (List Int) × (List Int) × Int) (s11 : (List Int) × (List Int) × Int) : Option (((List Int) × (List Int) × Int) ⊕ (((List Int) × (List Int) × Int) ⊕ ((List Int) × (List Int)))) :=
 if decide (s11.2.2 < (len r2)) then
 (zF r2 s11.2.2).bind fun x9 =>
 (
 (zF s11.1 s10.2.2).bind fun x10 =>
 if x10 == 3 then
 (zF s11.1 x9).bind fun x11 =>
 if x11 == 1 then
 (zF s11.2.1 x9).bind fun x12 =>
 some (x12 == s3.2.2)
 else
 some false
 else
 some false : Option Bool).bind fun s12 =>
 if s12 then
 (zF s11.1 s10.2.2).bind fun _ =>
 (zF s11.2.1 s10.2.2).bind fun _ =>
 some (.inl (List.set s11.1 (Int.toNat s10.2.2) 2, List.set s11.2.1 (Int.toNat s10.2.2) s3.2.2, zW (s11.2.2 + 1)))
 else
 some (.inl (s11.1, s11.2.1, zW (s11.2.2 + 1)))
 else
 some (.inr (.inl (s11.1, s11.2.1, zW (s10.2.2 + 1))))
def zEt (y0 : wY) (s3 : (List Int) × (List Int) × Int) (s10 : (List Int) × (List Int) × Int) : Option (((List Int) × (List Int) × Int) ⊕ ((List Int) × (List Int))) :=
 if decide (s10.2.2 < y0.1) then
 (zDk y0 s10.2.2).bind fun r2 =>
 zZ (zEu r2 s10 s3) (s10.1, s10.2.1, 0)
 else
 some (.inr (s10.1, s10.2.1))
def zG1 (y0 : wY) (s3 : (List Int) × (List Int) × Int) : Option (((List Int) × (List Int) × Int) ⊕ ((List Int) × (List Int))) :=
 (wI ([] : List Int) s3.1).bind fun x3 =>
 (zZ (zEq y0 x3 s3) (s3.1, s3.2.1, false, 0) : Option ((List Int) × (List Int) × Bool)).bind fun s4 =>
 (zZ (zEt y0 s3) (s4.1, s4.2.1, 0) : Option ((List Int) × (List Int))).bind fun s9 =>
 if !s4.2.2 then
 some (.inr (s9.1, s9.2))
 else
 some (.inl (s9.1, s9.2, zW (s3.2.2 + 1)))
def zIg (y0 : wY) : Option ((List Int) × (List Int)) :=
 (zZ (zEh y0) (([] : List Int), ([] : List Int), 0) : Option ((List Int) × (List Int))).bind fun s1 =>
 zZ (zG1 y0) (s1.1, s1.2, 1)
def zIj (y0 : wY) : Option (List Int) :=
 (zIg y0).bind fun r1 =>
 some r1.1
def zFb (y0 : zM) (y1 : vN) : Option (zBa × Int) :=
 (zFt y0).bind fun r1 =>
 if r1.2 != 0 then
 some (((([] : List vO), ([] : List qR), ([] : List vH)), ([] : List zI), ([] : List qU), (0, ([] : List wQ))), r1.2)
 else
 if if y1.1 != 1 then (y1.1 != 2) || ((y1.2 != 1) && (y1.2 != 2)) else (y1.2 != 1) && (y1.2 != 2) then
 some (((([] : List vO), ([] : List qR), ([] : List vH)), ([] : List zI), ([] : List qU), (0, ([] : List wQ))), 4)
 else
 (zFc y0 r1.1 y1).bind fun r2 =>
 (zGx (len r1.1) r2).bind fun r3 =>
 (zIj r3.1).bind fun r4 =>
 (zLk r4 1).bind fun r5 =>
 (zE8 r1.1 r5).bind fun r6 =>
 (zHO y0 r6).bind fun r7 =>
 (zFc r7 r1.1 y1).bind fun r8 =>
 (zGx (len r1.1) r8).bind fun r9 =>
 some ((r7, r1.1, r8, r9.1), 0)
def zPu (y0 : List zN) (y1 : List zN) (s1 : Int) : Option (Int ⊕ Bool) :=
 if decide (s1 < (len y0)) then
 (zF y0 s1).bind fun x1 =>
 (zF y1 s1).bind fun x2 =>
 if !(x1 == x2) then
 some (.inr false)
 else
 some (.inl (zW (s1 + 1)))
 else
 some (.inr true)
def zJz (y0 : List zN) (y1 : List zN) : Option Bool :=
 if (len y0) != (len y1) then
 some false
 else
 zZ (zPu y0 y1) 0
def zJW (y0 : zM) (y1 : zM) (s2 : Int) : Option (Int ⊕ (Unit ⊕ Bool)) :=
 if decide (s2 < (len y0.1)) then
 (zF y0.1 s2).bind fun x1 =>
 (zF y1.1 s2).bind fun x2 =>
 if !(x1 == x2) then
 some (.inr (.inr false))
 else
 some (.inl (zW (s2 + 1)))
 else
 some (.inr (.inl ()))
def zJA (y0 : zM) (y1 : zM) (s4 : Int) : Option (Int ⊕ (Unit ⊕ Bool)) :=
 if decide (s4 < (len y0.2.1)) then
 (
 (zF y0.2.1 s4).bind fun x3 =>
 (zF y1.2.1 s4).bind fun x4 =>
 some (x3, x4) : Option (qR × qR)).bind fun s5 =>
 (
 if !(s5.1.1 == s5.2.1) then
 some true
 else
 if !(s5.1.2.1 == s5.2.2.1) then
 some true
 else
 if s5.1.2.2.1 != s5.2.2.2.1 then
 some true
 else
 if !(s5.1.2.2.2.2 == s5.2.2.2.2.2) then
 some true
 else
 (zJz s5.1.2.2.2.1 s5.2.2.2.2.1).bind fun r1 =>
 some (!r1) : Option Bool).bind fun s6 =>
 if s6 then
 some (.inr (.inr false))
 else
 some (.inl (zW (s4 + 1)))
 else
 some (.inr (.inl ()))
def zIw (y0 : zM) (y1 : zM) (s7 : Int) : Option (Int ⊕ Bool) :=
 if decide (s7 < (len y0.2.2)) then
 (zF y0.2.2 s7).bind fun x5 =>
 (zF y1.2.2 s7).bind fun x6 =>
 if !(x5 == x6) then
 some (.inr false)
 else
 some (.inl (zW (s7 + 1)))
 else
 some (.inr true)
def zJm (y0 : zM) (y1 : zM) : Option Bool :=
 if ((len y0.1) != (len y1.1)) || (((len y0.2.1) != (len y1.2.1)) || ((len y0.2.2) != (len y1.2.2))) then
 some false
 else
 yC (zZ (zJW y0 y1) 0 : Option (Unit ⊕ Bool)) fun _ =>
 yC (zZ (zJA y0 y1) 0 : Option (Unit ⊕ Bool)) fun _ =>
 zZ (zIw y0 y1) 0
def zJL (y0 : List Int) (y1 : List Int) (s1 : Int) : Option (Int ⊕ Bool) :=
 if decide (s1 < (len y0)) then
 (zF y0 s1).bind fun x1 =>
 (zF y1 s1).bind fun x2 =>
 if x1 != x2 then
 some (.inr false)
 else
 some (.inl (zW (s1 + 1)))
 else
 some (.inr true)
def zJq (y0 : List Int) (y1 : List Int) : Option Bool :=
 if (len y0) != (len y1) then
 some false
 else
 zZ (zJL y0 y1) 0
def zIs (y0 : List zI) (y1 : List zI) (s1 : Int) : Option (Int ⊕ Bool) :=
 if decide (s1 < (len y0)) then
 (
 (zF y0 s1).bind fun x1 =>
 (zF y1 s1).bind fun x2 =>
 if x1.1 != x2.1 then
 some true
 else
 (zF y0 s1).bind fun x3 =>
 (zF y1 s1).bind fun x4 =>
 if x3.2.1 != x4.2.1 then
 some true
 else
 (zF y0 s1).bind fun x5 =>
 (zF y1 s1).bind fun x6 =>
 if !(x5.2.2.2 == x6.2.2.2) then
 some true
 else
 (zF y0 s1).bind fun x7 =>
 (zF y1 s1).bind fun x8 =>
 (zJq x7.2.2.1 x8.2.2.1).bind fun r1 =>
 some (!r1) : Option Bool).bind fun s2 =>
 if s2 then
 some (.inr false)
 else
 some (.inl (zW (s1 + 1)))
 else
 some (.inr true)
def zJe (y0 : List zI) (y1 : List zI) : Option Bool :=
 if (len y0) != (len y1) then
 some false
 else
 zZ (zIs y0 y1) 0
def zIt (y0 : List qU) (y1 : List qU) (s1 : Int) : Option (Int ⊕ Bool) :=
 if decide (s1 < (len y0)) then
 (zF y0 s1).bind fun x1 =>
 (zF y1 s1).bind fun x2 =>
 if !(x1 == x2) then
 some (.inr false)
 else
 some (.inl (zW (s1 + 1)))
 else
 some (.inr true)
def zJt (y0 : List qU) (y1 : List qU) : Option Bool :=
 if (len y0) != (len y1) then
 some false
 else
 zZ (zIt y0 y1) 0
def zIq (y0 : wY) (y1 : wY) (s1 : Int) : Option (Int ⊕ Bool) :=
 if decide (s1 < (len y0.2)) then
 (zF y0.2 s1).bind fun x1 =>
 (zF y1.2 s1).bind fun x2 =>
 if !(x1 == x2) then
 some (.inr false)
 else
 some (.inl (zW (s1 + 1)))
 else
 some (.inr true)
def zJl (y0 : wY) (y1 : wY) : Option Bool :=
 if (y0.1 != y1.1) || ((len y0.2) != (len y1.2)) then
 some false
 else
 zZ (zIq y0 y1) 0
def zBb (y0 : zBa) (y1 : zBa) : Option Bool :=
 (
 (zJm y0.1 y1.1).bind fun r1 =>
 if r1 then
 (zJe y0.2.1 y1.2.1).bind fun r2 =>
 if r2 then
 (zJt y0.2.2.1 y1.2.2.1).bind fun r3 =>
 if r3 then
 (zJl y0.2.2.2 y1.2.2.2).bind fun r4 =>
 some r4
 else
 some false
 else
 some false
 else
 some false : Option Bool).bind fun s1 =>
 some s1
def zCL (s4 : (List vN) × Int × Int) (x1 : zM) (s3 : Int) (s5 : Int) : Option (Int ⊕ (Int ⊕ (Unit ⊕ Bool))) :=
 if decide (s5 < s4.2.1) then
 (zF s4.1 s5).bind fun x4 =>
 (zBe x1 x4).bind fun r7 =>
 (zFb x1 x4).bind fun r8 =>
 (
 if r7.2 != r8.2 then
 some true
 else
 (zBb r7.1 r8.1).bind fun r9 =>
 some (!r9) : Option Bool).bind fun s6 =>
 if s6 then
 some (.inr (.inr (.inr false)))
 else
 some (.inl (zW (s5 + 1)))
 else
 some (.inr (.inl (zW (s3 + 1))))
def zEE (y0 : zM) (r3 : zM × Int) (r4 : zM × Int) (y1 : vN) (s3 : Int) : Option (Int ⊕ (Unit ⊕ Bool)) :=
 if decide (s3 < (len ([y0, r3.1, r4.1] : List zM))) then
 (zF ([y0, r3.1, r4.1] : List zM) s3).bind fun x1 =>
 (
 zIY.bind fun r5 =>
 (wI r5 ([y1] : List vN)).bind fun x2 =>
 some (x2, len x2, 0) : Option ((List vN) × Int × Int)).bind fun s4 =>
 zZ (zCL s4 x1 s3) s4.2.2
 else
 some (.inr (.inl ()))
def zBz (y0 : zM) (y1 : vN) (y2 : List Int) : Option Bool :=
 (
 (zG2 y0).bind fun r1 =>
 if !r1 then
 some true
 else
 if decide (10 < (len y0.2.1)) then
 some true
 else
 some (decide (10 < (len y0.1))) : Option Bool).bind fun s1 =>
 if s1 then
 some true
 else
 (zM9 y2).bind fun r2 =>
 (zHN r2 3 5 6).bind fun r3 =>
 yC (
 (zDR (r2.1, r3.2) r3.1).bind fun r4 =>
 zZ (zEE y0 r3 r4 y1) 0 : Option (Unit ⊕ Bool)) fun _ =>
 zFq.bind fun r10 =>
 some r10
end
end Go.GD
