/- A part. Conditions: none. -/
import Derived.Test.YtjfjjkgaddknfaaGreatDoorLib
namespace Go.GD
set_option autoImplicit false
noncomputable section
set_option linter.unusedVariables false
abbrev uQ := (List Int) × Int
abbrev zO := Bool × qI
abbrev vU := zO × Int × Int × qI
abbrev wC := qI × Bool × Int × (List zO) × zO
abbrev vG := qI × Int × zO
abbrev zT := (List vU) × (List wC) × (List vG)
abbrev zK := Int × Int × (List Int) × zO
abbrev wA := Int × Int × Int × Int
abbrev qW := Int × Int
abbrev wH := Int × (List qW)
abbrev tZ := zT × (List zK) × (List wA) × wH
abbrev yB := Int × Int
abbrev zAP := (List qI) × Bool
abbrev uT := zT × (List zK) × (List zK) × Int
abbrev uE := Int × (List (List Int)) × (List Int) × (List (List Int)) × Bool
def zBD : List qI := [[], [97, 120, 105, 111, 109], [112, 114, 101, 109, 105, 115, 101], [97, 115, 115, 117, 109, 101]]
def yY : List Int := [0, 1, 56, 2, 57, 49, 28, 3, 61, 58, 42, 50, 38, 29, 17, 4, 62, 47, 59, 36, 45, 43, 51, 22, 53, 39, 33, 30, 24, 18, 12, 5, 63, 55, 48, 27, 60, 41, 37, 16, 46, 35, 44, 21, 52, 32, 23, 11, 54, 26, 40, 15, 34, 20, 31, 10, 25, 14, 19, 9, 13, 8, 7, 6]
def zB0 (y0 : List zK) (y1 : Int) : Option Bool :=
 some ((decide (0 ≤ y1)) && (decide (y1 < (len y0))))
def zCd (y0 : List zO) : Option (List zO) :=
 (wE ([] : List zO) y0).bind fun x1 =>
 some x1
def zL6 (y0 : List zO) (s1 : Int) (s3 : (List zO) × Int × Int) : Option (((List zO) × Int × Int) ⊕ ((List zO) × Int)) :=
 if decide (s3.2.2 < ((Int.toNat (((List.length y0 : Nat) : Int) - s1) : Nat) : Int)) then
 (tY s3.1 s1 s3.2.2).bind fun x3 =>
 (tY s3.1 s1 (zR (s3.2.2 - 1))).bind fun x4 =>
 if !(x3 == x4) then
 (tY s3.1 s1 s3.2.2).bind fun x5 =>
 (zI s3.1 s3.2.1).bind fun _ =>
 some (.inl (List.set s3.1 (Int.toNat s3.2.1) x5, zR (s3.2.1 + 1), zR (s3.2.2 + 1)))
 else
 some (.inl (s3.1, s3.2.1, zR (s3.2.2 + 1)))
 else
 some (.inr (s3.1, s3.2.1))
def zD3 (y0 : List zO) (s1 : Int) : Option (Int ⊕ (List zO)) :=
 if decide (s1 < (len y0)) then
 (zI y0 s1).bind fun x1 =>
 (zI y0 (zR (s1 - 1))).bind fun x2 =>
 if x1 == x2 then
 (yG (decide (0 ≤ s1) && decide (s1 ≤ len y0))).bind fun _ =>
 (zV (zL6 y0 s1) (y0, s1, 1) : Option ((List zO) × Int)).bind fun s2 =>
 (yG (decide (0 ≤ s2.2) && decide (s2.2 ≤ len s2.1))).bind fun _ =>
 (sub (zCk s2.1 s2.2 (false, [])) 0 s2.2).bind fun x7 =>
 some (.inr x7)
 else
 some (.inl (zR (s1 + 1)))
 else
 some (.inr y0)
def zBg (y0 : List zO) : Option (List zO) :=
 if decide ((len y0) < 2) then
 some y0
 else
 zV (zD3 y0) 1
def zEI (y0 : qI) : Option Bool :=
 some (!(y0 == y0))
def zE6 (y0 : qI) (y1 : qI) : Option Int :=
 (zEI y0).bind fun r1 =>
 (zEI y1).bind fun r2 =>
 if r1 then
 if r2 then
 some 0
 else
 some (-1)
 else
 if r2 then
 some 1
 else
 if uM y0 y1 then
 some (-1)
 else
 if !(uM y0 y1 || y0 == y1) then
 some 1
 else
 some 0
def zBz (y0 : zO) (y1 : zO) : Option Int :=
 (zE6 y0.2 y1.2).bind fun r1 =>
 if (r1 != 0) || (y0.1 == y1.1) then
 some r1
 else
 if y1.1 then
 some (-1)
 else
 some 1
def zAJ (y0 : List zO) : Option (List zO) := zWH zBz y0
def zDE (y0 : List zO) : Option (List zO) :=
 (zCd y0).bind fun r1 =>
 (zAJ r1).bind fun r2 =>
 (zBg r2).bind fun r3 =>
 some r3
def zCj (y1 : List Int) (y0 : List zK) (s2 : (List zO) × Int) : Option (((List zO) × Int) ⊕ (List zO)) :=
 if decide (s2.2 < (len y1)) then
 (zI y1 s2.2).bind fun x1 =>
 (zB0 y0 x1).bind fun r1 =>
 if r1 then
 (zI y0 x1).bind fun x2 =>
 (wE s2.1 ([x2.2.2.2] : List zO)).bind fun x3 =>
 some (.inl (x3, zR (s2.2 + 1)))
 else
 some (.inl (s2.1, zR (s2.2 + 1)))
 else
 some (.inr s2.1)
def zBe (y0 : List zK) (y1 : List Int) : Option (List zO) :=
 (zV (zCj y1 y0) (([] : List zO), 0) : Option (List zO)).bind fun s1 =>
 (zDE s1).bind fun r2 =>
 some r2
def zDg : Option Unit :=
 some ()
def zDX : Option Unit :=
 some ()
def zEg : Option Unit :=
 some ()
def zFK : Option Unit :=
 some ()
def zFL : Option Unit :=
 some ()
def zEB : Option Unit :=
 zFL.bind fun _ =>
 some ()
def zEQ : Option Unit :=
 some ()
def zHX : Option Unit :=
 zEQ.bind fun _ =>
 some ()
def zET : Option Unit :=
 some ()
def zH1 : Option Unit :=
 zET.bind fun _ =>
 some ()
def zKa : Option Unit :=
 zEB.bind fun _ =>
 zFK.bind fun _ =>
 zDg.bind fun _ =>
 zEg.bind fun _ =>
 zDX.bind fun _ =>
 zH1.bind fun _ =>
 zHX.bind fun _ =>
 some ()
def zBs (y0 : Int) : Option Int :=
 if y0 == 0 then
 some 64
 else
 (zI yY (xC .u64 (IntKind.u64.wrap ((yE .u64 y0 (IntKind.u64.wrap (0 - y0))) * 285870213051353865)) 58)).bind fun x1 =>
 some (zR (x1))
def zEd (s1 : Int × (List Int)) : Option ((Int × (List Int)) ⊕ (List Int)) :=
 if s1.1 != 0 then
 (zBs s1.1).bind fun r1 =>
 (wE s1.2 ([r1] : List Int)).bind fun x1 =>
 some (.inl (yE .u64 s1.1 (IntKind.u64.wrap (s1.1 - 1)), x1))
 else
 some (.inr s1.2)
def zH6 (y0 : Int) : Option (List Int) :=
 zV (zEd) (y0, ([] : List Int))
def zIU (y0 : wH) (s1 : (List Int) × Int) : Option (((List Int) × Int) ⊕ (List Int)) :=
 if decide (s1.2 < (len y0.2)) then
 (zI y0.2 s1.2).bind fun x2 =>
 (zI s1.1 x2.1).bind fun x3 =>
 (z1j .u64 1 x2.2).bind fun x4 =>
 (zI s1.1 x2.1).bind fun _ =>
 some (.inl (List.set s1.1 (Int.toNat x2.1) (bor .u64 x3 x4), zR (s1.2 + 1)))
 else
 some (.inr s1.1)
def zHm (y0 : wH) : Option (List Int) :=
 (mkS y0.1 y0.1 (0 : Int)).bind fun x1 =>
 zV (zIU y0) (x1, 0)
def zHD (y0 : Int) : Option Bool :=
 some (y0 != y0)
def zB2 (y0 : Int) (y1 : Int) : Option Int :=
 (zHD y0).bind fun r1 =>
 (zHD y1).bind fun r2 =>
 if r1 then
 if r2 then
 some 0
 else
 some (-1)
 else
 if r2 then
 some 1
 else
 if decide (y0 < y1) then
 some (-1)
 else
 if decide (y1 < y0) then
 some 1
 else
 some 0
def zTX (y0 : List Int) (s1 : Int) : Option (Int ⊕ Int) :=
 if decide (s1 < (len y0)) then
 (zI y0 s1).bind fun x1 =>
 if x1 != 0 then
 some (.inr x1)
 else
 some (.inl (zR (s1 + 1)))
 else
 some (.inr 0)
def zHE (y0 : List Int) : Option Int :=
 zV (zTX y0) 0
def zC0 (y0 : qW) (y1 : qW) : Option Int :=
 (zB2 y0.1 y1.1).bind fun r1 =>
 (zB2 y0.2 y1.2).bind fun r2 =>
 (zHE ([r1, r2] : List Int)).bind fun r3 =>
 some r3
def zB6 (y0 : wH) (s1 : Int) : Option (Int ⊕ Int) :=
 if decide (s1 < (len y0.2)) then
 (zI y0.2 s1).bind fun x1 =>
 if (decide ((if x1.2 < x1.1 then x1.2 else x1.1) < 0)) || (decide (y0.1 ≤ (if x1.2 > x1.1 then x1.2 else x1.1))) then
 some (.inr 1)
 else
 (
 if decide (0 < s1) then
 (zI y0.2 (zR (s1 - 1))).bind fun x2 =>
 (zC0 x2 x1).bind fun r1 =>
 some (decide (0 ≤ r1))
 else
 some false : Option Bool).bind fun s2 =>
 if s2 then
 some (.inr 8)
 else
 some (.inl (zR (s1 + 1)))
 else
 some (.inr 0)
def zBW (y0 : wH) : Option Int :=
 if (decide (y0.1 < 0)) || (decide (40 < y0.1)) then
 some 1
 else
 zV (zB6 y0) 0
def zEN (y0 : wH) : Option wH :=
 (zBW y0).bind fun r1 =>
 if r1 != 0 then
 some (0, ([] : List qW))
 else
 some y0
def zC5 (y0 : wH) (y1 : Int) : Option (List Int) :=
 (zEN y0).bind fun r1 =>
 if (decide (y1 < 0)) || (decide (r1.1 ≤ y1)) then
 some ([] : List Int)
 else
 (zHm r1).bind fun r2 =>
 (zI r2 y1).bind fun x1 =>
 (zH6 x1).bind fun r3 =>
 some r3
def zNX (y0 : Int) (y1 : Int) : Option (Int × Int) :=
 some (IntKind.u64.wrap ((IntKind.u64.wrap ((IntKind.u64.wrap ((xC .u64 y0 32) * (xC .u64 y1 32))) + (xC .u64 (IntKind.u64.wrap ((IntKind.u64.wrap ((xC .u64 y0 32) * (yE .u64 y1 4294967295))) + (xC .u64 (IntKind.u64.wrap ((yE .u64 y0 4294967295) * (yE .u64 y1 4294967295))) 32))) 32))) + (xC .u64 (IntKind.u64.wrap ((yE .u64 (IntKind.u64.wrap ((IntKind.u64.wrap ((xC .u64 y0 32) * (yE .u64 y1 4294967295))) + (xC .u64 (IntKind.u64.wrap ((yE .u64 y0 4294967295) * (yE .u64 y1 4294967295))) 32))) 4294967295) + (IntKind.u64.wrap ((yE .u64 y0 4294967295) * (xC .u64 y1 32))))) 32)), IntKind.u64.wrap (y0 * y1))
def zLU (y0 : Int) (y1 : Int) : Option (Int × Int) :=
 (zNX y0 y1).bind fun r1 =>
 some (r1.1, r1.2)
def zGZ (x1 : List Int) (s3 : (List Int) × Int) : Option (((List Int) × Int) ⊕ (List Int)) :=
 if decide (s3.2 < (len x1)) then
 (yG (decide (0 ≤ s3.2) && decide (s3.2 ≤ len s3.1))).bind fun _ =>
 (sub s3.1 0 s3.2).bind fun x2 =>
 some (.inl (zIk s3.1 s3.2 x2, zR (s3.2 + ((Nat.min (List.length x2) (Int.toNat (((List.length x1 : Nat) : Int) - s3.2)) : Nat) : Int))))
 else
 some (.inr s3.1)
def zCS (y0 : List Int) (y1 : Int) : Option (List Int) :=
 (
 if decide (y1 < 0) then
 none
 else
 some () : Option Unit).bind fun _ =>
 (zLU (IntKind.u64.wrap (len y0)) (IntKind.u64.wrap (y1))).bind fun r1 =>
 (
 if (decide (0 < r1.1)) || (decide (9223372036854775807 < r1.2)) then
 none
 else
 some () : Option Unit).bind fun _ =>
 (mkS (zR (r1.2)) (zR (r1.2)) (0 : Int)).bind fun x1 =>
 zV (zGZ x1) (zIk x1 0 y0, ((Nat.min (List.length y0) (List.length x1) : Nat) : Int))
def zD0 (y0 : wH) (s3 : Int × (List Int)) : Option ((Int × (List Int)) ⊕ (List Int)) :=
 if decide (s3.1 < (len y0.2)) then
 (zI y0.2 s3.1).bind fun x4 =>
 (yG (decide (0 ≤ x4.2) && decide (x4.2 < 40))).bind fun _ =>
 (yG (decide (0 ≤ x4.2) && decide (x4.2 < 40))).bind fun _ =>
 some (.inl (zR (s3.1 + 1), xS 40 s3.2 x4.2 (zR ((yT s3.2 x4.2) + 1))))
 else
 some (.inr s3.2)
def zD4 (y0 : wH) (s2 : (List Int)) (s5 : (List Int) × Int) : Option (((List Int) × Int) ⊕ (List Int)) :=
 if decide (s5.2 < y0.1) then
 (yG (decide (0 ≤ s5.2) && decide (s5.2 < 40))).bind fun _ =>
 if (yT s2 s5.2) == 0 then
 (wE s5.1 ([s5.2] : List Int)).bind fun x5 =>
 some (.inl (x5, zR (s5.2 + 1)))
 else
 some (.inl (s5.1, zR (s5.2 + 1)))
 else
 some (.inr s5.1)
def zD5 (s6 : (List Int) × (List Int) × (List Int) × Int × (List Int)) (s8 : (List Int) × (List Int) × Int) : Option (((List Int) × (List Int) × Int) ⊕ ((List Int) × (List Int))) :=
 if decide (s8.2.2 < (len s6.2.2.1)) then
 (zI s6.2.2.1 s8.2.2).bind fun x6 =>
 (zI s8.1 x6).bind fun _ =>
 (zI s8.2.1 x6).bind fun _ =>
 some (.inl (List.set s8.1 (Int.toNat x6) 1, List.set s8.2.1 (Int.toNat x6) s6.2.2.2.1, zR (s8.2.2 + 1)))
 else
 some (.inr (s8.1, s8.2.1))
def zDY (r5 : (List Int)) (s10 : (List Int) × (List Int) × (List Int) × Int × (List Int)) (x10 : Int) (s6 : (List Int) × (List Int) × (List Int) × Int × (List Int)) (s11 : (List Int) × Int × (List Int)) : Option (((List Int) × Int × (List Int)) ⊕ (((List Int) × (List Int) × (List Int) × Int × (List Int)) ⊕ (((List Int) × (List Int) × (List Int) × Int × (List Int)) ⊕ (((List Int) × (List Int) × (List Int) × Int × (List Int)) ⊕ ((List Int) × (List Int)))))) :=
 if decide (s11.2.1 < (len r5)) then
 (zI r5 s11.2.1).bind fun x14 =>
 (yG (decide (0 ≤ x14) && decide (x14 < 40))).bind fun _ =>
 (yG (decide (0 ≤ x14) && decide (x14 < 40))).bind fun _ =>
 (
 (yG (decide (0 ≤ x14) && decide (x14 < 40))).bind fun _ =>
 if (yT (xS 40 s11.2.2 x14 (zR ((yT s11.2.2 x14) - 1))) x14) == 0 then
 (zI (List.set s10.1 (Int.toNat x10) 2) x14).bind fun x15 =>
 some (x15 == 3)
 else
 some false : Option Bool).bind fun s12 =>
 if s12 then
 (wE s11.1 ([x14] : List Int)).bind fun x16 =>
 some (.inl (x16, zR (s11.2.1 + 1), xS 40 s11.2.2 x14 (zR ((yT s11.2.2 x14) - 1))))
 else
 some (.inl (s11.1, zR (s11.2.1 + 1), xS 40 s11.2.2 x14 (zR ((yT s11.2.2 x14) - 1))))
 else
 some (.inr (.inl (List.set s10.1 (Int.toNat x10) 2, List.set s10.2.1 (Int.toNat x10) s6.2.2.2.1, s11.1, zR (s10.2.2.2.1 + 1), s11.2.2)))
def zBt (r4 : (List Int)) (y0 : wH) (s6 : (List Int) × (List Int) × (List Int) × Int × (List Int)) (s9 : (List Int) × (List Int) × (List Int) × Int × (List Int)) (s10 : (List Int) × (List Int) × (List Int) × Int × (List Int)) : Option (((List Int) × (List Int) × (List Int) × Int × (List Int)) ⊕ (((List Int) × (List Int) × (List Int) × Int × (List Int)) ⊕ (((List Int) × (List Int) × (List Int) × Int × (List Int)) ⊕ ((List Int) × (List Int))))) :=
 if decide (s10.2.2.2.1 < (len r4)) then
 (zI r4 s10.2.2.2.1).bind fun x10 =>
 (zI s10.1 x10).bind fun x11 =>
 if x11 != 3 then
 some (.inl (s10.1, s10.2.1, s10.2.2.1, zR (s10.2.2.2.1 + 1), s10.2.2.2.2))
 else
 (zI s10.1 x10).bind fun _ =>
 (zI s10.2.1 x10).bind fun _ =>
 (zC5 y0 x10).bind fun r5 =>
 zV (zDY r5 s10 x10 s6) (s10.2.2.1, 0, s10.2.2.2.2)
 else
 some (.inr (.inl (s10.1, s10.2.1, s10.2.2.1, zR (s9.2.2.2.1 + 1), s10.2.2.2.2)))
def zCP (s6 : (List Int) × (List Int) × (List Int) × Int × (List Int)) (y0 : wH) (s9 : (List Int) × (List Int) × (List Int) × Int × (List Int)) : Option (((List Int) × (List Int) × (List Int) × Int × (List Int)) ⊕ (((List Int) × (List Int) × (List Int) × Int × (List Int)) ⊕ ((List Int) × (List Int)))) :=
 if decide (s9.2.2.2.1 < (len s6.2.2.1)) then
 (zI s6.2.2.1 s9.2.2.2.1).bind fun x9 =>
 (zC5 y0 x9).bind fun r4 =>
 zV (zBt r4 y0 s6 s9) (s9.1, s9.2.1, s9.2.2.1, 0, s9.2.2.2.2)
 else
 some (.inr (.inl (s9.1, s9.2.1, s9.2.2.1, zR (s6.2.2.2.1 + 1), s9.2.2.2.2)))
def zB8 (y0 : wH) (s6 : (List Int) × (List Int) × (List Int) × Int × (List Int)) : Option (((List Int) × (List Int) × (List Int) × Int × (List Int)) ⊕ ((List Int) × (List Int))) :=
 if decide (0 < (len s6.2.2.1)) then
 (zV (zD5 s6) (s6.1, s6.2.1, 0) : Option ((List Int) × (List Int))).bind fun s7 =>
 zV (zCP s6 y0) (s7.1, s7.2, ([] : List Int), 0, s6.2.2.2.2)
 else
 some (.inr (s6.1, s6.2.1))
def zDn (y0 : wH) : Option ((List Int) × (List Int)) :=
 (
 (zCS ([3] : List Int) y0.1).bind fun r1 =>
 (mkS y0.1 y0.1 (0 : Int)).bind fun x1 =>
 some (r1, x1) : Option ((List Int) × (List Int))).bind fun s1 =>
 (zV (zD0 y0) (0, (List.replicate 40 (0 : Int))) : Option (List Int)).bind fun s2 =>
 (zV (zD4 y0 s2) (([] : List Int), 0) : Option (List Int)).bind fun s4 =>
 zV (zB8 y0) (s1.1, s1.2, s4, 1, s2)
def zDB (y0 : wH) : Option (List Int) :=
 (zDn y0).bind fun r1 =>
 some r1.1
def zDq (y0 : wH) : Option ((List Int) × Int) :=
 (zDB y0).bind fun r1 =>
 some (r1, 0)
def zAf (y0 : wH) : Option ((List (List Int)) × Int) :=
 (zDq y0).bind fun r1 =>
 if r1.2 != 0 then
 some (([] : List (List Int)), r1.2)
 else
 some (([r1.1] : List (List Int)), 0)
def zF7 (y0 : List Int) (y1 : Int) (s1 : (List Int) × Int) : Option (((List Int) × Int) ⊕ (List Int)) :=
 if decide (s1.2 < (len y0)) then
 (zI y0 s1.2).bind fun x1 =>
 if x1 == y1 then
 (wE s1.1 ([s1.2] : List Int)).bind fun x2 =>
 some (.inl (x2, zR (s1.2 + 1)))
 else
 some (.inl (s1.1, zR (s1.2 + 1)))
 else
 some (.inr s1.1)
def zBC (y0 : List Int) (y1 : Int) : Option (List Int) :=
 zV (zF7 y0 y1) (([] : List Int), 0)
def zAc (r1 : (List (List Int)) × Int) (s1 : (List (List Int)) × Int) : Option (((List (List Int)) × Int) ⊕ ((List (List Int)) × Int)) :=
 if decide (s1.2 < (len r1.1)) then
 (zI r1.1 s1.2).bind fun x1 =>
 (zBC x1 1).bind fun r2 =>
 (wE s1.1 ([r2] : List (List Int))).bind fun x2 =>
 some (.inl (x2, zR (s1.2 + 1)))
 else
 some (.inr (s1.1, 0))
def zAw (y0 : wH) : Option ((List (List Int)) × Int) :=
 (zAf y0).bind fun r1 =>
 if r1.2 != 0 then
 some (([] : List (List Int)), r1.2)
 else
 zV (zAc r1) (([] : List (List Int)), 0)
def zHY (y1 : List Int) (y0 : wH) (s1 : Int) : Option (Int ⊕ Bool) :=
 if decide (s1 < (len y1)) then
 (zI y1 s1).bind fun x1 =>
 (
 if decide (x1 < 0) then
 some true
 else
 if decide (y0.1 ≤ x1) then
 some true
 else
 if decide (0 < s1) then
 (zI y1 (zR (s1 - 1))).bind fun x2 =>
 some (decide (x1 ≤ x2))
 else
 some false : Option Bool).bind fun s2 =>
 if s2 then
 some (.inr false)
 else
 some (.inl (zR (s1 + 1)))
 else
 some (.inr true)
def zEJ (y0 : wH) (y1 : List Int) : Option Bool :=
 zV (zHY y1 y0) 0
def zCu (y0 : wH) (y1 : Int) (s1 : Int × Int) : Option ((Int × Int) ⊕ Int) :=
 if decide (s1.2 < (len y0.2)) then
 (zI y0.2 s1.2).bind fun x1 =>
 (shrK .u64 y1 x1.1).bind fun x2 =>
 (z1j .u64 (yE .u64 x2 1) x1.2).bind fun x3 =>
 some (.inl (bor .u64 s1.1 x3, zR (s1.2 + 1)))
 else
 some (.inr s1.1)
def zBm (y0 : wH) (y1 : Int) : Option Int :=
 zV (zCu y0 y1) (0, 0)
def zFA (y0 : wH) (y1 : Int) : Option Bool :=
 (zBm y0 y1).bind fun r1 =>
 some ((yE .u64 r1 y1) == 0)
def zPk (s1 : Int × (List Int)) : Option ((Int × (List Int)) ⊕ (List Int)) :=
 if s1.1 != 0 then
 (zBs s1.1).bind fun r1 =>
 (wE s1.2 ([r1] : List Int)).bind fun x1 =>
 some (.inl (yE .u64 s1.1 (IntKind.u64.wrap (s1.1 - 1)), x1))
 else
 some (.inr s1.2)
def zDQ (y0 : Int) : Option (List Int) :=
 zV (zPk) (y0, ([] : List Int))
def zE1 (y0 : List Int) (s1 : Int × Int) : Option ((Int × Int) ⊕ Int) :=
 if decide (s1.2 < (len y0)) then
 (zI y0 s1.2).bind fun x1 =>
 (z1j .u64 1 x1).bind fun x2 =>
 some (.inl (bor .u64 s1.1 x2, zR (s1.2 + 1)))
 else
 some (.inr s1.1)
def zEf (y0 : List Int) : Option Int :=
 zV (zE1 y0) (0, 0)
def zDr (y0 : wH) : Option Int :=
 (z1j .u64 1 y0.1).bind fun x1 =>
 some (IntKind.u64.wrap (x1 - 1))
def zDS (y0 : wH) (y1 : Int) : Option Int :=
 (zDr y0).bind fun r1 =>
 (zDr y0).bind fun r2 =>
 (zBm y0 y1).bind fun r3 =>
 (zBm y0 (zMf .u64 r2 r3)).bind fun r4 =>
 some (zMf .u64 r1 r4)
def zCT (y0 : Int) (y1 : wH) : Option Int :=
 (zDS y1 y0).bind fun r1 =>
 some (yE .u64 y0 r1)
def zAK (y1 : wH) (s1 : Int) : Option (Int ⊕ Int) :=
 (zCT s1 y1).bind fun r1 =>
 if r1 == s1 then
 some (.inr s1)
 else
 some (.inl r1)
def zAl (y0 : Int) (y1 : wH) : Option Int :=
 zV (zAK y1) y0
def zBj (y0 : wH) (y1 : List Int) : Option ((List Int) × Int) :=
 (zEJ y0 y1).bind fun r1 =>
 if !r1 then
 some (([] : List Int), 1)
 else
 (zEf y1).bind fun r2 =>
 (zFA y0 r2).bind fun r3 =>
 if !r3 then
 some (([] : List Int), 10)
 else
 (zAl r2 y0).bind fun r4 =>
 (zDQ r4).bind fun r5 =>
 some (r5, 0)
def zKG (y0 : List Int) (y1 : Int) : Option Bool :=
 (
 if decide (0 ≤ y1) then
 if decide (y1 < (len y0)) then
 (zI y0 y1).bind fun x1 =>
 some (x1 == 1)
 else
 some false
 else
 some false : Option Bool).bind fun s1 =>
 some s1
def zKE (y0 : List Int) (y1 : Int) : Option Bool :=
 (zKG y0 y1).bind fun r1 =>
 some (!r1)
def zBc (y0 : List (List Int)) (y1 : Int) (s1 : Int) : Option (Int ⊕ Int) :=
 if decide (s1 < (len y0)) then
 (zI y0 s1).bind fun x1 =>
 (zKE x1 y1).bind fun r1 =>
 if r1 then
 some (.inr s1)
 else
 some (.inl (zR (s1 + 1)))
 else
 some (.inr (-1))
def zAj (y0 : List (List Int)) (y1 : Int) : Option Int :=
 zV (zBc y0 y1) 0
def zAL (y0 : List (List Int)) (y1 : Int) : Option Bool :=
 (zAj y0 y1).bind fun r1 =>
 some (decide (0 ≤ r1))
def zEy (y0 : List (List Int)) (y1 : Int) : Option Bool :=
 (zAL y0 y1).bind fun r1 =>
 some (!r1)
def zDo (x1 : List Int) (y0 : List (List Int)) (s1 : (List Int) × Int) : Option (((List Int) × Int) ⊕ (List Int)) :=
 if decide (s1.2 < (len x1)) then
 (zEy y0 s1.2).bind fun r1 =>
 if r1 then
 (wE s1.1 ([s1.2] : List Int)).bind fun x2 =>
 some (.inl (x2, zR (s1.2 + 1)))
 else
 some (.inl (s1.1, zR (s1.2 + 1)))
 else
 some (.inr s1.1)
def zFY (y0 : List (List Int)) : Option (List Int) :=
 if (len y0) == 0 then
 some ([] : List Int)
 else
 (zI y0 0).bind fun x1 =>
 zV (zDo x1 y0) (([] : List Int), 0)
def zAt (y0 : List qW) : Option (List qW) := zWH zC0 y0
def zGp (r1 : wH) (s2 : Int × (List qW)) : Option ((Int × (List qW)) ⊕ (List qW)) :=
 if decide (s2.1 < (len r1.2)) then
 (zI r1.2 s2.1).bind fun x1 =>
 (wE s2.2 ([(x1.2, x1.1)] : List qW)).bind fun x2 =>
 some (.inl (zR (s2.1 + 1), x2))
 else
 some (.inr s2.2)
def zEq (y0 : wH) : Option wH :=
 (zEN y0).bind fun r1 =>
 (zV (zGp r1) (0, ([] : List qW)) : Option (List qW)).bind fun s1 =>
 (zAt s1).bind fun r2 =>
 some (r1.1, r2)
def zDU (y0 : wH) (y1 : Int) : Option (List Int) :=
 (zEq y0).bind fun r1 =>
 (zC5 r1 y1).bind fun r2 =>
 some r2
def zAk (y0 : uE) (s1 : (List Int) × Int) : Option (((List Int) × Int) ⊕ ((List Int) × Int)) :=
 if decide (s1.2 < y0.1) then
 (yG (decide (0 ≤ s1.2) && decide (s1.2 < 40))).bind fun _ =>
 if (yT y0.2.2.1 s1.2) == 2 then
 (wE s1.1 ([1] : List Int)).bind fun x1 =>
 some (.inl (x1, zR (s1.2 + 1)))
 else
 if (yT y0.2.2.1 s1.2) == 4 then
 (wE s1.1 ([2] : List Int)).bind fun x2 =>
 some (.inl (x2, zR (s1.2 + 1)))
 else
 if (yT y0.2.2.1 s1.2) == 8 then
 (wE s1.1 ([3] : List Int)).bind fun x3 =>
 some (.inl (x3, zR (s1.2 + 1)))
 else
 some (.inr (([] : List Int), s1.2))
 else
 some (.inr (s1.1, (-1)))
def zB1 (y0 : uE) : Option ((List Int) × Int) :=
 zV (zAk y0) (([] : List Int), 0)
def zNS (y1 : List Int) (y0 : uE) (y2 : Int) (s1 : (List Int) × Int) : Option (((List Int) × Int) ⊕ (List Int)) :=
 if decide (s1.2 < (len y1)) then
 (zI y1 s1.2).bind fun x1 =>
 (yG (decide (0 ≤ x1) && decide (x1 < 40))).bind fun _ =>
 if (yE .i64 (yT y0.2.2.1 x1) y2) != 0 then
 (wE s1.1 ([x1] : List Int)).bind fun x2 =>
 some (.inl (x2, zR (s1.2 + 1)))
 else
 some (.inl (s1.1, zR (s1.2 + 1)))
 else
 some (.inr s1.1)
def zCl (y0 : uE) (y1 : List Int) (y2 : Int) : Option (List Int) :=
 zV (zNS y1 y0 y2) (([] : List Int), 0)
def zCB (x1 : List Int) (s2 : Int × (List Int)) : Option ((Int × (List Int)) ⊕ (Int × (List Int))) :=
 if decide (s2.1 < (len x1)) then
 (zI x1 s2.1).bind fun x2 =>
 (yG (decide (0 ≤ x2) && decide (x2 < 40))).bind fun _ =>
 (yG (decide (0 ≤ x2) && decide (x2 < 40))).bind fun _ =>
 some (.inl (zR (s2.1 + 1), xS 40 s2.2 x2 (yE .i64 (yT s2.2 x2) 4)))
 else
 some (.inr (0, s2.2))
def zCA (x1 : List Int) (s4 : Int × (List Int)) : Option ((Int × (List Int)) ⊕ (List Int)) :=
 if decide (s4.1 < (len x1)) then
 (zI x1 s4.1).bind fun x3 =>
 (yG (decide (0 ≤ x3) && decide (x3 < 40))).bind fun _ =>
 (yG (decide (0 ≤ x3) && decide (x3 < 40))).bind fun _ =>
 some (.inl (zR (s4.1 + 1), xS 40 s4.2 x3 (yE .i64 (yT s4.2 x3) 12)))
 else
 some (.inr s4.2)
def zBx (y0 : uE) (y1 : Int) : Option ((List Int) × (List (List Int))) :=
 (zI y0.2.1 y1).bind fun x1 =>
 (
 (yG (decide (0 ≤ y1) && decide (y1 < 40))).bind fun _ =>
 if (yT y0.2.2.1 y1) == 2 then
 zV (zCB x1) (0, y0.2.2.1)
 else
 if (yT y0.2.2.1 y1) == 4 then
 some (2, y0.2.2.1)
 else
 if (yT y0.2.2.1 y1) == 8 then
 (zV (zCA x1) (0, y0.2.2.1) : Option (List Int)).bind fun s3 =>
 some (8, s3)
 else
 some (0, y0.2.2.1) : Option (Int × (List Int))).bind fun s1 =>
 (zCl (y0.1, y0.2.1, s1.2, y0.2.2.2.1, y0.2.2.2.2) x1 s1.1).bind fun r1 =>
 if (len r1) == 1 then
 (zI r1 0).bind fun x4 =>
 (yG (decide (0 ≤ x4) && decide (x4 < 40))).bind fun _ =>
 (yG (decide (0 ≤ x4) && decide (x4 < 40))).bind fun _ =>
 some (xS 40 s1.2 x4 (yE .i64 (yT s1.2 x4) s1.1), y0.2.2.2.1)
 else
 some (s1.2, y0.2.2.2.1)
def zD8 (y1 : List Int) (y0 : uE) (y2 : Int) (s1 : (List Int) × Int) : Option (((List Int) × Int) ⊕ (List Int)) :=
 if decide (s1.2 < (len y1)) then
 (zI y1 s1.2).bind fun x1 =>
 (yG (decide (0 ≤ x1) && decide (x1 < 40))).bind fun _ =>
 if (yE .i64 (yT y0.2.2.1 x1) y2) != 0 then
 (wE s1.1 ([x1] : List Int)).bind fun x2 =>
 some (.inl (x2, zR (s1.2 + 1)))
 else
 some (.inl (s1.1, zR (s1.2 + 1)))
 else
 some (.inr s1.1)
def zBO (y0 : uE) (y1 : List Int) (y2 : Int) : Option (List Int) :=
 zV (zD8 y1 y0 y2) (([] : List Int), 0)
def zBh (y0 : uE) (y1 : Int) : Option Int :=
 (zI y0.2.1 y1).bind fun x1 =>
 (
 (zBO y0 x1 4).bind fun r1 =>
 if decide ((len r1) < (len x1)) then
 some (zMf .i64 14 2)
 else
 some 14 : Option Int).bind fun s1 =>
 (
 (zBO y0 x1 2).bind fun r2 =>
 if (len r2) == 0 then
 some (zMf .i64 s1 4)
 else
 some s1 : Option Int).bind fun s2 =>
 (
 (zBO y0 x1 12).bind fun r3 =>
 if decide ((len r3) < (len x1)) then
 some true
 else
 (zBO y0 x1 8).bind fun r4 =>
 some ((len r4) == 0) : Option Bool).bind fun s3 =>
 if s3 then
 some (zMf .i64 s2 8)
 else
 some s2
def zKX (y0 : List Int) (y1 : Int) (s1 : Int) : Option (Int ⊕ Int) :=
 if decide (s1 < (len y0)) then
 (zI y0 s1).bind fun x1 =>
 if y1 == x1 then
 some (.inr s1)
 else
 some (.inl (zR (s1 + 1)))
 else
 some (.inr (-1))
def zDx (y0 : List Int) (y1 : Int) : Option Int :=
 zV (zKX y0 y1) 0
def zBA (y0 : List Int) (y1 : Int) : Option Bool :=
 (zDx y0 y1).bind fun r1 =>
 some (decide (0 ≤ r1))
def zAN (y0 : uE) (s3 : Int × (List Int) × (List (List Int))) : Option ((Int × (List Int) × (List (List Int))) ⊕ (((List Int) × (List (List Int))) ⊕ (((List Int) × (List (List Int))) ⊕ (Bool × (List Int) × (List (List Int)))))) :=
 if decide (s3.1 < y0.1) then
 (yG (decide (0 ≤ s3.1) && decide (s3.1 < 40))).bind fun _ =>
 (zBh (y0.1, y0.2.1, s3.2.1, s3.2.2, y0.2.2.2.2) s3.1).bind fun r1 =>
 (yG (decide (0 ≤ s3.1) && decide (s3.1 < 40))).bind fun _ =>
 (yG (decide (0 ≤ s3.1) && decide (s3.1 < 40))).bind fun _ =>
 if (yT (xS 40 s3.2.1 s3.1 (yE .i64 (yT s3.2.1 s3.1) r1)) s3.1) == 0 then
 some (.inr (.inr (.inr (false, xS 40 s3.2.1 s3.1 (yE .i64 (yT s3.2.1 s3.1) r1), s3.2.2))))
 else
 (zBx (y0.1, y0.2.1, xS 40 s3.2.1 s3.1 (yE .i64 (yT s3.2.1 s3.1) r1), s3.2.2, y0.2.2.2.2) s3.1).bind fun r2 =>
 some (.inl (zR (s3.1 + 1), r2.1, r2.2))
 else
 some (.inr (.inl (s3.2.1, s3.2.2)))
def zBp (y0 : uE) (s1 : (List Int) × (List (List Int))) : Option (((List Int) × (List (List Int))) ⊕ (Bool × (List Int) × (List (List Int)))) :=
 yZ (zV (zAN y0) (0, s1.1, s1.2) : Option (((List Int) × (List (List Int))) ⊕ (((List Int) × (List (List Int))) ⊕ (Bool × (List Int) × (List (List Int)))))) fun s2 =>
 (z3Y 40 s2.1 y0.1).bind fun x1 =>
 (zBA x1 0).bind fun r3 =>
 if r3 then
 some (.inr (false, s2.1, s2.2))
 else
 if aeq 40 s2.1 s1.1 then
 some (.inr (true, s2.1, s2.2))
 else
 some (.inl (s2.1, s2.2))
def zBZ (y0 : uE) : Option (Bool × (List Int) × (List (List Int))) :=
 zV (zBp y0) (y0.2.2.1, y0.2.2.2.1)
def zBL (r2 : (List Int) × Int) (s1 : Bool × (List Int) × (List (List Int))) (rec_search_finder_find : uE → Option ((List Int) × (List (List Int)) × Bool)) (y0 : uE) (s2 : Int × (List (List Int)) × Bool) : Option ((Int × (List (List Int)) × Bool) ⊕ ((List Int) × (List (List Int)) × Bool)) :=
 if decide (s2.1 < (len ([2, 4, 8] : List Int))) then
 (zI ([2, 4, 8] : List Int) s2.1).bind fun x2 =>
 (yG (decide (0 ≤ r2.2) && decide (r2.2 < 40))).bind fun _ =>
 if (yE .i64 (yT s1.2.1 r2.2) x2) != 0 then
 (yG (decide (0 ≤ r2.2) && decide (r2.2 < 40))).bind fun _ =>
 (rec_search_finder_find (y0.1, y0.2.1, xS 40 s1.2.1 r2.2 x2, s2.2.1, s2.2.2)).bind fun r3 =>
 some (.inl (zR (s2.1 + 1), r3.2.1, r3.2.2))
 else
 some (.inl (zR (s2.1 + 1), s2.2.1, s2.2.2))
 else
 some (.inr (s1.2.1, s2.2.1, s2.2.2))
def zAu (rec_search_finder_find : uE → Option ((List Int) × (List (List Int)) × Bool)) (y0 : uE) : Option ((List Int) × (List (List Int)) × Bool) :=
 (
 if y0.2.2.2.2 then
 some (true, y0.2.2.1, y0.2.2.2.1)
 else
 (zBZ y0).bind fun r1 =>
 some (!r1.1, r1.2.1, r1.2.2) : Option (Bool × (List Int) × (List (List Int)))).bind fun s1 =>
 if s1.1 then
 some (s1.2.1, s1.2.2, y0.2.2.2.2)
 else
 (zB1 (y0.1, y0.2.1, s1.2.1, s1.2.2, y0.2.2.2.2)).bind fun r2 =>
 if decide (r2.2 < 0) then
 (wE s1.2.2 ([r2.1] : List (List Int))).bind fun x1 =>
 some (s1.2.1, x1, (len s1.2.2) == 200)
 else
 zV (zBL r2 s1 rec_search_finder_find y0) (0, s1.2.2, y0.2.2.2.2)
def zBV : Nat → uE → Option ((List Int) × (List (List Int)) × Bool)
 | 0 => fun _ => none
 | k + 1 => fun y0 => zAu (zBV k) y0
def zDK (y0 : uE) : Option ((List Int) × (List (List Int)) × Bool) := zYF fun k => zBV k y0
def zBd (y0 : wH) (s2 : Int × (List (List Int)) × (List Int)) : Option ((Int × (List (List Int)) × (List Int)) ⊕ ((List (List Int)) × (List Int))) :=
 if decide (s2.1 < y0.1) then
 (zDU y0 s2.1).bind fun r2 =>
 (wE s2.2.1 ([r2] : List (List Int))).bind fun x1 =>
 (yG (decide (0 ≤ s2.1) && decide (s2.1 < 40))).bind fun _ =>
 some (.inl (zR (s2.1 + 1), x1, xS 40 s2.2.2 s2.1 14))
 else
 some (.inr (s2.2.1, s2.2.2))
def zAd (y0 : wH) : Option ((List (List Int)) × Int) :=
 (zBW y0).bind fun r1 =>
 if r1 != 0 then
 some (([] : List (List Int)), r1)
 else
 (zV (zBd y0) (0, ([] : List (List Int)), (List.replicate 40 (0 : Int))) : Option ((List (List Int)) × (List Int))).bind fun s1 =>
 (zDK (y0.1, s1.1, s1.2, ([] : List (List Int)), false)).bind fun r3 =>
 if r3.2.2 then
 some (([] : List (List Int)), 2)
 else
 some (r3.2.1, 0)
def zCq (y1 : List Int) (y0 : List Int) (s1 : (List Int) × Int) : Option (((List Int) × Int) ⊕ (List Int)) :=
 if decide (s1.2 < (len y1)) then
 (zI y1 s1.2).bind fun x1 =>
 (zBC y0 x1).bind fun r1 =>
 (wE s1.1 r1).bind fun x2 =>
 some (.inl (x2, zR (s1.2 + 1)))
 else
 some (.inr s1.1)
def zB3 (y0 : List Int) (y1 : List Int) : Option (List Int) :=
 zV (zCq y1 y0) (([] : List Int), 0)
def zDL (y0 : Int) (y1 : List Int) : Option Bool :=
 (zBA y1 y0).bind fun r1 =>
 some (!r1)
def zAU (y0 : List Int) (y1 : List Int) (s1 : Int) : Option (Int ⊕ Int) :=
 if decide (s1 < (len y0)) then
 (zI y0 s1).bind fun x1 =>
 (zDL x1 y1).bind fun r1 =>
 if r1 then
 some (.inr s1)
 else
 some (.inl (zR (s1 + 1)))
 else
 some (.inr (-1))
def zA5 (y0 : List Int) (y1 : List Int) : Option Int :=
 zV (zAU y0 y1) 0
def zAC (y0 : List Int) (y1 : List Int) : Option Bool :=
 (zA5 y0 y1).bind fun r1 =>
 some (decide (0 ≤ r1))
def zCX (y0 : List Int) (y1 : List Int) : Option Bool :=
 (
 if decide ((len y0) < (len y1)) then
 (zAC y0 y1).bind fun r1 =>
 some (!r1)
 else
 some false : Option Bool).bind fun s1 =>
 some s1
def zBy (y0 : List Int) (y1 : List Int) : Option Bool :=
 (zB3 y1 ([1] : List Int)).bind fun r1 =>
 (zB3 y0 ([1] : List Int)).bind fun r2 =>
 (zCX r1 r2).bind fun r3 =>
 some r3
def zAa (y0 : List Int) (y2 : List Int) : Option Bool :=
 (zBy y0 y2).bind fun r1 =>
 some r1
def zAZ (y0 : List (List Int)) (y2 : List Int) (s1 : Int) : Option (Int ⊕ Int) :=
 if decide (s1 < (len y0)) then
 (zI y0 s1).bind fun x1 =>
 (zAa x1 y2).bind fun r1 =>
 if r1 then
 some (.inr s1)
 else
 some (.inl (zR (s1 + 1)))
 else
 some (.inr (-1))
def zAg (y0 : List (List Int)) (y2 : List Int) : Option Int :=
 zV (zAZ y0 y2) 0
def zAI (y0 : List (List Int)) (y2 : List Int) : Option Bool :=
 (zAg y0 y2).bind fun r1 =>
 some (decide (0 ≤ r1))
def zAB (r1 : (List (List Int)) × Int) (s1 : (List (List Int)) × Int) : Option (((List (List Int)) × Int) ⊕ ((List (List Int)) × Int)) :=
 if decide (s1.2 < (len r1.1)) then
 (zI r1.1 s1.2).bind fun x1 =>
 (zAI r1.1 x1).bind fun r2 =>
 if !r2 then
 (wE s1.1 ([x1] : List (List Int))).bind fun x2 =>
 some (.inl (x2, zR (s1.2 + 1)))
 else
 some (.inl (s1.1, zR (s1.2 + 1)))
 else
 some (.inr (s1.1, 0))
def zAm (y0 : wH) : Option ((List (List Int)) × Int) :=
 (zAd y0).bind fun r1 =>
 if r1.2 != 0 then
 some (([] : List (List Int)), r1.2)
 else
 zV (zAB r1) (([] : List (List Int)), 0)
def zBN (y0 : wH) : Option ((List (List Int)) × Int) :=
 (zAm y0).bind fun r1 =>
 some (r1.1, r1.2)
def zCH (y0 : wH) (y1 : List Int) (s2 : (List Int) × Int) : Option (((List Int) × Int) ⊕ (List Int)) :=
 if decide (s2.2 < (len y0.2)) then
 (zI y0.2 s2.2).bind fun x1 =>
 (zBA y1 x1.1).bind fun r2 =>
 if r2 then
 (zI s2.1 x1.2).bind fun _ =>
 some (.inl (List.set s2.1 (Int.toNat x1.2) 2, zR (s2.2 + 1)))
 else
 some (.inl (s2.1, zR (s2.2 + 1)))
 else
 some (.inr s2.1)
def zDb (y1 : List Int) (y0 : wH) (s3 : (List Int) × Int) : Option (((List Int) × Int) ⊕ (List Int)) :=
 if decide (s3.2 < (len y1)) then
 (zI y1 s3.2).bind fun x3 =>
 if (decide (0 ≤ x3)) && (decide (x3 < y0.1)) then
 (zI s3.1 x3).bind fun _ =>
 some (.inl (List.set s3.1 (Int.toNat x3) 1, zR (s3.2 + 1)))
 else
 some (.inl (s3.1, zR (s3.2 + 1)))
 else
 some (.inr s3.1)
def zBq (y0 : wH) (y1 : List Int) : Option (List Int) :=
 (zCS ([3] : List Int) y0.1).bind fun r1 =>
 (zV (zCH y0 y1) (r1, 0) : Option (List Int)).bind fun s1 =>
 zV (zDb y1 y0) (s1, 0)
def zAy (y0 : wH) : Option ((List Int) × Int) :=
 (zBN y0).bind fun r1 =>
 if r1.2 != 0 then
 some (([] : List Int), r1.2)
 else
 (zFY r1.1).bind fun r2 =>
 (zBj y0 r2).bind fun r3 =>
 if r3.2 != 0 then
 some (([] : List Int), r3.2)
 else
 (zBq y0 r3.1).bind fun r4 =>
 some (r4, 0)
def zHK (y0 : wH) : Option ((List Int) × Int) :=
 (zAy y0).bind fun r1 =>
 some (r1.1, r1.2)
def zBK (y0 : wH) : Option ((List (List Int)) × Int) :=
 (zHK y0).bind fun r1 =>
 if r1.2 != 0 then
 some (([] : List (List Int)), r1.2)
 else
 some (([r1.1] : List (List Int)), 0)
def zA1 (r1 : (List (List Int)) × Int) (s1 : (List (List Int)) × Int) : Option (((List (List Int)) × Int) ⊕ ((List (List Int)) × Int)) :=
 if decide (s1.2 < (len r1.1)) then
 (zI r1.1 s1.2).bind fun x1 =>
 (zBC x1 1).bind fun r2 =>
 (wE s1.1 ([r2] : List (List Int))).bind fun x2 =>
 some (.inl (x2, zR (s1.2 + 1)))
 else
 some (.inr (s1.1, 0))
def zAW (y0 : wH) : Option ((List (List Int)) × Int) :=
 (zBK y0).bind fun r1 =>
 if r1.2 != 0 then
 some (([] : List (List Int)), r1.2)
 else
 zV (zA1 r1) (([] : List (List Int)), 0)
def zBf (y0 : List Int) (y1 : List Int) : Option Bool :=
 (zB3 y0 ([3] : List Int)).bind fun r1 =>
 (zB3 y1 ([3] : List Int)).bind fun r2 =>
 (zCX r1 r2).bind fun r3 =>
 some r3
def zA6 (y0 : List Int) (y2 : List Int) : Option Bool :=
 (zBf y0 y2).bind fun r1 =>
 some r1
def zAV (y0 : List (List Int)) (y2 : List Int) (s1 : Int) : Option (Int ⊕ Int) :=
 if decide (s1 < (len y0)) then
 (zI y0 s1).bind fun x1 =>
 (zA6 x1 y2).bind fun r1 =>
 if r1 then
 some (.inr s1)
 else
 some (.inl (zR (s1 + 1)))
 else
 some (.inr (-1))
def zA3 (y0 : List (List Int)) (y2 : List Int) : Option Int :=
 zV (zAV y0 y2) 0
def zAD (y0 : List (List Int)) (y2 : List Int) : Option Bool :=
 (zA3 y0 y2).bind fun r1 =>
 some (decide (0 ≤ r1))
def zAA (r1 : (List (List Int)) × Int) (s1 : (List (List Int)) × Int) : Option (((List (List Int)) × Int) ⊕ ((List (List Int)) × Int)) :=
 if decide (s1.2 < (len r1.1)) then
 (zI r1.1 s1.2).bind fun x1 =>
 (zAD r1.1 x1).bind fun r2 =>
 if !r2 then
 (wE s1.1 ([x1] : List (List Int))).bind fun x2 =>
 some (.inl (x2, zR (s1.2 + 1)))
 else
 some (.inl (s1.1, zR (s1.2 + 1)))
 else
 some (.inr (s1.1, 0))
def zAh (y0 : wH) : Option ((List (List Int)) × Int) :=
 (zAd y0).bind fun r1 =>
 if r1.2 != 0 then
 some (([] : List (List Int)), r1.2)
 else
 zV (zAA r1) (([] : List (List Int)), 0)
def zBF (y0 : wH) : Option ((List (List Int)) × Int) :=
 (zAh y0).bind fun r1 =>
 some (r1.1, r1.2)
def zAs (y0 : wH) : Option ((List Int) × Int) :=
 (zBF y0).bind fun r1 =>
 if r1.2 != 0 then
 some (([] : List Int), r1.2)
 else
 (zFY r1.1).bind fun r2 =>
 (zBj y0 r2).bind fun r3 =>
 if r3.2 != 0 then
 some (([] : List Int), r3.2)
 else
 (zBq y0 r3.1).bind fun r4 =>
 some (r4, 0)
def zHM (y0 : wH) : Option ((List Int) × Int) :=
 (zAs y0).bind fun r1 =>
 some (r1.1, r1.2)
def zBJ (y0 : wH) : Option ((List (List Int)) × Int) :=
 (zHM y0).bind fun r1 =>
 if r1.2 != 0 then
 some (([] : List (List Int)), r1.2)
 else
 some (([r1.1] : List (List Int)), 0)
def zA2 (r1 : (List (List Int)) × Int) (s1 : (List (List Int)) × Int) : Option (((List (List Int)) × Int) ⊕ ((List (List Int)) × Int)) :=
 if decide (s1.2 < (len r1.1)) then
 (zI r1.1 s1.2).bind fun x1 =>
 (zBC x1 1).bind fun r2 =>
 (wE s1.1 ([r2] : List (List Int))).bind fun x2 =>
 some (.inl (x2, zR (s1.2 + 1)))
 else
 some (.inr (s1.1, 0))
def zAX (y0 : wH) : Option ((List (List Int)) × Int) :=
 (zBJ y0).bind fun r1 =>
 if r1.2 != 0 then
 some (([] : List (List Int)), r1.2)
 else
 zV (zA2 r1) (([] : List (List Int)), 0)
def zAS (r1 : (List (List Int)) × Int) (s1 : (List (List Int)) × Int) : Option (((List (List Int)) × Int) ⊕ ((List (List Int)) × Int)) :=
 if decide (s1.2 < (len r1.1)) then
 (zI r1.1 s1.2).bind fun x1 =>
 (zBC x1 1).bind fun r2 =>
 (wE s1.1 ([r2] : List (List Int))).bind fun x2 =>
 some (.inl (x2, zR (s1.2 + 1)))
 else
 some (.inr (s1.1, 0))
def zAO (y0 : wH) : Option ((List (List Int)) × Int) :=
 (zBN y0).bind fun r1 =>
 if r1.2 != 0 then
 some (([] : List (List Int)), r1.2)
 else
 zV (zAS r1) (([] : List (List Int)), 0)
def zAQ (r1 : (List (List Int)) × Int) (s1 : (List (List Int)) × Int) : Option (((List (List Int)) × Int) ⊕ ((List (List Int)) × Int)) :=
 if decide (s1.2 < (len r1.1)) then
 (zI r1.1 s1.2).bind fun x1 =>
 (zBC x1 1).bind fun r2 =>
 (wE s1.1 ([r2] : List (List Int))).bind fun x2 =>
 some (.inl (x2, zR (s1.2 + 1)))
 else
 some (.inr (s1.1, 0))
def zAM (y0 : wH) : Option ((List (List Int)) × Int) :=
 (zBF y0).bind fun r1 =>
 if r1.2 != 0 then
 some (([] : List (List Int)), r1.2)
 else
 zV (zAQ r1) (([] : List (List Int)), 0)
def zC3 (y0 : List Int) (y1 : List Int) : Option Bool :=
 (zB3 y1 ([3] : List Int)).bind fun r1 =>
 some (decide (0 < (len r1)))
def zAq (y0 : List Int) (y2 : List Int) : Option Bool :=
 (zC3 y0 y2).bind fun r1 =>
 some r1
def zAT (y0 : List (List Int)) (y2 : List Int) (s1 : Int) : Option (Int ⊕ Int) :=
 if decide (s1 < (len y0)) then
 (zI y0 s1).bind fun x1 =>
 (zAq x1 y2).bind fun r1 =>
 if r1 then
 some (.inr s1)
 else
 some (.inl (zR (s1 + 1)))
 else
 some (.inr (-1))
def zA7 (y0 : List (List Int)) (y2 : List Int) : Option Int :=
 zV (zAT y0 y2) 0
def zAE (y0 : List (List Int)) (y2 : List Int) : Option Bool :=
 (zA7 y0 y2).bind fun r1 =>
 some (decide (0 ≤ r1))
def zAF (r1 : (List (List Int)) × Int) (s1 : (List (List Int)) × Int) : Option (((List (List Int)) × Int) ⊕ ((List (List Int)) × Int)) :=
 if decide (s1.2 < (len r1.1)) then
 (zI r1.1 s1.2).bind fun x1 =>
 (zAE r1.1 x1).bind fun r2 =>
 if !r2 then
 (wE s1.1 ([x1] : List (List Int))).bind fun x2 =>
 some (.inl (x2, zR (s1.2 + 1)))
 else
 some (.inl (s1.1, zR (s1.2 + 1)))
 else
 some (.inr (s1.1, 0))
def zAz (y0 : wH) : Option ((List (List Int)) × Int) :=
 (zAd y0).bind fun r1 =>
 if r1.2 != 0 then
 some (([] : List (List Int)), r1.2)
 else
 zV (zAF r1) (([] : List (List Int)), 0)
def zCY (y0 : wH) : Option ((List (List Int)) × Int) :=
 (zAz y0).bind fun r1 =>
 some (r1.1, r1.2)
def zA9 (r1 : (List (List Int)) × Int) (s1 : (List (List Int)) × Int) : Option (((List (List Int)) × Int) ⊕ ((List (List Int)) × Int)) :=
 if decide (s1.2 < (len r1.1)) then
 (zI r1.1 s1.2).bind fun x1 =>
 (zBC x1 1).bind fun r2 =>
 (wE s1.1 ([r2] : List (List Int))).bind fun x2 =>
 some (.inl (x2, zR (s1.2 + 1)))
 else
 some (.inr (s1.1, 0))
def zAY (y0 : wH) : Option ((List (List Int)) × Int) :=
 (zCY y0).bind fun r1 =>
 if r1.2 != 0 then
 some (([] : List (List Int)), r1.2)
 else
 zV (zA9 r1) (([] : List (List Int)), 0)
def zAe (r1 : (List (List Int)) × Int) (s1 : (List (List Int)) × Int) : Option (((List (List Int)) × Int) ⊕ ((List (List Int)) × Int)) :=
 if decide (s1.2 < (len r1.1)) then
 (zI r1.1 s1.2).bind fun x1 =>
 (zBC x1 1).bind fun r2 =>
 (wE s1.1 ([r2] : List (List Int))).bind fun x2 =>
 some (.inl (x2, zR (s1.2 + 1)))
 else
 some (.inr (s1.1, 0))
def zA8 (y0 : wH) : Option ((List (List Int)) × Int) :=
 (zAd y0).bind fun r1 =>
 if r1.2 != 0 then
 some (([] : List (List Int)), r1.2)
 else
 zV (zAe r1) (([] : List (List Int)), 0)
def zA0 (y0 : wH) (y1 : Int) : Option ((List (List Int)) × Int) :=
 (zBW y0).bind fun r1 =>
 if r1 != 0 then
 some (([] : List (List Int)), r1)
 else
 zKa.bind fun _ =>
 if (decide (y1 < 1)) || (decide (((10 : Nat) : Int) ≤ y1)) then
 some (([] : List (List Int)), 4)
 else
 (
 if y1 == 1 then
 (zAw y0).bind fun r3 =>
 some (r3.1, r3.2)
 else
 if y1 == 2 then
 (zA8 y0).bind fun r4 =>
 some (r4.1, r4.2)
 else
 if y1 == 3 then
 (zAO y0).bind fun r5 =>
 some (r5.1, r5.2)
 else
 if y1 == 4 then
 (zAY y0).bind fun r6 =>
 some (r6.1, r6.2)
 else
 if y1 == 5 then
 (zAM y0).bind fun r7 =>
 some (r7.1, r7.2)
 else
 if y1 == 6 then
 (zAW y0).bind fun r8 =>
 some (r8.1, r8.2)
 else
 if y1 == 7 then
 (zAX y0).bind fun r9 =>
 some (r9.1, r9.2)
 else
 if y1 == 8 then
 none
 else
 if y1 == 9 then
 none
 else
 none : Option ((List (List Int)) × Int)).bind fun s1 =>
 some (s1.1, s1.2)
def zBv (r1 : (List (List Int)) × Int) (y0 : tZ) (s1 : (List (List zO)) × Int) : Option (((List (List zO)) × Int) ⊕ ((List (List zO)) × Int)) :=
 if decide (s1.2 < (len r1.1)) then
 (zI r1.1 s1.2).bind fun x1 =>
 (zBe y0.2.1 x1).bind fun r2 =>
 (wE s1.1 ([r2] : List (List zO))).bind fun x2 =>
 some (.inl (x2, zR (s1.2 + 1)))
 else
 some (.inr (s1.1, 0))
def zBT (y0 : tZ) (y1 : Int) : Option ((List (List zO)) × Int) :=
 (zA0 y0.2.2.2 y1).bind fun r1 =>
 if r1.2 != 0 then
 some (([] : List (List zO)), r1.2)
 else
 zV (zBv r1 y0) (([] : List (List zO)), 0)
def zDO (y0 : Int) : Option (List zO) :=
 (
 if decide (y0 < 0) then
 none
 else
 some () : Option Unit).bind fun _ =>
 if decide (0 < (zR (y0 - (zR (((0 : Nat) : Int) - (len ([] : List zO))))))) then
 (mkS (zR (y0 - (zR (((0 : Nat) : Int) - (len ([] : List zO)))))) (zR (y0 - (zR (((0 : Nat) : Int) - (len ([] : List zO)))))) ((false, []) : zO)).bind fun x1 =>
 (sub x1 0 (len ([] : List zO))).bind fun x2 =>
 some x2
 else
 some ([] : List zO)
def zCC (y0 : List (List zO)) (s2 : Int × Int) : Option ((Int × Int) ⊕ Int) :=
 if decide (s2.2 < (len y0)) then
 (zI y0 s2.2).bind fun x1 =>
 if decide ((zR (s2.1 + (len x1))) < 0) then
 none
 else
 some (.inl (zR (s2.1 + (len x1)), zR (s2.2 + 1)))
 else
 some (.inr s2.1)
def zCb (y0 : List (List zO)) (s3 : (List zO) × Int) : Option (((List zO) × Int) ⊕ (List zO)) :=
 if decide (s3.2 < (len y0)) then
 (zI y0 s3.2).bind fun x2 =>
 (wE s3.1 x2).bind fun x3 =>
 some (.inl (x3, zR (s3.2 + 1)))
 else
 some (.inr s3.1)
def zBu (y0 : List (List zO)) : Option (List zO) :=
 (zV (zCC y0) (0, 0) : Option Int).bind fun s1 =>
 (zDO s1).bind fun r1 =>
 zV (zCb y0) (r1, 0)
def zM8 (y0 : List zO) (y1 : zO) (s1 : Int) : Option (Int ⊕ Int) :=
 if decide (s1 < (len y0)) then
 (zI y0 s1).bind fun x1 =>
 if y1 == x1 then
 some (.inr s1)
 else
 some (.inl (zR (s1 + 1)))
 else
 some (.inr (-1))
def zCI (y0 : List zO) (y1 : zO) : Option Int :=
 zV (zM8 y0 y1) 0
def zCJ (y0 : List zO) (y1 : zO) : Option Bool :=
 (zCI y0 y1).bind fun r1 =>
 some (decide (0 ≤ r1))
def zDz (y0 : List zO) (y1 : zO) : Option Bool :=
 (zCJ y0 y1).bind fun r1 =>
 some r1
def zCU (y0 : List zO) (y1 : zO) : Option Bool :=
 (zDz y0 y1).bind fun r1 =>
 some (!r1)
def zBG (y0 : List (List zO)) (y1 : zO) (s1 : Int) : Option (Int ⊕ Int) :=
 if decide (s1 < (len y0)) then
 (zI y0 s1).bind fun x1 =>
 (zCU x1 y1).bind fun r1 =>
 if r1 then
 some (.inr s1)
 else
 some (.inl (zR (s1 + 1)))
 else
 some (.inr (-1))
def zAi (y0 : List (List zO)) (y1 : zO) : Option Int :=
 zV (zBG y0 y1) 0
def zAH (y0 : List (List zO)) (y1 : zO) : Option Bool :=
 (zAi y0 y1).bind fun r1 =>
 some (decide (0 ≤ r1))
def zBo (y0 : zO) (y1 : Bool) (y2 : List (List zO)) : Option Bool :=
 (
 if y1 then
 (zAH y2 y0).bind fun r1 =>
 some r1
 else
 some false : Option Bool).bind fun s1 =>
 some s1
def zBM (y0 : List zO) (y1 : Bool) (y2 : List (List zO)) (s1 : Int) : Option (Int ⊕ Int) :=
 if decide (s1 < (len y0)) then
 (zI y0 s1).bind fun x1 =>
 (zBo x1 y1 y2).bind fun r1 =>
 if r1 then
 some (.inr s1)
 else
 some (.inl (zR (s1 + 1)))
 else
 some (.inr (-1))
def zAo (y0 : List zO) (y1 : Bool) (y2 : List (List zO)) : Option Int :=
 zV (zBM y0 y1 y2) 0
def zBI (y0 : List zO) (y1 : Bool) (y2 : List (List zO)) (s2 : (List zO) × Int × Int) : Option (((List zO) × Int × Int) ⊕ ((List zO) × Int)) :=
 if decide (s2.2.2 < (len y0)) then
 (zI s2.1 s2.2.2).bind fun x1 =>
 (zBo x1 y1 y2).bind fun r2 =>
 if !r2 then
 (zI s2.1 s2.2.1).bind fun _ =>
 some (.inl (List.set s2.1 (Int.toNat s2.2.1) x1, zR (s2.2.1 + 1), zR (s2.2.2 + 1)))
 else
 some (.inl (s2.1, s2.2.1, zR (s2.2.2 + 1)))
 else
 some (.inr (s2.1, s2.2.1))
def zAR (y0 : List zO) (y1 : Bool) (y2 : List (List zO)) : Option (List zO) :=
 (zAo y0 y1 y2).bind fun r1 =>
 if r1 == (-1) then
 some y0
 else
 (zV (zBI y0 y1 y2) (y0, r1, zR (r1 + 1)) : Option ((List zO) × Int)).bind fun s1 =>
 (yG (decide (0 ≤ s1.2) && decide (s1.2 ≤ len s1.1))).bind fun _ =>
 (sub (zCk s1.1 s1.2 (false, [])) 0 s1.2).bind fun x3 =>
 some x3
def zBB (y0 : tZ) (y1 : Int) (y2 : Bool) : Option ((List zO) × Int) :=
 (zBT y0 y1).bind fun r1 =>
 if r1.2 != 0 then
 some (([] : List zO), r1.2)
 else
 (zBu r1.1).bind fun r2 =>
 (zDE r2).bind fun r3 =>
 (zAR r3 y2 r1.1).bind fun r4 =>
 some (r4, 0)
def zPc (y0 : List Int) : Option uQ :=
 (sub y0 0 (if 2000 < (len y0) then 2000 else len y0)).bind fun x1 =>
 some (x1, 0)
def zC2 (y0 : uT) : Option Bool :=
 some (decide (40 < (zR ((len y0.2.1) + (len y0.2.2.1)))))
def zNa (y0 : List Int) (s1 : Int) (s3 : (List Int) × Int × Int) : Option (((List Int) × Int × Int) ⊕ ((List Int) × Int)) :=
 if decide (s3.2.2 < ((Int.toNat (((List.length y0 : Nat) : Int) - s1) : Nat) : Int)) then
 (tY s3.1 s1 s3.2.2).bind fun x3 =>
 (tY s3.1 s1 (zR (s3.2.2 - 1))).bind fun x4 =>
 if x3 != x4 then
 (tY s3.1 s1 s3.2.2).bind fun x5 =>
 (zI s3.1 s3.2.1).bind fun _ =>
 some (.inl (List.set s3.1 (Int.toNat s3.2.1) x5, zR (s3.2.1 + 1), zR (s3.2.2 + 1)))
 else
 some (.inl (s3.1, s3.2.1, zR (s3.2.2 + 1)))
 else
 some (.inr (s3.1, s3.2.1))
def zFd (y0 : List Int) (s1 : Int) : Option (Int ⊕ (List Int)) :=
 if decide (s1 < (len y0)) then
 (zI y0 s1).bind fun x1 =>
 (zI y0 (zR (s1 - 1))).bind fun x2 =>
 if x1 == x2 then
 (yG (decide (0 ≤ s1) && decide (s1 ≤ len y0))).bind fun _ =>
 (zV (zNa y0 s1) (y0, s1, 1) : Option ((List Int) × Int)).bind fun s2 =>
 (yG (decide (0 ≤ s2.2) && decide (s2.2 ≤ len s2.1))).bind fun _ =>
 (sub (zCk s2.1 s2.2 0) 0 s2.2).bind fun x7 =>
 some (.inr x7)
 else
 some (.inl (zR (s1 + 1)))
 else
 some (.inr y0)
def zBU (y0 : List Int) : Option (List Int) :=
 if decide ((len y0) < 2) then
 some y0
 else
 zV (zFd y0) 1
def zBY (y0 : List Int) : Option (List Int) := z3p y0
def zCt (x1 : zK) (rec_argument_Subs : (List zK) → Int → Option (List Int)) (y0 : List zK) (s2 : (List Int) × Int) : Option (((List Int) × Int) ⊕ (List Int)) :=
 if decide (s2.2 < (len x1.2.2.1)) then
 (zI x1.2.2.1 s2.2).bind fun x2 =>
 (rec_argument_Subs y0 x2).bind fun r2 =>
 (wE s2.1 r2).bind fun x3 =>
 some (.inl (x3, zR (s2.2 + 1)))
 else
 some (.inr s2.1)
def zEw (rec_argument_Subs : (List zK) → Int → Option (List Int)) (y0 : List zK) (y1 : Int) : Option (List Int) :=
 (zB0 y0 y1).bind fun r1 =>
 if !r1 then
 some ([] : List Int)
 else
 (
 (zI y0 y1).bind fun x1 =>
 zV (zCt x1 rec_argument_Subs y0) (([y1] : List Int), 0) : Option (List Int)).bind fun s1 =>
 (zBY s1).bind fun r3 =>
 (zBU r3).bind fun r4 =>
 some r4
def zCp : Nat → (List zK) → Int → Option (List Int)
 | 0 => fun _ _ => none
 | k + 1 => fun y0 y1 => zEw (zCp k) y0 y1
def zD7 (y0 : List zK) (y1 : Int) : Option (List Int) := zYF fun k => zCp k y0 y1
def zMv (r1 : (List Int)) (y1 : List zK) (y0 : zT) (s2 : (List Int) × Int) : Option (((List Int) × Int) ⊕ (List Int)) :=
 if decide (s2.2 < (len r1)) then
 (zI r1 s2.2).bind fun x1 =>
 (zI y1 x1).bind fun x2 =>
 (
 if decide (0 ≤ x2.2.1) then
 (zI y0.2.1 x2.2.1).bind fun x3 =>
 some (!x3.2.1)
 else
 some false : Option Bool).bind fun s3 =>
 if s3 then
 (wE s2.1 ([x2.2.1] : List Int)).bind fun x4 =>
 some (.inl (x4, zR (s2.2 + 1)))
 else
 some (.inl (s2.1, zR (s2.2 + 1)))
 else
 some (.inr s2.1)
def zCo (y0 : zT) (y1 : List zK) (y2 : Int) : Option (List Int) :=
 (
 (zD7 y1 y2).bind fun r1 =>
 zV (zMv r1 y1 y0) (([] : List Int), 0) : Option (List Int)).bind fun s1 =>
 (zBY s1).bind fun r2 =>
 (zBU r2).bind fun r3 =>
 some r3
def zKD (x4 : zK) (rec_argument_run : zT → (List zK) → Int → Option (List zO)) (y0 : zT) (y1 : List zK) (s2 : (List zO) × Int) : Option (((List zO) × Int) ⊕ (List zO)) :=
 if decide (s2.2 < (len x4.2.2.1)) then
 (zI x4.2.2.1 s2.2).bind fun x5 =>
 (rec_argument_run y0 y1 x5).bind fun r1 =>
 (wE s2.1 r1).bind fun x6 =>
 some (.inl (x6, zR (s2.2 + 1)))
 else
 some (.inr s2.1)
def zKN (rec_argument_run : zT → (List zK) → Int → Option (List zO)) (y0 : zT) (y1 : List zK) (y2 : Int) : Option (List zO) :=
 (zI y1 y2).bind fun x1 =>
 (zI y1 y2).bind fun x2 =>
 (
 if decide (0 ≤ x2.2.1) then
 (zI y0.2.1 x2.2.1).bind fun x3 =>
 some x3.2.1
 else
 some false : Option Bool).bind fun s1 =>
 if s1 then
 (zI y1 y2).bind fun x4 =>
 zV (zKD x4 rec_argument_run y0 y1) (([x1.2.2.2] : List zO), 0)
 else
 some ([x1.2.2.2] : List zO)
def zIG : Nat → zT → (List zK) → Int → Option (List zO)
 | 0 => fun _ _ _ => none
 | k + 1 => fun y0 y1 y2 => zKN (zIG k) y0 y1 y2
def zKF (y0 : zT) (y1 : List zK) (y2 : Int) : Option (List zO) := zYF fun k => zIG k y0 y1 y2
def zID (y3 : List Int) (y0 : zT) (y2 : Int) (y1 : List zK) (s1 : Int) : Option (Int ⊕ Bool) :=
 if decide (s1 < (len y3)) then
 (zI y3 s1).bind fun x1 =>
 (zI y0.2.1 y2).bind fun x2 =>
 if x2.2.1 then
 (zI y0.2.1 y2).bind fun x3 =>
 (zKF y0 y1 x1).bind fun r1 =>
 (zDz r1 x3.2.2.2.2).bind fun r2 =>
 if r2 then
 some (.inr false)
 else
 some (.inl (zR (s1 + 1)))
 else
 (zCo y0 y1 x1).bind fun r3 =>
 (zBA r3 y2).bind fun r4 =>
 if r4 then
 some (.inr false)
 else
 some (.inl (zR (s1 + 1)))
 else
 some (.inr true)
def zEe (y0 : zT) (y1 : List zK) (y2 : Int) (y3 : List Int) : Option Bool :=
 zV (zID y3 y0 y2 y1) 0
def zJ9 (y0 : List Int) : Option (List Int) :=
 (wE ([] : List Int) y0).bind fun x1 =>
 some x1
def zHs (y0 : Int) (y2 : uT) : Option Bool :=
 some (decide (y2.2.2.2 ≤ y0))
def zDV (y0 : List Int) (y2 : uT) (s1 : Int) : Option (Int ⊕ Int) :=
 if decide (s1 < (len y0)) then
 (zI y0 s1).bind fun x1 =>
 (zHs x1 y2).bind fun r1 =>
 if r1 then
 some (.inr s1)
 else
 some (.inl (zR (s1 + 1)))
 else
 some (.inr (-1))
def zAb (y0 : List Int) (y2 : uT) : Option Int :=
 zV (zDV y0 y2) 0
def zAG (y0 : List Int) (y2 : uT) : Option Bool :=
 (zAb y0 y2).bind fun r1 =>
 some (decide (0 ≤ r1))
def zDC (y0 : uT) (x1 : wC) (y2 : List Int) (rec_argument_builder_apply_2 : uT → Int → (List Int) → Option (List zK)) (y1 : Int) (s2 : Int × (List zK)) : Option ((Int × (List zK)) ⊕ (Unit ⊕ (List zK))) :=
 if decide (s2.1 < (len y0.2.1)) then
 (zI y0.2.1 s2.1).bind fun x2 =>
 (zI x1.2.2.2.1 (len y2)).bind fun x3 =>
 if x2.2.2.2 == x3 then
 (
 (zJ9 y2).bind fun r2 =>
 (wE r2 ([s2.1] : List Int)).bind fun x4 =>
 (rec_argument_builder_apply_2 (y0.1, y0.2.1, s2.2, y0.2.2.2) y1 x4).bind fun r3 =>
 some r3 : Option (List zK)).bind fun s3 =>
 some (.inl (zR (s2.1 + 1), s3))
 else
 some (.inl (zR (s2.1 + 1), s2.2))
 else
 some (.inr (.inr s2.2))
def zCc (rec_argument_builder_apply_2 : uT → Int → (List Int) → Option (List zK)) (y0 : uT) (y1 : Int) (y2 : List Int) : Option (List zK) :=
 (zI y0.1.2.1 y1).bind fun x1 =>
 (zC2 y0).bind fun r1 =>
 if r1 then
 some y0.2.2.1
 else
 yZ (
 if decide ((len y2) < (len x1.2.2.2.1)) then
 zV (zDC y0 x1 y2 rec_argument_builder_apply_2 y1) (0, y0.2.2.1)
 else
 some (.inl ()) : Option (Unit ⊕ (List zK))) fun _ =>
 (
 (zAG y2 y0).bind fun r6 =>
 if r6 then
 (zEe y0.1 y0.2.1 y1 y2).bind fun r7 =>
 some r7
 else
 some false : Option Bool).bind fun s4 =>
 if s4 then
 (zI y0.1.2.1 y1).bind fun x6 =>
 (wE y0.2.2.1 ([((-1), y1, y2, x6.2.2.2.2)] : List zK)).bind fun x7 =>
 some x7
 else
 some y0.2.2.1
def zCD : Nat → uT → Int → (List Int) → Option (List zK)
 | 0 => fun _ _ _ => none
 | k + 1 => fun y0 y1 y2 => zCc (zCD k) y0 y1 y2
def zC7 (y0 : uT) (y1 : Int) (y2 : List Int) : Option (List zK) := zYF fun k => zCD k y0 y1 y2
def zMk (y0 : wC) (y1 : qI) : Option Bool :=
 some (y0.1 == y1)
def zFZ (y0 : List wC) (y1 : qI) (s1 : Int) : Option (Int ⊕ Int) :=
 if decide (s1 < (len y0)) then
 (zI y0 s1).bind fun x1 =>
 (zMk x1 y1).bind fun r1 =>
 if r1 then
 some (.inr s1)
 else
 some (.inl (zR (s1 + 1)))
 else
 some (.inr (-1))
def zBH (y0 : List wC) (y1 : qI) : Option Int :=
 zV (zFZ y0 y1) 0
def zHG (y0 : zT) (y1 : qI) : Option Int :=
 (zBH y0.2.1 y1).bind fun r1 =>
 some r1
def zKw (y0 : vU) (y1 : zO) : Option Bool :=
 some (y0.1 == y1)
def zDi (y0 : List vU) (y1 : zO) (s1 : Int) : Option (Int ⊕ Int) :=
 if decide (s1 < (len y0)) then
 (zI y0 s1).bind fun x1 =>
 (zKw x1 y1).bind fun r1 =>
 if r1 then
 some (.inr s1)
 else
 some (.inl (zR (s1 + 1)))
 else
 some (.inr (-1))
def zAn (y0 : List vU) (y1 : zO) : Option Int :=
 zV (zDi y0 y1) 0
def zGn (y0 : zT) (y1 : zO) : Option Int :=
 (zAn y0.1 y1).bind fun r1 =>
 some r1
def zOR (y0 : qI) (s1 : Int) : Option (Int ⊕ Bool) :=
 if decide (s1 < (len y0)) then
 (tP y0 s1).bind fun x1 =>
 if (decide (97 ≤ x1)) && (decide (x1 ≤ 122)) then
 some (.inl (zR (s1 + 1)))
 else
 if (decide (0 < s1)) && (if decide (48 ≤ x1) then (decide (x1 ≤ 57)) || (x1 == 95) else x1 == 95) then
 some (.inl (zR (s1 + 1)))
 else
 some (.inr false)
 else
 some (.inr true)
def zCR (y0 : qI) : Option Bool :=
 if ((len y0) == 0) || (decide (12 < (len y0))) then
 some false
 else
 zV (zOR y0) 0
def zCZ (y0 : zO) : Option Bool :=
 (zCR y0.2).bind fun r1 =>
 some r1
def zHj (y0 : Int) : Option Bool :=
 some ((decide (0 ≤ y0)) && (decide (y0 ≤ 9)))
def zGc (y0 : qI) : Option Bool :=
 (
 if y0 == [] then
 some true
 else
 (zCR y0).bind fun r1 =>
 some r1 : Option Bool).bind fun s1 =>
 some s1
def zG8 (y0 : vU) : Option Int :=
 yZ (
 (
 if y0.2.1 == 1 then
 some (y0.2.1 == 1)
 else
 some (y0.2.1 == 3) : Option Bool).bind fun s2 =>
 if s2 then
 if y0.2.2.1 != 0 then
 some (.inr 1)
 else
 some (.inl ())
 else
 if y0.2.1 == 2 then
 (zHj y0.2.2.1).bind fun r1 =>
 if !r1 then
 some (.inr 1)
 else
 some (.inl ())
 else
 some (.inr 4) : Option (Unit ⊕ Int)) fun _ =>
 (
 (zCZ y0.1).bind fun r2 =>
 if !r2 then
 some true
 else
 (zGc y0.2.2.2).bind fun r3 =>
 some (!r3) : Option Bool).bind fun s3 =>
 if s3 then
 some 1
 else
 some 0
def zE5 (y0 : zT) (y1 : vG) : Option Int :=
 (
 (zHj y1.2.1).bind fun r1 =>
 if !r1 then
 some true
 else
 (zCZ y1.2.2).bind fun r2 =>
 some (!r2) : Option Bool).bind fun s1 =>
 if s1 then
 some 1
 else
 (zHG y0 y1.1).bind fun r3 =>
 if decide (r3 < 0) then
 some 6
 else
 (zI y0.2.1 r3).bind fun x1 =>
 if x1.2.1 then
 some 4
 else
 some 0
def zJD (y0 : wC) (s3 : Int) : Option (Int ⊕ (Unit ⊕ Int)) :=
 if decide (s3 < (len y0.2.2.2.1)) then
 (zI y0.2.2.2.1 s3).bind fun x1 =>
 (zCZ x1).bind fun r4 =>
 if !r4 then
 some (.inr (.inr 1))
 else
 some (.inl (zR (s3 + 1)))
 else
 some (.inr (.inl ()))
def zRd (y0 : wC) (s4 : Int) : Option (Int ⊕ Int) :=
 if decide (s4 < (len y0.2.2.2.1)) then
 (zI y0.2.2.2.1 (zR (s4 - 1))).bind fun x2 =>
 (zI y0.2.2.2.1 s4).bind fun x3 =>
 (zBz x2 x3).bind fun r5 =>
 if decide (0 ≤ r5) then
 some (.inr 8)
 else
 some (.inl (zR (s4 + 1)))
 else
 some (.inr 0)
def zJU (y0 : wC) : Option Int :=
 if decide (4 < (len y0.2.2.2.1)) then
 some 2
 else
 (
 (zCR y0.1).bind fun r1 =>
 if !r1 then
 some true
 else
 (zCZ y0.2.2.2.2).bind fun r2 =>
 if !r2 then
 some true
 else
 (zHj y0.2.2.1).bind fun r3 =>
 if !r3 then
 some true
 else
 if y0.2.1 then
 some (y0.2.2.1 != 0)
 else
 some false : Option Bool).bind fun s1 =>
 if s1 then
 some 1
 else
 yZ (zV (zJD y0) 0 : Option (Unit ⊕ Int)) fun _ =>
 zV (zRd y0) 1
def zG6 (y0 : zT) (s2 : Int) : Option (Int ⊕ (Unit ⊕ Int)) :=
 if decide (s2 < (len y0.1)) then
 (zI y0.1 s2).bind fun x1 =>
 (zG8 x1).bind fun r1 =>
 if r1 != 0 then
 some (.inr (.inr r1))
 else
 (zGn y0 x1.1).bind fun r2 =>
 if decide (r2 < s2) then
 some (.inr (.inr 5))
 else
 some (.inl (zR (s2 + 1)))
 else
 some (.inr (.inl ()))
def zGY (y0 : zT) (s4 : Int) : Option (Int ⊕ (Unit ⊕ Int)) :=
 if decide (s4 < (len y0.2.1)) then
 (zI y0.2.1 s4).bind fun x2 =>
 (zJU x2).bind fun r3 =>
 if r3 != 0 then
 some (.inr (.inr r3))
 else
 (zHG y0 x2.1).bind fun r4 =>
 if decide (r4 < s4) then
 some (.inr (.inr 5))
 else
 some (.inl (zR (s4 + 1)))
 else
 some (.inr (.inl ()))
def zG3 (y0 : zT) (s5 : Int) : Option (Int ⊕ Int) :=
 if decide (s5 < (len y0.2.2)) then
 (zI y0.2.2 s5).bind fun x3 =>
 (zE5 y0 x3).bind fun r5 =>
 if r5 != 0 then
 some (.inr r5)
 else
 some (.inl (zR (s5 + 1)))
 else
 some (.inr 0)
def zD2 (y0 : zT) : Option Int :=
 if (decide (16 < (len y0.1))) || ((decide (24 < (len y0.2.1))) || (decide (8 < (len y0.2.2)))) then
 some 2
 else
 yZ (zV (zG6 y0) 0 : Option (Unit ⊕ Int)) fun _ =>
 yZ (zV (zGY y0) 0 : Option (Unit ⊕ Int)) fun _ =>
 zV (zG3 y0) 0
def zQi (y0 : zT) (s2 : Int × (List zK)) : Option ((Int × (List zK)) ⊕ (List zK)) :=
 if decide (s2.1 < (len y0.1)) then
 (zI y0.1 s2.1).bind fun x1 =>
 (wE s2.2 ([(s2.1, (-1), ([] : List Int), x1.1)] : List zK)).bind fun x2 =>
 some (.inl (zR (s2.1 + 1), x2))
 else
 some (.inr s2.2)
def zIe (y0 : zT) (s4 : Int × (List zK) × (List zK) × Int) (s6 : Int × (List zK)) : Option ((Int × (List zK)) ⊕ ((List zK) ⊕ ((Int × (List zK) × (List zK) × Int) ⊕ ((List zK) × (List zK) × Int)))) :=
 if decide (s6.1 < (len y0.2.1)) then
 (zI y0.2.1 s6.1).bind fun x3 =>
 (
 if decide (0 < (len x3.2.2.2.1)) then
 (zC7 (y0, s4.2.1, s6.2, s4.2.2.2) s6.1 ([] : List Int)).bind fun r2 =>
 some r2
 else
 if s4.1 == 1 then
 (wE s6.2 ([((-1), s6.1, ([] : List Int), x3.2.2.2.2)] : List zK)).bind fun x4 =>
 some x4
 else
 some s6.2 : Option (List zK)).bind fun s7 =>
 (zC2 (y0, s4.2.1, s7, s4.2.2.2)).bind fun r3 =>
 if r3 then
 some (.inr (.inr (.inr (s4.2.1, s7, s4.2.2.2))))
 else
 some (.inl (zR (s6.1 + 1), s7))
 else
 some (.inr (.inl s6.2))
def zI6 (y0 : zT) (s4 : Int × (List zK) × (List zK) × Int) : Option ((Int × (List zK) × (List zK) × Int) ⊕ ((List zK) × (List zK) × Int)) :=
 yZ (zV (zIe y0 s4) (0, ([] : List zK)) : Option ((List zK) ⊕ ((Int × (List zK) × (List zK) × Int) ⊕ ((List zK) × (List zK) × Int)))) fun s5 =>
 if (len s5) == 0 then
 some (.inr (s4.2.1, s5, s4.2.2.2))
 else
 (wE s4.2.1 s5).bind fun x5 =>
 some (.inl (zR (s4.1 + 1), x5, s5, len s4.2.1))
def zI2 (y0 : zT) : Option ((List zK) × Int) :=
 (zD2 y0).bind fun r1 =>
 if r1 != 0 then
 some (([] : List zK), r1)
 else
 (zV (zQi y0) (0, ([] : List zK)) : Option (List zK)).bind fun s1 =>
 (zV (zI6 y0) (1, s1, ([] : List zK), 0) : Option ((List zK) × (List zK) × Int)).bind fun s3 =>
 (zC2 (y0, s3.1, s3.2.1, s3.2.2)).bind fun r4 =>
 if r4 then
 some (([] : List zK), 2)
 else
 some (s3.1, 0)
def zLC (y0 : zO) : Option zO :=
 some (!y0.1, y0.2)
def zQK (y0 : zT) (y1 : List zK) (y2 : Int) (y3 : Int) : Option (List Int) :=
 (
 (zI y1 y2).bind fun x1 =>
 (zI y1 y3).bind fun x2 =>
 some (x1.2.2.2, x2) : Option (zO × zK)).bind fun s1 =>
 (zLC s1.2.2.2.2).bind fun r1 =>
 if decide (0 ≤ s1.2.1) then
 (
 if s1.1 == r1 then
 (zI y0.1 s1.2.1).bind fun x3 =>
 some (x3.2.1 != 1)
 else
 some false : Option Bool).bind fun s2 =>
 if s2 then
 (wE ([] : List Int) ([1] : List Int)).bind fun x4 =>
 some x4
 else
 some ([] : List Int)
 else
 (zI y0.2.1 s1.2.2.1).bind fun x5 =>
 if !x5.2.1 then
 (
 if s1.1 == r1 then
 (wE ([] : List Int) ([2] : List Int)).bind fun x6 =>
 some x6
 else
 some ([] : List Int) : Option (List Int)).bind fun s3 =>
 (
 if s1.1.1 then
 (zI y0.2.1 s1.2.2.1).bind fun x7 =>
 some (s1.1.2 == x7.1)
 else
 some false : Option Bool).bind fun s4 =>
 if s4 then
 (wE s3 ([3] : List Int)).bind fun x8 =>
 some x8
 else
 some s3
 else
 some ([] : List Int)
def zCx (y0 : wA) (y1 : wA) : Option Int :=
 (zB2 y0.1 y1.1).bind fun r1 =>
 (zB2 y0.2.1 y1.2.1).bind fun r2 =>
 (zB2 y0.2.2.1 y1.2.2.1).bind fun r3 =>
 (zB2 y0.2.2.2 y1.2.2.2).bind fun r4 =>
 (zHE ([r1, r2, r3, r4] : List Int)).bind fun r5 =>
 some r5
def zA4 (y0 : List wA) : Option (List wA) := zWH zCx y0
def zQ6 (r1 : (List Int)) (s3 : (List wA) × Int) (s4 : (List wA) × Int) (s2 : (List wA) × Int) (s5 : (List wA) × Int) : Option (((List wA) × Int) ⊕ (((List wA) × Int) ⊕ (((List wA) × Int) ⊕ (((List wA) × Int) ⊕ (List wA))))) :=
 if decide (s5.2 < (len r1)) then
 (zI r1 s5.2).bind fun x1 =>
 (wE s5.1 ([(s3.2, s4.2, s2.2, x1)] : List wA)).bind fun x2 =>
 some (.inl (x2, zR (s5.2 + 1)))
 else
 some (.inr (.inl (s5.1, zR (s4.2 + 1))))
def zId (y1 : List zK) (s2 : (List wA) × Int) (r1 : (List Int)) (s3 : (List wA) × Int) (s4 : (List wA) × Int) : Option (((List wA) × Int) ⊕ (((List wA) × Int) ⊕ (((List wA) × Int) ⊕ (List wA)))) :=
 if decide (s4.2 < (len y1)) then
 (zD7 y1 s4.2).bind fun r2 =>
 (zBA r2 s2.2).bind fun r3 =>
 if !r3 then
 some (.inl (s4.1, zR (s4.2 + 1)))
 else
 zV (zQ6 r1 s3 s4 s2) (s4.1, 0)
 else
 some (.inr (.inl (s4.1, zR (s3.2 + 1))))
def zIf (y1 : List zK) (y0 : zT) (s2 : (List wA) × Int) (s3 : (List wA) × Int) : Option (((List wA) × Int) ⊕ (((List wA) × Int) ⊕ (List wA))) :=
 if decide (s3.2 < (len y1)) then
 (zQK y0 y1 s3.2 s2.2).bind fun r1 =>
 if (len r1) == 0 then
 some (.inl (s3.1, zR (s3.2 + 1)))
 else
 zV (zId y1 s2 r1 s3) (s3.1, 0)
 else
 some (.inr (.inl (s3.1, zR (s2.2 + 1))))
def zI9 (y1 : List zK) (y0 : zT) (s2 : (List wA) × Int) : Option (((List wA) × Int) ⊕ (List wA)) :=
 if decide (s2.2 < (len y1)) then
 zV (zIf y1 y0 s2) (s2.1, 0)
 else
 some (.inr s2.1)
def zIT (y0 : zT) (y1 : List zK) : Option (List wA) :=
 (zV (zI9 y1 y0) (([] : List wA), 0) : Option (List wA)).bind fun s1 =>
 (zA4 s1).bind fun r4 =>
 some r4
def zDa (r1 : (List Int)) (y0 : List zK) (s2 : (List Int) × Int) : Option (((List Int) × Int) ⊕ (List Int)) :=
 if decide (s2.2 < (len r1)) then
 (zI r1 s2.2).bind fun x1 =>
 (zI y0 x1).bind fun x2 =>
 if decide (0 ≤ x2.1) then
 (zI y0 x1).bind fun x3 =>
 (wE s2.1 ([x3.1] : List Int)).bind fun x4 =>
 some (.inl (x4, zR (s2.2 + 1)))
 else
 some (.inl (s2.1, zR (s2.2 + 1)))
 else
 some (.inr s2.1)
def zCQ (y0 : List zK) (y1 : Int) : Option (List Int) :=
 (
 (zD7 y0 y1).bind fun r1 =>
 zV (zDa r1 y0) (([] : List Int), 0) : Option (List Int)).bind fun s1 =>
 (zBY s1).bind fun r2 =>
 some r2
def zOI (y0 : Int) (y1 : zT) : Option Bool :=
 (zI y1.1 y0).bind fun x1 =>
 some (x1.2.1 == 3)
def zG2 (y0 : List Int) (y1 : zT) (s1 : Int) : Option (Int ⊕ Int) :=
 if decide (s1 < (len y0)) then
 (zI y0 s1).bind fun x1 =>
 (zOI x1 y1).bind fun r1 =>
 if r1 then
 some (.inr s1)
 else
 some (.inl (zR (s1 + 1)))
 else
 some (.inr (-1))
def zBR (y0 : List Int) (y1 : zT) : Option Int :=
 zV (zG2 y0 y1) 0
def zBE (y0 : List Int) (y1 : zT) : Option Bool :=
 (zBR y0 y1).bind fun r1 =>
 some (decide (0 ≤ r1))
def zKJ (y0 : zT) (y1 : List zK) (y2 : Int) : Option Bool :=
 (zCQ y1 y2).bind fun r1 =>
 (zBE r1 y0).bind fun r2 =>
 some r2
def zJa (x5 : zK) (rec_argument_Last : zT → (List zK) → Int → Option (List Int)) (y0 : zT) (y1 : List zK) (s3 : (List Int) × Int) : Option (((List Int) × Int) ⊕ (List Int)) :=
 if decide (s3.2 < (len x5.2.2.1)) then
 (zI x5.2.2.1 s3.2).bind fun x6 =>
 (rec_argument_Last y0 y1 x6).bind fun r2 =>
 (wE s3.1 r2).bind fun x7 =>
 some (.inl (x7, zR (s3.2 + 1)))
 else
 some (.inr s3.1)
def zJF (rec_argument_Last : zT → (List zK) → Int → Option (List Int)) (y0 : zT) (y1 : List zK) (y2 : Int) : Option (List Int) :=
 (
 (zB0 y1 y2).bind fun r1 =>
 if !r1 then
 some true
 else
 (zI y1 y2).bind fun x1 =>
 some (decide (x1.2.1 < 0)) : Option Bool).bind fun s1 =>
 if s1 then
 some ([] : List Int)
 else
 (zI y1 y2).bind fun x2 =>
 (zI y0.2.1 x2.2.1).bind fun x3 =>
 if !x3.2.1 then
 (zI y1 y2).bind fun x4 =>
 some ([x4.2.1] : List Int)
 else
 (
 (zI y1 y2).bind fun x5 =>
 zV (zJa x5 rec_argument_Last y0 y1) (([] : List Int), 0) : Option (List Int)).bind fun s2 =>
 (zBY s2).bind fun r3 =>
 (zBU r3).bind fun r4 =>
 some r4
def zHZ : Nat → zT → (List zK) → Int → Option (List Int)
 | 0 => fun _ _ _ => none
 | k + 1 => fun y0 y1 y2 => zJF (zHZ k) y0 y1 y2
def zJS (y0 : zT) (y1 : List zK) (y2 : Int) : Option (List Int) := zYF fun k => zHZ k y0 y1 y2
def zIz (y1 : List Int) (y0 : zT) (s1 : (List Int) × Int) : Option (((List Int) × Int) ⊕ (List Int)) :=
 if decide (s1.2 < (len y1)) then
 (zI y1 s1.2).bind fun x1 =>
 (zI y0.2.1 x1).bind fun x2 =>
 (wE s1.1 ([x2.2.2.1] : List Int)).bind fun x3 =>
 some (.inl (x3, zR (s1.2 + 1)))
 else
 some (.inr s1.1)
def zIl (y0 : zT) (y1 : List Int) : Option (List Int) :=
 zV (zIz y1 y0) (([] : List Int), 0)
def zDG (y0 : zT) (y1 : List zK) (y2 : Int) : Option (List Int) :=
 (zJS y0 y1 y2).bind fun r1 =>
 (zIl y0 r1).bind fun r2 =>
 some r2
def zQ7 (y0 : List Int) (s2 : Int × Int) : Option ((Int × Int) ⊕ Int) :=
 if decide (s2.2 < (len y0)) then
 (zI y0 s2.2).bind fun x2 =>
 some (.inl (if x2 > s2.1 then x2 else s2.1, zR (s2.2 + 1)))
 else
 some (.inr s2.1)
def zFm (y0 : List Int) : Option Int :=
 (
 if decide ((len y0) < 1) then
 none
 else
 some () : Option Unit).bind fun _ =>
 (zI y0 0).bind fun x1 =>
 zV (zQ7 y0) (x1, 1)
def zQg (y0 : List Int) (s2 : Int × Int) : Option ((Int × Int) ⊕ Int) :=
 if decide (s2.2 < (len y0)) then
 (zI y0 s2.2).bind fun x2 =>
 some (.inl (if x2 < s2.1 then x2 else s2.1, zR (s2.2 + 1)))
 else
 some (.inr s2.1)
def zFz (y0 : List Int) : Option Int :=
 (
 if decide ((len y0) < 1) then
 none
 else
 some () : Option Unit).bind fun _ =>
 (zI y0 0).bind fun x1 =>
 zV (zQg y0) (x1, 1)
def zGT (y0 : List Int) (y1 : List Int) (y2 : Int) : Option Bool :=
 if if y2 != 1 then (y2 != 2) || ((len y0) == 0) else (len y0) == 0 then
 some false
 else
 if (len y1) == 0 then
 some true
 else
 if y2 == 1 then
 (zFz y0).bind fun r1 =>
 (zFz y1).bind fun r2 =>
 some (decide (r1 < r2))
 else
 (zFm y0).bind fun r3 =>
 (zFm y1).bind fun r4 =>
 some (decide (r3 < r4))
def zCN (y0 : zT) (y1 : List zK) (y2 : Int) (y3 : Int) (y4 : yB) : Option Bool :=
 (zDG y0 y1 y2).bind fun r1 =>
 (zDG y0 y1 y3).bind fun r2 =>
 (zGT r1 r2 y4.2).bind fun r3 =>
 some r3
def zCe (r1 : (List Int)) (y0 : zT) (s1 : (List Int) × Int) : Option (((List Int) × Int) ⊕ (List Int)) :=
 if decide (s1.2 < (len r1)) then
 (zI r1 s1.2).bind fun x1 =>
 (zI y0.1 x1).bind fun x2 =>
 if x2.2.1 == 2 then
 (wE s1.1 ([x2.2.2.1] : List Int)).bind fun x3 =>
 some (.inl (x3, zR (s1.2 + 1)))
 else
 if x2.2.1 == 3 then
 (wE s1.1 ([(-1)] : List Int)).bind fun x4 =>
 some (.inl (x4, zR (s1.2 + 1)))
 else
 some (.inl (s1.1, zR (s1.2 + 1)))
 else
 some (.inr s1.1)
def zBP (y0 : zT) (y1 : List zK) (y2 : Int) : Option (List Int) :=
 (zCQ y1 y2).bind fun r1 =>
 zV (zCe r1 y0) (([] : List Int), 0)
def zAv (y0 : zT) (y1 : List zK) (y2 : Int) (y3 : Int) (y4 : yB) : Option Bool :=
 (zBP y0 y1 y2).bind fun r1 =>
 (zBP y0 y1 y3).bind fun r2 =>
 (zGT r1 r2 y4.2).bind fun r3 =>
 some r3
def zCO (y0 : zT) (y1 : List zK) (y2 : Int) (y3 : Int) : Option Bool :=
 (
 (zDG y0 y1 y2).bind fun r1 =>
 if (len r1) == 0 then
 (zDG y0 y1 y3).bind fun r2 =>
 some ((len r2) == 0)
 else
 some false : Option Bool).bind fun s1 =>
 some s1
def zC8 (y1 : zT) (y2 : List zK) (y3 : Int) (y4 : Int) (y5 : yB) : Option Bool :=
 (
 (zCN y1 y2 y3 y4 y5).bind fun r1 =>
 if r1 then
 some true
 else
 (zCO y1 y2 y3 y4).bind fun r2 =>
 if r2 then
 (zAv y1 y2 y3 y4 y5).bind fun r3 =>
 some r3
 else
 some false : Option Bool).bind fun s1 =>
 some s1
def zDD (y0 : zT) (y1 : List zK) (y2 : Int) : Option (List Int) :=
 (zCo y0 y1 y2).bind fun r1 =>
 (zIl y0 r1).bind fun r2 =>
 some r2
def zBa (y0 : zT) (y1 : List zK) (y2 : Int) (y3 : Int) (y4 : yB) : Option Bool :=
 (zDD y0 y1 y2).bind fun r1 =>
 (zDD y0 y1 y3).bind fun r2 =>
 (zGT r1 r2 y4.2).bind fun r3 =>
 some r3
def zBi (y0 : zT) (y1 : List zK) (y2 : Int) (y3 : Int) : Option Bool :=
 (
 (zBP y0 y1 y2).bind fun r1 =>
 if (len r1) == 0 then
 (zBP y0 y1 y3).bind fun r2 =>
 some ((len r2) == 0)
 else
 some false : Option Bool).bind fun s1 =>
 some s1
def zCL (y0 : zT) (y1 : List zK) (y2 : Int) (y3 : Int) : Option Bool :=
 (
 (zDD y0 y1 y2).bind fun r1 =>
 if (len r1) == 0 then
 (zDD y0 y1 y3).bind fun r2 =>
 some ((len r2) == 0)
 else
 some false : Option Bool).bind fun s1 =>
 some s1
def zC9 (y1 : zT) (y2 : List zK) (y3 : Int) (y4 : Int) (y6 : yB) : Option Bool :=
 (zCL y1 y2 y3 y4).bind fun r1 =>
 if r1 then
 (zAv y1 y2 y3 y4 y6).bind fun r2 =>
 some r2
 else
 (zBi y1 y2 y3 y4).bind fun r3 =>
 if r3 then
 (zBa y1 y2 y3 y4 y6).bind fun r4 =>
 some r4
 else
 (
 (zAv y1 y2 y3 y4 y6).bind fun r5 =>
 if r5 then
 (zBa y1 y2 y3 y4 y6).bind fun r6 =>
 some r6
 else
 some false : Option Bool).bind fun s1 =>
 some s1
def zNj (y0 : zT) (y1 : List zK) (y2 : Int) (y3 : Int) (y4 : yB) : Option Bool :=
 (
 if decide ((if y3 < y2 then y3 else y2) < 0) then
 some true
 else
 if decide ((len y1) ≤ (if y3 > y2 then y3 else y2)) then
 some true
 else
 (zKJ y0 y1 y3).bind fun r1 =>
 some r1 : Option Bool).bind fun s1 =>
 if s1 then
 some false
 else
 if y4.1 == 1 then
 (zC8 y0 y1 y2 y3 y4).bind fun r2 =>
 some r2
 else
 if y4.1 == 2 then
 (zC9 y0 y1 y2 y3 y4).bind fun r3 =>
 some r3
 else
 some false
def zDp (y0 : wA) (y1 : zT) (y2 : List zK) (y3 : yB) : Option Bool :=
 (
 if y0.2.2.2 != 3 then
 (zNj y1 y2 y0.1 y0.2.2.1 y3).bind fun r1 =>
 some r1
 else
 some false : Option Bool).bind fun s1 =>
 some s1
def zBS (y0 : List wA) (y1 : zT) (y2 : List zK) (y3 : yB) (s1 : Int) : Option (Int ⊕ Int) :=
 if decide (s1 < (len y0)) then
 (zI y0 s1).bind fun x1 =>
 (zDp x1 y1 y2 y3).bind fun r1 =>
 if r1 then
 some (.inr s1)
 else
 some (.inl (zR (s1 + 1)))
 else
 some (.inr (-1))
def zAx (y0 : List wA) (y1 : zT) (y2 : List zK) (y3 : yB) : Option Int :=
 zV (zBS y0 y1 y2 y3) 0
def zBQ (y0 : List wA) (y1 : zT) (y2 : List zK) (y3 : yB) (s2 : (List wA) × Int × Int) : Option (((List wA) × Int × Int) ⊕ ((List wA) × Int)) :=
 if decide (s2.2.2 < (len y0)) then
 (zI s2.1 s2.2.2).bind fun x1 =>
 (zDp x1 y1 y2 y3).bind fun r2 =>
 if !r2 then
 (zI s2.1 s2.2.1).bind fun _ =>
 some (.inl (List.set s2.1 (Int.toNat s2.2.1) x1, zR (s2.2.1 + 1), zR (s2.2.2 + 1)))
 else
 some (.inl (s2.1, s2.2.1, zR (s2.2.2 + 1)))
 else
 some (.inr (s2.1, s2.2.1))
def zAr (y0 : List wA) (y1 : zT) (y2 : List zK) (y3 : yB) : Option (List wA) :=
 (zAx y0 y1 y2 y3).bind fun r1 =>
 if r1 == (-1) then
 some y0
 else
 (zV (zBQ y0 y1 y2 y3) (y0, r1, zR (r1 + 1)) : Option ((List wA) × Int)).bind fun s1 =>
 (yG (decide (0 ≤ s1.2) && decide (s1.2 ≤ len s1.1))).bind fun _ =>
 (sub (zCk s1.1 s1.2 (0, 0, 0, 0)) 0 s1.2).bind fun x3 =>
 some x3
def zFx (y0 : zT) (y1 : List zK) (y2 : yB) : Option (List wA) :=
 (zIT y0 y1).bind fun r1 =>
 (zAr r1 y0 y1 y2).bind fun r2 =>
 some r2
def zNT (y0 : List qW) (s1 : Int) (s3 : (List qW) × Int × Int) : Option (((List qW) × Int × Int) ⊕ ((List qW) × Int)) :=
 if decide (s3.2.2 < ((Int.toNat (((List.length y0 : Nat) : Int) - s1) : Nat) : Int)) then
 (tY s3.1 s1 s3.2.2).bind fun x3 =>
 (tY s3.1 s1 (zR (s3.2.2 - 1))).bind fun x4 =>
 if !(x3 == x4) then
 (tY s3.1 s1 s3.2.2).bind fun x5 =>
 (zI s3.1 s3.2.1).bind fun _ =>
 some (.inl (List.set s3.1 (Int.toNat s3.2.1) x5, zR (s3.2.1 + 1), zR (s3.2.2 + 1)))
 else
 some (.inl (s3.1, s3.2.1, zR (s3.2.2 + 1)))
 else
 some (.inr (s3.1, s3.2.1))
def zEl (y0 : List qW) (s1 : Int) : Option (Int ⊕ (List qW)) :=
 if decide (s1 < (len y0)) then
 (zI y0 s1).bind fun x1 =>
 (zI y0 (zR (s1 - 1))).bind fun x2 =>
 if x1 == x2 then
 (yG (decide (0 ≤ s1) && decide (s1 ≤ len y0))).bind fun _ =>
 (zV (zNT y0 s1) (y0, s1, 1) : Option ((List qW) × Int)).bind fun s2 =>
 (yG (decide (0 ≤ s2.2) && decide (s2.2 ≤ len s2.1))).bind fun _ =>
 (sub (zCk s2.1 s2.2 (0, 0)) 0 s2.2).bind fun x7 =>
 some (.inr x7)
 else
 some (.inl (zR (s1 + 1)))
 else
 some (.inr y0)
def zEF (y0 : List qW) : Option (List qW) :=
 if decide ((len y0) < 2) then
 some y0
 else
 zV (zEl y0) 1
def zDk (y0 : qW) (y1 : qW) : Option Int :=
 (zB2 y0.1 y1.1).bind fun r1 =>
 (zB2 y0.2 y1.2).bind fun r2 =>
 (zHE ([r1, r2] : List Int)).bind fun r3 =>
 some r3
def zAp (y0 : List qW) : Option (List qW) := zWH zDk y0
def zRt (y1 : List wA) (y0 : Int) (s2 : Int × (List qW)) : Option ((Int × (List qW)) ⊕ ((List qW) ⊕ (wH × Int))) :=
 if decide (s2.1 < (len y1)) then
 (zI y1 s2.1).bind fun x1 =>
 if (decide ((if x1.2.1 < x1.1 then x1.2.1 else x1.1) < 0)) || (decide (y0 ≤ (if x1.2.1 > x1.1 then x1.2.1 else x1.1))) then
 some (.inr (.inr ((0, ([] : List qW)), 1)))
 else
 (wE s2.2 ([(x1.1, x1.2.1)] : List qW)).bind fun x2 =>
 some (.inl (zR (s2.1 + 1), x2))
 else
 some (.inr (.inl s2.2))
def zIK (y0 : Int) (y1 : List wA) : Option (wH × Int) :=
 if (decide (y0 < 0)) || (decide (40 < y0)) then
 some ((0, ([] : List qW)), 1)
 else
 yZ (zV (zRt y1 y0) (0, ([] : List qW)) : Option ((List qW) ⊕ (wH × Int))) fun s1 =>
 (zAp s1).bind fun r1 =>
 (zEF r1).bind fun r2 =>
 some ((y0, r2), 0)
def zJt (y0 : List vU) : Option (List vU) :=
 (wE ([] : List vU) y0).bind fun x1 =>
 some x1
def zIh (y0 : List vG) : Option (List vG) :=
 (wE ([] : List vG) y0).bind fun x1 =>
 some x1
def zL0 (y0 : List wC) : Option (List wC) :=
 (wE ([] : List wC) y0).bind fun x1 =>
 some x1
def zH5 (y0 : zT) (x1 : wC) (y1 : List zO) (s3 : Int × (List wC)) (s4 : Int × (List wC)) : Option ((Int × (List wC)) ⊕ ((Int × (List wC)) ⊕ (List wC))) :=
 if decide (s4.1 < (len y0.2.2)) then
 (zI y0.2.2 s4.1).bind fun x3 =>
 (
 if !x1.2.1 then
 if x3.1 == x1.1 then
 (zDz y1 x3.2.2).bind fun r11 =>
 some r11
 else
 some false
 else
 some false : Option Bool).bind fun s5 =>
 if s5 then
 (zI s4.2 s3.1).bind fun x4 =>
 some (.inl (zR (s4.1 + 1), List.set s4.2 (Int.toNat s3.1) (x4.1, x4.2.1, x3.2.1, x4.2.2.2.1, x4.2.2.2.2)))
 else
 some (.inl (zR (s4.1 + 1), s4.2))
 else
 some (.inr (.inl (zR (s3.1 + 1), s4.2)))
def zHW (y0 : zT) (y1 : List zO) (s3 : Int × (List wC)) : Option ((Int × (List wC)) ⊕ (List wC)) :=
 if decide (s3.1 < (len y0.2.1)) then
 (zI y0.2.1 s3.1).bind fun x1 =>
 (zCd x1.2.2.2.1).bind fun r10 =>
 (zI s3.2 s3.1).bind fun x2 =>
 zV (zH5 y0 x1 y1 s3) (0, List.set s3.2 (Int.toNat s3.1) (x2.1, x2.2.1, x2.2.2.1, r10, x2.2.2.2.2))
 else
 some (.inr s3.2)
def zGa (y0 : zT) (y1 : List zO) : Option zT :=
 (
 (zJt y0.1).bind fun r1 =>
 (zL0 y0.2.1).bind fun r2 =>
 (zIh y0.2.2).bind fun r3 =>
 some (r1, r2, r3) : Option zT).bind fun s1 =>
 (zV (zHW y0 y1) (0, s1.2.1) : Option (List wC)).bind fun s2 =>
 some (s1.1, s2, s1.2.2)
def zIY (y0 : zT) (y1 : yB) : Option (tZ × Int) :=
 (zI2 y0).bind fun r1 =>
 if r1.2 != 0 then
 some (((([] : List vU), ([] : List wC), ([] : List vG)), ([] : List zK), ([] : List wA), (0, ([] : List qW))), r1.2)
 else
 if if y1.1 != 1 then (y1.1 != 2) || ((y1.2 != 1) && (y1.2 != 2)) else (y1.2 != 1) && (y1.2 != 2) then
 some (((([] : List vU), ([] : List wC), ([] : List vG)), ([] : List zK), ([] : List wA), (0, ([] : List qW))), 4)
 else
 (zFx y0 r1.1 y1).bind fun r2 =>
 (zIK (len r1.1) r2).bind fun r3 =>
 if r3.2 != 0 then
 some (((([] : List vU), ([] : List wC), ([] : List vG)), ([] : List zK), ([] : List wA), (0, ([] : List qW))), r3.2)
 else
 (zDB r3.1).bind fun r4 =>
 (zBC r4 1).bind fun r5 =>
 (zBe r1.1 r5).bind fun r6 =>
 (zGa y0 r6).bind fun r7 =>
 (zFx r7 r1.1 y1).bind fun r8 =>
 (zIK (len r1.1) r8).bind fun r9 =>
 if r9.2 != 0 then
 some (((([] : List vU), ([] : List wC), ([] : List vG)), ([] : List zK), ([] : List wA), (0, ([] : List qW))), r9.2)
 else
 some ((r7, r1.1, r8, r9.1), 0)
def zDj (y0 : zT) (y1 : yB) : Option ((List zO) × Bool) :=
 (zIY y0 y1).bind fun r1 =>
 (zBB r1.1 1 true).bind fun r2 =>
 (
 if r1.2 == 0 then
 some (r2.1, r2.2 == 0)
 else
 some (r2.1, false) : Option ((List zO) × Bool)).bind fun s1 =>
 some (s1.1, s1.2)
def zDF (y0 : zO) : Option qI :=
 (zCZ y0).bind fun r1 =>
 if !r1 then
 some []
 else
 if y0.1 then
 (cat [126] y0.2).bind fun x1 =>
 some x1
 else
 some y0.2
def zGh (y0 : Int) (y1 : Int) : Option qI := z5I y0 y1
def zJ4 (y0 : Int) : Option qI :=
 (zGh y0 10).bind fun r1 =>
 some r1
def zKO (y0 : Int) : Option qI :=
 (zJ4 y0).bind fun r1 =>
 some r1
def zM1 (y0 : List qI) (y1 : qI) : Option qI := z5H y0 y1
def zD9 (y0 : vU) : Option qI :=
 (zI zBD y0.2.1).bind fun x1 =>
 (zDF y0.1).bind fun r1 =>
 (
 if y0.2.1 == 2 then
 (zKO y0.2.2.1).bind fun r2 =>
 (wE ([x1, r1] : List qI) ([r2] : List qI)).bind fun x2 =>
 some x2
 else
 some ([x1, r1] : List qI) : Option (List qI)).bind fun s1 =>
 (
 if !(y0.2.2.2 == []) then
 (wE s1 ([[102, 114, 111, 109], y0.2.2.2] : List qI)).bind fun x3 =>
 some x3
 else
 some s1 : Option (List qI)).bind fun s2 =>
 (zM1 s2 [32]).bind fun r3 =>
 some r3
def zCy (y0 : vG) : Option qI :=
 (cat [112, 114, 111, 109, 111, 116, 101, 32] y0.1).bind fun x1 =>
 (cat x1 [32]).bind fun x2 =>
 (zKO y0.2.1).bind fun r1 =>
 (cat x2 r1).bind fun x3 =>
 (cat x3 [32, 105, 102, 32]).bind fun x4 =>
 (zDF y0.2.2).bind fun r2 =>
 (cat x4 r2).bind fun x5 =>
 some x5
def zGX (y0 : wC) (s3 : (List qI) × Int) : Option (((List qI) × Int) ⊕ (List qI)) :=
 if decide (s3.2 < (len y0.2.2.2.1)) then
 (zI y0.2.2.2.1 s3.2).bind fun x3 =>
 (zDF x3).bind fun r2 =>
 (
 if decide (s3.2 < (zR ((len y0.2.2.2.1) - 1))) then
 (cat r2 [44]).bind fun x4 =>
 some x4
 else
 some r2 : Option qI).bind fun s4 =>
 (wE s3.1 ([s4] : List qI)).bind fun x5 =>
 some (.inl (x5, zR (s3.2 + 1)))
 else
 some (.inr s3.1)
def zFV (y0 : wC) : Option qI :=
 (cat y0.1 [58]).bind fun x1 =>
 (
 if !y0.2.1 then
 (zKO y0.2.2.1).bind fun r1 =>
 (cat r1 [58]).bind fun x2 =>
 some (([[114, 117, 108, 101], y0.1, x2] : List qI), [61, 62])
 else
 some (([[115, 116, 114, 105, 99, 116], x1] : List qI), [45, 62]) : Option ((List qI) × qI)).bind fun s1 =>
 (zV (zGX y0) (s1.1, 0) : Option (List qI)).bind fun s2 =>
 (zDF y0.2.2.2.2).bind fun r3 =>
 (wE s2 ([s1.2, r3] : List qI)).bind fun x6 =>
 (zM1 x6 [32]).bind fun r4 =>
 some r4
def zB5 (y0 : zAP) : Option (qI × (List qI) × Bool) :=
 if (len y0.1) == 0 then
 some ([], y0.1, true)
 else
 (zI y0.1 0).bind fun x1 =>
 (sub y0.1 1 (len y0.1)).bind fun x2 =>
 some (x1, x2, y0.2)
def zJY (y0 : qI) : Option (zO × Int) :=
 (
 (
 if decide (0 < (len y0)) then
 (tP y0 0).bind fun x1 =>
 some (x1 == 126)
 else
 some false : Option Bool).bind fun s2 =>
 if s2 then
 (sub y0 1 (len y0)).bind fun x2 =>
 some (x2, true)
 else
 some (y0, false) : Option (qI × Bool)).bind fun s1 =>
 (zCZ (s1.2, s1.1)).bind fun r1 =>
 if !r1 then
 some ((false, []), 3)
 else
 some ((s1.2, s1.1), 0)
def zER (y0 : qI) (y1 : qI) : Option Bool :=
 (
 if decide ((len y1) ≤ (len y0)) then
 (sub y0 (zR ((len y0) - (len y1))) (len y0)).bind fun x1 =>
 some (x1 == y1)
 else
 some false : Option Bool).bind fun s1 =>
 some s1
def zES (y0 : qI) (y1 : qI) : Option (qI × Bool) :=
 (zER y0 y1).bind fun r1 =>
 if !r1 then
 some (y0, false)
 else
 (sub y0 0 (zR ((len y0) - (len y1)))).bind fun x1 =>
 some (x1, true)
def zF3 (y0 : qI) (y1 : qI) : Option (qI × Bool) :=
 (zES y0 y1).bind fun r1 =>
 some (r1.1, r1.2)
def zBX (y0 : zAP) (y1 : qI) : Option (zO × (List qI) × Bool) :=
 (zB5 y0).bind fun r1 =>
 (zF3 r1.1 y1).bind fun r2 =>
 (zJY r2.1).bind fun r3 =>
 (
 if r1.2.2 then
 some true
 else
 if !r2.2 then
 some true
 else
 some (r3.2 != 0) : Option Bool).bind fun s1 =>
 some (r3.1, r1.2.1, s1)
def zBn (y0 : zAP) (y1 : qI) : Option (qI × (List qI) × Bool) :=
 (zB5 y0).bind fun r1 =>
 (zF3 r1.1 y1).bind fun r2 =>
 (
 if r1.2.2 then
 some true
 else
 if !r2.2 then
 some true
 else
 (zCR r2.1).bind fun r3 =>
 some (!r3) : Option Bool).bind fun s1 =>
 some (r2.1, r1.2.1, s1)
def zEH (y0 : zAP) (y1 : qI) : Option (Int × (List qI) × Bool) :=
 (zB5 y0).bind fun r1 =>
 (zF3 r1.1 y1).bind fun r2 =>
 (
 if !r2.2 then
 some true
 else
 if (len r2.1) != 1 then
 some true
 else
 (tP r2.1 0).bind fun x1 =>
 if decide (x1 < 48) then
 some true
 else
 (tP r2.1 0).bind fun x2 =>
 some (decide (57 < x2)) : Option Bool).bind fun s1 =>
 if s1 then
 some (0, r1.2.1, true)
 else
 (tP r2.1 0).bind fun x3 =>
 some (zR (IntKind.u8.wrap (x3 - 48)), r1.2.1, r1.2.2)
def zCz (y0 : zAP) (y1 : Int) : Option (vU × (List qI) × Bool) :=
 (zBX y0 []).bind fun r1 =>
 (
 if y1 == 2 then
 (zEH (r1.2.1, r1.2.2) []).bind fun r2 =>
 some (r2.2.1, r2.2.2, r2.1)
 else
 some (r1.2.1, r1.2.2, 0) : Option ((List qI) × Bool × Int)).bind fun s1 =>
 (
 if decide (0 < (len s1.1)) then
 (
 if s1.2.1 then
 some (s1.1, true)
 else
 (zB5 (s1.1, s1.2.1)).bind fun r3 =>
 some (r3.2.1, !(r3.1 == [102, 114, 111, 109])) : Option ((List qI) × Bool)).bind fun s3 =>
 (zBn (s3.1, s3.2) []).bind fun r4 =>
 some (r4.2.1, r4.2.2, r4.1)
 else
 some (s1.1, s1.2.1, []) : Option ((List qI) × Bool × qI)).bind fun s2 =>
 some ((r1.1, y1, s1.2.2, s2.2.2), s2.1, s2.2.1)
def zCa (y0 : zAP) : Option (vG × (List qI) × Bool) :=
 (zBn y0 []).bind fun r1 =>
 (zEH (r1.2.1, r1.2.2) []).bind fun r2 =>
 (
 if r2.2.2 then
 some (r2.2.1, true)
 else
 (zB5 (r2.2.1, r2.2.2)).bind fun r3 =>
 some (r3.2.1, !(r3.1 == [105, 102])) : Option ((List qI) × Bool)).bind fun s1 =>
 (zBX (s1.1, s1.2) []).bind fun r4 =>
 some ((r1.1, r2.1, r4.1), r4.2.1, r4.2.2)
def zEs (s3 : (List qI) × Bool × (List zO)) : Option (((List qI) × Bool × (List zO)) ⊕ ((List qI) × Bool × (List zO))) :=
 if (decide (2 < (len s3.1))) && (!s3.2.1) then
 (
 if (len s3.1) == 3 then
 some []
 else
 some [44] : Option qI).bind fun s4 =>
 (zBX (s3.1, s3.2.1) s4).bind fun r4 =>
 (wE s3.2.2 ([r4.1] : List zO)).bind fun x1 =>
 some (.inl (r4.2.1, r4.2.2, x1))
 else
 some (.inr (s3.1, s3.2.1, s3.2.2))
def zEG (y0 : zAP) (y1 : Bool) : Option (wC × (List qI) × Bool) :=
 (
 if y1 then
 (zBn y0 [58]).bind fun r1 =>
 some ([45, 62], r1.2.1, r1.2.2, r1.1, 0)
 else
 (zBn y0 []).bind fun r2 =>
 (zEH (r2.2.1, r2.2.2) [58]).bind fun r3 =>
 some ([61, 62], r3.2.1, r3.2.2, r2.1, r3.1) : Option (qI × (List qI) × Bool × qI × Int)).bind fun s1 =>
 (zV (zEs) (s1.2.1, s1.2.2.1, ([] : List zO)) : Option ((List qI) × Bool × (List zO))).bind fun s2 =>
 (
 if s2.2.1 then
 some (s2.1, true)
 else
 (zB5 (s2.1, s2.2.1)).bind fun r5 =>
 some (r5.2.1, !(r5.1 == s1.1)) : Option ((List qI) × Bool)).bind fun s5 =>
 (zBX (s5.1, s5.2) []).bind fun r6 =>
 some ((s1.2.2.2.1, y1, s1.2.2.2.2, s2.2.2, r6.1), r6.2.1, r6.2.2)
def zNf (r1 : qI × (List qI) × Bool) (s3 : Int × Int) : Option ((Int × Int) ⊕ Int) :=
 if decide (s3.2 < 4) then
 (zI zBD s3.2).bind fun x1 =>
 if x1 == r1.1 then
 some (.inl (s3.2, zR (s3.2 + 1)))
 else
 some (.inl (s3.1, zR (s3.2 + 1)))
 else
 some (.inr s3.1)
def zE0 (y0 : zAP) (y1 : zT) : Option (Int × qI × (List qI) × Bool × (List vU) × (List wC) × (List vG)) :=
 (zB5 y0).bind fun r1 =>
 (
 if r1.1 == [97, 120, 105, 111, 109] then
 some (r1.1 == [97, 120, 105, 111, 109])
 else
 if r1.1 == [112, 114, 101, 109, 105, 115, 101] then
 some (r1.1 == [112, 114, 101, 109, 105, 115, 101])
 else
 some (r1.1 == [97, 115, 115, 117, 109, 101]) : Option Bool).bind fun s1 =>
 if s1 then
 (zV (zNf r1) (1, 0) : Option Int).bind fun s2 =>
 (zCz (r1.2.1, r1.2.2) s2).bind fun r2 =>
 (wE y1.1 ([r2.1] : List vU)).bind fun x2 =>
 (zD9 r2.1).bind fun r3 =>
 some (1, r3, r2.2.1, r2.2.2, x2, y1.2.1, y1.2.2)
 else
 (
 if r1.1 == [115, 116, 114, 105, 99, 116] then
 some (r1.1 == [115, 116, 114, 105, 99, 116])
 else
 some (r1.1 == [114, 117, 108, 101]) : Option Bool).bind fun s4 =>
 if s4 then
 (zEG (r1.2.1, r1.2.2) (r1.1 == [115, 116, 114, 105, 99, 116])).bind fun r4 =>
 (wE y1.2.1 ([r4.1] : List wC)).bind fun x3 =>
 (zFV r4.1).bind fun r5 =>
 some (2, r5, r4.2.1, r4.2.2, y1.1, x3, y1.2.2)
 else
 if r1.1 == [112, 114, 111, 109, 111, 116, 101] then
 (zCa (r1.2.1, r1.2.2)).bind fun r6 =>
 (wE y1.2.2 ([r6.1] : List vG)).bind fun x4 =>
 (zCy r6.1).bind fun r7 =>
 some (3, r7, r6.2.1, r6.2.2, y1.1, y1.2.1, x4)
 else
 some (0, [], r1.2.1, r1.2.2, y1.1, y1.2.1, y1.2.2)
def zGo (y0 : qI) (y1 : qI) : Option Int := z1e y0 y1
def zHr (y0 : qI) (y1 : qI) : Option (qI × qI × Bool) :=
 (zGo y0 y1).bind fun r1 =>
 if decide (0 ≤ r1) then
 (sub y0 0 r1).bind fun x1 =>
 (sub y0 (zR (r1 + (len y1))) (len y0)).bind fun x2 =>
 some (x1, x2, true)
 else
 some (y0, [], false)
def zRm (y0 : qI) (y1 : qI) : Option (qI × qI × Bool) :=
 (zHr y0 y1).bind fun r1 =>
 some (r1.1, r1.2.1, r1.2.2)
def zOB (y0 : qI) : Option (List qI) := zYk y0
def zIc (s2 : qI × Int × Int × (List vU) × (List wC) × (List vG)) : Option ((qI × Int × Int × (List vU) × (List wC) × (List vG)) ⊕ (((List vU) × (List wC) × (List vG)) ⊕ (zT × Int × Int))) :=
 if !(s2.1 == []) then
 (zRm s2.1 [10]).bind fun r1 =>
 (zOB r1.1).bind fun r2 =>
 (zE0 (r2, false) (s2.2.2.2.1, s2.2.2.2.2.1, s2.2.2.2.2.2)).bind fun r3 =>
 if (!r1.2.2) || (r3.2.2.2.1 || ((decide (0 < (len r3.2.2.1))) || ((!(r3.2.1 == r1.1)) || (decide (r3.1 < s2.2.1))))) then
 some (.inr (.inr ((([] : List vU), ([] : List wC), ([] : List vG)), s2.2.2.1, 3)))
 else
 some (.inl (r1.2.1, r3.1, zR (s2.2.2.1 + 1), r3.2.2.2.2.1, r3.2.2.2.2.2.1, r3.2.2.2.2.2.2))
 else
 some (.inr (.inl (s2.2.2.2.1, s2.2.2.2.2.1, s2.2.2.2.2.2)))
def zIV (y0 : qI) : Option (zT × Int × Int) :=
 if decide (4096 < (len y0)) then
 some ((([] : List vU), ([] : List wC), ([] : List vG)), 0, 2)
 else
 yZ (zV (zIc) (y0, 1, 1, ([] : List vU), ([] : List wC), ([] : List vG)) : Option (((List vU) × (List wC) × (List vG)) ⊕ (zT × Int × Int))) fun s1 =>
 (zD2 (s1.1, s1.2.1, s1.2.2)).bind fun r4 =>
 if r4 != 0 then
 some ((([] : List vU), ([] : List wC), ([] : List vG)), 0, r4)
 else
 some ((s1.1, s1.2.1, s1.2.2), 0, 0)
def zIm (y0 : qI) : Option zT :=
 (zIV y0).bind fun r1 =>
 some r1.1
def zED : Option Bool :=
 (zIm [112, 114, 101, 109, 105, 115, 101, 32, 112, 32, 49, 10, 112, 114, 101, 109, 105, 115, 101, 32, 126, 112, 32, 50, 10]).bind fun r1 =>
 (zDj r1 (1, 1)).bind fun r2 =>
 (zIm [97, 120, 105, 111, 109, 32, 112, 10, 114, 117, 108, 101, 32, 97, 32, 49, 58, 32, 61, 62, 32, 113, 10, 114, 117, 108, 101, 32, 98, 32, 49, 58, 32, 61, 62, 32, 126, 113, 10, 112, 114, 111, 109, 111, 116, 101, 32, 98, 32, 53, 32, 105, 102, 32, 112, 10]).bind fun r3 =>
 (zDj r3 (1, 1)).bind fun r4 =>
 (zIm [112, 114, 101, 109, 105, 115, 101, 32, 112, 32, 51, 10, 115, 116, 114, 105, 99, 116, 32, 115, 58, 32, 112, 32, 45, 62, 32, 126, 112, 10]).bind fun r5 =>
 (zDj r5 (1, 1)).bind fun r6 =>
 (
 if r2.2 then
 if (len r2.1) == 1 then
 (zI r2.1 0).bind fun x1 =>
 if x1 == (true, [112]) then
 if r4.2 then
 if (len r4.1) == 2 then
 (zI r4.1 1).bind fun x2 =>
 if x2 == (true, [113]) then
 if r6.2 then
 some ((len r6.1) == 0)
 else
 some false
 else
 some false
 else
 some false
 else
 some false
 else
 some false
 else
 some false
 else
 some false : Option Bool).bind fun s1 =>
 some s1
def zKn : Option (List yB) :=
 some ([(1, 1), (1, 2), (2, 1), (2, 2)] : List yB)
def zLQ (y0 : Int) (y1 : Int) : Option Int :=
 if decide (y1 < 1) then
 some 0
 else
 (remK y0 y1).bind fun x1 =>
 if decide (x1 < 0) then
 some (zR (x1 + y1))
 else
 some x1
def zEn (y0 : Int) : Option qI :=
 (zLQ y0 26).bind fun r1 =>
 (cat [114] (zTA ([IntKind.u8.wrap (zR (97 + r1))] : List Int))).bind fun x1 =>
 some x1
def zKI (y0 : uQ) : Option (Int × Int) :=
 if decide ((len y0.1) ≤ y0.2) then
 some (0, y0.2)
 else
 (zI y0.1 (zR ((zR (y0.2 + 1)) - 1))).bind fun x1 =>
 some (x1, zR (y0.2 + 1))
def xR (y0 : uQ) (y1 : Int) : Option (Int × Int) :=
 (zKI y0).bind fun r1 =>
 (zLQ r1.1 y1).bind fun r2 =>
 some (r2, r1.2)
def zCW (y0 : uQ) (y1 : Int) : Option (zO × Int) :=
 (xR y0 (zR (2 * y1))).bind fun r1 =>
 (quoK .i64 r1.1 2).bind fun x1 =>
 some (((yE .i64 r1.1 1) == 1, zTA ([IntKind.u8.wrap (zR (97 + x1))] : List Int)), r1.2)
def zG5 (y0 : uQ) (y2 : Int) (s1 : (List zO) × Int × Int) : Option (((List zO) × Int × Int) ⊕ ((List zO) × Int)) :=
 if decide (0 < s1.2.1) then
 (zCW (y0.1, s1.2.2) y2).bind fun r2 =>
 (wE s1.1 ([r2.1] : List zO)).bind fun x1 =>
 some (.inl (x1, zR (s1.2.1 - 1), r2.2))
 else
 some (.inr (s1.1, s1.2.2))
def zF6 (y0 : uQ) (y1 : Int) (y2 : Int) : Option ((List zO) × Int) :=
 (xR y0 (zR (y1 + 1))).bind fun r1 =>
 zV (zG5 y0 y2) (([] : List zO), r1.1, r1.2)
def zIw (y0 : uQ) (y1 : List Int) : Option (Int × Int) :=
 (xR y0 (len y1)).bind fun r1 =>
 (zI y1 r1.1).bind fun x1 =>
 some (x1, r1.2)
def zJ0 (y0 : uQ) (y1 : List qI) : Option (qI × Int) :=
 (xR y0 (len y1)).bind fun r1 =>
 (zI y1 r1.1).bind fun x1 =>
 some (x1, r1.2)
def zFu (s1 : (List zO) × Int) (x1 : zO) (s3 : Int) : Option (Int ⊕ Int) :=
 (
 if decide (s3 < (len s1.1)) then
 (zI s1.1 s3).bind fun x2 =>
 if uM x2.2 x1.2 then
 some true
 else
 (zI s1.1 s3).bind fun x3 =>
 if x3.2 == x1.2 then
 (zI s1.1 s3).bind fun x4 =>
 if !x4.1 then
 some x1.1
 else
 some false
 else
 some false
 else
 some false : Option Bool).bind fun s4 =>
 if s4 then
 some (.inl (zR (s3 + 1)))
 else
 some (.inr s3)
def zIP (y0 : List zO) (s1 : (List zO) × Int) : Option (((List zO) × Int) ⊕ (List zO)) :=
 if decide (s1.2 < (len y0)) then
 (zI y0 s1.2).bind fun x1 =>
 (zV (zFu s1 x1) 0 : Option Int).bind fun s2 =>
 (
 if decide (s2 < (len s1.1)) then
 (zI s1.1 s2).bind fun x5 =>
 some (x5 == x1)
 else
 some false : Option Bool).bind fun s5 =>
 if s5 then
 some (.inl (s1.1, zR (s1.2 + 1)))
 else
 (wE s1.1 ([(false, [])] : List zO)).bind fun x6 =>
 (yG (decide (0 ≤ (zR (s2 + 1))) && decide ((zR (s2 + 1)) ≤ len x6))).bind fun _ =>
 (yG (decide (0 ≤ s2) && decide (s2 ≤ len x6))).bind fun _ =>
 (zI (zIk x6 (zR (s2 + 1)) (List.drop (Int.toNat s2) x6)) s2).bind fun _ =>
 some (.inl (List.set (zIk x6 (zR (s2 + 1)) (List.drop (Int.toNat s2) x6)) (Int.toNat s2) x1, zR (s1.2 + 1)))
 else
 some (.inr s1.1)
def zLP (y0 : List zO) : Option (List zO) :=
 zV (zIP y0) (([] : List zO), 0)
def zEC (s2 : Int × Int × (List vU)) (r2 : zO × Int) (s5 : Bool × Int) : Option ((Bool × Int) ⊕ Bool) :=
 if decide (s5.2 < (len s2.2.2)) then
 (zI s2.2.2 s5.2).bind fun x1 =>
 some (.inl (s5.1 || (x1.1 == r2.1), zR (s5.2 + 1)))
 else
 some (.inr s5.1)
def zGm (y0 : uQ) (y1 : Int) (s2 : Int × Int × (List vU)) : Option ((Int × Int × (List vU)) ⊕ (Int × (List vU))) :=
 if decide (0 < s2.1) then
 (zCW (y0.1, s2.2.1) y1).bind fun r2 =>
 (zIw (y0.1, r2.2) ([1, 2, 2, 2, 3] : List Int)).bind fun r3 =>
 (zJ0 (y0.1, r3.2) ([[], [], [97, 110, 110], [98, 111, 98]] : List qI)).bind fun r4 =>
 (
 if r3.1 == 2 then
 (xR (y0.1, r4.2) 4).bind fun r5 =>
 some (r5.2, r5.1)
 else
 some (r4.2, 0) : Option (Int × Int)).bind fun s3 =>
 (zV (zEC s2 r2) (false, 0) : Option Bool).bind fun s4 =>
 if !s4 then
 (wE s2.2.2 ([(r2.1, r3.1, s3.2, r4.1)] : List vU)).bind fun x2 =>
 some (.inl (zR (s2.1 - 1), s3.1, x2))
 else
 some (.inl (zR (s2.1 - 1), s3.1, s2.2.2))
 else
 some (.inr (s2.2.1, s2.2.2))
def zG9 (y0 : uQ) (y1 : Int) (y3 : Int) (s7 : Int × Int × (List wC)) : Option ((Int × Int × (List wC)) ⊕ (Int × (List wC))) :=
 if decide (0 < s7.1) then
 (zEn (len s7.2.2)).bind fun r7 =>
 (xR (y0.1, s7.2.1) 3).bind fun r8 =>
 (zF6 (y0.1, r8.2) 2 y1).bind fun r9 =>
 (zLP r9.1).bind fun r10 =>
 (zCW (y0.1, r9.2) y1).bind fun r11 =>
 (
 if !(r8.1 == 0) then
 (xR (y0.1, r11.2) 4).bind fun r12 =>
 some (r12.2, r12.1)
 else
 some (r11.2, 0) : Option (Int × Int)).bind fun s8 =>
 (
 (xR (y0.1, s8.1) 6).bind fun r13 =>
 if r13.1 == 5 then
 (xR (y0.1, r13.2) 4).bind fun r14 =>
 (xR (y0.1, r14.2) y3).bind fun r15 =>
 (zEn r15.1).bind fun r16 =>
 some (r15.2, decide (0 < r14.1), r16)
 else
 some (r13.2, r11.1.1, r11.1.2) : Option (Int × Bool × qI)).bind fun s9 =>
 (wE s7.2.2 ([(r7, r8.1 == 0, s8.2, r10, (s9.2.1, s9.2.2))] : List wC)).bind fun x3 =>
 some (.inl (zR (s7.1 - 1), s9.1, x3))
 else
 some (.inr (s7.2.1, s7.2.2))
def zGb (s6 : Int × (List wC)) (y0 : uQ) (y1 : Int) (s11 : Int × Int × (List vG)) : Option ((Int × Int × (List vG)) ⊕ (Int × (List vG))) :=
 if (decide (0 < s11.1)) && (decide (0 < (len s6.2))) then
 (
 (xR (y0.1, s11.2.1) (len s6.2)).bind fun r18 =>
 (zI s6.2 r18.1).bind fun x4 =>
 some (r18.2, x4) : Option (Int × wC)).bind fun s12 =>
 if !s12.2.2.1 then
 (xR (y0.1, s12.1) 10).bind fun r20 =>
 (zCW (y0.1, r20.2) y1).bind fun r21 =>
 (wE s11.2.2 ([(s12.2.1, r20.1, r21.1)] : List vG)).bind fun x6 =>
 some (.inl (zR (s11.1 - 1), r21.2, x6))
 else
 some (.inl (zR (s11.1 - 1), s12.1, s11.2.2))
 else
 some (.inr (s11.2.1, s11.2.2))
def zJO (y0 : uQ) (y1 : Int) (y2 : Int) (y3 : Int) : Option (zT × Int) :=
 (
 (xR y0 (zR (y2 + 1))).bind fun r1 =>
 zV (zGm y0 y1) (r1.1, r1.2, ([] : List vU)) : Option (Int × (List vU))).bind fun s1 =>
 (
 (xR (y0.1, s1.1) (zR (y3 + 1))).bind fun r6 =>
 zV (zG9 y0 y1 y3) (r6.1, r6.2, ([] : List wC)) : Option (Int × (List wC))).bind fun s6 =>
 (
 (xR (y0.1, s6.1) 3).bind fun r17 =>
 zV (zGb s6 y0 y1) (r17.1, r17.2, ([] : List vG)) : Option (Int × (List vG))).bind fun s10 =>
 some ((s1.2, s6.2, s10.2), s10.1)
def zKL (y0 : List zO) (y1 : zO) (s1 : Int) : Option (Int ⊕ Bool) :=
 if decide (s1 < (len y0)) then
 (zI y0 s1).bind fun x1 =>
 if x1 == y1 then
 some (.inr true)
 else
 some (.inl (zR (s1 + 1)))
 else
 some (.inr false)
def zHS (y0 : List zO) (y1 : zO) : Option Bool :=
 zV (zKL y0 y1) 0
def zJW (y0 : zT) (s3 : Int × (List wC)) : Option ((Int × (List wC)) ⊕ (List wC)) :=
 if decide (s3.1 < (len y0.2.1)) then
 (zI y0.2.1 s3.1).bind fun x27 =>
 (wE ([] : List zO) x27.2.2.2.1).bind fun x28 =>
 (wE s3.2 ([(x27.1, x27.2.1, x27.2.2.1, x28, x27.2.2.2.2)] : List wC)).bind fun x29 =>
 some (.inl (zR (s3.1 + 1), x29))
 else
 some (.inr s3.2)
def zMR (y0 : zT) : Option zT :=
 (
 (wE ([] : List vU) y0.1).bind fun x1 =>
 (wE ([] : List vG) y0.2.2).bind fun x2 =>
 some (x1, ([] : List wC), x2) : Option zT).bind fun s1 =>
 (zV (zJW y0) (0, s1.2.1) : Option (List wC)).bind fun s2 =>
 some (s1.1, s2, s1.2.2)
def zJ6 (y0 : zT) (s2 : Int × (List wC)) (y1 : List zO) (s3 : Int × (List wC)) : Option ((Int × (List wC)) ⊕ ((Int × (List wC)) ⊕ (List wC))) :=
 if decide (s3.1 < (len y0.2.2)) then
 (zI y0.2.2 s3.1).bind fun x1 =>
 (
 (zI s3.2 s2.1).bind fun x2 =>
 if x1.1 == x2.1 then
 (zI s3.2 s2.1).bind fun x3 =>
 if !x3.2.1 then
 (zHS y1 x1.2.2).bind fun r2 =>
 some r2
 else
 some false
 else
 some false : Option Bool).bind fun s4 =>
 if s4 then
 (zI s3.2 s2.1).bind fun x4 =>
 some (.inl (zR (s3.1 + 1), List.set s3.2 (Int.toNat s2.1) (x4.1, x4.2.1, x1.2.1, x4.2.2.2.1, x4.2.2.2.2)))
 else
 some (.inl (zR (s3.1 + 1), s3.2))
 else
 some (.inr (.inl (zR (s2.1 + 1), s3.2)))
def zGq (y0 : zT) (y1 : List zO) (s2 : Int × (List wC)) : Option ((Int × (List wC)) ⊕ (List wC)) :=
 if decide (s2.1 < (len s2.2)) then
 zV (zJ6 y0 s2 y1) (0, s2.2)
 else
 some (.inr s2.2)
def zJ1 (y0 : zT) (y1 : List zO) : Option zT :=
 (zMR y0).bind fun r1 =>
 (zV (zGq y0 y1) (0, r1.2.1) : Option (List wC)).bind fun s1 =>
 some (r1.1, s1, r1.2.2)
def zE8 (y0 : qI) (s2 : Int) : Option (Int ⊕ Bool) :=
 if decide (s2 < (len y0)) then
 (
 (tP y0 s2).bind fun x3 =>
 if decide (x3 < 97) then
 (tP y0 s2).bind fun x4 =>
 if decide (x4 < 48) then
 (tP y0 s2).bind fun x5 =>
 some (x5 != 95)
 else
 (tP y0 s2).bind fun x6 =>
 if decide (57 < x6) then
 (tP y0 s2).bind fun x7 =>
 some (x7 != 95)
 else
 some false
 else
 (tP y0 s2).bind fun x8 =>
 if decide (122 < x8) then
 (tP y0 s2).bind fun x9 =>
 if decide (x9 < 48) then
 (tP y0 s2).bind fun x10 =>
 some (x10 != 95)
 else
 (tP y0 s2).bind fun x11 =>
 if decide (57 < x11) then
 (tP y0 s2).bind fun x12 =>
 some (x12 != 95)
 else
 some false
 else
 some false : Option Bool).bind fun s3 =>
 if s3 then
 some (.inr false)
 else
 some (.inl (zR (s2 + 1)))
 else
 some (.inr true)
def zCi (y0 : qI) : Option Bool :=
 (
 if decide ((len y0) < 1) then
 some true
 else
 if decide (12 < (len y0)) then
 some true
 else
 (tP y0 0).bind fun x1 =>
 if decide (x1 < 97) then
 some true
 else
 (tP y0 0).bind fun x2 =>
 some (decide (122 < x2)) : Option Bool).bind fun s1 =>
 if s1 then
 some false
 else
 zV (zE8 y0) 0
def zDy (y0 : zO) : Option Bool :=
 (zCi y0.2).bind fun r1 =>
 some r1
def zJQ (y0 : zT) (y1 : qI) (s1 : Int) : Option (Int ⊕ Int) :=
 if decide (s1 < (len y0.2.1)) then
 (zI y0.2.1 s1).bind fun x1 =>
 if x1.1 == y1 then
 some (.inr s1)
 else
 some (.inl (zR (s1 + 1)))
 else
 some (.inr (-1))
def zMW (y0 : zT) (y1 : qI) : Option Int :=
 zV (zJQ y0 y1) 0
def zGj (y0 : zT) (y1 : zO) (s1 : Int) : Option (Int ⊕ Int) :=
 if decide (s1 < (len y0.1)) then
 (zI y0.1 s1).bind fun x1 =>
 if x1.1 == y1 then
 some (.inr s1)
 else
 some (.inl (zR (s1 + 1)))
 else
 some (.inr (-1))
def zLV (y0 : zT) (y1 : zO) : Option Int :=
 zV (zGj y0 y1) 0
def zHL (y0 : Int) : Option Bool :=
 some ((decide (0 ≤ y0)) && (decide (y0 ≤ 9)))
def zIx (y0 : vU) : Option Int :=
 if (decide (y0.2.1 < 1)) || (decide (3 < y0.2.1)) then
 some 4
 else
 (
 (zDy y0.1).bind fun r1 =>
 if !r1 then
 some true
 else
 (zHL y0.2.2.1).bind fun r2 =>
 if !r2 then
 some true
 else
 if y0.2.1 != 2 then
 if y0.2.2.1 != 0 then
 some true
 else
 if !(y0.2.2.2 == []) then
 (zCi y0.2.2.2).bind fun r3 =>
 some (!r3)
 else
 some false
 else
 if !(y0.2.2.2 == []) then
 (zCi y0.2.2.2).bind fun r4 =>
 some (!r4)
 else
 some false : Option Bool).bind fun s1 =>
 if s1 then
 some 1
 else
 some 0
def zHU (y0 : zO) (y1 : zO) : Option Int :=
 if y0 == y1 then
 some 0
 else
 if (uM y0.2 y1.2) || ((y0.2 == y1.2) && y1.1) then
 some (-1)
 else
 some 1
def zJI (y0 : wC) (s3 : Bool × Int) : Option ((Bool × Int) ⊕ Bool) :=
 if decide (s3.2 < (len y0.2.2.2.1)) then
 (
 if s3.1 then
 (zI y0.2.2.2.1 s3.2).bind fun x1 =>
 (zDy x1).bind fun r5 =>
 some r5
 else
 some false : Option Bool).bind fun s4 =>
 some (.inl (s4, zR (s3.2 + 1)))
 else
 some (.inr s3.1)
def zJG (y0 : wC) (s5 : Int) : Option (Int ⊕ Int) :=
 if decide (s5 < (len y0.2.2.2.1)) then
 (zI y0.2.2.2.1 (zR (s5 - 1))).bind fun x2 =>
 (zI y0.2.2.2.1 s5).bind fun x3 =>
 (zHU x2 x3).bind fun r6 =>
 if decide (0 ≤ r6) then
 some (.inr 8)
 else
 some (.inl (zR (s5 + 1)))
 else
 some (.inr 0)
def zMY (y0 : wC) : Option Int :=
 if decide (4 < (len y0.2.2.2.1)) then
 some 2
 else
 (
 (zCi y0.1).bind fun r1 =>
 if r1 then
 (zHL y0.2.2.1).bind fun r2 =>
 if r2 then
 if !y0.2.1 then
 (zDy y0.2.2.2.2).bind fun r3 =>
 some r3
 else
 if y0.2.2.1 == 0 then
 (zDy y0.2.2.2.2).bind fun r4 =>
 some r4
 else
 some false
 else
 some false
 else
 some false : Option Bool).bind fun s1 =>
 (zV (zJI y0) (s1, 0) : Option Bool).bind fun s2 =>
 if !s2 then
 some 1
 else
 zV (zJG y0) 1
def zFg (y0 : zT) (s2 : Int) : Option (Int ⊕ (Unit ⊕ Int)) :=
 if decide (s2 < (len y0.1)) then
 (zI y0.1 s2).bind fun x1 =>
 (zIx x1).bind fun r1 =>
 if r1 != 0 then
 some (.inr (.inr r1))
 else
 (zI y0.1 s2).bind fun x2 =>
 (zLV y0 x2.1).bind fun r2 =>
 if decide (r2 < s2) then
 some (.inr (.inr 5))
 else
 some (.inl (zR (s2 + 1)))
 else
 some (.inr (.inl ()))
def zF1 (y0 : zT) (s4 : Int) : Option (Int ⊕ (Unit ⊕ Int)) :=
 if decide (s4 < (len y0.2.1)) then
 (zI y0.2.1 s4).bind fun x3 =>
 (zMY x3).bind fun r3 =>
 if r3 != 0 then
 some (.inr (.inr r3))
 else
 (zI y0.2.1 s4).bind fun x4 =>
 (zMW y0 x4.1).bind fun r4 =>
 if decide (r4 < s4) then
 some (.inr (.inr 5))
 else
 some (.inl (zR (s4 + 1)))
 else
 some (.inr (.inl ()))
def zFh (y0 : zT) (s5 : Int) : Option (Int ⊕ Int) :=
 if decide (s5 < (len y0.2.2)) then
 (zI y0.2.2 s5).bind fun x5 =>
 (
 (zHL x5.2.1).bind fun r5 =>
 if !r5 then
 some true
 else
 (zDy x5.2.2).bind fun r6 =>
 some (!r6) : Option Bool).bind fun s6 =>
 if s6 then
 some (.inr 1)
 else
 (zMW y0 x5.1).bind fun r7 =>
 if decide (r7 < 0) then
 some (.inr 6)
 else
 (zI y0.2.1 r7).bind fun x6 =>
 if x6.2.1 then
 some (.inr 4)
 else
 some (.inl (zR (s5 + 1)))
 else
 some (.inr 0)
def zGH (y0 : zT) : Option Int :=
 if (decide (16 < (len y0.1))) || ((decide (24 < (len y0.2.1))) || (decide (8 < (len y0.2.2)))) then
 some 2
 else
 yZ (zV (zFg y0) 0 : Option (Unit ⊕ Int)) fun _ =>
 yZ (zV (zF1 y0) 0 : Option (Unit ⊕ Int)) fun _ =>
 zV (zFh y0) 0
def zEb (y0 : List Int) (y1 : Int) (s2 : Int) : Option (Int ⊕ Int) :=
 (
 if decide (s2 < (len y0)) then
 (zI y0 s2).bind fun x1 =>
 some (decide (x1 < y1))
 else
 some false : Option Bool).bind fun s3 =>
 if s3 then
 some (.inl (zR (s2 + 1)))
 else
 some (.inr s2)
def zGU (y0 : List Int) (y1 : Int) : Option (List Int) :=
 (zV (zEb y0 y1) 0 : Option Int).bind fun s1 =>
 (
 if decide (s1 < (len y0)) then
 (zI y0 s1).bind fun x2 =>
 some (x2 == y1)
 else
 some false : Option Bool).bind fun s4 =>
 if s4 then
 some y0
 else
 (sub y0 0 s1).bind fun x3 =>
 (wE ([] : List Int) x3).bind fun x4 =>
 (sub y0 s1 (len y0)).bind fun x5 =>
 (wE x4 ([y1] : List Int)).bind fun x6 =>
 (wE x6 x5).bind fun x7 =>
 some x7
def zI1 (y1 : List Int) (s1 : (List Int) × Int) : Option (((List Int) × Int) ⊕ (List Int)) :=
 if decide (s1.2 < (len y1)) then
 (zI y1 s1.2).bind fun x1 =>
 (zGU s1.1 x1).bind fun r1 =>
 some (.inl (r1, zR (s1.2 + 1)))
 else
 some (.inr s1.1)
def zLG (y0 : List Int) (y1 : List Int) : Option (List Int) :=
 zV (zI1 y1) (y0, 0)
def zJV (y0 : List zK) (y1 : Int) (rec_ref07_Subs : (List zK) → Int → Option (List Int)) (s1 : (List Int) × Int) : Option (((List Int) × Int) ⊕ (List Int)) :=
 (zI y0 y1).bind fun x1 =>
 if decide (s1.2 < (len x1.2.2.1)) then
 (zI y0 y1).bind fun x2 =>
 (zI x2.2.2.1 s1.2).bind fun x3 =>
 (rec_ref07_Subs y0 x3).bind fun r1 =>
 (zLG s1.1 r1).bind fun r2 =>
 some (.inl (r2, zR (s1.2 + 1)))
 else
 some (.inr s1.1)
def zMT (rec_ref07_Subs : (List zK) → Int → Option (List Int)) (y0 : List zK) (y1 : Int) : Option (List Int) :=
 if (decide (y1 < 0)) || (decide ((len y0) ≤ y1)) then
 some ([] : List Int)
 else
 zV (zJV y0 y1 rec_ref07_Subs) (([y1] : List Int), 0)
def zHH : Nat → (List zK) → Int → Option (List Int)
 | 0 => fun _ _ => none
 | k + 1 => fun y0 y1 => zMT (zHH k) y0 y1
def zK2 (y0 : List zK) (y1 : Int) : Option (List Int) := zYF fun k => zHH k y0 y1
def zDv (r1 : (List Int)) (y1 : List zK) (y0 : zT) (s1 : (List Int) × Int) : Option (((List Int) × Int) ⊕ (List Int)) :=
 if decide (s1.2 < (len r1)) then
 (zI r1 s1.2).bind fun x1 =>
 (
 (zI y1 x1).bind fun x2 =>
 if decide (0 ≤ x2.2.1) then
 (zI y1 x1).bind fun x3 =>
 (zI y0.2.1 x3.2.1).bind fun x4 =>
 some (!x4.2.1)
 else
 some false : Option Bool).bind fun s2 =>
 if s2 then
 (zI y1 x1).bind fun x5 =>
 (zGU s1.1 x5.2.1).bind fun r2 =>
 some (.inl (r2, zR (s1.2 + 1)))
 else
 some (.inl (s1.1, zR (s1.2 + 1)))
 else
 some (.inr s1.1)
def zCs (y0 : zT) (y1 : List zK) (y2 : Int) : Option (List Int) :=
 (zK2 y1 y2).bind fun r1 =>
 zV (zDv r1 y1 y0) (([] : List Int), 0)
def zGW (y1 : List zK) (y2 : Int) (rec_ref07_Run : zT → (List zK) → Int → Option (List zO)) (y0 : zT) (s2 : (List zO) × Int) : Option (((List zO) × Int) ⊕ (List zO)) :=
 (zI y1 y2).bind fun x5 =>
 if decide (s2.2 < (len x5.2.2.1)) then
 (zI y1 y2).bind fun x6 =>
 (zI x6.2.2.1 s2.2).bind fun x7 =>
 (rec_ref07_Run y0 y1 x7).bind fun r1 =>
 (wE s2.1 r1).bind fun x8 =>
 some (.inl (x8, zR (s2.2 + 1)))
 else
 some (.inr s2.1)
def zIa (rec_ref07_Run : zT → (List zK) → Int → Option (List zO)) (y0 : zT) (y1 : List zK) (y2 : Int) : Option (List zO) :=
 (zI y1 y2).bind fun x1 =>
 (
 (zI y1 y2).bind fun x2 =>
 if decide (0 ≤ x2.2.1) then
 (zI y1 y2).bind fun x3 =>
 (zI y0.2.1 x3.2.1).bind fun x4 =>
 some x4.2.1
 else
 some false : Option Bool).bind fun s1 =>
 if s1 then
 zV (zGW y1 y2 rec_ref07_Run y0) (([x1.2.2.2] : List zO), 0)
 else
 some ([x1.2.2.2] : List zO)
def zCF : Nat → zT → (List zK) → Int → Option (List zO)
 | 0 => fun _ _ _ => none
 | k + 1 => fun y0 y1 y2 => zIa (zCF k) y0 y1 y2
def zN5 (y0 : zT) (y1 : List zK) (y2 : Int) : Option (List zO) := zYF fun k => zCF k y0 y1 y2
def zLD (y0 : List Int) (y1 : Int) (s1 : Int) : Option (Int ⊕ Bool) :=
 if decide (s1 < (len y0)) then
 (zI y0 s1).bind fun x1 =>
 if x1 == y1 then
 some (.inr true)
 else
 some (.inl (zR (s1 + 1)))
 else
 some (.inr false)
def zP7 (y0 : List Int) (y1 : Int) : Option Bool :=
 zV (zLD y0 y1) 0
def zHc (y3 : List Int) (x1 : wC) (y0 : zT) (y1 : List zK) (y2 : Int) (s1 : Int) : Option (Int ⊕ Bool) :=
 if decide (s1 < (len y3)) then
 (
 if x1.2.1 then
 (zI y3 s1).bind fun x2 =>
 (zN5 y0 y1 x2).bind fun r1 =>
 (zHS r1 x1.2.2.2.2).bind fun r2 =>
 if r2 then
 some true
 else
 if !x1.2.1 then
 (zI y3 s1).bind fun x3 =>
 (zCs y0 y1 x3).bind fun r3 =>
 (zP7 r3 y2).bind fun r4 =>
 some r4
 else
 some false
 else
 if !x1.2.1 then
 (zI y3 s1).bind fun x4 =>
 (zCs y0 y1 x4).bind fun r5 =>
 (zP7 r5 y2).bind fun r6 =>
 some r6
 else
 some false : Option Bool).bind fun s2 =>
 if s2 then
 some (.inr false)
 else
 some (.inl (zR (s1 + 1)))
 else
 some (.inr true)
def zGV (y0 : zT) (y1 : List zK) (y2 : Int) (y3 : List Int) : Option Bool :=
 (zI y0.2.1 y2).bind fun x1 =>
 zV (zHc y3 x1 y0 y1 y2) 0
def zE2 (y1 : Int) (y0 : List zK) (y2 : List zO) (y3 : List Int) (rec_ref07_choices_2 : (List zK) → Int → (List zO) → (List Int) → Option (List (List Int))) (s1 : (List (List Int)) × Int) : Option (((List (List Int)) × Int) ⊕ (List (List Int))) :=
 if decide (s1.2 < y1) then
 (zI y0 s1.2).bind fun x2 =>
 (zI y2 (len y3)).bind fun x3 =>
 if x2.2.2.2 == x3 then
 (sub y3 0 (len y3)).bind fun x4 =>
 (wE x4 ([s1.2] : List Int)).bind fun x5 =>
 (rec_ref07_choices_2 y0 y1 y2 x5).bind fun r1 =>
 (wE s1.1 r1).bind fun x6 =>
 some (.inl (x6, zR (s1.2 + 1)))
 else
 some (.inl (s1.1, zR (s1.2 + 1)))
 else
 some (.inr s1.1)
def zHa (rec_ref07_choices_2 : (List zK) → Int → (List zO) → (List Int) → Option (List (List Int))) (y0 : List zK) (y1 : Int) (y2 : List zO) (y3 : List Int) : Option (List (List Int)) :=
 if (len y3) == (len y2) then
 (wE ([] : List Int) y3).bind fun x1 =>
 some ([x1] : List (List Int))
 else
 zV (zE2 y1 y0 y2 y3 rec_ref07_choices_2) (([] : List (List Int)), 0)
def zCh : Nat → (List zK) → Int → (List zO) → (List Int) → Option (List (List Int))
 | 0 => fun _ _ _ _ => none
 | k + 1 => fun y0 y1 y2 y3 => zHa (zCh k) y0 y1 y2 y3
def zKB (y0 : List zK) (y1 : Int) (y2 : List zO) (y3 : List Int) : Option (List (List Int)) := zYF fun k => zCh k y0 y1 y2 y3
def zHp (y0 : List Int) (y1 : Int) (s1 : Int) : Option (Int ⊕ Bool) :=
 if decide (s1 < (len y0)) then
 (zI y0 s1).bind fun x1 =>
 if decide (y1 ≤ x1) then
 some (.inr true)
 else
 some (.inl (zR (s1 + 1)))
 else
 some (.inr false)
def zMc (y0 : List Int) (y1 : Int) : Option Bool :=
 zV (zHp y0 y1) 0
def zFs (y0 : zT) (s2 : (List zK) × Int) : Option (((List zK) × Int) ⊕ (List zK)) :=
 if decide (s2.2 < (len y0.1)) then
 (zI y0.1 s2.2).bind fun x1 =>
 (wE s2.1 ([(s2.2, (-1), ([] : List Int), x1.1)] : List zK)).bind fun x2 =>
 some (.inl (x2, zR (s2.2 + 1)))
 else
 some (.inr s2.1)
def zGE (r2 : (List (List Int))) (s3 : (List zK) × Int × Int) (y0 : zT) (s4 : (List zK) × Int) (s5 : (List zK) × Int) : Option (((List zK) × Int) ⊕ (((List zK) × Int) ⊕ (((List zK) × Int × Int) ⊕ ((List zK) × Int)))) :=
 if decide (s5.2 < (len r2)) then
 (zI r2 s5.2).bind fun x4 =>
 (
 (zMc x4 s3.2.1).bind fun r3 =>
 if !r3 then
 if decide (1 < s3.2.2) then
 some true
 else
 if decide (0 < (len x4)) then
 some true
 else
 (zGV y0 s5.1 s4.2 x4).bind fun r4 =>
 some (!r4)
 else
 (zGV y0 s5.1 s4.2 x4).bind fun r5 =>
 some (!r5) : Option Bool).bind fun s6 =>
 if s6 then
 some (.inl (s5.1, zR (s5.2 + 1)))
 else
 (zI y0.2.1 s4.2).bind fun x5 =>
 (wE s5.1 ([((-1), s4.2, x4, x5.2.2.2.2)] : List zK)).bind fun x6 =>
 if decide (40 < (len x6)) then
 some (.inr (.inr (.inr (([] : List zK), 2))))
 else
 some (.inl (x6, zR (s5.2 + 1)))
 else
 some (.inr (.inl (s5.1, zR (s4.2 + 1))))
def zGB (y0 : zT) (s3 : (List zK) × Int × Int) (s4 : (List zK) × Int) : Option (((List zK) × Int) ⊕ (((List zK) × Int × Int) ⊕ ((List zK) × Int))) :=
 if decide (s4.2 < (len y0.2.1)) then
 (zI y0.2.1 s4.2).bind fun x3 =>
 (zKB s4.1 (len s3.1) x3.2.2.2.1 ([] : List Int)).bind fun r2 =>
 zV (zGE r2 s3 y0 s4) (s4.1, 0)
 else
 some (.inr (.inl (s4.1, len s3.1, zR (s3.2.2 + 1))))
def zDl (y0 : zT) (s3 : (List zK) × Int × Int) : Option (((List zK) × Int × Int) ⊕ ((List zK) × Int)) :=
 if (s3.2.2 == 1) || (decide (s3.2.1 < (len s3.1))) then
 zV (zGB y0 s3) (s3.1, 0)
 else
 some (.inr (s3.1, 0))
def zHk (y0 : zT) : Option ((List zK) × Int) :=
 (zGH y0).bind fun r1 =>
 if r1 != 0 then
 some (([] : List zK), r1)
 else
 (zV (zFs y0) (([] : List zK), 0) : Option (List zK)).bind fun s1 =>
 zV (zDl y0) (s1, 0, 1)
def zEo (y0 : List zO) (y1 : zO) (s2 : Int) : Option (Int ⊕ Int) :=
 (
 if decide (s2 < (len y0)) then
 (zI y0 s2).bind fun x1 =>
 (zHU x1 y1).bind fun r1 =>
 some (decide (r1 < 0))
 else
 some false : Option Bool).bind fun s3 =>
 if s3 then
 some (.inl (zR (s2 + 1)))
 else
 some (.inr s2)
def zKP (y0 : List zO) (y1 : zO) : Option (List zO) :=
 (zV (zEo y0 y1) 0 : Option Int).bind fun s1 =>
 (
 if decide (s1 < (len y0)) then
 (zI y0 s1).bind fun x2 =>
 some (x2 == y1)
 else
 some false : Option Bool).bind fun s4 =>
 if s4 then
 some y0
 else
 (sub y0 0 s1).bind fun x3 =>
 (wE ([] : List zO) x3).bind fun x4 =>
 (sub y0 s1 (len y0)).bind fun x5 =>
 (wE x4 ([y1] : List zO)).bind fun x6 =>
 (wE x6 x5).bind fun x7 =>
 some x7
def zDc (y1 : List Int) (y0 : List zK) (s1 : (List zO) × Int) : Option (((List zO) × Int) ⊕ (List zO)) :=
 if decide (s1.2 < (len y1)) then
 (
 (zI y1 s1.2).bind fun x1 =>
 if decide (0 ≤ x1) then
 (zI y1 s1.2).bind fun x2 =>
 some (decide (x2 < (len y0)))
 else
 some false : Option Bool).bind fun s2 =>
 if s2 then
 (zI y1 s1.2).bind fun x3 =>
 (zI y0 x3).bind fun x4 =>
 (zKP s1.1 x4.2.2.2).bind fun r1 =>
 some (.inl (r1, zR (s1.2 + 1)))
 else
 some (.inl (s1.1, zR (s1.2 + 1)))
 else
 some (.inr s1.1)
def zF4 (y0 : List zK) (y1 : List Int) : Option (List zO) :=
 zV (zDc y1 y0) (([] : List zO), 0)
def zFe (r1 : (List Int)) (y0 : List zK) (s1 : (List Int) × Int) : Option (((List Int) × Int) ⊕ (List Int)) :=
 if decide (s1.2 < (len r1)) then
 (zI r1 s1.2).bind fun x1 =>
 (zI y0 x1).bind fun x2 =>
 if decide (0 ≤ x2.1) then
 (zI y0 x1).bind fun x3 =>
 (zGU s1.1 x3.1).bind fun r2 =>
 some (.inl (r2, zR (s1.2 + 1)))
 else
 some (.inl (s1.1, zR (s1.2 + 1)))
 else
 some (.inr s1.1)
def zGJ (y0 : List zK) (y1 : Int) : Option (List Int) :=
 (zK2 y0 y1).bind fun r1 =>
 zV (zFe r1 y0) (([] : List Int), 0)
def zGe (r1 : (List Int)) (y0 : zT) (s1 : Int) : Option (Int ⊕ Bool) :=
 if decide (s1 < (len r1)) then
 (zI r1 s1).bind fun x1 =>
 (zI y0.1 x1).bind fun x2 =>
 if x2.2.1 == 3 then
 some (.inr true)
 else
 some (.inl (zR (s1 + 1)))
 else
 some (.inr false)
def zJX (y0 : zT) (y1 : List zK) (y2 : Int) : Option Bool :=
 (zGJ y1 y2).bind fun r1 =>
 zV (zGe r1 y0) 0
def zJK (y1 : List zK) (y2 : Int) (rec_ref07_Last : zT → (List zK) → Int → Option (List Int)) (y0 : zT) (s2 : (List Int) × Int) : Option (((List Int) × Int) ⊕ (List Int)) :=
 (zI y1 y2).bind fun x5 =>
 if decide (s2.2 < (len x5.2.2.1)) then
 (zI y1 y2).bind fun x6 =>
 (zI x6.2.2.1 s2.2).bind fun x7 =>
 (rec_ref07_Last y0 y1 x7).bind fun r1 =>
 (zLG s2.1 r1).bind fun r2 =>
 some (.inl (r2, zR (s2.2 + 1)))
 else
 some (.inr s2.1)
def zMK (rec_ref07_Last : zT → (List zK) → Int → Option (List Int)) (y0 : zT) (y1 : List zK) (y2 : Int) : Option (List Int) :=
 (
 if decide (y2 < 0) then
 some true
 else
 if decide ((len y1) ≤ y2) then
 some true
 else
 (zI y1 y2).bind fun x1 =>
 some (decide (x1.2.1 < 0)) : Option Bool).bind fun s1 =>
 if s1 then
 some ([] : List Int)
 else
 (zI y1 y2).bind fun x2 =>
 (zI y0.2.1 x2.2.1).bind fun x3 =>
 if !x3.2.1 then
 (zI y1 y2).bind fun x4 =>
 some ([x4.2.1] : List Int)
 else
 zV (zJK y1 y2 rec_ref07_Last y0) (([] : List Int), 0)
def zH4 : Nat → zT → (List zK) → Int → Option (List Int)
 | 0 => fun _ _ _ => none
 | k + 1 => fun y0 y1 y2 => zMK (zH4 k) y0 y1 y2
def zOd (y0 : zT) (y1 : List zK) (y2 : Int) : Option (List Int) := zYF fun k => zH4 k y0 y1 y2
def zPj (r1 : (List Int)) (y0 : zT) (s1 : (List Int) × Int) : Option (((List Int) × Int) ⊕ (List Int)) :=
 if decide (s1.2 < (len r1)) then
 (zI r1 s1.2).bind fun x1 =>
 (zI y0.2.1 x1).bind fun x2 =>
 (wE s1.1 ([x2.2.2.1] : List Int)).bind fun x3 =>
 some (.inl (x3, zR (s1.2 + 1)))
 else
 some (.inr s1.1)
def zEr (y0 : zT) (y1 : List zK) (y2 : Int) : Option (List Int) :=
 (zOd y0 y1 y2).bind fun r1 =>
 zV (zPj r1 y0) (([] : List Int), 0)
def zJN (r1 : (List Int)) (y0 : zT) (s1 : (List Int) × Int) : Option (((List Int) × Int) ⊕ (List Int)) :=
 if decide (s1.2 < (len r1)) then
 (zI r1 s1.2).bind fun x1 =>
 (zI y0.1 x1).bind fun x2 =>
 if x2.2.1 == 2 then
 (zI y0.1 x1).bind fun x3 =>
 (wE s1.1 ([x3.2.2.1] : List Int)).bind fun x4 =>
 some (.inl (x4, zR (s1.2 + 1)))
 else
 if x2.2.1 == 3 then
 (wE s1.1 ([(-1)] : List Int)).bind fun x5 =>
 some (.inl (x5, zR (s1.2 + 1)))
 else
 some (.inl (s1.1, zR (s1.2 + 1)))
 else
 some (.inr s1.1)
def zCE (y0 : zT) (y1 : List zK) (y2 : Int) : Option (List Int) :=
 (zGJ y1 y2).bind fun r1 =>
 zV (zJN r1 y0) (([] : List Int), 0)
def zPn (r1 : (List Int)) (y0 : zT) (s1 : (List Int) × Int) : Option (((List Int) × Int) ⊕ (List Int)) :=
 if decide (s1.2 < (len r1)) then
 (zI r1 s1.2).bind fun x1 =>
 (zI y0.2.1 x1).bind fun x2 =>
 (wE s1.1 ([x2.2.2.1] : List Int)).bind fun x3 =>
 some (.inl (x3, zR (s1.2 + 1)))
 else
 some (.inr s1.1)
def zEt (y0 : zT) (y1 : List zK) (y2 : Int) : Option (List Int) :=
 (zCs y0 y1 y2).bind fun r1 =>
 zV (zPn r1 y0) (([] : List Int), 0)
def zFX (y0 : List Int) (s1 : Int × Int × Int) : Option ((Int × Int × Int) ⊕ (Int × Int)) :=
 if decide (s1.2.2 < (len y0)) then
 (zI y0 s1.2.2).bind fun x3 =>
 (zI y0 s1.2.2).bind fun x4 =>
 some (.inl (if x3 < s1.1 then x3 else s1.1, if x4 > s1.2.1 then x4 else s1.2.1, zR (s1.2.2 + 1)))
 else
 some (.inr (s1.1, s1.2.1))
def zFt (y0 : List Int) : Option (Int × Int) :=
 (zI y0 0).bind fun x1 =>
 (zI y0 0).bind fun x2 =>
 zV (zFX y0) (x1, x2, 1)
def zEk (y0 : List Int) (y1 : List Int) (y2 : Int) : Option Bool :=
 if if y2 != 1 then (y2 != 2) || ((len y0) == 0) else (len y0) == 0 then
 some false
 else
 if (len y1) == 0 then
 some true
 else
 (zFt y0).bind fun r1 =>
 (zFt y1).bind fun r2 =>
 if y2 == 1 then
 some (decide (r1.1 < r2.1))
 else
 some (decide (r1.2 < r2.2))
def zK5 (y0 : zT) (y1 : List zK) (y2 : Int) (y3 : Int) (y4 : yB) : Option Bool :=
 (
 if decide (y2 < 0) then
 some true
 else
 if decide ((len y1) ≤ y2) then
 some true
 else
 if decide (y3 < 0) then
 some true
 else
 if decide ((len y1) ≤ y3) then
 some true
 else
 (zJX y0 y1 y3).bind fun r1 =>
 some r1 : Option Bool).bind fun s1 =>
 if s1 then
 some false
 else
 (zCE y0 y1 y2).bind fun r2 =>
 (zCE y0 y1 y3).bind fun r3 =>
 (zEk r2 r3 y4.2).bind fun r4 =>
 if y4.1 == 1 then
 (zEr y0 y1 y2).bind fun r5 =>
 (zEr y0 y1 y3).bind fun r6 =>
 (
 (zEk r5 r6 y4.2).bind fun r7 =>
 if r7 then
 some true
 else
 if (len r5) == 0 then
 if (len r6) == 0 then
 some r4
 else
 some false
 else
 some false : Option Bool).bind fun s2 =>
 some s2
 else
 if y4.1 == 2 then
 (zEt y0 y1 y2).bind fun r8 =>
 (zEt y0 y1 y3).bind fun r9 =>
 if ((len r8) == 0) && ((len r9) == 0) then
 some r4
 else
 (zEk r8 r9 y4.2).bind fun r10 =>
 (
 (zCE y0 y1 y2).bind fun r11 =>
 if (len r11) == 0 then
 (zCE y0 y1 y3).bind fun r12 =>
 some ((len r12) == 0)
 else
 some false : Option Bool).bind fun s3 =>
 if s3 then
 some r10
 else
 some (r4 && r10)
 else
 some false
def zJ5 (y0 : zO) : Option zO :=
 some (!y0.1, y0.2)
def zJA (y0 : zT) (y1 : List zK) (y2 : Int) (y3 : Int) (y4 : Int) : Option Bool :=
 (zI y1 y2).bind fun x1 =>
 (zI y1 y3).bind fun x2 =>
 (zJ5 x2.2.2.2).bind fun r1 =>
 (zI y1 y3).bind fun x3 =>
 if decide (x3.2.1 < 0) then
 (
 if y4 == 1 then
 (zI y1 y3).bind fun x4 =>
 (zI y0.1 x4.1).bind fun x5 =>
 if x5.2.1 != 1 then
 some (x1.2.2.2 == r1)
 else
 some false
 else
 some false : Option Bool).bind fun s1 =>
 some s1
 else
 (zI y1 y3).bind fun x6 =>
 (zI y0.2.1 x6.2.1).bind fun x7 =>
 if y4 == 2 then
 some ((!x7.2.1) && (x1.2.2.2 == r1))
 else
 if y4 == 3 then
 (
 if !x7.2.1 then
 (zI y1 y2).bind fun x8 =>
 some (x8.2.2.2 == (true, x7.1))
 else
 some false : Option Bool).bind fun s2 =>
 some s2
 else
 some false
def zDu (y0 : zT) (y1 : List zK) (s1 : (List wA) × Int) (x1 : Int) (s2 : (List wA) × Int) (s3 : (List wA) × Int) (s4 : (List wA) × Int) : Option (((List wA) × Int) ⊕ (((List wA) × Int) ⊕ (((List wA) × Int) ⊕ (((List wA) × Int) ⊕ (List wA))))) :=
 if decide (s4.2 ≤ 3) then
 (zJA y0 y1 s1.2 x1 s4.2).bind fun r2 =>
 if r2 then
 (wE s4.1 ([(s1.2, s2.2, x1, s4.2)] : List wA)).bind fun x2 =>
 some (.inl (x2, zR (s4.2 + 1)))
 else
 some (.inl (s4.1, zR (s4.2 + 1)))
 else
 some (.inr (.inl (s4.1, zR (s3.2 + 1))))
def zGg (r1 : (List Int)) (y0 : zT) (y1 : List zK) (s1 : (List wA) × Int) (s2 : (List wA) × Int) (s3 : (List wA) × Int) : Option (((List wA) × Int) ⊕ (((List wA) × Int) ⊕ (((List wA) × Int) ⊕ (List wA)))) :=
 if decide (s3.2 < (len r1)) then
 (zI r1 s3.2).bind fun x1 =>
 zV (zDu y0 y1 s1 x1 s2 s3) (s3.1, 1)
 else
 some (.inr (.inl (s3.1, zR (s2.2 + 1))))
def zGk (y1 : List zK) (y0 : zT) (s1 : (List wA) × Int) (s2 : (List wA) × Int) : Option (((List wA) × Int) ⊕ (((List wA) × Int) ⊕ (List wA))) :=
 if decide (s2.2 < (len y1)) then
 (zK2 y1 s2.2).bind fun r1 =>
 zV (zGg r1 y0 y1 s1 s2) (s2.1, 0)
 else
 some (.inr (.inl (s2.1, zR (s1.2 + 1))))
def zGs (y1 : List zK) (y0 : zT) (s1 : (List wA) × Int) : Option (((List wA) × Int) ⊕ (List wA)) :=
 if decide (s1.2 < (len y1)) then
 zV (zGk y1 y0 s1) (s1.1, 0)
 else
 some (.inr s1.1)
def zJ7 (y0 : zT) (y1 : List zK) : Option (List wA) :=
 zV (zGs y1 y0) (([] : List wA), 0)
def zGl (r1 : (List wA)) (y0 : zT) (y1 : List zK) (y2 : yB) (s1 : (List wA) × Int) : Option (((List wA) × Int) ⊕ (List wA)) :=
 if decide (s1.2 < (len r1)) then
 (
 (zI r1 s1.2).bind fun x1 =>
 if x1.2.2.2 == 3 then
 some true
 else
 (zI r1 s1.2).bind fun x2 =>
 (zI r1 s1.2).bind fun x3 =>
 (zK5 y0 y1 x2.1 x3.2.2.1 y2).bind fun r2 =>
 some (!r2) : Option Bool).bind fun s2 =>
 if s2 then
 (zI r1 s1.2).bind fun x4 =>
 (wE s1.1 ([x4] : List wA)).bind fun x5 =>
 some (.inl (x5, zR (s1.2 + 1)))
 else
 some (.inl (s1.1, zR (s1.2 + 1)))
 else
 some (.inr s1.1)
def zH0 (y0 : zT) (y1 : List zK) (y2 : yB) : Option (List wA) :=
 (zJ7 y0 y1).bind fun r1 =>
 zV (zGl r1 y0 y1 y2) (([] : List wA), 0)
def zFr (y1 : List wA) (y0 : Int) (s2 : Int) : Option (Int ⊕ (Unit ⊕ (wH × Int))) :=
 if decide (s2 < (len y1)) then
 (
 (zI y1 s2).bind fun x1 =>
 if decide (x1.1 < 0) then
 some true
 else
 (zI y1 s2).bind fun x2 =>
 if decide (y0 ≤ x2.1) then
 some true
 else
 (zI y1 s2).bind fun x3 =>
 if decide (x3.2.1 < 0) then
 some true
 else
 (zI y1 s2).bind fun x4 =>
 some (decide (y0 ≤ x4.2.1)) : Option Bool).bind fun s3 =>
 if s3 then
 some (.inr (.inr ((0, ([] : List qW)), 1)))
 else
 some (.inl (zR (s2 + 1)))
 else
 some (.inr (.inl ()))
def zGK (y1 : List wA) (s5 : Int × (List qW)) (s6 : Int × (List qW)) (s8 : Bool × Int) : Option ((Bool × Int) ⊕ Bool) :=
 if decide (s8.2 < (len y1)) then
 (
 if s8.1 then
 some true
 else
 (zI y1 s8.2).bind fun x5 =>
 if x5.1 == s5.1 then
 (zI y1 s8.2).bind fun x6 =>
 some (x6.2.1 == s6.1)
 else
 some false : Option Bool).bind fun s9 =>
 some (.inl (s9, zR (s8.2 + 1)))
 else
 some (.inr s8.1)
def zGQ (y0 : Int) (y1 : List wA) (s5 : Int × (List qW)) (s6 : Int × (List qW)) : Option ((Int × (List qW)) ⊕ ((Int × (List qW)) ⊕ (List qW))) :=
 if decide (s6.1 < y0) then
 (zV (zGK y1 s5 s6) (false, 0) : Option Bool).bind fun s7 =>
 if s7 then
 (wE s6.2 ([(s5.1, s6.1)] : List qW)).bind fun x7 =>
 some (.inl (zR (s6.1 + 1), x7))
 else
 some (.inl (zR (s6.1 + 1), s6.2))
 else
 some (.inr (.inl (zR (s5.1 + 1), s6.2)))
def zFk (y0 : Int) (y1 : List wA) (s5 : Int × (List qW)) : Option ((Int × (List qW)) ⊕ (List qW)) :=
 if decide (s5.1 < y0) then
 zV (zGQ y0 y1 s5) (0, s5.2)
 else
 some (.inr s5.2)
def zJR (y0 : Int) (y1 : List wA) : Option (wH × Int) :=
 if (decide (y0 < 0)) || (decide (40 < y0)) then
 some ((0, ([] : List qW)), 1)
 else
 yZ (zV (zFr y1 y0) 0 : Option (Unit ⊕ (wH × Int))) fun _ =>
 (zV (zFk y0 y1) (0, ([] : List qW)) : Option (List qW)).bind fun s4 =>
 some ((y0, s4), 0)
def zUA (y0 : List Int) (y1 : Int) (s1 : (List Int) × Int) : Option (((List Int) × Int) ⊕ (List Int)) :=
 if decide (s1.2 < (len y0)) then
 (zI y0 s1.2).bind fun x1 =>
 if x1 == y1 then
 (wE s1.1 ([s1.2] : List Int)).bind fun x2 =>
 some (.inl (x2, zR (s1.2 + 1)))
 else
 some (.inl (s1.1, zR (s1.2 + 1)))
 else
 some (.inr s1.1)
def zOg (y0 : List Int) (y1 : Int) : Option (List Int) :=
 zV (zUA y0 y1) (([] : List Int), 0)
def zFi (y0 : wH) (s1 : Int) : Option (Int ⊕ Int) :=
 if decide (s1 < (len y0.2)) then
 (zI y0.2 s1).bind fun x1 =>
 if (decide (x1.1 < 0)) || ((decide (y0.1 ≤ x1.1)) || ((decide (x1.2 < 0)) || (decide (y0.1 ≤ x1.2)))) then
 some (.inr 1)
 else
 (
 if decide (0 < s1) then
 (zI y0.2 (zR (s1 - 1))).bind fun x2 =>
 if decide (x1.1 < x2.1) then
 some true
 else
 (zI y0.2 (zR (s1 - 1))).bind fun x3 =>
 if x3.1 == x1.1 then
 (zI y0.2 (zR (s1 - 1))).bind fun x4 =>
 some (decide (x1.2 ≤ x4.2))
 else
 some false
 else
 some false : Option Bool).bind fun s2 =>
 if s2 then
 some (.inr 8)
 else
 some (.inl (zR (s1 + 1)))
 else
 some (.inr 0)
def zDm (y0 : wH) : Option Int :=
 if (decide (y0.1 < 0)) || (decide (40 < y0.1)) then
 some 1
 else
 zV (zFi y0) 0
def zLF (y0 : wH) : Option wH :=
 (zDm y0).bind fun r1 =>
 if r1 != 0 then
 some (0, ([] : List qW))
 else
 some y0
def zEZ (r1 : wH) (y1 : Int) (s1 : (List Int) × Int) : Option (((List Int) × Int) ⊕ (List Int)) :=
 if decide (s1.2 < (len r1.2)) then
 (zI r1.2 s1.2).bind fun x1 =>
 if x1.2 == y1 then
 (zI r1.2 s1.2).bind fun x2 =>
 (wE s1.1 ([x2.1] : List Int)).bind fun x3 =>
 some (.inl (x3, zR (s1.2 + 1)))
 else
 some (.inl (s1.1, zR (s1.2 + 1)))
 else
 some (.inr s1.1)
def zEx (y0 : wH) (y1 : Int) : Option (List Int) :=
 (zLF y0).bind fun r1 =>
 zV (zEZ r1 y1) (([] : List Int), 0)
def zGM (y0 : wH) (s2 : (List Int) × (List Int) × Int) : Option (((List Int) × (List Int) × Int) ⊕ ((List Int) × (List Int))) :=
 if decide (s2.2.2 < y0.1) then
 (wE s2.1 ([3] : List Int)).bind fun x1 =>
 (wE s2.2.1 ([0] : List Int)).bind fun x2 =>
 some (.inl (x1, x2, zR (s2.2.2 + 1)))
 else
 some (.inr (s2.1, s2.2.1))
def zGR (r1 : (List Int)) (x3 : List Int) (s7 : Bool × Int) : Option ((Bool × Int) ⊕ Bool) :=
 if decide (s7.2 < (len r1)) then
 (zI r1 s7.2).bind fun x5 =>
 (
 if s7.1 then
 (zI x3 x5).bind fun x6 =>
 some (x6 == 2)
 else
 some false : Option Bool).bind fun s8 =>
 some (.inl (s8, zR (s7.2 + 1)))
 else
 some (.inr s7.1)
def zFw (y0 : wH) (x3 : List Int) (s3 : (List Int) × (List Int) × Int) (s5 : (List Int) × (List Int) × Bool × Int) : Option (((List Int) × (List Int) × Bool × Int) ⊕ ((List Int) × (List Int) × Bool)) :=
 if decide (s5.2.2.2 < y0.1) then
 (zI x3 s5.2.2.2).bind fun x4 =>
 (
 (zEx y0 s5.2.2.2).bind fun r1 =>
 zV (zGR r1 x3) (x4 == 3, 0) : Option Bool).bind fun s6 =>
 if s6 then
 (zI s5.1 s5.2.2.2).bind fun _ =>
 (zI s5.2.1 s5.2.2.2).bind fun _ =>
 some (.inl (List.set s5.1 (Int.toNat s5.2.2.2) 1, List.set s5.2.1 (Int.toNat s5.2.2.2) s3.2.2, true, zR (s5.2.2.2 + 1)))
 else
 some (.inl (s5.1, s5.2.1, s5.2.2.1, zR (s5.2.2.2 + 1)))
 else
 some (.inr (s5.1, s5.2.1, s5.2.2.1))
def zGD (r2 : (List Int)) (s10 : (List Int) × (List Int) × Int) (s3 : (List Int) × (List Int) × Int) (s11 : (List Int) × (List Int) × Int) : Option (((List Int) × (List Int) × Int) ⊕ (((List Int) × (List Int) × Int) ⊕ ((List Int) × (List Int)))) :=
 if decide (s11.2.2 < (len r2)) then
 (zI r2 s11.2.2).bind fun x9 =>
 (
 (zI s11.1 s10.2.2).bind fun x10 =>
 if x10 == 3 then
 (zI s11.1 x9).bind fun x11 =>
 if x11 == 1 then
 (zI s11.2.1 x9).bind fun x12 =>
 some (x12 == s3.2.2)
 else
 some false
 else
 some false : Option Bool).bind fun s12 =>
 if s12 then
 (zI s11.1 s10.2.2).bind fun _ =>
 (zI s11.2.1 s10.2.2).bind fun _ =>
 some (.inl (List.set s11.1 (Int.toNat s10.2.2) 2, List.set s11.2.1 (Int.toNat s10.2.2) s3.2.2, zR (s11.2.2 + 1)))
 else
 some (.inl (s11.1, s11.2.1, zR (s11.2.2 + 1)))
 else
 some (.inr (.inl (s11.1, s11.2.1, zR (s10.2.2 + 1))))
def zFy (y0 : wH) (s3 : (List Int) × (List Int) × Int) (s10 : (List Int) × (List Int) × Int) : Option (((List Int) × (List Int) × Int) ⊕ ((List Int) × (List Int))) :=
 if decide (s10.2.2 < y0.1) then
 (zEx y0 s10.2.2).bind fun r2 =>
 zV (zGD r2 s10 s3) (s10.1, s10.2.1, 0)
 else
 some (.inr (s10.1, s10.2.1))
def zIZ (y0 : wH) (s3 : (List Int) × (List Int) × Int) : Option (((List Int) × (List Int) × Int) ⊕ ((List Int) × (List Int))) :=
 (wE ([] : List Int) s3.1).bind fun x3 =>
 (zV (zFw y0 x3 s3) (s3.1, s3.2.1, false, 0) : Option ((List Int) × (List Int) × Bool)).bind fun s4 =>
 (zV (zFy y0 s3) (s4.1, s4.2.1, 0) : Option ((List Int) × (List Int))).bind fun s9 =>
 if !s4.2.2 then
 some (.inr (s9.1, s9.2))
 else
 some (.inl (s9.1, s9.2, zR (s3.2.2 + 1)))
def zLI (y0 : wH) : Option ((List Int) × (List Int)) :=
 (zV (zGM y0) (([] : List Int), ([] : List Int), 0) : Option ((List Int) × (List Int))).bind fun s1 =>
 zV (zIZ y0) (s1.1, s1.2, 1)
def zLK (y0 : wH) : Option (List Int) :=
 (zLI y0).bind fun r1 =>
 some r1.1
def zD6 (y0 : zT) (y1 : yB) : Option (tZ × Int) :=
 (zHk y0).bind fun r1 =>
 if r1.2 != 0 then
 some (((([] : List vU), ([] : List wC), ([] : List vG)), ([] : List zK), ([] : List wA), (0, ([] : List qW))), r1.2)
 else
 if if y1.1 != 1 then (y1.1 != 2) || ((y1.2 != 1) && (y1.2 != 2)) else (y1.2 != 1) && (y1.2 != 2) then
 some (((([] : List vU), ([] : List wC), ([] : List vG)), ([] : List zK), ([] : List wA), (0, ([] : List qW))), 4)
 else
 (zH0 y0 r1.1 y1).bind fun r2 =>
 (zJR (len r1.1) r2).bind fun r3 =>
 (zLK r3.1).bind fun r4 =>
 (zOg r4 1).bind fun r5 =>
 (zF4 r1.1 r5).bind fun r6 =>
 (zJ1 y0 r6).bind fun r7 =>
 (zH0 r7 r1.1 y1).bind fun r8 =>
 (zJR (len r1.1) r8).bind fun r9 =>
 some ((r7, r1.1, r8, r9.1), 0)
def zKh (r1 : zT × Int) (x1 : yB) (s2 : Int × (List wC) × (List vG) × (List vU) × (List wC) × (List vG) × (List zK) × (List wA) × Int × (List qW)) : Option ((Int × (List wC) × (List vG) × (List vU) × (List wC) × (List vG) × (List zK) × (List wA) × Int × (List qW)) ⊕ (Int × (List vU) × (List wC) × (List vG) × (List zK) × (List wA) × Int × (List qW))) :=
 if (s2.1 != 0) || (decide (9 < (len s2.2.2.2.2.2.2.1))) then
 if (len s2.2.1) == 0 then
 some (.inr (s2.1, s2.2.2.2.1, s2.2.2.2.2.1, s2.2.2.2.2.2.1, s2.2.2.2.2.2.2.1, s2.2.2.2.2.2.2.2.1, s2.2.2.2.2.2.2.2.2.1, s2.2.2.2.2.2.2.2.2.2))
 else
 (sub s2.2.1 0 (zR ((len s2.2.1) - 1))).bind fun x2 =>
 (zD6 (r1.1.1, x2, ([] : List vG)) x1).bind fun r5 =>
 some (.inl (r5.2, x2, ([] : List vG), r5.1.1.1, r5.1.1.2.1, r5.1.1.2.2, r5.1.2.1, r5.1.2.2.1, r5.1.2.2.2.1, r5.1.2.2.2.2))
 else
 some (.inr (s2.1, s2.2.2.2.1, s2.2.2.2.2.1, s2.2.2.2.2.2.1, s2.2.2.2.2.2.2.1, s2.2.2.2.2.2.2.2.1, s2.2.2.2.2.2.2.2.2.1, s2.2.2.2.2.2.2.2.2.2))
def zLJ (y0 : uQ) : Option (tZ × Bool × Int) :=
 (zJO y0 3 4 5).bind fun r1 =>
 zKn.bind fun r2 =>
 (xR (y0.1, r1.2) 4).bind fun r3 =>
 (zI r2 r3.1).bind fun x1 =>
 (zD6 r1.1 x1).bind fun r4 =>
 (zV (zKh r1 x1) (r4.2, r1.1.2.1, r1.1.2.2, r4.1.1.1, r4.1.1.2.1, r4.1.1.2.2, r4.1.2.1, r4.1.2.2.1, r4.1.2.2.2.1, r4.1.2.2.2.2) : Option (Int × (List vU) × (List wC) × (List vG) × (List zK) × (List wA) × Int × (List qW))).bind fun s1 =>
 some (((s1.2.1, s1.2.2.1, s1.2.2.2.1), s1.2.2.2.2.1, s1.2.2.2.2.2.1, (s1.2.2.2.2.2.2.1, s1.2.2.2.2.2.2.2)), s1.1 == 0, r3.2)
def zF0 (r4 : (List zO) × Int) (x1 : List zO) (s3 : Int) (s4 : Int) : Option (Int ⊕ (Int ⊕ (Int ⊕ (Unit ⊕ Bool)))) :=
 if decide (s4 < (len r4.1)) then
 (zI r4.1 s4).bind fun x2 =>
 (zHS x1 x2).bind fun r8 =>
 if !r8 then
 some (.inr (.inr (.inr (.inr false))))
 else
 some (.inl (zR (s4 + 1)))
 else
 some (.inr (.inl (zR (s3 + 1))))
def zF5 (r7 : (List (List zO)) × Int) (r4 : (List zO) × Int) (s2 : Int) (s3 : Int) : Option (Int ⊕ (Int ⊕ (Unit ⊕ Bool))) :=
 if decide (s3 < (len r7.1)) then
 (zI r7.1 s3).bind fun x1 =>
 zV (zF0 r4 x1 s3) 0
 else
 some (.inr (.inl (zR (s2 + 1))))
def zC1 (r2 : tZ × Bool × Int) (r4 : (List zO) × Int) (s2 : Int) : Option (Int ⊕ (Unit ⊕ Bool)) :=
 if decide (s2 ≤ 5) then
 (zBT r2.1 s2).bind fun r7 =>
 if r7.2 != 0 then
 some (.inr (.inr false))
 else
 zV (zF5 r7 r4 s2) 0
 else
 some (.inr (.inl ()))
def zDM (r4 : (List zO) × Int) (r5 : (List zO) × Int) (s6 : Int) : Option (Int ⊕ (Unit ⊕ Bool)) :=
 if decide (s6 < (len r4.1)) then
 (zI r4.1 s6).bind fun x3 =>
 (zHS r5.1 x3).bind fun r9 =>
 if !r9 then
 some (.inr (.inr false))
 else
 some (.inl (zR (s6 + 1)))
 else
 some (.inr (.inl ()))
def zDP (r5 : (List zO) × Int) (r6 : (List zO) × Int) (s8 : Int) : Option (Int ⊕ (Unit ⊕ Bool)) :=
 if decide (s8 < (len r5.1)) then
 (zI r5.1 s8).bind fun x4 =>
 (zHS r6.1 x4).bind fun r10 =>
 if !r10 then
 some (.inr (.inr false))
 else
 some (.inl (zR (s8 + 1)))
 else
 some (.inr (.inl ()))
def zE4 (y0 : List Int) : Option Bool :=
 (zPc y0).bind fun r1 =>
 (zLJ r1).bind fun r2 =>
 if !r2.2.1 then
 zED.bind fun r3 =>
 some r3
 else
 (zBB r2.1 1 true).bind fun r4 =>
 (zBB r2.1 6 true).bind fun r5 =>
 (zBB r2.1 7 true).bind fun r6 =>
 if (r4.2 != 0) || ((r5.2 != 0) || (r6.2 != 0)) then
 some false
 else
 yZ (zV (zC1 r2 r4) 2 : Option (Unit ⊕ Bool)) fun _ =>
 yZ (zV (zDM r4 r5) 0 : Option (Unit ⊕ Bool)) fun _ =>
 yZ (zV (zDP r5 r6) 0 : Option (Unit ⊕ Bool)) fun _ =>
 zED.bind fun r11 =>
 some r11
end
end Go.GD
