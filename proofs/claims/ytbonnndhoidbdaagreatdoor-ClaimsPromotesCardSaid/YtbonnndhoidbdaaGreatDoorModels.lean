/- Models of the Go functions, printed by program (gd2). Conditions: none. -/
import Derived.Test.YtbonnndhoidbdaaGreatDoorLib
namespace Go.GD
set_option autoImplicit false
noncomputable section
set_option linter.unusedVariables false
abbrev zA4 := (List Int) × Int
abbrev zAB := Bool × Str
abbrev zAO := zAB × Int × Int × Str
abbrev zAL := Str × Bool × Int × (List zAB) × zAB
abbrev zAI := Str × Int × zAB
abbrev zAF := (List zAO) × (List zAL) × (List zAI)
abbrev zAP := Int × Int
abbrev zAA := Int × Int × (List Int) × zAB
abbrev zAM := Int × Int × Int × Int
abbrev zAT := Int × Int
abbrev zA3 := Int × (List zAT)
abbrev zDQ := zAF × (List zAA) × (List zAM) × zA3
abbrev zAK := zAF × (List zAA) × (List zAA) × Int
abbrev zA2 := (List Str) × Bool
def tab_rulebase_kinds : List Str := [[], [97, 120, 105, 111, 109], [112, 114, 101, 109, 105, 115, 101], [97, 115, 115, 117, 109, 101]]
def tab_math_bits_deBruijn64tab : List Int := [0, 1, 56, 2, 57, 49, 28, 3, 61, 58, 42, 50, 38, 29, 17, 4, 62, 47, 59, 36, 45, 43, 51, 22, 53, 39, 33, 30, 24, 18, 12, 5, 63, 55, 48, 27, 60, 41, 37, 16, 46, 35, 44, 21, 52, 32, 23, 11, 54, 26, 40, 15, 34, 20, 31, 10, 25, 14, 19, 9, 13, 8, 7, 6]
def zAx (y0 : List zAA) (y1 : Int) : Option Bool :=
 some ((decide (0 ≤ y1)) && (decide (y1 < (len y0))))
def zC4 (y0 : List zAB) : Option (List zAB) :=
 (app ([] : List zAB) y0).bind fun x1 =>
 some x1
def zJW (y0 : List zAB) (s1 : Int) (s3 : (List zAB) × Int × Int) : Option (((List zAB) × Int × Int) ⊕ ((List zAB) × Int)) :=
 if decide (s3.2.2 < ((Int.toNat (((List.length y0 : Nat) : Int) - s1) : Nat) : Int)) then
 (zQf s3.1 s1 s3.2.2).bind fun x3 =>
 (zQf s3.1 s1 (w64 (s3.2.2 - 1))).bind fun x4 =>
 if !(x3 == x4) then
 (zQf s3.1 s1 s3.2.2).bind fun x5 =>
 (idx s3.1 s3.2.1).bind fun _ =>
 some (.inl (List.set s3.1 (Int.toNat s3.2.1) x5, w64 (s3.2.1 + 1), w64 (s3.2.2 + 1)))
 else
 some (.inl (s3.1, s3.2.1, w64 (s3.2.2 + 1)))
 else
 some (.inr (s3.1, s3.2.1))
def zDW (y0 : List zAB) (s1 : Int) : Option (Int ⊕ (List zAB)) :=
 if decide (s1 < (len y0)) then
 (idx y0 s1).bind fun x1 =>
 (idx y0 (w64 (s1 - 1))).bind fun x2 =>
 if x1 == x2 then
 (chk (decide (0 ≤ s1) && decide (s1 ≤ len y0))).bind fun _ =>
 (zAm (zJW y0 s1) (y0, s1, 1) : Option ((List zAB) × Int)).bind fun s2 =>
 (chk (decide (0 ≤ s2.2) && decide (s2.2 ≤ len s2.1))).bind fun _ =>
 (sub (zCf s2.1 s2.2 (false, [])) 0 s2.2).bind fun x7 =>
 some (.inr x7)
 else
 some (.inl (w64 (s1 + 1)))
 else
 some (.inr y0)
def zB6 (y0 : List zAB) : Option (List zAB) :=
 if decide ((len y0) < 2) then
 some y0
 else
 zAm (zDW y0) 1
def zDt (y0 : Str) : Option Bool :=
 some (!(y0 == y0))
def zEX (y0 : Str) (y1 : Str) : Option Int :=
 (zDt y0).bind fun r1 =>
 (zDt y1).bind fun r2 =>
 if r1 then
 if r2 then
 some 0
 else
 some (-1)
 else
 if r2 then
 some 1
 else
 if zFT y0 y1 then
 some (-1)
 else
 if !(zFT y0 y1 || y0 == y1) then
 some 1
 else
 some 0
def zBm (y0 : zAB) (y1 : zAB) : Option Int :=
 (zEX y0.2 y1.2).bind fun r1 =>
 if (r1 != 0) || (y0.1 == y1.1) then
 some r1
 else
 if y1.1 then
 some (-1)
 else
 some 1
def zAR (y0 : List zAB) : Option (List zAB) := zSh zBm y0
def zDB (y0 : List zAB) : Option (List zAB) :=
 (zC4 y0).bind fun r1 =>
 (zAR r1).bind fun r2 =>
 (zB6 r2).bind fun r3 =>
 some r3
def zCd (y1 : List Int) (y0 : List zAA) (s2 : (List zAB) × Int) : Option (((List zAB) × Int) ⊕ (List zAB)) :=
 if decide (s2.2 < (len y1)) then
 (idx y1 s2.2).bind fun x1 =>
 (zAx y0 x1).bind fun r1 =>
 if r1 then
 (idx y0 x1).bind fun x2 =>
 (app s2.1 ([x2.2.2.2] : List zAB)).bind fun x3 =>
 some (.inl (x3, w64 (s2.2 + 1)))
 else
 some (.inl (s2.1, w64 (s2.2 + 1)))
 else
 some (.inr s2.1)
def zB4 (y0 : List zAA) (y1 : List Int) : Option (List zAB) :=
 (zAm (zCd y1 y0) (([] : List zAB), 0) : Option (List zAB)).bind fun s1 =>
 (zDB s1).bind fun r2 =>
 some r2
def zDe : Option Unit :=
 some ()
def zDX : Option Unit :=
 some ()
def zEa : Option Unit :=
 some ()
def zEo : Option Unit :=
 some ()
def zEn : Option Unit :=
 some ()
def zDq : Option Unit :=
 zEn.bind fun _ =>
 some ()
def zEL : Option Unit :=
 some ()
def zFr : Option Unit :=
 zEL.bind fun _ =>
 some ()
def zEO : Option Unit :=
 some ()
def zFs : Option Unit :=
 zEO.bind fun _ =>
 some ()
def zI0 : Option Unit :=
 zDq.bind fun _ =>
 zEo.bind fun _ =>
 zDe.bind fun _ =>
 zEa.bind fun _ =>
 zDX.bind fun _ =>
 zFs.bind fun _ =>
 zFr.bind fun _ =>
 some ()
def zCS (y0 : Int) : Option Int :=
 if y0 == 0 then
 some 64
 else
 (idx tab_math_bits_deBruijn64tab (shr .u64 (IntKind.u64.wrap ((zNA .u64 y0 (IntKind.u64.wrap (0 - y0))) * 285870213051353865)) 58)).bind fun x1 =>
 some (w64 (x1))
def zE5 (s1 : Int × (List Int)) : Option ((Int × (List Int)) ⊕ (List Int)) :=
 if s1.1 != 0 then
 (zCS s1.1).bind fun r1 =>
 (app s1.2 ([r1] : List Int)).bind fun x1 =>
 some (.inl (zNA .u64 s1.1 (IntKind.u64.wrap (s1.1 - 1)), x1))
 else
 some (.inr s1.2)
def zGt (y0 : Int) : Option (List Int) :=
 zAm (zE5) (y0, ([] : List Int))
def zG8 (y0 : zA3) (s1 : (List Int) × Int) : Option (((List Int) × Int) ⊕ (List Int)) :=
 if decide (s1.2 < (len y0.2)) then
 (idx y0.2 s1.2).bind fun x2 =>
 (idx s1.1 x2.1).bind fun x3 =>
 (zZ3 .u64 1 x2.2).bind fun x4 =>
 (idx s1.1 x2.1).bind fun _ =>
 some (.inl (List.set s1.1 (Int.toNat x2.1) (bor .u64 x3 x4), w64 (s1.2 + 1)))
 else
 some (.inr s1.1)
def zGE (y0 : zA3) : Option (List Int) :=
 (mkS y0.1 y0.1 (0 : Int)).bind fun x1 =>
 zAm (zG8 y0) (x1, 0)
def zFu (y0 : Int) : Option Bool :=
 some (y0 != y0)
def zBJ (y0 : Int) (y1 : Int) : Option Int :=
 (zFu y0).bind fun r1 =>
 (zFu y1).bind fun r2 =>
 if r1 then
 if r2 then
 some 0
 else
 some (-1)
 else
 if r2 then
 some 1
 else
 if decide (y0 < y1) then
 some (-1)
 else
 if decide (y1 < y0) then
 some 1
 else
 some 0
def zPv (y0 : List Int) (s1 : Int) : Option (Int ⊕ Int) :=
 if decide (s1 < (len y0)) then
 (idx y0 s1).bind fun x1 =>
 if x1 != 0 then
 some (.inr x1)
 else
 some (.inl (w64 (s1 + 1)))
 else
 some (.inr 0)
def zFp (y0 : List Int) : Option Int :=
 zAm (zPv y0) 0
def zEf (y0 : zAT) (y1 : zAT) : Option Int :=
 (zBJ y0.1 y1.1).bind fun r1 =>
 (zBJ y0.2 y1.2).bind fun r2 =>
 (zFp ([r1, r2] : List Int)).bind fun r3 =>
 some r3
def zBR (y0 : zA3) (s1 : Int) : Option (Int ⊕ Int) :=
 if decide (s1 < (len y0.2)) then
 (idx y0.2 s1).bind fun x1 =>
 if (decide ((if x1.2 < x1.1 then x1.2 else x1.1) < 0)) || (decide (y0.1 ≤ (if x1.2 > x1.1 then x1.2 else x1.1))) then
 some (.inr 1)
 else
 (
 if decide (0 < s1) then
 (idx y0.2 (w64 (s1 - 1))).bind fun x2 =>
 (zEf x2 x1).bind fun r1 =>
 some (decide (0 ≤ r1))
 else
 some false : Option Bool).bind fun s2 =>
 if s2 then
 some (.inr 8)
 else
 some (.inl (w64 (s1 + 1)))
 else
 some (.inr 0)
def zBZ (y0 : zA3) : Option Int :=
 if (decide (y0.1 < 0)) || (decide (40 < y0.1)) then
 some 1
 else
 zAm (zBR y0) 0
def zF2 (y0 : zA3) : Option zA3 :=
 (zBZ y0).bind fun r1 =>
 if r1 != 0 then
 some (0, ([] : List zAT))
 else
 some y0
def zDA (y0 : zA3) (y1 : Int) : Option (List Int) :=
 (zF2 y0).bind fun r1 =>
 if (decide (y1 < 0)) || (decide (r1.1 ≤ y1)) then
 some ([] : List Int)
 else
 (zGE r1).bind fun r2 =>
 (idx r2 y1).bind fun x1 =>
 (zGt x1).bind fun r3 =>
 some r3
def zKP (y0 : Int) (y1 : Int) : Option (Int × Int) :=
 some (IntKind.u64.wrap ((IntKind.u64.wrap ((IntKind.u64.wrap ((shr .u64 y0 32) * (shr .u64 y1 32))) + (shr .u64 (IntKind.u64.wrap ((IntKind.u64.wrap ((shr .u64 y0 32) * (zNA .u64 y1 4294967295))) + (shr .u64 (IntKind.u64.wrap ((zNA .u64 y0 4294967295) * (zNA .u64 y1 4294967295))) 32))) 32))) + (shr .u64 (IntKind.u64.wrap ((zNA .u64 (IntKind.u64.wrap ((IntKind.u64.wrap ((shr .u64 y0 32) * (zNA .u64 y1 4294967295))) + (shr .u64 (IntKind.u64.wrap ((zNA .u64 y0 4294967295) * (zNA .u64 y1 4294967295))) 32))) 4294967295) + (IntKind.u64.wrap ((zNA .u64 y0 4294967295) * (shr .u64 y1 32))))) 32)), IntKind.u64.wrap (y0 * y1))
def zJF (y0 : Int) (y1 : Int) : Option (Int × Int) :=
 (zKP y0 y1).bind fun r1 =>
 some (r1.1, r1.2)
def zF6 (x1 : List Int) (s3 : (List Int) × Int) : Option (((List Int) × Int) ⊕ (List Int)) :=
 if decide (s3.2 < (len x1)) then
 (chk (decide (0 ≤ s3.2) && decide (s3.2 ≤ len s3.1))).bind fun _ =>
 (sub s3.1 0 s3.2).bind fun x2 =>
 some (.inl (zGv s3.1 s3.2 x2, w64 (s3.2 + ((Nat.min (List.length x2) (Int.toNat (((List.length x1 : Nat) : Int) - s3.2)) : Nat) : Int))))
 else
 some (.inr s3.1)
def zCa (y0 : List Int) (y1 : Int) : Option (List Int) :=
 (
 if decide (y1 < 0) then
 none
 else
 some () : Option Unit).bind fun _ =>
 (zJF (IntKind.u64.wrap (len y0)) (IntKind.u64.wrap (y1))).bind fun r1 =>
 (
 if (decide (0 < r1.1)) || (decide (9223372036854775807 < r1.2)) then
 none
 else
 some () : Option Unit).bind fun _ =>
 (mkS (w64 (r1.2)) (w64 (r1.2)) (0 : Int)).bind fun x1 =>
 zAm (zF6 x1) (zGv x1 0 y0, ((Nat.min (List.length y0) (List.length x1) : Nat) : Int))
def zDS (y0 : zA3) (s3 : Int × (List Int)) : Option ((Int × (List Int)) ⊕ (List Int)) :=
 if decide (s3.1 < (len y0.2)) then
 (idx y0.2 s3.1).bind fun x4 =>
 (chk (decide (0 ≤ x4.2) && decide (x4.2 < 40))).bind fun _ =>
 (chk (decide (0 ≤ x4.2) && decide (x4.2 < 40))).bind fun _ =>
 some (.inl (w64 (s3.1 + 1), zT6 40 s3.2 x4.2 (w64 ((zT8 s3.2 x4.2) + 1))))
 else
 some (.inr s3.2)
def zDV (y0 : zA3) (s2 : (List Int)) (s5 : (List Int) × Int) : Option (((List Int) × Int) ⊕ (List Int)) :=
 if decide (s5.2 < y0.1) then
 (chk (decide (0 ≤ s5.2) && decide (s5.2 < 40))).bind fun _ =>
 if (zT8 s2 s5.2) == 0 then
 (app s5.1 ([s5.2] : List Int)).bind fun x5 =>
 some (.inl (x5, w64 (s5.2 + 1)))
 else
 some (.inl (s5.1, w64 (s5.2 + 1)))
 else
 some (.inr s5.1)
def zD3 (s6 : (List Int) × (List Int) × (List Int) × Int × (List Int)) (s8 : (List Int) × (List Int) × Int) : Option (((List Int) × (List Int) × Int) ⊕ ((List Int) × (List Int))) :=
 if decide (s8.2.2 < (len s6.2.2.1)) then
 (idx s6.2.2.1 s8.2.2).bind fun x6 =>
 (idx s8.1 x6).bind fun _ =>
 (idx s8.2.1 x6).bind fun _ =>
 some (.inl (List.set s8.1 (Int.toNat x6) 1, List.set s8.2.1 (Int.toNat x6) s6.2.2.2.1, w64 (s8.2.2 + 1)))
 else
 some (.inr (s8.1, s8.2.1))
def zD1 (r5 : (List Int)) (s10 : (List Int) × (List Int) × (List Int) × Int × (List Int)) (x10 : Int) (s6 : (List Int) × (List Int) × (List Int) × Int × (List Int)) (s11 : (List Int) × Int × (List Int)) : Option (((List Int) × Int × (List Int)) ⊕ (((List Int) × (List Int) × (List Int) × Int × (List Int)) ⊕ (((List Int) × (List Int) × (List Int) × Int × (List Int)) ⊕ (((List Int) × (List Int) × (List Int) × Int × (List Int)) ⊕ ((List Int) × (List Int)))))) :=
 if decide (s11.2.1 < (len r5)) then
 (idx r5 s11.2.1).bind fun x14 =>
 (chk (decide (0 ≤ x14) && decide (x14 < 40))).bind fun _ =>
 (chk (decide (0 ≤ x14) && decide (x14 < 40))).bind fun _ =>
 (
 (chk (decide (0 ≤ x14) && decide (x14 < 40))).bind fun _ =>
 if (zT8 (zT6 40 s11.2.2 x14 (w64 ((zT8 s11.2.2 x14) - 1))) x14) == 0 then
 (idx (List.set s10.1 (Int.toNat x10) 2) x14).bind fun x15 =>
 some (x15 == 3)
 else
 some false : Option Bool).bind fun s12 =>
 if s12 then
 (app s11.1 ([x14] : List Int)).bind fun x16 =>
 some (.inl (x16, w64 (s11.2.1 + 1), zT6 40 s11.2.2 x14 (w64 ((zT8 s11.2.2 x14) - 1))))
 else
 some (.inl (s11.1, w64 (s11.2.1 + 1), zT6 40 s11.2.2 x14 (w64 ((zT8 s11.2.2 x14) - 1))))
 else
 some (.inr (.inl (List.set s10.1 (Int.toNat x10) 2, List.set s10.2.1 (Int.toNat x10) s6.2.2.2.1, s11.1, w64 (s10.2.2.2.1 + 1), s11.2.2)))
def zBc (r4 : (List Int)) (y0 : zA3) (s6 : (List Int) × (List Int) × (List Int) × Int × (List Int)) (s9 : (List Int) × (List Int) × (List Int) × Int × (List Int)) (s10 : (List Int) × (List Int) × (List Int) × Int × (List Int)) : Option (((List Int) × (List Int) × (List Int) × Int × (List Int)) ⊕ (((List Int) × (List Int) × (List Int) × Int × (List Int)) ⊕ (((List Int) × (List Int) × (List Int) × Int × (List Int)) ⊕ ((List Int) × (List Int))))) :=
 if decide (s10.2.2.2.1 < (len r4)) then
 (idx r4 s10.2.2.2.1).bind fun x10 =>
 (idx s10.1 x10).bind fun x11 =>
 if x11 != 3 then
 some (.inl (s10.1, s10.2.1, s10.2.2.1, w64 (s10.2.2.2.1 + 1), s10.2.2.2.2))
 else
 (idx s10.1 x10).bind fun _ =>
 (idx s10.2.1 x10).bind fun _ =>
 (zDA y0 x10).bind fun r5 =>
 zAm (zD1 r5 s10 x10 s6) (s10.2.2.1, 0, s10.2.2.2.2)
 else
 some (.inr (.inl (s10.1, s10.2.1, s10.2.2.1, w64 (s9.2.2.2.1 + 1), s10.2.2.2.2)))
def zCF (s6 : (List Int) × (List Int) × (List Int) × Int × (List Int)) (y0 : zA3) (s9 : (List Int) × (List Int) × (List Int) × Int × (List Int)) : Option (((List Int) × (List Int) × (List Int) × Int × (List Int)) ⊕ (((List Int) × (List Int) × (List Int) × Int × (List Int)) ⊕ ((List Int) × (List Int)))) :=
 if decide (s9.2.2.2.1 < (len s6.2.2.1)) then
 (idx s6.2.2.1 s9.2.2.2.1).bind fun x9 =>
 (zDA y0 x9).bind fun r4 =>
 zAm (zBc r4 y0 s6 s9) (s9.1, s9.2.1, s9.2.2.1, 0, s9.2.2.2.2)
 else
 some (.inr (.inl (s9.1, s9.2.1, s9.2.2.1, w64 (s6.2.2.2.1 + 1), s9.2.2.2.2)))
def zBX (y0 : zA3) (s6 : (List Int) × (List Int) × (List Int) × Int × (List Int)) : Option (((List Int) × (List Int) × (List Int) × Int × (List Int)) ⊕ ((List Int) × (List Int))) :=
 if decide (0 < (len s6.2.2.1)) then
 (zAm (zD3 s6) (s6.1, s6.2.1, 0) : Option ((List Int) × (List Int))).bind fun s7 =>
 zAm (zCF s6 y0) (s7.1, s7.2, ([] : List Int), 0, s6.2.2.2.2)
 else
 some (.inr (s6.1, s6.2.1))
def zDm (y0 : zA3) : Option ((List Int) × (List Int)) :=
 (
 (zCa ([3] : List Int) y0.1).bind fun r1 =>
 (mkS y0.1 y0.1 (0 : Int)).bind fun x1 =>
 some (r1, x1) : Option ((List Int) × (List Int))).bind fun s1 =>
 (zAm (zDS y0) (0, (List.replicate 40 (0 : Int))) : Option (List Int)).bind fun s2 =>
 (zAm (zDV y0 s2) (([] : List Int), 0) : Option (List Int)).bind fun s4 =>
 zAm (zBX y0) (s1.1, s1.2, s4, 1, s2)
def zDD (y0 : zA3) : Option (List Int) :=
 (zDm y0).bind fun r1 =>
 some r1.1
def zEC (y0 : zA3) : Option ((List Int) × Int) :=
 (zDD y0).bind fun r1 =>
 some (r1, 0)
def zAb (y0 : zA3) : Option ((List (List Int)) × Int) :=
 (zEC y0).bind fun r1 =>
 if r1.2 != 0 then
 some (([] : List (List Int)), r1.2)
 else
 some (([r1.1] : List (List Int)), 0)
def zFC (y0 : List Int) (y1 : Int) (s1 : (List Int) × Int) : Option (((List Int) × Int) ⊕ (List Int)) :=
 if decide (s1.2 < (len y0)) then
 (idx y0 s1.2).bind fun x1 =>
 if x1 == y1 then
 (app s1.1 ([s1.2] : List Int)).bind fun x2 =>
 some (.inl (x2, w64 (s1.2 + 1)))
 else
 some (.inl (s1.1, w64 (s1.2 + 1)))
 else
 some (.inr s1.1)
def zCE (y0 : List Int) (y1 : Int) : Option (List Int) :=
 zAm (zFC y0 y1) (([] : List Int), 0)
def zAa (r1 : (List (List Int)) × Int) (s1 : (List (List Int)) × Int) : Option (((List (List Int)) × Int) ⊕ ((List (List Int)) × Int)) :=
 if decide (s1.2 < (len r1.1)) then
 (idx r1.1 s1.2).bind fun x1 =>
 (zCE x1 1).bind fun r2 =>
 (app s1.1 ([r2] : List (List Int))).bind fun x2 =>
 some (.inl (x2, w64 (s1.2 + 1)))
 else
 some (.inr (s1.1, 0))
def zAl (y0 : zA3) : Option ((List (List Int)) × Int) :=
 (zAb y0).bind fun r1 =>
 if r1.2 != 0 then
 some (([] : List (List Int)), r1.2)
 else
 zAm (zAa r1) (([] : List (List Int)), 0)
def zFV (y0 : zA3) : Option ((List (List Int)) × Int) :=
 none
def zBt (r1 : (List (List Int)) × Int) (s1 : (List (List Int)) × Int) : Option (((List (List Int)) × Int) ⊕ ((List (List Int)) × Int)) :=
 if decide (s1.2 < (len r1.1)) then
 (idx r1.1 s1.2).bind fun x1 =>
 (zCE x1 1).bind fun r2 =>
 (app s1.1 ([r2] : List (List Int))).bind fun x2 =>
 some (.inl (x2, w64 (s1.2 + 1)))
 else
 some (.inr (s1.1, 0))
def zB1 (y0 : zA3) : Option ((List (List Int)) × Int) :=
 (zFV y0).bind fun r1 =>
 if r1.2 != 0 then
 some (([] : List (List Int)), r1.2)
 else
 zAm (zBt r1) (([] : List (List Int)), 0)
def zFR (y0 : zA3) : Option ((List (List Int)) × Int) :=
 none
def zBs (r1 : (List (List Int)) × Int) (s1 : (List (List Int)) × Int) : Option (((List (List Int)) × Int) ⊕ ((List (List Int)) × Int)) :=
 if decide (s1.2 < (len r1.1)) then
 (idx r1.1 s1.2).bind fun x1 =>
 (zCE x1 1).bind fun r2 =>
 (app s1.1 ([r2] : List (List Int))).bind fun x2 =>
 some (.inl (x2, w64 (s1.2 + 1)))
 else
 some (.inr (s1.1, 0))
def zB2 (y0 : zA3) : Option ((List (List Int)) × Int) :=
 (zFR y0).bind fun r1 =>
 if r1.2 != 0 then
 some (([] : List (List Int)), r1.2)
 else
 zAm (zBs r1) (([] : List (List Int)), 0)
def zDN (y0 : zA3) : Option ((List (List Int)) × Int) :=
 none
def zDI (y0 : zA3) : Option ((List (List Int)) × Int) :=
 none
def zED (y0 : zA3) : Option ((List (List Int)) × Int) :=
 none
def zEP (y0 : zA3) : Option ((List (List Int)) × Int) :=
 none
def zBW (y0 : zA3) (y1 : Int) : Option ((List (List Int)) × Int) :=
 (zBZ y0).bind fun r1 =>
 if r1 != 0 then
 some (([] : List (List Int)), r1)
 else
 zI0.bind fun _ =>
 if (decide (y1 < 1)) || (decide (((10 : Nat) : Int) ≤ y1)) then
 some (([] : List (List Int)), 4)
 else
 (
 if y1 == 1 then
 (zAl y0).bind fun r3 =>
 some (r3.1, r3.2)
 else
 if y1 == 2 then
 (zEP y0).bind fun r4 =>
 some (r4.1, r4.2)
 else
 if y1 == 3 then
 (zDN y0).bind fun r5 =>
 some (r5.1, r5.2)
 else
 if y1 == 4 then
 (zED y0).bind fun r6 =>
 some (r6.1, r6.2)
 else
 if y1 == 5 then
 (zDI y0).bind fun r7 =>
 some (r7.1, r7.2)
 else
 if y1 == 6 then
 (zB1 y0).bind fun r8 =>
 some (r8.1, r8.2)
 else
 if y1 == 7 then
 (zB2 y0).bind fun r9 =>
 some (r9.1, r9.2)
 else
 if y1 == 8 then
 none
 else
 if y1 == 9 then
 none
 else
 none : Option ((List (List Int)) × Int)).bind fun s1 =>
 some (s1.1, s1.2)
def zBk (r1 : (List (List Int)) × Int) (y0 : zDQ) (s1 : (List (List zAB)) × Int) : Option (((List (List zAB)) × Int) ⊕ ((List (List zAB)) × Int)) :=
 if decide (s1.2 < (len r1.1)) then
 (idx r1.1 s1.2).bind fun x1 =>
 (zB4 y0.2.1 x1).bind fun r2 =>
 (app s1.1 ([r2] : List (List zAB))).bind fun x2 =>
 some (.inl (x2, w64 (s1.2 + 1)))
 else
 some (.inr (s1.1, 0))
def zCW (y0 : zDQ) (y1 : Int) : Option ((List (List zAB)) × Int) :=
 (zBW y0.2.2.2 y1).bind fun r1 =>
 if r1.2 != 0 then
 some (([] : List (List zAB)), r1.2)
 else
 zAm (zBk r1 y0) (([] : List (List zAB)), 0)
def zDL (y0 : Int) : Option (List zAB) :=
 (
 if decide (y0 < 0) then
 none
 else
 some () : Option Unit).bind fun _ =>
 if decide (0 < (w64 (y0 - (w64 (((0 : Nat) : Int) - (len ([] : List zAB))))))) then
 (mkS (w64 (y0 - (w64 (((0 : Nat) : Int) - (len ([] : List zAB)))))) (w64 (y0 - (w64 (((0 : Nat) : Int) - (len ([] : List zAB)))))) ((false, []) : zAB)).bind fun x1 =>
 (sub x1 0 (len ([] : List zAB))).bind fun x2 =>
 some x2
 else
 some ([] : List zAB)
def zBo (y0 : List (List zAB)) (s2 : Int × Int) : Option ((Int × Int) ⊕ Int) :=
 if decide (s2.2 < (len y0)) then
 (idx y0 s2.2).bind fun x1 =>
 if decide ((w64 (s2.1 + (len x1))) < 0) then
 none
 else
 some (.inl (w64 (s2.1 + (len x1)), w64 (s2.2 + 1)))
 else
 some (.inr s2.1)
def zC2 (y0 : List (List zAB)) (s3 : (List zAB) × Int) : Option (((List zAB) × Int) ⊕ (List zAB)) :=
 if decide (s3.2 < (len y0)) then
 (idx y0 s3.2).bind fun x2 =>
 (app s3.1 x2).bind fun x3 =>
 some (.inl (x3, w64 (s3.2 + 1)))
 else
 some (.inr s3.1)
def zBn (y0 : List (List zAB)) : Option (List zAB) :=
 (zAm (zBo y0) (0, 0) : Option Int).bind fun s1 =>
 (zDL s1).bind fun r1 =>
 zAm (zC2 y0) (r1, 0)
def zJt (y0 : List zAB) (y1 : zAB) (s1 : Int) : Option (Int ⊕ Int) :=
 if decide (s1 < (len y0)) then
 (idx y0 s1).bind fun x1 =>
 if y1 == x1 then
 some (.inr s1)
 else
 some (.inl (w64 (s1 + 1)))
 else
 some (.inr (-1))
def zBw (y0 : List zAB) (y1 : zAB) : Option Int :=
 zAm (zJt y0 y1) 0
def zCA (y0 : List zAB) (y1 : zAB) : Option Bool :=
 (zBw y0 y1).bind fun r1 =>
 some (decide (0 ≤ r1))
def zEB (y0 : List zAB) (y1 : zAB) : Option Bool :=
 (zCA y0 y1).bind fun r1 =>
 some r1
def zCK (y0 : List zAB) (y1 : zAB) : Option Bool :=
 (zEB y0 y1).bind fun r1 =>
 some (!r1)
def zAr (y0 : List (List zAB)) (y1 : zAB) (s1 : Int) : Option (Int ⊕ Int) :=
 if decide (s1 < (len y0)) then
 (idx y0 s1).bind fun x1 =>
 (zCK x1 y1).bind fun r1 =>
 if r1 then
 some (.inr s1)
 else
 some (.inl (w64 (s1 + 1)))
 else
 some (.inr (-1))
def zAd (y0 : List (List zAB)) (y1 : zAB) : Option Int :=
 zAm (zAr y0 y1) 0
def zAQ (y0 : List (List zAB)) (y1 : zAB) : Option Bool :=
 (zAd y0 y1).bind fun r1 =>
 some (decide (0 ≤ r1))
def zBi (y0 : zAB) (y1 : Bool) (y2 : List (List zAB)) : Option Bool :=
 (
 if y1 then
 (zAQ y2 y0).bind fun r1 =>
 some r1
 else
 some false : Option Bool).bind fun s1 =>
 some s1
def zBA (y0 : List zAB) (y1 : Bool) (y2 : List (List zAB)) (s1 : Int) : Option (Int ⊕ Int) :=
 if decide (s1 < (len y0)) then
 (idx y0 s1).bind fun x1 =>
 (zBi x1 y1 y2).bind fun r1 =>
 if r1 then
 some (.inr s1)
 else
 some (.inl (w64 (s1 + 1)))
 else
 some (.inr (-1))
def zAf (y0 : List zAB) (y1 : Bool) (y2 : List (List zAB)) : Option Int :=
 zAm (zBA y0 y1 y2) 0
def zAu (y0 : List zAB) (y1 : Bool) (y2 : List (List zAB)) (s2 : (List zAB) × Int × Int) : Option (((List zAB) × Int × Int) ⊕ ((List zAB) × Int)) :=
 if decide (s2.2.2 < (len y0)) then
 (idx s2.1 s2.2.2).bind fun x1 =>
 (zBi x1 y1 y2).bind fun r2 =>
 if !r2 then
 (idx s2.1 s2.2.1).bind fun _ =>
 some (.inl (List.set s2.1 (Int.toNat s2.2.1) x1, w64 (s2.2.1 + 1), w64 (s2.2.2 + 1)))
 else
 some (.inl (s2.1, s2.2.1, w64 (s2.2.2 + 1)))
 else
 some (.inr (s2.1, s2.2.1))
def zAV (y0 : List zAB) (y1 : Bool) (y2 : List (List zAB)) : Option (List zAB) :=
 (zAf y0 y1 y2).bind fun r1 =>
 if r1 == (-1) then
 some y0
 else
 (zAm (zAu y0 y1 y2) (y0, r1, w64 (r1 + 1)) : Option ((List zAB) × Int)).bind fun s1 =>
 (chk (decide (0 ≤ s1.2) && decide (s1.2 ≤ len s1.1))).bind fun _ =>
 (sub (zCf s1.1 s1.2 (false, [])) 0 s1.2).bind fun x3 =>
 some x3
def zCM (y0 : zDQ) (y1 : Int) (y2 : Bool) : Option ((List zAB) × Int) :=
 (zCW y0 y1).bind fun r1 =>
 if r1.2 != 0 then
 some (([] : List zAB), r1.2)
 else
 (zBn r1.1).bind fun r2 =>
 (zDB r2).bind fun r3 =>
 (zAV r3 y2 r1.1).bind fun r4 =>
 some (r4, 0)
def zBS (y0 : zAK) : Option Bool :=
 some (decide (40 < (w64 ((len y0.2.1) + (len y0.2.2.1)))))
def zKc (y0 : List Int) (s1 : Int) (s3 : (List Int) × Int × Int) : Option (((List Int) × Int × Int) ⊕ ((List Int) × Int)) :=
 if decide (s3.2.2 < ((Int.toNat (((List.length y0 : Nat) : Int) - s1) : Nat) : Int)) then
 (zQf s3.1 s1 s3.2.2).bind fun x3 =>
 (zQf s3.1 s1 (w64 (s3.2.2 - 1))).bind fun x4 =>
 if x3 != x4 then
 (zQf s3.1 s1 s3.2.2).bind fun x5 =>
 (idx s3.1 s3.2.1).bind fun _ =>
 some (.inl (List.set s3.1 (Int.toNat s3.2.1) x5, w64 (s3.2.1 + 1), w64 (s3.2.2 + 1)))
 else
 some (.inl (s3.1, s3.2.1, w64 (s3.2.2 + 1)))
 else
 some (.inr (s3.1, s3.2.1))
def zEu (y0 : List Int) (s1 : Int) : Option (Int ⊕ (List Int)) :=
 if decide (s1 < (len y0)) then
 (idx y0 s1).bind fun x1 =>
 (idx y0 (w64 (s1 - 1))).bind fun x2 =>
 if x1 == x2 then
 (chk (decide (0 ≤ s1) && decide (s1 ≤ len y0))).bind fun _ =>
 (zAm (zKc y0 s1) (y0, s1, 1) : Option ((List Int) × Int)).bind fun s2 =>
 (chk (decide (0 ≤ s2.2) && decide (s2.2 ≤ len s2.1))).bind fun _ =>
 (sub (zCf s2.1 s2.2 0) 0 s2.2).bind fun x7 =>
 some (.inr x7)
 else
 some (.inl (w64 (s1 + 1)))
 else
 some (.inr y0)
def zBH (y0 : List Int) : Option (List Int) :=
 if decide ((len y0) < 2) then
 some y0
 else
 zAm (zEu y0) 1
def zBI (y0 : List Int) : Option (List Int) := zXo y0
def zCl (x1 : zAA) (rec_argument_Subs : (List zAA) → Int → Option (List Int)) (y0 : List zAA) (s2 : (List Int) × Int) : Option (((List Int) × Int) ⊕ (List Int)) :=
 if decide (s2.2 < (len x1.2.2.1)) then
 (idx x1.2.2.1 s2.2).bind fun x2 =>
 (rec_argument_Subs y0 x2).bind fun r2 =>
 (app s2.1 r2).bind fun x3 =>
 some (.inl (x3, w64 (s2.2 + 1)))
 else
 some (.inr s2.1)
def zEd (rec_argument_Subs : (List zAA) → Int → Option (List Int)) (y0 : List zAA) (y1 : Int) : Option (List Int) :=
 (zAx y0 y1).bind fun r1 =>
 if !r1 then
 some ([] : List Int)
 else
 (
 (idx y0 y1).bind fun x1 =>
 zAm (zCl x1 rec_argument_Subs y0) (([y1] : List Int), 0) : Option (List Int)).bind fun s1 =>
 (zBI s1).bind fun r3 =>
 (zBH r3).bind fun r4 =>
 some r4
def zCi : Nat → (List zAA) → Int → Option (List Int)
 | 0 => fun _ _ => none
 | k + 1 => fun y0 y1 => zEd (zCi k) y0 y1
def zD2 (y0 : List zAA) (y1 : Int) : Option (List Int) := zUu fun k => zCi k y0 y1
def zCs (r1 : (List Int)) (y1 : List zAA) (y0 : zAF) (s2 : (List Int) × Int) : Option (((List Int) × Int) ⊕ (List Int)) :=
 if decide (s2.2 < (len r1)) then
 (idx r1 s2.2).bind fun x1 =>
 (idx y1 x1).bind fun x2 =>
 (
 if decide (0 ≤ x2.2.1) then
 (idx y0.2.1 x2.2.1).bind fun x3 =>
 some (!x3.2.1)
 else
 some false : Option Bool).bind fun s3 =>
 if s3 then
 (app s2.1 ([x2.2.1] : List Int)).bind fun x4 =>
 some (.inl (x4, w64 (s2.2 + 1)))
 else
 some (.inl (s2.1, w64 (s2.2 + 1)))
 else
 some (.inr s2.1)
def zBb (y0 : zAF) (y1 : List zAA) (y2 : Int) : Option (List Int) :=
 (
 (zD2 y1 y2).bind fun r1 =>
 zAm (zCs r1 y1 y0) (([] : List Int), 0) : Option (List Int)).bind fun s1 =>
 (zBI s1).bind fun r2 =>
 (zBH r2).bind fun r3 =>
 some r3
def zGK (x4 : zAA) (rec_argument_run : zAF → (List zAA) → Int → Option (List zAB)) (y0 : zAF) (y1 : List zAA) (s2 : (List zAB) × Int) : Option (((List zAB) × Int) ⊕ (List zAB)) :=
 if decide (s2.2 < (len x4.2.2.1)) then
 (idx x4.2.2.1 s2.2).bind fun x5 =>
 (rec_argument_run y0 y1 x5).bind fun r1 =>
 (app s2.1 r1).bind fun x6 =>
 some (.inl (x6, w64 (s2.2 + 1)))
 else
 some (.inr s2.1)
def zF4 (rec_argument_run : zAF → (List zAA) → Int → Option (List zAB)) (y0 : zAF) (y1 : List zAA) (y2 : Int) : Option (List zAB) :=
 (idx y1 y2).bind fun x1 =>
 (idx y1 y2).bind fun x2 =>
 (
 if decide (0 ≤ x2.2.1) then
 (idx y0.2.1 x2.2.1).bind fun x3 =>
 some x3.2.1
 else
 some false : Option Bool).bind fun s1 =>
 if s1 then
 (idx y1 y2).bind fun x4 =>
 zAm (zGK x4 rec_argument_run y0 y1) (([x1.2.2.2] : List zAB), 0)
 else
 some ([x1.2.2.2] : List zAB)
def zCe : Nat → zAF → (List zAA) → Int → Option (List zAB)
 | 0 => fun _ _ _ => none
 | k + 1 => fun y0 y1 y2 => zF4 (zCe k) y0 y1 y2
def zEG (y0 : zAF) (y1 : List zAA) (y2 : Int) : Option (List zAB) := zUu fun k => zCe k y0 y1 y2
def zIG (y0 : List Int) (y1 : Int) (s1 : Int) : Option (Int ⊕ Int) :=
 if decide (s1 < (len y0)) then
 (idx y0 s1).bind fun x1 =>
 if y1 == x1 then
 some (.inr s1)
 else
 some (.inl (w64 (s1 + 1)))
 else
 some (.inr (-1))
def zDy (y0 : List Int) (y1 : Int) : Option Int :=
 zAm (zIG y0 y1) 0
def zBd (y0 : List Int) (y1 : Int) : Option Bool :=
 (zDy y0 y1).bind fun r1 =>
 some (decide (0 ≤ r1))
def zCX (y3 : List Int) (y0 : zAF) (y2 : Int) (y1 : List zAA) (s1 : Int) : Option (Int ⊕ Bool) :=
 if decide (s1 < (len y3)) then
 (idx y3 s1).bind fun x1 =>
 (idx y0.2.1 y2).bind fun x2 =>
 if x2.2.1 then
 (idx y0.2.1 y2).bind fun x3 =>
 (zEG y0 y1 x1).bind fun r1 =>
 (zEB r1 x3.2.2.2.2).bind fun r2 =>
 if r2 then
 some (.inr false)
 else
 some (.inl (w64 (s1 + 1)))
 else
 (zBb y0 y1 x1).bind fun r3 =>
 (zBd r3 y2).bind fun r4 =>
 if r4 then
 some (.inr false)
 else
 some (.inl (w64 (s1 + 1)))
 else
 some (.inr true)
def zC9 (y0 : zAF) (y1 : List zAA) (y2 : Int) (y3 : List Int) : Option Bool :=
 zAm (zCX y3 y0 y2 y1) 0
def zEA (y0 : List Int) : Option (List Int) :=
 (app ([] : List Int) y0).bind fun x1 =>
 some x1
def zDf (y0 : Int) (y2 : zAK) : Option Bool :=
 some (decide (y2.2.2.2 ≤ y0))
def zA0 (y0 : List Int) (y2 : zAK) (s1 : Int) : Option (Int ⊕ Int) :=
 if decide (s1 < (len y0)) then
 (idx y0 s1).bind fun x1 =>
 (zDf x1 y2).bind fun r1 =>
 if r1 then
 some (.inr s1)
 else
 some (.inl (w64 (s1 + 1)))
 else
 some (.inr (-1))
def zAS (y0 : List Int) (y2 : zAK) : Option Int :=
 zAm (zA0 y0 y2) 0
def zAN (y0 : List Int) (y2 : zAK) : Option Bool :=
 (zAS y0 y2).bind fun r1 =>
 some (decide (0 ≤ r1))
def zAz (y0 : zAK) (x1 : zAL) (y2 : List Int) (rec_argument_builder_apply_2 : zAK → Int → (List Int) → Option (List zAA)) (y1 : Int) (s2 : Int × (List zAA)) : Option ((Int × (List zAA)) ⊕ (Unit ⊕ (List zAA))) :=
 if decide (s2.1 < (len y0.2.1)) then
 (idx y0.2.1 s2.1).bind fun x2 =>
 (idx x1.2.2.2.1 (len y2)).bind fun x3 =>
 if x2.2.2.2 == x3 then
 (
 (zEA y2).bind fun r2 =>
 (app r2 ([s2.1] : List Int)).bind fun x4 =>
 (rec_argument_builder_apply_2 (y0.1, y0.2.1, s2.2, y0.2.2.2) y1 x4).bind fun r3 =>
 some r3 : Option (List zAA)).bind fun s3 =>
 some (.inl (w64 (s2.1 + 1), s3))
 else
 some (.inl (w64 (s2.1 + 1), s2.2))
 else
 some (.inr (.inr s2.2))
def zBP (rec_argument_builder_apply_2 : zAK → Int → (List Int) → Option (List zAA)) (y0 : zAK) (y1 : Int) (y2 : List Int) : Option (List zAA) :=
 (idx y0.1.2.1 y1).bind fun x1 =>
 (zBS y0).bind fun r1 =>
 if r1 then
 some y0.2.2.1
 else
 zBE (
 if decide ((len y2) < (len x1.2.2.2.1)) then
 zAm (zAz y0 x1 y2 rec_argument_builder_apply_2 y1) (0, y0.2.2.1)
 else
 some (.inl ()) : Option (Unit ⊕ (List zAA))) fun _ =>
 (
 (zAN y2 y0).bind fun r6 =>
 if r6 then
 (zC9 y0.1 y0.2.1 y1 y2).bind fun r7 =>
 some r7
 else
 some false : Option Bool).bind fun s4 =>
 if s4 then
 (idx y0.1.2.1 y1).bind fun x6 =>
 (app y0.2.2.1 ([((-1), y1, y2, x6.2.2.2.2)] : List zAA)).bind fun x7 =>
 some x7
 else
 some y0.2.2.1
def zAj : Nat → zAK → Int → (List Int) → Option (List zAA)
 | 0 => fun _ _ _ => none
 | k + 1 => fun y0 y1 y2 => zBP (zAj k) y0 y1 y2
def zBQ (y0 : zAK) (y1 : Int) (y2 : List Int) : Option (List zAA) := zUu fun k => zAj k y0 y1 y2
def zHl (y0 : zAL) (y1 : Str) : Option Bool :=
 some (y0.1 == y1)
def zAo (y0 : List zAL) (y1 : Str) (s1 : Int) : Option (Int ⊕ Int) :=
 if decide (s1 < (len y0)) then
 (idx y0 s1).bind fun x1 =>
 (zHl x1 y1).bind fun r1 =>
 if r1 then
 some (.inr s1)
 else
 some (.inl (w64 (s1 + 1)))
 else
 some (.inr (-1))
def zAc (y0 : List zAL) (y1 : Str) : Option Int :=
 zAm (zAo y0 y1) 0
def zD4 (y0 : zAF) (y1 : Str) : Option Int :=
 (zAc y0.2.1 y1).bind fun r1 =>
 some r1
def zGR (y0 : zAO) (y1 : zAB) : Option Bool :=
 some (y0.1 == y1)
def zA5 (y0 : List zAO) (y1 : zAB) (s1 : Int) : Option (Int ⊕ Int) :=
 if decide (s1 < (len y0)) then
 (idx y0 s1).bind fun x1 =>
 (zGR x1 y1).bind fun r1 =>
 if r1 then
 some (.inr s1)
 else
 some (.inl (w64 (s1 + 1)))
 else
 some (.inr (-1))
def zAW (y0 : List zAO) (y1 : zAB) : Option Int :=
 zAm (zA5 y0 y1) 0
def zCv (y0 : zAF) (y1 : zAB) : Option Int :=
 (zAW y0.1 y1).bind fun r1 =>
 some r1
def zD8 (y0 : Str) (s1 : Int) : Option (Int ⊕ Bool) :=
 if decide (s1 < (len y0)) then
 (zQR y0 s1).bind fun x1 =>
 if (decide (97 ≤ x1)) && (decide (x1 ≤ 122)) then
 some (.inl (w64 (s1 + 1)))
 else
 if (decide (0 < s1)) && (if decide (48 ≤ x1) then (decide (x1 ≤ 57)) || (x1 == 95) else x1 == 95) then
 some (.inl (w64 (s1 + 1)))
 else
 some (.inr false)
 else
 some (.inr true)
def zBU (y0 : Str) : Option Bool :=
 if ((len y0) == 0) || (decide (12 < (len y0))) then
 some false
 else
 zAm (zD8 y0) 0
def zBe (y0 : zAB) : Option Bool :=
 (zBU y0.2).bind fun r1 =>
 some r1
def zCc (y0 : Int) : Option Bool :=
 some ((decide (0 ≤ y0)) && (decide (y0 ≤ 9)))
def zDx (y0 : Str) : Option Bool :=
 (
 if y0 == [] then
 some true
 else
 (zBU y0).bind fun r1 =>
 some r1 : Option Bool).bind fun s1 =>
 some s1
def zCp (y0 : zAO) : Option Int :=
 zBE (
 (
 if y0.2.1 == 1 then
 some (y0.2.1 == 1)
 else
 some (y0.2.1 == 3) : Option Bool).bind fun s2 =>
 if s2 then
 if y0.2.2.1 != 0 then
 some (.inr 1)
 else
 some (.inl ())
 else
 if y0.2.1 == 2 then
 (zCc y0.2.2.1).bind fun r1 =>
 if !r1 then
 some (.inr 1)
 else
 some (.inl ())
 else
 some (.inr 4) : Option (Unit ⊕ Int)) fun _ =>
 (
 (zBe y0.1).bind fun r2 =>
 if !r2 then
 some true
 else
 (zDx y0.2.2.2).bind fun r3 =>
 some (!r3) : Option Bool).bind fun s3 =>
 if s3 then
 some 1
 else
 some 0
def zCV (y0 : zAF) (y1 : zAI) : Option Int :=
 (
 (zCc y1.2.1).bind fun r1 =>
 if !r1 then
 some true
 else
 (zBe y1.2.2).bind fun r2 =>
 some (!r2) : Option Bool).bind fun s1 =>
 if s1 then
 some 1
 else
 (zD4 y0 y1.1).bind fun r3 =>
 if decide (r3 < 0) then
 some 6
 else
 (idx y0.2.1 r3).bind fun x1 =>
 if x1.2.1 then
 some 4
 else
 some 0
def zCu (y0 : zAL) (s3 : Int) : Option (Int ⊕ (Unit ⊕ Int)) :=
 if decide (s3 < (len y0.2.2.2.1)) then
 (idx y0.2.2.2.1 s3).bind fun x1 =>
 (zBe x1).bind fun r4 =>
 if !r4 then
 some (.inr (.inr 1))
 else
 some (.inl (w64 (s3 + 1)))
 else
 some (.inr (.inl ()))
def zFc (y0 : zAL) (s4 : Int) : Option (Int ⊕ Int) :=
 if decide (s4 < (len y0.2.2.2.1)) then
 (idx y0.2.2.2.1 (w64 (s4 - 1))).bind fun x2 =>
 (idx y0.2.2.2.1 s4).bind fun x3 =>
 (zBm x2 x3).bind fun r5 =>
 if decide (0 ≤ r5) then
 some (.inr 8)
 else
 some (.inl (w64 (s4 + 1)))
 else
 some (.inr 0)
def zE7 (y0 : zAL) : Option Int :=
 if decide (4 < (len y0.2.2.2.1)) then
 some 2
 else
 (
 (zBU y0.1).bind fun r1 =>
 if !r1 then
 some true
 else
 (zBe y0.2.2.2.2).bind fun r2 =>
 if !r2 then
 some true
 else
 (zCc y0.2.2.1).bind fun r3 =>
 if !r3 then
 some true
 else
 if y0.2.1 then
 some (y0.2.2.1 != 0)
 else
 some false : Option Bool).bind fun s1 =>
 if s1 then
 some 1
 else
 zBE (zAm (zCu y0) 0 : Option (Unit ⊕ Int)) fun _ =>
 zAm (zFc y0) 1
def zBv (y0 : zAF) (s2 : Int) : Option (Int ⊕ (Unit ⊕ Int)) :=
 if decide (s2 < (len y0.1)) then
 (idx y0.1 s2).bind fun x1 =>
 (zCp x1).bind fun r1 =>
 if r1 != 0 then
 some (.inr (.inr r1))
 else
 (zCv y0 x1.1).bind fun r2 =>
 if decide (r2 < s2) then
 some (.inr (.inr 5))
 else
 some (.inl (w64 (s2 + 1)))
 else
 some (.inr (.inl ()))
def zBx (y0 : zAF) (s4 : Int) : Option (Int ⊕ (Unit ⊕ Int)) :=
 if decide (s4 < (len y0.2.1)) then
 (idx y0.2.1 s4).bind fun x2 =>
 (zE7 x2).bind fun r3 =>
 if r3 != 0 then
 some (.inr (.inr r3))
 else
 (zD4 y0 x2.1).bind fun r4 =>
 if decide (r4 < s4) then
 some (.inr (.inr 5))
 else
 some (.inl (w64 (s4 + 1)))
 else
 some (.inr (.inl ()))
def zBz (y0 : zAF) (s5 : Int) : Option (Int ⊕ Int) :=
 if decide (s5 < (len y0.2.2)) then
 (idx y0.2.2 s5).bind fun x3 =>
 (zCV y0 x3).bind fun r5 =>
 if r5 != 0 then
 some (.inr r5)
 else
 some (.inl (w64 (s5 + 1)))
 else
 some (.inr 0)
def zBh (y0 : zAF) : Option Int :=
 if (decide (16 < (len y0.1))) || ((decide (24 < (len y0.2.1))) || (decide (8 < (len y0.2.2)))) then
 some 2
 else
 zBE (zAm (zBv y0) 0 : Option (Unit ⊕ Int)) fun _ =>
 zBE (zAm (zBx y0) 0 : Option (Unit ⊕ Int)) fun _ =>
 zAm (zBz y0) 0
def zDR (y0 : zAF) (s2 : Int × (List zAA)) : Option ((Int × (List zAA)) ⊕ (List zAA)) :=
 if decide (s2.1 < (len y0.1)) then
 (idx y0.1 s2.1).bind fun x1 =>
 (app s2.2 ([(s2.1, (-1), ([] : List Int), x1.1)] : List zAA)).bind fun x2 =>
 some (.inl (w64 (s2.1 + 1), x2))
 else
 some (.inr s2.2)
def zCH (y0 : zAF) (s4 : Int × (List zAA) × (List zAA) × Int) (s6 : Int × (List zAA)) : Option ((Int × (List zAA)) ⊕ ((List zAA) ⊕ ((Int × (List zAA) × (List zAA) × Int) ⊕ ((List zAA) × (List zAA) × Int)))) :=
 if decide (s6.1 < (len y0.2.1)) then
 (idx y0.2.1 s6.1).bind fun x3 =>
 (
 if decide (0 < (len x3.2.2.2.1)) then
 (zBQ (y0, s4.2.1, s6.2, s4.2.2.2) s6.1 ([] : List Int)).bind fun r2 =>
 some r2
 else
 if s4.1 == 1 then
 (app s6.2 ([((-1), s6.1, ([] : List Int), x3.2.2.2.2)] : List zAA)).bind fun x4 =>
 some x4
 else
 some s6.2 : Option (List zAA)).bind fun s7 =>
 (zBS (y0, s4.2.1, s7, s4.2.2.2)).bind fun r3 =>
 if r3 then
 some (.inr (.inr (.inr (s4.2.1, s7, s4.2.2.2))))
 else
 some (.inl (w64 (s6.1 + 1), s7))
 else
 some (.inr (.inl s6.2))
def zBC (y0 : zAF) (s4 : Int × (List zAA) × (List zAA) × Int) : Option ((Int × (List zAA) × (List zAA) × Int) ⊕ ((List zAA) × (List zAA) × Int)) :=
 zBE (zAm (zCH y0 s4) (0, ([] : List zAA)) : Option ((List zAA) ⊕ ((Int × (List zAA) × (List zAA) × Int) ⊕ ((List zAA) × (List zAA) × Int)))) fun s5 =>
 if (len s5) == 0 then
 some (.inr (s4.2.1, s5, s4.2.2.2))
 else
 (app s4.2.1 s5).bind fun x5 =>
 some (.inl (w64 (s4.1 + 1), x5, s5, len s4.2.1))
def zCY (y0 : zAF) : Option ((List zAA) × Int) :=
 (zBh y0).bind fun r1 =>
 if r1 != 0 then
 some (([] : List zAA), r1)
 else
 (zAm (zDR y0) (0, ([] : List zAA)) : Option (List zAA)).bind fun s1 =>
 (zAm (zBC y0) (1, s1, ([] : List zAA), 0) : Option ((List zAA) × (List zAA) × Int)).bind fun s3 =>
 (zBS (y0, s3.1, s3.2.1, s3.2.2)).bind fun r4 =>
 if r4 then
 some (([] : List zAA), 2)
 else
 some (s3.1, 0)
def zGY (y0 : zAB) : Option zAB :=
 some (!y0.1, y0.2)
def zHr (y0 : zAF) (y1 : List zAA) (y2 : Int) (y3 : Int) : Option (List Int) :=
 (
 (idx y1 y2).bind fun x1 =>
 (idx y1 y3).bind fun x2 =>
 some (x1.2.2.2, x2) : Option (zAB × zAA)).bind fun s1 =>
 (zGY s1.2.2.2.2).bind fun r1 =>
 if decide (0 ≤ s1.2.1) then
 (
 if s1.1 == r1 then
 (idx y0.1 s1.2.1).bind fun x3 =>
 some (x3.2.1 != 1)
 else
 some false : Option Bool).bind fun s2 =>
 if s2 then
 (app ([] : List Int) ([1] : List Int)).bind fun x4 =>
 some x4
 else
 some ([] : List Int)
 else
 (idx y0.2.1 s1.2.2.1).bind fun x5 =>
 if !x5.2.1 then
 (
 if s1.1 == r1 then
 (app ([] : List Int) ([2] : List Int)).bind fun x6 =>
 some x6
 else
 some ([] : List Int) : Option (List Int)).bind fun s3 =>
 (
 if s1.1.1 then
 (idx y0.2.1 s1.2.2.1).bind fun x7 =>
 some (s1.1.2 == x7.1)
 else
 some false : Option Bool).bind fun s4 =>
 if s4 then
 (app s3 ([3] : List Int)).bind fun x8 =>
 some x8
 else
 some s3
 else
 some ([] : List Int)
def zCy (y0 : zAM) (y1 : zAM) : Option Int :=
 (zBJ y0.1 y1.1).bind fun r1 =>
 (zBJ y0.2.1 y1.2.1).bind fun r2 =>
 (zBJ y0.2.2.1 y1.2.2.1).bind fun r3 =>
 (zBJ y0.2.2.2 y1.2.2.2).bind fun r4 =>
 (zFp ([r1, r2, r3, r4] : List Int)).bind fun r5 =>
 some r5
def zA1 (y0 : List zAM) : Option (List zAM) := zSh zCy y0
def zFJ (r1 : (List Int)) (s3 : (List zAM) × Int) (s4 : (List zAM) × Int) (s2 : (List zAM) × Int) (s5 : (List zAM) × Int) : Option (((List zAM) × Int) ⊕ (((List zAM) × Int) ⊕ (((List zAM) × Int) ⊕ (((List zAM) × Int) ⊕ (List zAM))))) :=
 if decide (s5.2 < (len r1)) then
 (idx r1 s5.2).bind fun x1 =>
 (app s5.1 ([(s3.2, s4.2, s2.2, x1)] : List zAM)).bind fun x2 =>
 some (.inl (x2, w64 (s5.2 + 1)))
 else
 some (.inr (.inl (s5.1, w64 (s4.2 + 1))))
def zC7 (y1 : List zAA) (s2 : (List zAM) × Int) (r1 : (List Int)) (s3 : (List zAM) × Int) (s4 : (List zAM) × Int) : Option (((List zAM) × Int) ⊕ (((List zAM) × Int) ⊕ (((List zAM) × Int) ⊕ (List zAM)))) :=
 if decide (s4.2 < (len y1)) then
 (zD2 y1 s4.2).bind fun r2 =>
 (zBd r2 s2.2).bind fun r3 =>
 if !r3 then
 some (.inl (s4.1, w64 (s4.2 + 1)))
 else
 zAm (zFJ r1 s3 s4 s2) (s4.1, 0)
 else
 some (.inr (.inl (s4.1, w64 (s3.2 + 1))))
def zCb (y1 : List zAA) (y0 : zAF) (s2 : (List zAM) × Int) (s3 : (List zAM) × Int) : Option (((List zAM) × Int) ⊕ (((List zAM) × Int) ⊕ (List zAM))) :=
 if decide (s3.2 < (len y1)) then
 (zHr y0 y1 s3.2 s2.2).bind fun r1 =>
 if (len r1) == 0 then
 some (.inl (s3.1, w64 (s3.2 + 1)))
 else
 zAm (zC7 y1 s2 r1 s3) (s3.1, 0)
 else
 some (.inr (.inl (s3.1, w64 (s2.2 + 1))))
def zCI (y1 : List zAA) (y0 : zAF) (s2 : (List zAM) × Int) : Option (((List zAM) × Int) ⊕ (List zAM)) :=
 if decide (s2.2 < (len y1)) then
 zAm (zCb y1 y0 s2) (s2.1, 0)
 else
 some (.inr s2.1)
def zDi (y0 : zAF) (y1 : List zAA) : Option (List zAM) :=
 (zAm (zCI y1 y0) (([] : List zAM), 0) : Option (List zAM)).bind fun s1 =>
 (zA1 s1).bind fun r4 =>
 some r4
def zD5 (r1 : (List Int)) (y0 : List zAA) (s2 : (List Int) × Int) : Option (((List Int) × Int) ⊕ (List Int)) :=
 if decide (s2.2 < (len r1)) then
 (idx r1 s2.2).bind fun x1 =>
 (idx y0 x1).bind fun x2 =>
 if decide (0 ≤ x2.1) then
 (idx y0 x1).bind fun x3 =>
 (app s2.1 ([x3.1] : List Int)).bind fun x4 =>
 some (.inl (x4, w64 (s2.2 + 1)))
 else
 some (.inl (s2.1, w64 (s2.2 + 1)))
 else
 some (.inr s2.1)
def zCG (y0 : List zAA) (y1 : Int) : Option (List Int) :=
 (
 (zD2 y0 y1).bind fun r1 =>
 zAm (zD5 r1 y0) (([] : List Int), 0) : Option (List Int)).bind fun s1 =>
 (zBI s1).bind fun r2 =>
 some r2
def zGf (y0 : Int) (y1 : zAF) : Option Bool :=
 (idx y1.1 y0).bind fun x1 =>
 some (x1.2.1 == 3)
def zA8 (y0 : List Int) (y1 : zAF) (s1 : Int) : Option (Int ⊕ Int) :=
 if decide (s1 < (len y0)) then
 (idx y0 s1).bind fun x1 =>
 (zGf x1 y1).bind fun r1 =>
 if r1 then
 some (.inr s1)
 else
 some (.inl (w64 (s1 + 1)))
 else
 some (.inr (-1))
def zAh (y0 : List Int) (y1 : zAF) : Option Int :=
 zAm (zA8 y0 y1) 0
def zA7 (y0 : List Int) (y1 : zAF) : Option Bool :=
 (zAh y0 y1).bind fun r1 =>
 some (decide (0 ≤ r1))
def zF1 (y0 : zAF) (y1 : List zAA) (y2 : Int) : Option Bool :=
 (zCG y1 y2).bind fun r1 =>
 (zA7 r1 y0).bind fun r2 =>
 some r2
def zCn (x5 : zAA) (rec_argument_Last : zAF → (List zAA) → Int → Option (List Int)) (y0 : zAF) (y1 : List zAA) (s3 : (List Int) × Int) : Option (((List Int) × Int) ⊕ (List Int)) :=
 if decide (s3.2 < (len x5.2.2.1)) then
 (idx x5.2.2.1 s3.2).bind fun x6 =>
 (rec_argument_Last y0 y1 x6).bind fun r2 =>
 (app s3.1 r2).bind fun x7 =>
 some (.inl (x7, w64 (s3.2 + 1)))
 else
 some (.inr s3.1)
def zE9 (rec_argument_Last : zAF → (List zAA) → Int → Option (List Int)) (y0 : zAF) (y1 : List zAA) (y2 : Int) : Option (List Int) :=
 (
 (zAx y1 y2).bind fun r1 =>
 if !r1 then
 some true
 else
 (idx y1 y2).bind fun x1 =>
 some (decide (x1.2.1 < 0)) : Option Bool).bind fun s1 =>
 if s1 then
 some ([] : List Int)
 else
 (idx y1 y2).bind fun x2 =>
 (idx y0.2.1 x2.2.1).bind fun x3 =>
 if !x3.2.1 then
 (idx y1 y2).bind fun x4 =>
 some ([x4.2.1] : List Int)
 else
 (
 (idx y1 y2).bind fun x5 =>
 zAm (zCn x5 rec_argument_Last y0 y1) (([] : List Int), 0) : Option (List Int)).bind fun s2 =>
 (zBI s2).bind fun r3 =>
 (zBH r3).bind fun r4 =>
 some r4
def zCg : Nat → zAF → (List zAA) → Int → Option (List Int)
 | 0 => fun _ _ _ => none
 | k + 1 => fun y0 y1 y2 => zE9 (zCg k) y0 y1 y2
def zFt (y0 : zAF) (y1 : List zAA) (y2 : Int) : Option (List Int) := zUu fun k => zCg k y0 y1 y2
def zHJ (y1 : List Int) (y0 : zAF) (s1 : (List Int) × Int) : Option (((List Int) × Int) ⊕ (List Int)) :=
 if decide (s1.2 < (len y1)) then
 (idx y1 s1.2).bind fun x1 =>
 (idx y0.2.1 x1).bind fun x2 =>
 (app s1.1 ([x2.2.2.1] : List Int)).bind fun x3 =>
 some (.inl (x3, w64 (s1.2 + 1)))
 else
 some (.inr s1.1)
def zGw (y0 : zAF) (y1 : List Int) : Option (List Int) :=
 zAm (zHJ y1 y0) (([] : List Int), 0)
def zCD (y0 : zAF) (y1 : List zAA) (y2 : Int) : Option (List Int) :=
 (zFt y0 y1 y2).bind fun r1 =>
 (zGw y0 r1).bind fun r2 =>
 some r2
def zEt (y0 : List Int) (s2 : Int × Int) : Option ((Int × Int) ⊕ Int) :=
 if decide (s2.2 < (len y0)) then
 (idx y0 s2.2).bind fun x2 =>
 some (.inl (if x2 > s2.1 then x2 else s2.1, w64 (s2.2 + 1)))
 else
 some (.inr s2.1)
def zCz (y0 : List Int) : Option Int :=
 (
 if decide ((len y0) < 1) then
 none
 else
 some () : Option Unit).bind fun _ =>
 (idx y0 0).bind fun x1 =>
 zAm (zEt y0) (x1, 1)
def zEr (y0 : List Int) (s2 : Int × Int) : Option ((Int × Int) ⊕ Int) :=
 if decide (s2.2 < (len y0)) then
 (idx y0 s2.2).bind fun x2 =>
 some (.inl (if x2 < s2.1 then x2 else s2.1, w64 (s2.2 + 1)))
 else
 some (.inr s2.1)
def zDG (y0 : List Int) : Option Int :=
 (
 if decide ((len y0) < 1) then
 none
 else
 some () : Option Unit).bind fun _ =>
 (idx y0 0).bind fun x1 =>
 zAm (zEr y0) (x1, 1)
def zDM (y0 : List Int) (y1 : List Int) (y2 : Int) : Option Bool :=
 if if y2 != 1 then (y2 != 2) || ((len y0) == 0) else (len y0) == 0 then
 some false
 else
 if (len y1) == 0 then
 some true
 else
 if y2 == 1 then
 (zDG y0).bind fun r1 =>
 (zDG y1).bind fun r2 =>
 some (decide (r1 < r2))
 else
 (zCz y0).bind fun r3 =>
 (zCz y1).bind fun r4 =>
 some (decide (r3 < r4))
def zAy (y0 : zAF) (y1 : List zAA) (y2 : Int) (y3 : Int) (y4 : zAP) : Option Bool :=
 (zCD y0 y1 y2).bind fun r1 =>
 (zCD y0 y1 y3).bind fun r2 =>
 (zDM r1 r2 y4.2).bind fun r3 =>
 some r3
def zDa (r1 : (List Int)) (y0 : zAF) (s1 : (List Int) × Int) : Option (((List Int) × Int) ⊕ (List Int)) :=
 if decide (s1.2 < (len r1)) then
 (idx r1 s1.2).bind fun x1 =>
 (idx y0.1 x1).bind fun x2 =>
 if x2.2.1 == 2 then
 (app s1.1 ([x2.2.2.1] : List Int)).bind fun x3 =>
 some (.inl (x3, w64 (s1.2 + 1)))
 else
 if x2.2.1 == 3 then
 (app s1.1 ([(-1)] : List Int)).bind fun x4 =>
 some (.inl (x4, w64 (s1.2 + 1)))
 else
 some (.inl (s1.1, w64 (s1.2 + 1)))
 else
 some (.inr s1.1)
def zBV (y0 : zAF) (y1 : List zAA) (y2 : Int) : Option (List Int) :=
 (zCG y1 y2).bind fun r1 =>
 zAm (zDa r1 y0) (([] : List Int), 0)
def zAU (y0 : zAF) (y1 : List zAA) (y2 : Int) (y3 : Int) (y4 : zAP) : Option Bool :=
 (zBV y0 y1 y2).bind fun r1 =>
 (zBV y0 y1 y3).bind fun r2 =>
 (zDM r1 r2 y4.2).bind fun r3 =>
 some r3
def zAv (y0 : zAF) (y1 : List zAA) (y2 : Int) (y3 : Int) : Option Bool :=
 (
 (zCD y0 y1 y2).bind fun r1 =>
 if (len r1) == 0 then
 (zCD y0 y1 y3).bind fun r2 =>
 some ((len r2) == 0)
 else
 some false : Option Bool).bind fun s1 =>
 some s1
def zBp (y1 : zAF) (y2 : List zAA) (y3 : Int) (y4 : Int) (y5 : zAP) : Option Bool :=
 (
 (zAy y1 y2 y3 y4 y5).bind fun r1 =>
 if r1 then
 some true
 else
 (zAv y1 y2 y3 y4).bind fun r2 =>
 if r2 then
 (zAU y1 y2 y3 y4 y5).bind fun r3 =>
 some r3
 else
 some false : Option Bool).bind fun s1 =>
 some s1
def zCC (y0 : zAF) (y1 : List zAA) (y2 : Int) : Option (List Int) :=
 (zBb y0 y1 y2).bind fun r1 =>
 (zGw y0 r1).bind fun r2 =>
 some r2
def zAi (y0 : zAF) (y1 : List zAA) (y2 : Int) (y3 : Int) (y4 : zAP) : Option Bool :=
 (zCC y0 y1 y2).bind fun r1 =>
 (zCC y0 y1 y3).bind fun r2 =>
 (zDM r1 r2 y4.2).bind fun r3 =>
 some r3
def zAk (y0 : zAF) (y1 : List zAA) (y2 : Int) (y3 : Int) : Option Bool :=
 (
 (zBV y0 y1 y2).bind fun r1 =>
 if (len r1) == 0 then
 (zBV y0 y1 y3).bind fun r2 =>
 some ((len r2) == 0)
 else
 some false : Option Bool).bind fun s1 =>
 some s1
def zAw (y0 : zAF) (y1 : List zAA) (y2 : Int) (y3 : Int) : Option Bool :=
 (
 (zCC y0 y1 y2).bind fun r1 =>
 if (len r1) == 0 then
 (zCC y0 y1 y3).bind fun r2 =>
 some ((len r2) == 0)
 else
 some false : Option Bool).bind fun s1 =>
 some s1
def zBq (y1 : zAF) (y2 : List zAA) (y3 : Int) (y4 : Int) (y6 : zAP) : Option Bool :=
 (zAw y1 y2 y3 y4).bind fun r1 =>
 if r1 then
 (zAU y1 y2 y3 y4 y6).bind fun r2 =>
 some r2
 else
 (zAk y1 y2 y3 y4).bind fun r3 =>
 if r3 then
 (zAi y1 y2 y3 y4 y6).bind fun r4 =>
 some r4
 else
 (
 (zAU y1 y2 y3 y4 y6).bind fun r5 =>
 if r5 then
 (zAi y1 y2 y3 y4 y6).bind fun r6 =>
 some r6
 else
 some false : Option Bool).bind fun s1 =>
 some s1
def zHj (y0 : zAF) (y1 : List zAA) (y2 : Int) (y3 : Int) (y4 : zAP) : Option Bool :=
 (
 if decide ((if y3 < y2 then y3 else y2) < 0) then
 some true
 else
 if decide ((len y1) ≤ (if y3 > y2 then y3 else y2)) then
 some true
 else
 (zF1 y0 y1 y3).bind fun r1 =>
 some r1 : Option Bool).bind fun s1 =>
 if s1 then
 some false
 else
 if y4.1 == 1 then
 (zBp y0 y1 y2 y3 y4).bind fun r2 =>
 some r2
 else
 if y4.1 == 2 then
 (zBq y0 y1 y2 y3 y4).bind fun r3 =>
 some r3
 else
 some false
def zBu (y0 : zAM) (y1 : zAF) (y2 : List zAA) (y3 : zAP) : Option Bool :=
 (
 if y0.2.2.2 != 3 then
 (zHj y1 y2 y0.1 y0.2.2.1 y3).bind fun r1 =>
 some r1
 else
 some false : Option Bool).bind fun s1 =>
 some s1
def zBG (y0 : List zAM) (y1 : zAF) (y2 : List zAA) (y3 : zAP) (s1 : Int) : Option (Int ⊕ Int) :=
 if decide (s1 < (len y0)) then
 (idx y0 s1).bind fun x1 =>
 (zBu x1 y1 y2 y3).bind fun r1 =>
 if r1 then
 some (.inr s1)
 else
 some (.inl (w64 (s1 + 1)))
 else
 some (.inr (-1))
def zAn (y0 : List zAM) (y1 : zAF) (y2 : List zAA) (y3 : zAP) : Option Int :=
 zAm (zBG y0 y1 y2 y3) 0
def zBD (y0 : List zAM) (y1 : zAF) (y2 : List zAA) (y3 : zAP) (s2 : (List zAM) × Int × Int) : Option (((List zAM) × Int × Int) ⊕ ((List zAM) × Int)) :=
 if decide (s2.2.2 < (len y0)) then
 (idx s2.1 s2.2.2).bind fun x1 =>
 (zBu x1 y1 y2 y3).bind fun r2 =>
 if !r2 then
 (idx s2.1 s2.2.1).bind fun _ =>
 some (.inl (List.set s2.1 (Int.toNat s2.2.1) x1, w64 (s2.2.1 + 1), w64 (s2.2.2 + 1)))
 else
 some (.inl (s2.1, s2.2.1, w64 (s2.2.2 + 1)))
 else
 some (.inr (s2.1, s2.2.1))
def zAZ (y0 : List zAM) (y1 : zAF) (y2 : List zAA) (y3 : zAP) : Option (List zAM) :=
 (zAn y0 y1 y2 y3).bind fun r1 =>
 if r1 == (-1) then
 some y0
 else
 (zAm (zBD y0 y1 y2 y3) (y0, r1, w64 (r1 + 1)) : Option ((List zAM) × Int)).bind fun s1 =>
 (chk (decide (0 ≤ s1.2) && decide (s1.2 ≤ len s1.1))).bind fun _ =>
 (sub (zCf s1.1 s1.2 (0, 0, 0, 0)) 0 s1.2).bind fun x3 =>
 some x3
def zDH (y0 : zAF) (y1 : List zAA) (y2 : zAP) : Option (List zAM) :=
 (zDi y0 y1).bind fun r1 =>
 (zAZ r1 y0 y1 y2).bind fun r2 =>
 some r2
def zJy (y0 : List zAT) (s1 : Int) (s3 : (List zAT) × Int × Int) : Option (((List zAT) × Int × Int) ⊕ ((List zAT) × Int)) :=
 if decide (s3.2.2 < ((Int.toNat (((List.length y0 : Nat) : Int) - s1) : Nat) : Int)) then
 (zQf s3.1 s1 s3.2.2).bind fun x3 =>
 (zQf s3.1 s1 (w64 (s3.2.2 - 1))).bind fun x4 =>
 if !(x3 == x4) then
 (zQf s3.1 s1 s3.2.2).bind fun x5 =>
 (idx s3.1 s3.2.1).bind fun _ =>
 some (.inl (List.set s3.1 (Int.toNat s3.2.1) x5, w64 (s3.2.1 + 1), w64 (s3.2.2 + 1)))
 else
 some (.inl (s3.1, s3.2.1, w64 (s3.2.2 + 1)))
 else
 some (.inr (s3.1, s3.2.1))
def zE1 (y0 : List zAT) (s1 : Int) : Option (Int ⊕ (List zAT)) :=
 if decide (s1 < (len y0)) then
 (idx y0 s1).bind fun x1 =>
 (idx y0 (w64 (s1 - 1))).bind fun x2 =>
 if x1 == x2 then
 (chk (decide (0 ≤ s1) && decide (s1 ≤ len y0))).bind fun _ =>
 (zAm (zJy y0 s1) (y0, s1, 1) : Option ((List zAT) × Int)).bind fun s2 =>
 (chk (decide (0 ≤ s2.2) && decide (s2.2 ≤ len s2.1))).bind fun _ =>
 (sub (zCf s2.1 s2.2 (0, 0)) 0 s2.2).bind fun x7 =>
 some (.inr x7)
 else
 some (.inl (w64 (s1 + 1)))
 else
 some (.inr y0)
def zCj (y0 : List zAT) : Option (List zAT) :=
 if decide ((len y0) < 2) then
 some y0
 else
 zAm (zE1 y0) 1
def zDk (y0 : zAT) (y1 : zAT) : Option Int :=
 (zBJ y0.1 y1.1).bind fun r1 =>
 (zBJ y0.2 y1.2).bind fun r2 =>
 (zFp ([r1, r2] : List Int)).bind fun r3 =>
 some r3
def zAe (y0 : List zAT) : Option (List zAT) := zSh zDk y0
def zEb (y1 : List zAM) (y0 : Int) (s2 : Int × (List zAT)) : Option ((Int × (List zAT)) ⊕ ((List zAT) ⊕ (zA3 × Int))) :=
 if decide (s2.1 < (len y1)) then
 (idx y1 s2.1).bind fun x1 =>
 if (decide ((if x1.2.1 < x1.1 then x1.2.1 else x1.1) < 0)) || (decide (y0 ≤ (if x1.2.1 > x1.1 then x1.2.1 else x1.1))) then
 some (.inr (.inr ((0, ([] : List zAT)), 1)))
 else
 (app s2.2 ([(x1.1, x1.2.1)] : List zAT)).bind fun x2 =>
 some (.inl (w64 (s2.1 + 1), x2))
 else
 some (.inr (.inl s2.2))
def zEI (y0 : Int) (y1 : List zAM) : Option (zA3 × Int) :=
 if (decide (y0 < 0)) || (decide (40 < y0)) then
 some ((0, ([] : List zAT)), 1)
 else
 zBE (zAm (zEb y1 y0) (0, ([] : List zAT)) : Option ((List zAT) ⊕ (zA3 × Int))) fun s1 =>
 (zAe s1).bind fun r1 =>
 (zCj r1).bind fun r2 =>
 some ((y0, r2), 0)
def zD9 (y0 : List zAO) : Option (List zAO) :=
 (app ([] : List zAO) y0).bind fun x1 =>
 some x1
def zCo (y0 : List zAI) : Option (List zAI) :=
 (app ([] : List zAI) y0).bind fun x1 =>
 some x1
def zEy (y0 : List zAL) : Option (List zAL) :=
 (app ([] : List zAL) y0).bind fun x1 =>
 some x1
def zCh (y0 : zAF) (x1 : zAL) (y1 : List zAB) (s3 : Int × (List zAL)) (s4 : Int × (List zAL)) : Option ((Int × (List zAL)) ⊕ ((Int × (List zAL)) ⊕ (List zAL))) :=
 if decide (s4.1 < (len y0.2.2)) then
 (idx y0.2.2 s4.1).bind fun x3 =>
 (
 if !x1.2.1 then
 if x3.1 == x1.1 then
 (zEB y1 x3.2.2).bind fun r11 =>
 some r11
 else
 some false
 else
 some false : Option Bool).bind fun s5 =>
 if s5 then
 (idx s4.2 s3.1).bind fun x4 =>
 some (.inl (w64 (s4.1 + 1), List.set s4.2 (Int.toNat s3.1) (x4.1, x4.2.1, x3.2.1, x4.2.2.2.1, x4.2.2.2.2)))
 else
 some (.inl (w64 (s4.1 + 1), s4.2))
 else
 some (.inr (.inl (w64 (s3.1 + 1), s4.2)))
def zCO (y0 : zAF) (y1 : List zAB) (s3 : Int × (List zAL)) : Option ((Int × (List zAL)) ⊕ (List zAL)) :=
 if decide (s3.1 < (len y0.2.1)) then
 (idx y0.2.1 s3.1).bind fun x1 =>
 (zC4 x1.2.2.2.1).bind fun r10 =>
 (idx s3.2 s3.1).bind fun x2 =>
 zAm (zCh y0 x1 y1 s3) (0, List.set s3.2 (Int.toNat s3.1) (x2.1, x2.2.1, x2.2.2.1, r10, x2.2.2.2.2))
 else
 some (.inr s3.2)
def zCt (y0 : zAF) (y1 : List zAB) : Option zAF :=
 (
 (zD9 y0.1).bind fun r1 =>
 (zEy y0.2.1).bind fun r2 =>
 (zCo y0.2.2).bind fun r3 =>
 some (r1, r2, r3) : Option zAF).bind fun s1 =>
 (zAm (zCO y0 y1) (0, s1.2.1) : Option (List zAL)).bind fun s2 =>
 some (s1.1, s2, s1.2.2)
def zCB (y0 : zAF) (y1 : zAP) : Option (zDQ × Int) :=
 (zCY y0).bind fun r1 =>
 if r1.2 != 0 then
 some (((([] : List zAO), ([] : List zAL), ([] : List zAI)), ([] : List zAA), ([] : List zAM), (0, ([] : List zAT))), r1.2)
 else
 if if y1.1 != 1 then (y1.1 != 2) || ((y1.2 != 1) && (y1.2 != 2)) else (y1.2 != 1) && (y1.2 != 2) then
 some (((([] : List zAO), ([] : List zAL), ([] : List zAI)), ([] : List zAA), ([] : List zAM), (0, ([] : List zAT))), 4)
 else
 (zDH y0 r1.1 y1).bind fun r2 =>
 (zEI (len r1.1) r2).bind fun r3 =>
 if r3.2 != 0 then
 some (((([] : List zAO), ([] : List zAL), ([] : List zAI)), ([] : List zAA), ([] : List zAM), (0, ([] : List zAT))), r3.2)
 else
 (zDD r3.1).bind fun r4 =>
 (zCE r4 1).bind fun r5 =>
 (zB4 r1.1 r5).bind fun r6 =>
 (zCt y0 r6).bind fun r7 =>
 (zDH r7 r1.1 y1).bind fun r8 =>
 (zEI (len r1.1) r8).bind fun r9 =>
 if r9.2 != 0 then
 some (((([] : List zAO), ([] : List zAL), ([] : List zAI)), ([] : List zAA), ([] : List zAM), (0, ([] : List zAT))), r9.2)
 else
 some ((r7, r1.1, r8, r9.1), 0)
def zMH (y0 : List Int) : Option zA4 :=
 (sub y0 0 (if 2000 < (len y0) then 2000 else len y0)).bind fun x1 =>
 some (x1, 0)
def zIW : Option (List zAP) :=
 some ([(1, 1), (1, 2), (2, 1), (2, 2)] : List zAP)
def zIm (y0 : Int) (y1 : Int) : Option Int :=
 if decide (y1 < 1) then
 some 0
 else
 (remK y0 y1).bind fun x1 =>
 if decide (x1 < 0) then
 some (w64 (x1 + y1))
 else
 some x1
def zEi (y0 : Int) : Option Str :=
 (zIm y0 26).bind fun r1 =>
 (cat [114] (zOq ([IntKind.u8.wrap (w64 (97 + r1))] : List Int))).bind fun x1 =>
 some x1
def zHv (y0 : zA4) : Option (Int × Int) :=
 if decide ((len y0.1) ≤ y0.2) then
 some (0, y0.2)
 else
 (idx y0.1 (w64 ((w64 (y0.2 + 1)) - 1))).bind fun x1 =>
 some (x1, w64 (y0.2 + 1))
def zAY (y0 : zA4) (y1 : Int) : Option (Int × Int) :=
 (zHv y0).bind fun r1 =>
 (zIm r1.1 y1).bind fun r2 =>
 some (r2, r1.2)
def zCR (y0 : zA4) (y1 : Int) : Option (zAB × Int) :=
 (zAY y0 (w64 (2 * y1))).bind fun r1 =>
 (quoK .i64 r1.1 2).bind fun x1 =>
 some (((zNA .i64 r1.1 1) == 1, zOq ([IntKind.u8.wrap (w64 (97 + x1))] : List Int)), r1.2)
def zF8 (y0 : zA4) (y2 : Int) (s1 : (List zAB) × Int × Int) : Option (((List zAB) × Int × Int) ⊕ ((List zAB) × Int)) :=
 if decide (0 < s1.2.1) then
 (zCR (y0.1, s1.2.2) y2).bind fun r2 =>
 (app s1.1 ([r2.1] : List zAB)).bind fun x1 =>
 some (.inl (x1, w64 (s1.2.1 - 1), r2.2))
 else
 some (.inr (s1.1, s1.2.2))
def zEx (y0 : zA4) (y1 : Int) (y2 : Int) : Option ((List zAB) × Int) :=
 (zAY y0 (w64 (y1 + 1))).bind fun r1 =>
 zAm (zF8 y0 y2) (([] : List zAB), r1.1, r1.2)
def zHS (y0 : zA4) (y1 : List Int) : Option (Int × Int) :=
 (zAY y0 (len y1)).bind fun r1 =>
 (idx y1 r1.1).bind fun x1 =>
 some (x1, r1.2)
def zHP (y0 : zA4) (y1 : List Str) : Option (Str × Int) :=
 (zAY y0 (len y1)).bind fun r1 =>
 (idx y1 r1.1).bind fun x1 =>
 some (x1, r1.2)
def zFY (s1 : (List zAB) × Int) (x1 : zAB) (s3 : Int) : Option (Int ⊕ Int) :=
 (
 if decide (s3 < (len s1.1)) then
 (idx s1.1 s3).bind fun x2 =>
 if zFT x2.2 x1.2 then
 some true
 else
 (idx s1.1 s3).bind fun x3 =>
 if x3.2 == x1.2 then
 (idx s1.1 s3).bind fun x4 =>
 if !x4.1 then
 some x1.1
 else
 some false
 else
 some false
 else
 some false : Option Bool).bind fun s4 =>
 if s4 then
 some (.inl (w64 (s3 + 1)))
 else
 some (.inr s3)
def zGb (y0 : List zAB) (s1 : (List zAB) × Int) : Option (((List zAB) × Int) ⊕ (List zAB)) :=
 if decide (s1.2 < (len y0)) then
 (idx y0 s1.2).bind fun x1 =>
 (zAm (zFY s1 x1) 0 : Option Int).bind fun s2 =>
 (
 if decide (s2 < (len s1.1)) then
 (idx s1.1 s2).bind fun x5 =>
 some (x5 == x1)
 else
 some false : Option Bool).bind fun s5 =>
 if s5 then
 some (.inl (s1.1, w64 (s1.2 + 1)))
 else
 (app s1.1 ([(false, [])] : List zAB)).bind fun x6 =>
 (chk (decide (0 ≤ (w64 (s2 + 1))) && decide ((w64 (s2 + 1)) ≤ len x6))).bind fun _ =>
 (chk (decide (0 ≤ s2) && decide (s2 ≤ len x6))).bind fun _ =>
 (idx (zGv x6 (w64 (s2 + 1)) (List.drop (Int.toNat s2) x6)) s2).bind fun _ =>
 some (.inl (List.set (zGv x6 (w64 (s2 + 1)) (List.drop (Int.toNat s2) x6)) (Int.toNat s2) x1, w64 (s1.2 + 1)))
 else
 some (.inr s1.1)
def zIa (y0 : List zAB) : Option (List zAB) :=
 zAm (zGb y0) (([] : List zAB), 0)
def zDn (s2 : Int × Int × (List zAO)) (r2 : zAB × Int) (s5 : Bool × Int) : Option ((Bool × Int) ⊕ Bool) :=
 if decide (s5.2 < (len s2.2.2)) then
 (idx s2.2.2 s5.2).bind fun x1 =>
 some (.inl (s5.1 || (x1.1 == r2.1), w64 (s5.2 + 1)))
 else
 some (.inr s5.1)
def zFf (y0 : zA4) (y1 : Int) (s2 : Int × Int × (List zAO)) : Option ((Int × Int × (List zAO)) ⊕ (Int × (List zAO))) :=
 if decide (0 < s2.1) then
 (zCR (y0.1, s2.2.1) y1).bind fun r2 =>
 (zHS (y0.1, r2.2) ([1, 2, 2, 2, 3] : List Int)).bind fun r3 =>
 (zHP (y0.1, r3.2) ([[], [], [97, 110, 110], [98, 111, 98]] : List Str)).bind fun r4 =>
 (
 if r3.1 == 2 then
 (zAY (y0.1, r4.2) 4).bind fun r5 =>
 some (r5.2, r5.1)
 else
 some (r4.2, 0) : Option (Int × Int)).bind fun s3 =>
 (zAm (zDn s2 r2) (false, 0) : Option Bool).bind fun s4 =>
 if !s4 then
 (app s2.2.2 ([(r2.1, r3.1, s3.2, r4.1)] : List zAO)).bind fun x2 =>
 some (.inl (w64 (s2.1 - 1), s3.1, x2))
 else
 some (.inl (w64 (s2.1 - 1), s3.1, s2.2.2))
 else
 some (.inr (s2.2.1, s2.2.2))
def zFi (y0 : zA4) (y1 : Int) (y3 : Int) (s7 : Int × Int × (List zAL)) : Option ((Int × Int × (List zAL)) ⊕ (Int × (List zAL))) :=
 if decide (0 < s7.1) then
 (zEi (len s7.2.2)).bind fun r7 =>
 (zAY (y0.1, s7.2.1) 3).bind fun r8 =>
 (zEx (y0.1, r8.2) 2 y1).bind fun r9 =>
 (zIa r9.1).bind fun r10 =>
 (zCR (y0.1, r9.2) y1).bind fun r11 =>
 (
 if !(r8.1 == 0) then
 (zAY (y0.1, r11.2) 4).bind fun r12 =>
 some (r12.2, r12.1)
 else
 some (r11.2, 0) : Option (Int × Int)).bind fun s8 =>
 (
 (zAY (y0.1, s8.1) 6).bind fun r13 =>
 if r13.1 == 5 then
 (zAY (y0.1, r13.2) 4).bind fun r14 =>
 (zAY (y0.1, r14.2) y3).bind fun r15 =>
 (zEi r15.1).bind fun r16 =>
 some (r15.2, decide (0 < r14.1), r16)
 else
 some (r13.2, r11.1.1, r11.1.2) : Option (Int × Bool × Str)).bind fun s9 =>
 (app s7.2.2 ([(r7, r8.1 == 0, s8.2, r10, (s9.2.1, s9.2.2))] : List zAL)).bind fun x3 =>
 some (.inl (w64 (s7.1 - 1), s9.1, x3))
 else
 some (.inr (s7.2.1, s7.2.2))
def zFj (s6 : Int × (List zAL)) (y0 : zA4) (y1 : Int) (s11 : Int × Int × (List zAI)) : Option ((Int × Int × (List zAI)) ⊕ (Int × (List zAI))) :=
 if (decide (0 < s11.1)) && (decide (0 < (len s6.2))) then
 (
 (zAY (y0.1, s11.2.1) (len s6.2)).bind fun r18 =>
 (idx s6.2 r18.1).bind fun x4 =>
 some (r18.2, x4) : Option (Int × zAL)).bind fun s12 =>
 if !s12.2.2.1 then
 (zAY (y0.1, s12.1) 10).bind fun r20 =>
 (zCR (y0.1, r20.2) y1).bind fun r21 =>
 (app s11.2.2 ([(s12.2.1, r20.1, r21.1)] : List zAI)).bind fun x6 =>
 some (.inl (w64 (s11.1 - 1), r21.2, x6))
 else
 some (.inl (w64 (s11.1 - 1), s12.1, s11.2.2))
 else
 some (.inr (s11.2.1, s11.2.2))
def zHX (y0 : zA4) (y1 : Int) (y2 : Int) (y3 : Int) : Option (zAF × Int) :=
 (
 (zAY y0 (w64 (y2 + 1))).bind fun r1 =>
 zAm (zFf y0 y1) (r1.1, r1.2, ([] : List zAO)) : Option (Int × (List zAO))).bind fun s1 =>
 (
 (zAY (y0.1, s1.1) (w64 (y3 + 1))).bind fun r6 =>
 zAm (zFi y0 y1 y3) (r6.1, r6.2, ([] : List zAL)) : Option (Int × (List zAL))).bind fun s6 =>
 (
 (zAY (y0.1, s6.1) 3).bind fun r17 =>
 zAm (zFj s6 y0 y1) (r17.1, r17.2, ([] : List zAI)) : Option (Int × (List zAI))).bind fun s10 =>
 some ((s1.2, s6.2, s10.2), s10.1)
def zDl (y0 : zAF) (y1 : zAP) : Option ((List zAB) × Bool) :=
 (zCB y0 y1).bind fun r1 =>
 (zCM r1.1 1 true).bind fun r2 =>
 (
 if r1.2 == 0 then
 some (r2.1, r2.2 == 0)
 else
 some (r2.1, false) : Option ((List zAB) × Bool)).bind fun s1 =>
 some (s1.1, s1.2)
def zDE (y0 : zAB) : Option Str :=
 (zBe y0).bind fun r1 =>
 if !r1 then
 some []
 else
 if y0.1 then
 (cat [126] y0.2).bind fun x1 =>
 some x1
 else
 some y0.2
def zFe (y0 : Int) (y1 : Int) : Option Str := zZD y0 y1
def zHU (y0 : Int) : Option Str :=
 (zFe y0 10).bind fun r1 =>
 some r1
def zHq (y0 : Int) : Option Str :=
 (zHU y0).bind fun r1 =>
 some r1
def zJu (y0 : List Str) (y1 : Str) : Option Str := zYf y0 y1
def zD6 (y0 : zAO) : Option Str :=
 (idx tab_rulebase_kinds y0.2.1).bind fun x1 =>
 (zDE y0.1).bind fun r1 =>
 (
 if y0.2.1 == 2 then
 (zHq y0.2.2.1).bind fun r2 =>
 (app ([x1, r1] : List Str) ([r2] : List Str)).bind fun x2 =>
 some x2
 else
 some ([x1, r1] : List Str) : Option (List Str)).bind fun s1 =>
 (
 if !(y0.2.2.2 == []) then
 (app s1 ([[102, 114, 111, 109], y0.2.2.2] : List Str)).bind fun x3 =>
 some x3
 else
 some s1 : Option (List Str)).bind fun s2 =>
 (zJu s2 [32]).bind fun r3 =>
 some r3
def zCw (y0 : zAI) : Option Str :=
 (cat [112, 114, 111, 109, 111, 116, 101, 32] y0.1).bind fun x1 =>
 (cat x1 [32]).bind fun x2 =>
 (zHq y0.2.1).bind fun r1 =>
 (cat x2 r1).bind fun x3 =>
 (cat x3 [32, 105, 102, 32]).bind fun x4 =>
 (zDE y0.2.2).bind fun r2 =>
 (cat x4 r2).bind fun x5 =>
 some x5
def zF5 (y0 : zAL) (s3 : (List Str) × Int) : Option (((List Str) × Int) ⊕ (List Str)) :=
 if decide (s3.2 < (len y0.2.2.2.1)) then
 (idx y0.2.2.2.1 s3.2).bind fun x3 =>
 (zDE x3).bind fun r2 =>
 (
 if decide (s3.2 < (w64 ((len y0.2.2.2.1) - 1))) then
 (cat r2 [44]).bind fun x4 =>
 some x4
 else
 some r2 : Option Str).bind fun s4 =>
 (app s3.1 ([s4] : List Str)).bind fun x5 =>
 some (.inl (x5, w64 (s3.2 + 1)))
 else
 some (.inr s3.1)
def zEv (y0 : zAL) : Option Str :=
 (cat y0.1 [58]).bind fun x1 =>
 (
 if !y0.2.1 then
 (zHq y0.2.2.1).bind fun r1 =>
 (cat r1 [58]).bind fun x2 =>
 some (([[114, 117, 108, 101], y0.1, x2] : List Str), [61, 62])
 else
 some (([[115, 116, 114, 105, 99, 116], x1] : List Str), [45, 62]) : Option ((List Str) × Str)).bind fun s1 =>
 (zAm (zF5 y0) (s1.1, 0) : Option (List Str)).bind fun s2 =>
 (zDE y0.2.2.2.2).bind fun r3 =>
 (app s2 ([s1.2, r3] : List Str)).bind fun x6 =>
 (zJu x6 [32]).bind fun r4 =>
 some r4
def zBO (y0 : zA2) : Option (Str × (List Str) × Bool) :=
 if (len y0.1) == 0 then
 some ([], y0.1, true)
 else
 (idx y0.1 0).bind fun x1 =>
 (sub y0.1 1 (len y0.1)).bind fun x2 =>
 some (x1, x2, y0.2)
def zHY (y0 : Str) : Option (zAB × Int) :=
 (
 (
 if decide (0 < (len y0)) then
 (zQR y0 0).bind fun x1 =>
 some (x1 == 126)
 else
 some false : Option Bool).bind fun s2 =>
 if s2 then
 (sub y0 1 (len y0)).bind fun x2 =>
 some (x2, true)
 else
 some (y0, false) : Option (Str × Bool)).bind fun s1 =>
 (zBe (s1.2, s1.1)).bind fun r1 =>
 if !r1 then
 some ((false, []), 3)
 else
 some ((s1.2, s1.1), 0)
def zEM (y0 : Str) (y1 : Str) : Option Bool :=
 (
 if decide ((len y1) ≤ (len y0)) then
 (sub y0 (w64 ((len y0) - (len y1))) (len y0)).bind fun x1 =>
 some (x1 == y1)
 else
 some false : Option Bool).bind fun s1 =>
 some s1
def zEN (y0 : Str) (y1 : Str) : Option (Str × Bool) :=
 (zEM y0 y1).bind fun r1 =>
 if !r1 then
 some (y0, false)
 else
 (sub y0 0 (w64 ((len y0) - (len y1)))).bind fun x1 =>
 some (x1, true)
def zEp (y0 : Str) (y1 : Str) : Option (Str × Bool) :=
 (zEN y0 y1).bind fun r1 =>
 some (r1.1, r1.2)
def zBK (y0 : zA2) (y1 : Str) : Option (zAB × (List Str) × Bool) :=
 (zBO y0).bind fun r1 =>
 (zEp r1.1 y1).bind fun r2 =>
 (zHY r2.1).bind fun r3 =>
 (
 if r1.2.2 then
 some true
 else
 if !r2.2 then
 some true
 else
 some (r3.2 != 0) : Option Bool).bind fun s1 =>
 some (r3.1, r1.2.1, s1)
def zBf (y0 : zA2) (y1 : Str) : Option (Str × (List Str) × Bool) :=
 (zBO y0).bind fun r1 =>
 (zEp r1.1 y1).bind fun r2 =>
 (
 if r1.2.2 then
 some true
 else
 if !r2.2 then
 some true
 else
 (zBU r2.1).bind fun r3 =>
 some (!r3) : Option Bool).bind fun s1 =>
 some (r2.1, r1.2.1, s1)
def zDp (y0 : zA2) (y1 : Str) : Option (Int × (List Str) × Bool) :=
 (zBO y0).bind fun r1 =>
 (zEp r1.1 y1).bind fun r2 =>
 (
 if !r2.2 then
 some true
 else
 if (len r2.1) != 1 then
 some true
 else
 (zQR r2.1 0).bind fun x1 =>
 if decide (x1 < 48) then
 some true
 else
 (zQR r2.1 0).bind fun x2 =>
 some (decide (57 < x2)) : Option Bool).bind fun s1 =>
 if s1 then
 some (0, r1.2.1, true)
 else
 (zQR r2.1 0).bind fun x3 =>
 some (w64 (IntKind.u8.wrap (x3 - 48)), r1.2.1, r1.2.2)
def zCr (y0 : zA2) (y1 : Int) : Option (zAO × (List Str) × Bool) :=
 (zBK y0 []).bind fun r1 =>
 (
 if y1 == 2 then
 (zDp (r1.2.1, r1.2.2) []).bind fun r2 =>
 some (r2.2.1, r2.2.2, r2.1)
 else
 some (r1.2.1, r1.2.2, 0) : Option ((List Str) × Bool × Int)).bind fun s1 =>
 (
 if decide (0 < (len s1.1)) then
 (
 if s1.2.1 then
 some (s1.1, true)
 else
 (zBO (s1.1, s1.2.1)).bind fun r3 =>
 some (r3.2.1, !(r3.1 == [102, 114, 111, 109])) : Option ((List Str) × Bool)).bind fun s3 =>
 (zBf (s3.1, s3.2) []).bind fun r4 =>
 some (r4.2.1, r4.2.2, r4.1)
 else
 some (s1.1, s1.2.1, []) : Option ((List Str) × Bool × Str)).bind fun s2 =>
 some ((r1.1, y1, s1.2.2, s2.2.2), s2.1, s2.2.1)
def zC1 (y0 : zA2) : Option (zAI × (List Str) × Bool) :=
 (zBf y0 []).bind fun r1 =>
 (zDp (r1.2.1, r1.2.2) []).bind fun r2 =>
 (
 if r2.2.2 then
 some (r2.2.1, true)
 else
 (zBO (r2.2.1, r2.2.2)).bind fun r3 =>
 some (r3.2.1, !(r3.1 == [105, 102])) : Option ((List Str) × Bool)).bind fun s1 =>
 (zBK (s1.1, s1.2) []).bind fun r4 =>
 some ((r1.1, r2.1, r4.1), r4.2.1, r4.2.2)
def zE8 (s3 : (List Str) × Bool × (List zAB)) : Option (((List Str) × Bool × (List zAB)) ⊕ ((List Str) × Bool × (List zAB))) :=
 if (decide (2 < (len s3.1))) && (!s3.2.1) then
 (
 if (len s3.1) == 3 then
 some []
 else
 some [44] : Option Str).bind fun s4 =>
 (zBK (s3.1, s3.2.1) s4).bind fun r4 =>
 (app s3.2.2 ([r4.1] : List zAB)).bind fun x1 =>
 some (.inl (r4.2.1, r4.2.2, x1))
 else
 some (.inr (s3.1, s3.2.1, s3.2.2))
def zDr (y0 : zA2) (y1 : Bool) : Option (zAL × (List Str) × Bool) :=
 (
 if y1 then
 (zBf y0 [58]).bind fun r1 =>
 some ([45, 62], r1.2.1, r1.2.2, r1.1, 0)
 else
 (zBf y0 []).bind fun r2 =>
 (zDp (r2.2.1, r2.2.2) [58]).bind fun r3 =>
 some ([61, 62], r3.2.1, r3.2.2, r2.1, r3.1) : Option (Str × (List Str) × Bool × Str × Int)).bind fun s1 =>
 (zAm (zE8) (s1.2.1, s1.2.2.1, ([] : List zAB)) : Option ((List Str) × Bool × (List zAB))).bind fun s2 =>
 (
 if s2.2.1 then
 some (s2.1, true)
 else
 (zBO (s2.1, s2.2.1)).bind fun r5 =>
 some (r5.2.1, !(r5.1 == s1.1)) : Option ((List Str) × Bool)).bind fun s5 =>
 (zBK (s5.1, s5.2) []).bind fun r6 =>
 some ((s1.2.2.2.1, y1, s1.2.2.2.2, s2.2.2, r6.1), r6.2.1, r6.2.2)
def zKk (r1 : Str × (List Str) × Bool) (s3 : Int × Int) : Option ((Int × Int) ⊕ Int) :=
 if decide (s3.2 < 4) then
 (idx tab_rulebase_kinds s3.2).bind fun x1 =>
 if x1 == r1.1 then
 some (.inl (s3.2, w64 (s3.2 + 1)))
 else
 some (.inl (s3.1, w64 (s3.2 + 1)))
 else
 some (.inr s3.1)
def zE0 (y0 : zA2) (y1 : zAF) : Option (Int × Str × (List Str) × Bool × (List zAO) × (List zAL) × (List zAI)) :=
 (zBO y0).bind fun r1 =>
 (
 if r1.1 == [97, 120, 105, 111, 109] then
 some (r1.1 == [97, 120, 105, 111, 109])
 else
 if r1.1 == [112, 114, 101, 109, 105, 115, 101] then
 some (r1.1 == [112, 114, 101, 109, 105, 115, 101])
 else
 some (r1.1 == [97, 115, 115, 117, 109, 101]) : Option Bool).bind fun s1 =>
 if s1 then
 (zAm (zKk r1) (1, 0) : Option Int).bind fun s2 =>
 (zCr (r1.2.1, r1.2.2) s2).bind fun r2 =>
 (app y1.1 ([r2.1] : List zAO)).bind fun x2 =>
 (zD6 r2.1).bind fun r3 =>
 some (1, r3, r2.2.1, r2.2.2, x2, y1.2.1, y1.2.2)
 else
 (
 if r1.1 == [115, 116, 114, 105, 99, 116] then
 some (r1.1 == [115, 116, 114, 105, 99, 116])
 else
 some (r1.1 == [114, 117, 108, 101]) : Option Bool).bind fun s4 =>
 if s4 then
 (zDr (r1.2.1, r1.2.2) (r1.1 == [115, 116, 114, 105, 99, 116])).bind fun r4 =>
 (app y1.2.1 ([r4.1] : List zAL)).bind fun x3 =>
 (zEv r4.1).bind fun r5 =>
 some (2, r5, r4.2.1, r4.2.2, y1.1, x3, y1.2.2)
 else
 if r1.1 == [112, 114, 111, 109, 111, 116, 101] then
 (zC1 (r1.2.1, r1.2.2)).bind fun r6 =>
 (app y1.2.2 ([r6.1] : List zAI)).bind fun x4 =>
 (zCw r6.1).bind fun r7 =>
 some (3, r7, r6.2.1, r6.2.2, y1.1, y1.2.1, x4)
 else
 some (0, [], r1.2.1, r1.2.2, y1.1, y1.2.1, y1.2.2)
def zFd (y0 : Str) (y1 : Str) : Option Int := zWO y0 y1
def zGP (y0 : Str) (y1 : Str) : Option (Str × Str × Bool) :=
 (zFd y0 y1).bind fun r1 =>
 if decide (0 ≤ r1) then
 (sub y0 0 r1).bind fun x1 =>
 (sub y0 (w64 (r1 + (len y1))) (len y0)).bind fun x2 =>
 some (x1, x2, true)
 else
 some (y0, [], false)
def zN3 (y0 : Str) (y1 : Str) : Option (Str × Str × Bool) :=
 (zGP y0 y1).bind fun r1 =>
 some (r1.1, r1.2.1, r1.2.2)
def zKy (y0 : Str) : Option (List Str) := zTx y0
def zGk (s2 : Str × Int × Int × (List zAO) × (List zAL) × (List zAI)) : Option ((Str × Int × Int × (List zAO) × (List zAL) × (List zAI)) ⊕ (((List zAO) × (List zAL) × (List zAI)) ⊕ (zAF × Int × Int))) :=
 if !(s2.1 == []) then
 (zN3 s2.1 [10]).bind fun r1 =>
 (zKy r1.1).bind fun r2 =>
 (zE0 (r2, false) (s2.2.2.2.1, s2.2.2.2.2.1, s2.2.2.2.2.2)).bind fun r3 =>
 if (!r1.2.2) || (r3.2.2.2.1 || ((decide (0 < (len r3.2.2.1))) || ((!(r3.2.1 == r1.1)) || (decide (r3.1 < s2.2.1))))) then
 some (.inr (.inr ((([] : List zAO), ([] : List zAL), ([] : List zAI)), s2.2.2.1, 3)))
 else
 some (.inl (r1.2.1, r3.1, w64 (s2.2.2.1 + 1), r3.2.2.2.2.1, r3.2.2.2.2.2.1, r3.2.2.2.2.2.2))
 else
 some (.inr (.inl (s2.2.2.2.1, s2.2.2.2.2.1, s2.2.2.2.2.2)))
def zGc (y0 : Str) : Option (zAF × Int × Int) :=
 if decide (4096 < (len y0)) then
 some ((([] : List zAO), ([] : List zAL), ([] : List zAI)), 0, 2)
 else
 zBE (zAm (zGk) (y0, 1, 1, ([] : List zAO), ([] : List zAL), ([] : List zAI)) : Option (((List zAO) × (List zAL) × (List zAI)) ⊕ (zAF × Int × Int))) fun s1 =>
 (zBh (s1.1, s1.2.1, s1.2.2)).bind fun r4 =>
 if r4 != 0 then
 some ((([] : List zAO), ([] : List zAL), ([] : List zAI)), 0, r4)
 else
 some ((s1.1, s1.2.1, s1.2.2), 0, 0)
def zGu (y0 : Str) : Option zAF :=
 (zGc y0).bind fun r1 =>
 some r1.1
def zFI : Option Bool :=
 (zGu [112, 114, 101, 109, 105, 115, 101, 32, 112, 32, 49, 10, 112, 114, 101, 109, 105, 115, 101, 32, 126, 112, 32, 50, 10]).bind fun r1 =>
 (zDl r1 (1, 1)).bind fun r2 =>
 (zGu [97, 120, 105, 111, 109, 32, 112, 10, 114, 117, 108, 101, 32, 97, 32, 49, 58, 32, 61, 62, 32, 113, 10, 114, 117, 108, 101, 32, 98, 32, 49, 58, 32, 61, 62, 32, 126, 113, 10, 112, 114, 111, 109, 111, 116, 101, 32, 98, 32, 53, 32, 105, 102, 32, 112, 10]).bind fun r3 =>
 (zDl r3 (1, 1)).bind fun r4 =>
 (zGu [112, 114, 101, 109, 105, 115, 101, 32, 112, 32, 51, 10, 115, 116, 114, 105, 99, 116, 32, 115, 58, 32, 112, 32, 45, 62, 32, 126, 112, 10]).bind fun r5 =>
 (zDl r5 (1, 1)).bind fun r6 =>
 (
 if r2.2 then
 if (len r2.1) == 1 then
 (idx r2.1 0).bind fun x1 =>
 if x1 == (true, [112]) then
 if r4.2 then
 if (len r4.1) == 2 then
 (idx r4.1 1).bind fun x2 =>
 if x2 == (true, [113]) then
 if r6.2 then
 some ((len r6.1) == 0)
 else
 some false
 else
 some false
 else
 some false
 else
 some false
 else
 some false
 else
 some false
 else
 some false : Option Bool).bind fun s1 =>
 some s1
def zHQ (y0 : zAF) (s3 : Int × (List zAL)) : Option ((Int × (List zAL)) ⊕ (List zAL)) :=
 if decide (s3.1 < (len y0.2.1)) then
 (idx y0.2.1 s3.1).bind fun x27 =>
 (app ([] : List zAB) x27.2.2.2.1).bind fun x28 =>
 (app s3.2 ([(x27.1, x27.2.1, x27.2.2.1, x28, x27.2.2.2.2)] : List zAL)).bind fun x29 =>
 some (.inl (w64 (s3.1 + 1), x29))
 else
 some (.inr s3.2)
def zIJ (y0 : zAF) : Option zAF :=
 (
 (app ([] : List zAO) y0.1).bind fun x1 =>
 (app ([] : List zAI) y0.2.2).bind fun x2 =>
 some (x1, ([] : List zAL), x2) : Option zAF).bind fun s1 =>
 (zAm (zHQ y0) (0, s1.2.1) : Option (List zAL)).bind fun s2 =>
 some (s1.1, s2, s1.2.2)
def zHu (y0 : List zAB) (y1 : zAB) (s1 : Int) : Option (Int ⊕ Bool) :=
 if decide (s1 < (len y0)) then
 (idx y0 s1).bind fun x1 =>
 if x1 == y1 then
 some (.inr true)
 else
 some (.inl (w64 (s1 + 1)))
 else
 some (.inr false)
def zKl (y0 : List zAB) (y1 : zAB) : Option Bool :=
 zAm (zHu y0 y1) 0
def zH0 (y0 : zAF) (s2 : Int × (List zAL)) (y1 : List zAB) (s3 : Int × (List zAL)) : Option ((Int × (List zAL)) ⊕ ((Int × (List zAL)) ⊕ (List zAL))) :=
 if decide (s3.1 < (len y0.2.2)) then
 (idx y0.2.2 s3.1).bind fun x1 =>
 (
 (idx s3.2 s2.1).bind fun x2 =>
 if x1.1 == x2.1 then
 (idx s3.2 s2.1).bind fun x3 =>
 if !x3.2.1 then
 (zKl y1 x1.2.2).bind fun r2 =>
 some r2
 else
 some false
 else
 some false : Option Bool).bind fun s4 =>
 if s4 then
 (idx s3.2 s2.1).bind fun x4 =>
 some (.inl (w64 (s3.1 + 1), List.set s3.2 (Int.toNat s2.1) (x4.1, x4.2.1, x1.2.1, x4.2.2.2.1, x4.2.2.2.2)))
 else
 some (.inl (w64 (s3.1 + 1), s3.2))
 else
 some (.inr (.inl (w64 (s2.1 + 1), s3.2)))
def zFb (y0 : zAF) (y1 : List zAB) (s2 : Int × (List zAL)) : Option ((Int × (List zAL)) ⊕ (List zAL)) :=
 if decide (s2.1 < (len s2.2)) then
 zAm (zH0 y0 s2 y1) (0, s2.2)
 else
 some (.inr s2.2)
def zHW (y0 : zAF) (y1 : List zAB) : Option zAF :=
 (zIJ y0).bind fun r1 =>
 (zAm (zFb y0 y1) (0, r1.2.1) : Option (List zAL)).bind fun s1 =>
 some (r1.1, s1, r1.2.2)
def zPS (y0 : List zAB) (y1 : List zAB) (s1 : Int) : Option (Int ⊕ Bool) :=
 if decide (s1 < (len y0)) then
 (idx y0 s1).bind fun x1 =>
 (idx y1 s1).bind fun x2 =>
 if !(x1 == x2) then
 some (.inr false)
 else
 some (.inl (w64 (s1 + 1)))
 else
 some (.inr true)
def zJk (y0 : List zAB) (y1 : List zAB) : Option Bool :=
 if (len y0) != (len y1) then
 some false
 else
 zAm (zPS y0 y1) 0
def zJQ (y0 : zAF) (y1 : zAF) (s2 : Int) : Option (Int ⊕ (Unit ⊕ Bool)) :=
 if decide (s2 < (len y0.1)) then
 (idx y0.1 s2).bind fun x1 =>
 (idx y1.1 s2).bind fun x2 =>
 if !(x1 == x2) then
 some (.inr (.inr false))
 else
 some (.inl (w64 (s2 + 1)))
 else
 some (.inr (.inl ()))
def zJE (y0 : zAF) (y1 : zAF) (s4 : Int) : Option (Int ⊕ (Unit ⊕ Bool)) :=
 if decide (s4 < (len y0.2.1)) then
 (
 (idx y0.2.1 s4).bind fun x3 =>
 (idx y1.2.1 s4).bind fun x4 =>
 some (x3, x4) : Option (zAL × zAL)).bind fun s5 =>
 (
 if !(s5.1.1 == s5.2.1) then
 some true
 else
 if !(s5.1.2.1 == s5.2.2.1) then
 some true
 else
 if s5.1.2.2.1 != s5.2.2.2.1 then
 some true
 else
 if !(s5.1.2.2.2.2 == s5.2.2.2.2.2) then
 some true
 else
 (zJk s5.1.2.2.2.1 s5.2.2.2.2.1).bind fun r1 =>
 some (!r1) : Option Bool).bind fun s6 =>
 if s6 then
 some (.inr (.inr false))
 else
 some (.inl (w64 (s4 + 1)))
 else
 some (.inr (.inl ()))
def zIs (y0 : zAF) (y1 : zAF) (s7 : Int) : Option (Int ⊕ Bool) :=
 if decide (s7 < (len y0.2.2)) then
 (idx y0.2.2 s7).bind fun x5 =>
 (idx y1.2.2 s7).bind fun x6 =>
 if !(x5 == x6) then
 some (.inr false)
 else
 some (.inl (w64 (s7 + 1)))
 else
 some (.inr true)
def zIB (y0 : zAF) (y1 : zAF) : Option Bool :=
 if ((len y0.1) != (len y1.1)) || (((len y0.2.1) != (len y1.2.1)) || ((len y0.2.2) != (len y1.2.2))) then
 some false
 else
 zBE (zAm (zJQ y0 y1) 0 : Option (Unit ⊕ Bool)) fun _ =>
 zBE (zAm (zJE y0 y1) 0 : Option (Unit ⊕ Bool)) fun _ =>
 zAm (zIs y0 y1) 0
def zEY (y0 : Str) (s2 : Int) : Option (Int ⊕ Bool) :=
 if decide (s2 < (len y0)) then
 (
 (zQR y0 s2).bind fun x3 =>
 if decide (x3 < 97) then
 (zQR y0 s2).bind fun x4 =>
 if decide (x4 < 48) then
 (zQR y0 s2).bind fun x5 =>
 some (x5 != 95)
 else
 (zQR y0 s2).bind fun x6 =>
 if decide (57 < x6) then
 (zQR y0 s2).bind fun x7 =>
 some (x7 != 95)
 else
 some false
 else
 (zQR y0 s2).bind fun x8 =>
 if decide (122 < x8) then
 (zQR y0 s2).bind fun x9 =>
 if decide (x9 < 48) then
 (zQR y0 s2).bind fun x10 =>
 some (x10 != 95)
 else
 (zQR y0 s2).bind fun x11 =>
 if decide (57 < x11) then
 (zQR y0 s2).bind fun x12 =>
 some (x12 != 95)
 else
 some false
 else
 some false : Option Bool).bind fun s3 =>
 if s3 then
 some (.inr false)
 else
 some (.inl (w64 (s2 + 1)))
 else
 some (.inr true)
def zC5 (y0 : Str) : Option Bool :=
 (
 if decide ((len y0) < 1) then
 some true
 else
 if decide (12 < (len y0)) then
 some true
 else
 (zQR y0 0).bind fun x1 =>
 if decide (x1 < 97) then
 some true
 else
 (zQR y0 0).bind fun x2 =>
 some (decide (122 < x2)) : Option Bool).bind fun s1 =>
 if s1 then
 some false
 else
 zAm (zEY y0) 0
def zEE (y0 : zAB) : Option Bool :=
 (zC5 y0.2).bind fun r1 =>
 some r1
def zHZ (y0 : zAF) (y1 : Str) (s1 : Int) : Option (Int ⊕ Int) :=
 if decide (s1 < (len y0.2.1)) then
 (idx y0.2.1 s1).bind fun x1 =>
 if x1.1 == y1 then
 some (.inr s1)
 else
 some (.inl (w64 (s1 + 1)))
 else
 some (.inr (-1))
def zJa (y0 : zAF) (y1 : Str) : Option Int :=
 zAm (zHZ y0 y1) 0
def zFk (y0 : zAF) (y1 : zAB) (s1 : Int) : Option (Int ⊕ Int) :=
 if decide (s1 < (len y0.1)) then
 (idx y0.1 s1).bind fun x1 =>
 if x1.1 == y1 then
 some (.inr s1)
 else
 some (.inl (w64 (s1 + 1)))
 else
 some (.inr (-1))
def zIq (y0 : zAF) (y1 : zAB) : Option Int :=
 zAm (zFk y0 y1) 0
def zFq (y0 : Int) : Option Bool :=
 some ((decide (0 ≤ y0)) && (decide (y0 ≤ 9)))
def zHV (y0 : zAO) : Option Int :=
 if (decide (y0.2.1 < 1)) || (decide (3 < y0.2.1)) then
 some 4
 else
 (
 (zEE y0.1).bind fun r1 =>
 if !r1 then
 some true
 else
 (zFq y0.2.2.1).bind fun r2 =>
 if !r2 then
 some true
 else
 if y0.2.1 != 2 then
 if y0.2.2.1 != 0 then
 some true
 else
 if !(y0.2.2.2 == []) then
 (zC5 y0.2.2.2).bind fun r3 =>
 some (!r3)
 else
 some false
 else
 if !(y0.2.2.2 == []) then
 (zC5 y0.2.2.2).bind fun r4 =>
 some (!r4)
 else
 some false : Option Bool).bind fun s1 =>
 if s1 then
 some 1
 else
 some 0
def zHR (y0 : zAB) (y1 : zAB) : Option Int :=
 if y0 == y1 then
 some 0
 else
 if (zFT y0.2 y1.2) || ((y0.2 == y1.2) && y1.1) then
 some (-1)
 else
 some 1
def zHN (y0 : zAL) (s3 : Bool × Int) : Option ((Bool × Int) ⊕ Bool) :=
 if decide (s3.2 < (len y0.2.2.2.1)) then
 (
 if s3.1 then
 (idx y0.2.2.2.1 s3.2).bind fun x1 =>
 (zEE x1).bind fun r5 =>
 some r5
 else
 some false : Option Bool).bind fun s4 =>
 some (.inl (s4, w64 (s3.2 + 1)))
 else
 some (.inr s3.1)
def zHL (y0 : zAL) (s5 : Int) : Option (Int ⊕ Int) :=
 if decide (s5 < (len y0.2.2.2.1)) then
 (idx y0.2.2.2.1 (w64 (s5 - 1))).bind fun x2 =>
 (idx y0.2.2.2.1 s5).bind fun x3 =>
 (zHR x2 x3).bind fun r6 =>
 if decide (0 ≤ r6) then
 some (.inr 8)
 else
 some (.inl (w64 (s5 + 1)))
 else
 some (.inr 0)
def zJ9 (y0 : zAL) : Option Int :=
 if decide (4 < (len y0.2.2.2.1)) then
 some 2
 else
 (
 (zC5 y0.1).bind fun r1 =>
 if r1 then
 (zFq y0.2.2.1).bind fun r2 =>
 if r2 then
 if !y0.2.1 then
 (zEE y0.2.2.2.2).bind fun r3 =>
 some r3
 else
 if y0.2.2.1 == 0 then
 (zEE y0.2.2.2.2).bind fun r4 =>
 some r4
 else
 some false
 else
 some false
 else
 some false : Option Bool).bind fun s1 =>
 (zAm (zHN y0) (s1, 0) : Option Bool).bind fun s2 =>
 if !s2 then
 some 1
 else
 zAm (zHL y0) 1
def zFG (y0 : zAF) (s2 : Int) : Option (Int ⊕ (Unit ⊕ Int)) :=
 if decide (s2 < (len y0.1)) then
 (idx y0.1 s2).bind fun x1 =>
 (zHV x1).bind fun r1 =>
 if r1 != 0 then
 some (.inr (.inr r1))
 else
 (idx y0.1 s2).bind fun x2 =>
 (zIq y0 x2.1).bind fun r2 =>
 if decide (r2 < s2) then
 some (.inr (.inr 5))
 else
 some (.inl (w64 (s2 + 1)))
 else
 some (.inr (.inl ()))
def zFA (y0 : zAF) (s4 : Int) : Option (Int ⊕ (Unit ⊕ Int)) :=
 if decide (s4 < (len y0.2.1)) then
 (idx y0.2.1 s4).bind fun x3 =>
 (zJ9 x3).bind fun r3 =>
 if r3 != 0 then
 some (.inr (.inr r3))
 else
 (idx y0.2.1 s4).bind fun x4 =>
 (zJa y0 x4.1).bind fun r4 =>
 if decide (r4 < s4) then
 some (.inr (.inr 5))
 else
 some (.inl (w64 (s4 + 1)))
 else
 some (.inr (.inl ()))
def zEw (y0 : zAF) (s5 : Int) : Option (Int ⊕ Int) :=
 if decide (s5 < (len y0.2.2)) then
 (idx y0.2.2 s5).bind fun x5 =>
 (
 (zFq x5.2.1).bind fun r5 =>
 if !r5 then
 some true
 else
 (zEE x5.2.2).bind fun r6 =>
 some (!r6) : Option Bool).bind fun s6 =>
 if s6 then
 some (.inr 1)
 else
 (zJa y0 x5.1).bind fun r7 =>
 if decide (r7 < 0) then
 some (.inr 6)
 else
 (idx y0.2.1 r7).bind fun x6 =>
 if x6.2.1 then
 some (.inr 4)
 else
 some (.inl (w64 (s5 + 1)))
 else
 some (.inr 0)
def zFO (y0 : zAF) : Option Int :=
 if (decide (16 < (len y0.1))) || ((decide (24 < (len y0.2.1))) || (decide (8 < (len y0.2.2)))) then
 some 2
 else
 zBE (zAm (zFG y0) 0 : Option (Unit ⊕ Int)) fun _ =>
 zBE (zAm (zFA y0) 0 : Option (Unit ⊕ Int)) fun _ =>
 zAm (zEw y0) 0
def zEj (y0 : List Int) (y1 : Int) (s2 : Int) : Option (Int ⊕ Int) :=
 (
 if decide (s2 < (len y0)) then
 (idx y0 s2).bind fun x1 =>
 some (decide (x1 < y1))
 else
 some false : Option Bool).bind fun s3 =>
 if s3 then
 some (.inl (w64 (s2 + 1)))
 else
 some (.inr s2)
def zG1 (y0 : List Int) (y1 : Int) : Option (List Int) :=
 (zAm (zEj y0 y1) 0 : Option Int).bind fun s1 =>
 (
 if decide (s1 < (len y0)) then
 (idx y0 s1).bind fun x2 =>
 some (x2 == y1)
 else
 some false : Option Bool).bind fun s4 =>
 if s4 then
 some y0
 else
 (sub y0 0 s1).bind fun x3 =>
 (app ([] : List Int) x3).bind fun x4 =>
 (sub y0 s1 (len y0)).bind fun x5 =>
 (app x4 ([y1] : List Int)).bind fun x6 =>
 (app x6 x5).bind fun x7 =>
 some x7
def zG7 (y1 : List Int) (s1 : (List Int) × Int) : Option (((List Int) × Int) ⊕ (List Int)) :=
 if decide (s1.2 < (len y1)) then
 (idx y1 s1.2).bind fun x1 =>
 (zG1 s1.1 x1).bind fun r1 =>
 some (.inl (r1, w64 (s1.2 + 1)))
 else
 some (.inr s1.1)
def zKe (y0 : List Int) (y1 : List Int) : Option (List Int) :=
 zAm (zG7 y1) (y0, 0)
def zHM (y0 : List zAA) (y1 : Int) (rec_ref07_Subs : (List zAA) → Int → Option (List Int)) (s1 : (List Int) × Int) : Option (((List Int) × Int) ⊕ (List Int)) :=
 (idx y0 y1).bind fun x1 =>
 if decide (s1.2 < (len x1.2.2.1)) then
 (idx y0 y1).bind fun x2 =>
 (idx x2.2.2.1 s1.2).bind fun x3 =>
 (rec_ref07_Subs y0 x3).bind fun r1 =>
 (zKe s1.1 r1).bind fun r2 =>
 some (.inl (r2, w64 (s1.2 + 1)))
 else
 some (.inr s1.1)
def zJg (rec_ref07_Subs : (List zAA) → Int → Option (List Int)) (y0 : List zAA) (y1 : Int) : Option (List Int) :=
 if (decide (y1 < 0)) || (decide ((len y0) ≤ y1)) then
 some ([] : List Int)
 else
 zAm (zHM y0 y1 rec_ref07_Subs) (([y1] : List Int), 0)
def zFv : Nat → (List zAA) → Int → Option (List Int)
 | 0 => fun _ _ => none
 | k + 1 => fun y0 y1 => zJg (zFv k) y0 y1
def zLy (y0 : List zAA) (y1 : Int) : Option (List Int) := zUu fun k => zFv k y0 y1
def zDz (r1 : (List Int)) (y1 : List zAA) (y0 : zAF) (s1 : (List Int) × Int) : Option (((List Int) × Int) ⊕ (List Int)) :=
 if decide (s1.2 < (len r1)) then
 (idx r1 s1.2).bind fun x1 =>
 (
 (idx y1 x1).bind fun x2 =>
 if decide (0 ≤ x2.2.1) then
 (idx y1 x1).bind fun x3 =>
 (idx y0.2.1 x3.2.1).bind fun x4 =>
 some (!x4.2.1)
 else
 some false : Option Bool).bind fun s2 =>
 if s2 then
 (idx y1 x1).bind fun x5 =>
 (zG1 s1.1 x5.2.1).bind fun r2 =>
 some (.inl (r2, w64 (s1.2 + 1)))
 else
 some (.inl (s1.1, w64 (s1.2 + 1)))
 else
 some (.inr s1.1)
def zDs (y0 : zAF) (y1 : List zAA) (y2 : Int) : Option (List Int) :=
 (zLy y1 y2).bind fun r1 =>
 zAm (zDz r1 y1 y0) (([] : List Int), 0)
def zEJ (y1 : List zAA) (y2 : Int) (rec_ref07_Run : zAF → (List zAA) → Int → Option (List zAB)) (y0 : zAF) (s2 : (List zAB) × Int) : Option (((List zAB) × Int) ⊕ (List zAB)) :=
 (idx y1 y2).bind fun x5 =>
 if decide (s2.2 < (len x5.2.2.1)) then
 (idx y1 y2).bind fun x6 =>
 (idx x6.2.2.1 s2.2).bind fun x7 =>
 (rec_ref07_Run y0 y1 x7).bind fun r1 =>
 (app s2.1 r1).bind fun x8 =>
 some (.inl (x8, w64 (s2.2 + 1)))
 else
 some (.inr s2.1)
def zFD (rec_ref07_Run : zAF → (List zAA) → Int → Option (List zAB)) (y0 : zAF) (y1 : List zAA) (y2 : Int) : Option (List zAB) :=
 (idx y1 y2).bind fun x1 =>
 (
 (idx y1 y2).bind fun x2 =>
 if decide (0 ≤ x2.2.1) then
 (idx y1 y2).bind fun x3 =>
 (idx y0.2.1 x3.2.1).bind fun x4 =>
 some x4.2.1
 else
 some false : Option Bool).bind fun s1 =>
 if s1 then
 zAm (zEJ y1 y2 rec_ref07_Run y0) (([x1.2.2.2] : List zAB), 0)
 else
 some ([x1.2.2.2] : List zAB)
def zB3 : Nat → zAF → (List zAA) → Int → Option (List zAB)
 | 0 => fun _ _ _ => none
 | k + 1 => fun y0 y1 y2 => zFD (zB3 k) y0 y1 y2
def zHp (y0 : zAF) (y1 : List zAA) (y2 : Int) : Option (List zAB) := zUu fun k => zB3 k y0 y1 y2
def zIk (y0 : List Int) (y1 : Int) (s1 : Int) : Option (Int ⊕ Bool) :=
 if decide (s1 < (len y0)) then
 (idx y0 s1).bind fun x1 =>
 if x1 == y1 then
 some (.inr true)
 else
 some (.inl (w64 (s1 + 1)))
 else
 some (.inr false)
def zMC (y0 : List Int) (y1 : Int) : Option Bool :=
 zAm (zIk y0 y1) 0
def zGI (y3 : List Int) (x1 : zAL) (y0 : zAF) (y1 : List zAA) (y2 : Int) (s1 : Int) : Option (Int ⊕ Bool) :=
 if decide (s1 < (len y3)) then
 (
 if x1.2.1 then
 (idx y3 s1).bind fun x2 =>
 (zHp y0 y1 x2).bind fun r1 =>
 (zKl r1 x1.2.2.2.2).bind fun r2 =>
 if r2 then
 some true
 else
 if !x1.2.1 then
 (idx y3 s1).bind fun x3 =>
 (zDs y0 y1 x3).bind fun r3 =>
 (zMC r3 y2).bind fun r4 =>
 some r4
 else
 some false
 else
 if !x1.2.1 then
 (idx y3 s1).bind fun x4 =>
 (zDs y0 y1 x4).bind fun r5 =>
 (zMC r5 y2).bind fun r6 =>
 some r6
 else
 some false : Option Bool).bind fun s2 =>
 if s2 then
 some (.inr false)
 else
 some (.inl (w64 (s1 + 1)))
 else
 some (.inr true)
def zF3 (y0 : zAF) (y1 : List zAA) (y2 : Int) (y3 : List Int) : Option Bool :=
 (idx y0.2.1 y2).bind fun x1 =>
 zAm (zGI y3 x1 y0 y1 y2) 0
def zEZ (y1 : Int) (y0 : List zAA) (y2 : List zAB) (y3 : List Int) (rec_ref07_choices_2 : (List zAA) → Int → (List zAB) → (List Int) → Option (List (List Int))) (s1 : (List (List Int)) × Int) : Option (((List (List Int)) × Int) ⊕ (List (List Int))) :=
 if decide (s1.2 < y1) then
 (idx y0 s1.2).bind fun x2 =>
 (idx y2 (len y3)).bind fun x3 =>
 if x2.2.2.2 == x3 then
 (sub y3 0 (len y3)).bind fun x4 =>
 (app x4 ([s1.2] : List Int)).bind fun x5 =>
 (rec_ref07_choices_2 y0 y1 y2 x5).bind fun r1 =>
 (app s1.1 r1).bind fun x6 =>
 some (.inl (x6, w64 (s1.2 + 1)))
 else
 some (.inl (s1.1, w64 (s1.2 + 1)))
 else
 some (.inr s1.1)
def zGC (rec_ref07_choices_2 : (List zAA) → Int → (List zAB) → (List Int) → Option (List (List Int))) (y0 : List zAA) (y1 : Int) (y2 : List zAB) (y3 : List Int) : Option (List (List Int)) :=
 if (len y3) == (len y2) then
 (app ([] : List Int) y3).bind fun x1 =>
 some ([x1] : List (List Int))
 else
 zAm (zEZ y1 y0 y2 y3 rec_ref07_choices_2) (([] : List (List Int)), 0)
def zC6 : Nat → (List zAA) → Int → (List zAB) → (List Int) → Option (List (List Int))
 | 0 => fun _ _ _ _ => none
 | k + 1 => fun y0 y1 y2 y3 => zGC (zC6 k) y0 y1 y2 y3
def zHo (y0 : List zAA) (y1 : Int) (y2 : List zAB) (y3 : List Int) : Option (List (List Int)) := zUu fun k => zC6 k y0 y1 y2 y3
def zGJ (y0 : List Int) (y1 : Int) (s1 : Int) : Option (Int ⊕ Bool) :=
 if decide (s1 < (len y0)) then
 (idx y0 s1).bind fun x1 =>
 if decide (y1 ≤ x1) then
 some (.inr true)
 else
 some (.inl (w64 (s1 + 1)))
 else
 some (.inr false)
def zJx (y0 : List Int) (y1 : Int) : Option Bool :=
 zAm (zGJ y0 y1) 0
def zFX (y0 : zAF) (s2 : (List zAA) × Int) : Option (((List zAA) × Int) ⊕ (List zAA)) :=
 if decide (s2.2 < (len y0.1)) then
 (idx y0.1 s2.2).bind fun x1 =>
 (app s2.1 ([(s2.2, (-1), ([] : List Int), x1.1)] : List zAA)).bind fun x2 =>
 some (.inl (x2, w64 (s2.2 + 1)))
 else
 some (.inr s2.1)
def zFU (r2 : (List (List Int))) (s3 : (List zAA) × Int × Int) (y0 : zAF) (s4 : (List zAA) × Int) (s5 : (List zAA) × Int) : Option (((List zAA) × Int) ⊕ (((List zAA) × Int) ⊕ (((List zAA) × Int × Int) ⊕ ((List zAA) × Int)))) :=
 if decide (s5.2 < (len r2)) then
 (idx r2 s5.2).bind fun x4 =>
 (
 (zJx x4 s3.2.1).bind fun r3 =>
 if !r3 then
 if decide (1 < s3.2.2) then
 some true
 else
 if decide (0 < (len x4)) then
 some true
 else
 (zF3 y0 s5.1 s4.2 x4).bind fun r4 =>
 some (!r4)
 else
 (zF3 y0 s5.1 s4.2 x4).bind fun r5 =>
 some (!r5) : Option Bool).bind fun s6 =>
 if s6 then
 some (.inl (s5.1, w64 (s5.2 + 1)))
 else
 (idx y0.2.1 s4.2).bind fun x5 =>
 (app s5.1 ([((-1), s4.2, x4, x5.2.2.2.2)] : List zAA)).bind fun x6 =>
 if decide (40 < (len x6)) then
 some (.inr (.inr (.inr (([] : List zAA), 2))))
 else
 some (.inl (x6, w64 (s5.2 + 1)))
 else
 some (.inr (.inl (s5.1, w64 (s4.2 + 1))))
def zFN (y0 : zAF) (s3 : (List zAA) × Int × Int) (s4 : (List zAA) × Int) : Option (((List zAA) × Int) ⊕ (((List zAA) × Int × Int) ⊕ ((List zAA) × Int))) :=
 if decide (s4.2 < (len y0.2.1)) then
 (idx y0.2.1 s4.2).bind fun x3 =>
 (zHo s4.1 (len s3.1) x3.2.2.2.1 ([] : List Int)).bind fun r2 =>
 zAm (zFU r2 s3 y0 s4) (s4.1, 0)
 else
 some (.inr (.inl (s4.1, len s3.1, w64 (s3.2.2 + 1))))
def zDj (y0 : zAF) (s3 : (List zAA) × Int × Int) : Option (((List zAA) × Int × Int) ⊕ ((List zAA) × Int)) :=
 if (s3.2.2 == 1) || (decide (s3.2.1 < (len s3.1))) then
 zAm (zFN y0 s3) (s3.1, 0)
 else
 some (.inr (s3.1, 0))
def zIg (y0 : zAF) : Option ((List zAA) × Int) :=
 (zFO y0).bind fun r1 =>
 if r1 != 0 then
 some (([] : List zAA), r1)
 else
 (zAm (zFX y0) (([] : List zAA), 0) : Option (List zAA)).bind fun s1 =>
 zAm (zDj y0) (s1, 0, 1)
def zIr (y0 : List Int) (y1 : List Int) (s1 : Int) : Option (Int ⊕ Bool) :=
 if decide (s1 < (len y0)) then
 (idx y0 s1).bind fun x1 =>
 (idx y1 s1).bind fun x2 =>
 if x1 != x2 then
 some (.inr false)
 else
 some (.inl (w64 (s1 + 1)))
 else
 some (.inr true)
def zJd (y0 : List Int) (y1 : List Int) : Option Bool :=
 if (len y0) != (len y1) then
 some false
 else
 zAm (zIr y0 y1) 0
def zJU (y0 : List zAA) (y1 : List zAA) (s1 : Int) : Option (Int ⊕ Bool) :=
 if decide (s1 < (len y0)) then
 (
 (idx y0 s1).bind fun x1 =>
 (idx y1 s1).bind fun x2 =>
 if x1.1 != x2.1 then
 some true
 else
 (idx y0 s1).bind fun x3 =>
 (idx y1 s1).bind fun x4 =>
 if x3.2.1 != x4.2.1 then
 some true
 else
 (idx y0 s1).bind fun x5 =>
 (idx y1 s1).bind fun x6 =>
 if !(x5.2.2.2 == x6.2.2.2) then
 some true
 else
 (idx y0 s1).bind fun x7 =>
 (idx y1 s1).bind fun x8 =>
 (zJd x7.2.2.1 x8.2.2.1).bind fun r1 =>
 some (!r1) : Option Bool).bind fun s2 =>
 if s2 then
 some (.inr false)
 else
 some (.inl (w64 (s1 + 1)))
 else
 some (.inr true)
def zIH (y0 : List zAA) (y1 : List zAA) : Option Bool :=
 if (len y0) != (len y1) then
 some false
 else
 zAm (zJU y0 y1) 0
def zD7 (y0 : List Int) : Option Bool :=
 (zMH y0).bind fun r1 =>
 (zHX r1 3 5 6).bind fun r2 =>
 zIW.bind fun r3 =>
 (zAY (r1.1, r2.2) 4).bind fun r4 =>
 (idx r3 r4.1).bind fun x1 =>
 (zCB r2.1 x1).bind fun r5 =>
 (zIg r2.1).bind fun r6 =>
 if (r5.2 != r6.2) || (r5.2 != 0) then
 (
 if r5.2 == r6.2 then
 zFI.bind fun r7 =>
 some r7
 else
 some false : Option Bool).bind fun s1 =>
 some s1
 else
 (zIJ r2.1).bind fun r8 =>
 (zCB (r8.1, r8.2.1, ([] : List zAI)) x1).bind fun r9 =>
 (zCM r9.1 1 true).bind fun r10 =>
 (
 if r9.2 != 0 then
 some true
 else
 if r10.2 != 0 then
 some true
 else
 (zIH r5.1.2.1 r6.1).bind fun r11 =>
 if !r11 then
 some true
 else
 (zIB r9.1.1 (r8.1, r8.2.1, ([] : List zAI))).bind fun r12 =>
 some (!r12) : Option Bool).bind fun s2 =>
 if s2 then
 some false
 else
 (
 (zHW r2.1 r10.1).bind fun r13 =>
 (zIB r5.1.1 r13).bind fun r14 =>
 if r14 then
 zFI.bind fun r15 =>
 some r15
 else
 some false : Option Bool).bind fun s3 =>
 some s3
end
end Go.GD
