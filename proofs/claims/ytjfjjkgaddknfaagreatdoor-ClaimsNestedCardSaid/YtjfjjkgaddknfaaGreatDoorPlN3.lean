/- A part. Conditions: none. -/
import Derived.Test.YtjfjjkgaddknfaaGreatDoorPlN2
namespace Go.GD
set_option autoImplicit false
set_option linter.unusedVariables false
section
noncomputable section
def zLg (n_ : Nat) y0 s1 : Tw (zD3 y0 s1) := by
 delta zD3
 repeat with_reducible (first | intro _ | apply ti | apply ts | apply tb | apply tl n_ | exact td _)
def zMp (n_ : Nat) y0 : Tw (zBg y0) := by
 delta zBg
 repeat with_reducible (first | intro _ | apply zLg n_ | apply ti | apply ts | apply tb | apply tl n_ | exact td _)
def zGL (n_ : Nat) (y0 : List zO) : Tw (zAJ y0) := ⟨zB9 n_ y0, zFP n_ y0⟩
def zOL (n_ : Nat) y0 : Tw (zDE y0) := by
 delta zDE
 repeat with_reducible (first | intro _ | apply zGL n_ | apply zMp n_ | apply ti | apply ts | apply tb | apply tl n_ | exact td _)
def zJp (n_ : Nat) y0 y1 : Tw (zBe y0 y1) := by
 delta zBe
 repeat with_reducible (first | intro _ | apply zOL n_ | apply ti | apply ts | apply tb | apply tl n_ | exact td _)
def zWl (n_ : Nat) y0 : Tw (zH6 y0) := by
 delta zH6
 repeat with_reducible (first | intro _ | apply ti | apply ts | apply tb | apply tl n_ | exact td _)
def zW4 (n_ : Nat) y0 : Tw (zHm y0) := by
 delta zHm
 repeat with_reducible (first | intro _ | apply ti | apply ts | apply tb | apply tl n_ | exact td _)
def zWk (n_ : Nat) y0 : Tw (zHE y0) := by
 delta zHE
 repeat with_reducible (first | intro _ | apply ti | apply ts | apply tb | apply tl n_ | exact td _)
def zO5 (n_ : Nat) y0 y1 : Tw (zC0 y0 y1) := by
 delta zC0
 repeat with_reducible (first | intro _ | apply zWk n_ | apply ti | apply ts | apply tb | apply tl n_ | exact td _)
def zQR (n_ : Nat) y0 s1 : Tw (zB6 y0 s1) := by
 delta zB6
 repeat with_reducible (first | intro _ | apply zO5 n_ | apply ti | apply ts | apply tb | apply tl n_ | exact td _)
def zKk (n_ : Nat) y0 : Tw (zBW y0) := by
 delta zBW
 repeat with_reducible (first | intro _ | apply zQR n_ | apply ti | apply ts | apply tb | apply tl n_ | exact td _)
def zQI (n_ : Nat) y0 : Tw (zEN y0) := by
 delta zEN
 repeat with_reducible (first | intro _ | apply zKk n_ | apply ti | apply ts | apply tb | apply tl n_ | exact td _)
def zKo (n_ : Nat) y0 y1 : Tw (zC5 y0 y1) := by
 delta zC5
 repeat with_reducible (first | intro _ | apply zQI n_ | apply zW4 n_ | apply zWl n_ | apply ti | apply ts | apply tb | apply tl n_ | exact td _)
def zLp (n_ : Nat) y0 y1 : Tw (zCS y0 y1) := by
 delta zCS
 repeat with_reducible (first | intro _ | apply ti | apply ts | apply tb | apply tl n_ | exact td _)
def zQj (n_ : Nat) r4 y0 s6 s9 s10 : Tw (zBt r4 y0 s6 s9 s10) := by
 delta zBt
 repeat with_reducible (first | intro _ | apply zKo n_ | apply ti | apply ts | apply tb | apply tl n_ | exact td _)
def zQ8 (n_ : Nat) s6 y0 s9 : Tw (zCP s6 y0 s9) := by
 delta zCP
 repeat with_reducible (first | intro _ | apply zKo n_ | apply zQj n_ | apply ti | apply ts | apply tb | apply tl n_ | exact td _)
def zQk (n_ : Nat) y0 s6 : Tw (zB8 y0 s6) := by
 delta zB8
 repeat with_reducible (first | intro _ | apply zQ8 n_ | apply ti | apply ts | apply tb | apply tl n_ | exact td _)
def zTE (n_ : Nat) y0 : Tw (zDn y0) := by
 delta zDn
 repeat with_reducible (first | intro _ | apply zLp n_ | apply zQk n_ | apply ti | apply ts | apply tb | apply tl n_ | exact td _)
def zOM (n_ : Nat) y0 : Tw (zDB y0) := by
 delta zDB
 repeat with_reducible (first | intro _ | apply zTE n_ | apply ti | apply ts | apply tb | apply tl n_ | exact td _)
def zR4 (n_ : Nat) y0 : Tw (zDq y0) := by
 delta zDq
 repeat with_reducible (first | intro _ | apply zOM n_ | apply ti | apply ts | apply tb | apply tl n_ | exact td _)
def zI3 (n_ : Nat) y0 : Tw (zAf y0) := by
 delta zAf
 repeat with_reducible (first | intro _ | apply zR4 n_ | apply ti | apply ts | apply tb | apply tl n_ | exact td _)
def zCK (n_ : Nat) y0 y1 : Tw (zBC y0 y1) := by
 delta zBC
 repeat with_reducible (first | intro _ | apply ti | apply ts | apply tb | apply tl n_ | exact td _)
def zI7 (n_ : Nat) r1 s1 : Tw (zAc r1 s1) := by
 delta zAc
 repeat with_reducible (first | intro _ | apply zCK n_ | apply ti | apply ts | apply tb | apply tl n_ | exact td _)
def zJf (n_ : Nat) y0 : Tw (zAw y0) := by
 delta zAw
 repeat with_reducible (first | intro _ | apply zI3 n_ | apply zI7 n_ | apply ti | apply ts | apply tb | apply tl n_ | exact td _)
def zRT (n_ : Nat) y0 y1 : Tw (zEJ y0 y1) := by
 delta zEJ
 repeat with_reducible (first | intro _ | apply ti | apply ts | apply tb | apply tl n_ | exact td _)
def zK3 (n_ : Nat) y0 y1 : Tw (zBm y0 y1) := by
 delta zBm
 repeat with_reducible (first | intro _ | apply ti | apply ts | apply tb | apply tl n_ | exact td _)
def zRr (n_ : Nat) y0 y1 : Tw (zFA y0 y1) := by
 delta zFA
 repeat with_reducible (first | intro _ | apply zK3 n_ | apply ti | apply ts | apply tb | apply tl n_ | exact td _)
def zSM (n_ : Nat) y0 : Tw (zDQ y0) := by
 delta zDQ
 repeat with_reducible (first | intro _ | apply ti | apply ts | apply tb | apply tl n_ | exact td _)
def zS3 (n_ : Nat) y0 : Tw (zEf y0) := by
 delta zEf
 repeat with_reducible (first | intro _ | apply ti | apply ts | apply tb | apply tl n_ | exact td _)
def zS0 (n_ : Nat) y0 y1 : Tw (zDS y0 y1) := by
 delta zDS
 repeat with_reducible (first | intro _ | apply zK3 n_ | apply ti | apply ts | apply tb | apply tl n_ | exact td _)
def zPX (n_ : Nat) y0 y1 : Tw (zCT y0 y1) := by
 delta zCT
 repeat with_reducible (first | intro _ | apply zS0 n_ | apply ti | apply ts | apply tb | apply tl n_ | exact td _)
def zGF (n_ : Nat) y1 s1 : Tw (zAK y1 s1) := by
 delta zAK
 repeat with_reducible (first | intro _ | apply zPX n_ | apply ti | apply ts | apply tb | apply tl n_ | exact td _)
def zHA (n_ : Nat) y0 y1 : Tw (zAl y0 y1) := by
 delta zAl
 repeat with_reducible (first | intro _ | apply zGF n_ | apply ti | apply ts | apply tb | apply tl n_ | exact td _)
def zLk (n_ : Nat) y0 y1 : Tw (zBj y0 y1) := by
 delta zBj
 repeat with_reducible (first | intro _ | apply zRT n_ | apply zS3 n_ | apply zRr n_ | apply zHA n_ | apply zSM n_ | apply ti | apply ts | apply tb | apply tl n_ | exact td _)
def zH3 (n_ : Nat) y0 y1 : Tw (zAj y0 y1) := by
 delta zAj
 repeat with_reducible (first | intro _ | apply ti | apply ts | apply tb | apply tl n_ | exact td _)
def zFj (n_ : Nat) y0 y1 : Tw (zAL y0 y1) := by
 delta zAL
 repeat with_reducible (first | intro _ | apply zH3 n_ | apply ti | apply ts | apply tb | apply tl n_ | exact td _)
def zUV (n_ : Nat) y0 y1 : Tw (zEy y0 y1) := by
 delta zEy
 repeat with_reducible (first | intro _ | apply zFj n_ | apply ti | apply ts | apply tb | apply tl n_ | exact td _)
def zTB (n_ : Nat) x1 y0 s1 : Tw (zDo x1 y0 s1) := by
 delta zDo
 repeat with_reducible (first | intro _ | apply zUV n_ | apply ti | apply ts | apply tb | apply tl n_ | exact td _)
def zRc (n_ : Nat) y0 : Tw (zFY y0) := by
 delta zFY
 repeat with_reducible (first | intro _ | apply zTB n_ | apply ti | apply ts | apply tb | apply tl n_ | exact td _)
def zHz (n_ : Nat) y0 : Tw (zAt y0) := by
 delta zAt
 repeat with_reducible (first | intro _ | apply zO5 n_ | apply ti | apply ts | apply tb | apply tl n_ | exact td _)
def zU6 (n_ : Nat) y0 : Tw (zEq y0) := by
 delta zEq
 repeat with_reducible (first | intro _ | apply zQI n_ | apply zHz n_ | apply ti | apply ts | apply tb | apply tl n_ | exact td _)
def zS1 (n_ : Nat) y0 y1 : Tw (zDU y0 y1) := by
 delta zDU
 repeat with_reducible (first | intro _ | apply zU6 n_ | apply zKo n_ | apply ti | apply ts | apply tb | apply tl n_ | exact td _)
def zIi (n_ : Nat) y0 : Tw (zB1 y0) := by
 delta zB1
 repeat with_reducible (first | intro _ | apply ti | apply ts | apply tb | apply tl n_ | exact td _)
def zIn (n_ : Nat) (y0 : uE) := (zIi n_ y0).1
theorem zM2 (n_ : Nat) (y0 : uE) : Le (zIn n_ y0) (zB1 y0) := (zIi n_ y0).2
def zPO (n_ : Nat) y0 y1 y2 : Tw (zCl y0 y1 y2) := by
 delta zCl
 repeat with_reducible (first | intro _ | apply ti | apply ts | apply tb | apply tl n_ | exact td _)
def zNg (n_ : Nat) y0 y1 : Tw (zBx y0 y1) := by
 delta zBx
 repeat with_reducible (first | intro _ | apply zPO n_ | apply ti | apply ts | apply tb | apply tl n_ | exact td _)
def zQO (n_ : Nat) y0 y1 y2 : Tw (zBO y0 y1 y2) := by
 delta zBO
 repeat with_reducible (first | intro _ | apply ti | apply ts | apply tb | apply tl n_ | exact td _)
def zNJ (n_ : Nat) y0 y1 : Tw (zBh y0 y1) := by
 delta zBh
 repeat with_reducible (first | intro _ | apply zQO n_ | apply ti | apply ts | apply tb | apply tl n_ | exact td _)
def zRb (n_ : Nat) y0 y1 : Tw (zDx y0 y1) := by
 delta zDx
 repeat with_reducible (first | intro _ | apply ti | apply ts | apply tb | apply tl n_ | exact td _)
def zCn (n_ : Nat) y0 y1 : Tw (zBA y0 y1) := by
 delta zBA
 repeat with_reducible (first | intro _ | apply zRb n_ | apply ti | apply ts | apply tb | apply tl n_ | exact td _)
def zLs (n_ : Nat) y0 s3 : Tw (zAN y0 s3) := by
 delta zAN
 repeat with_reducible (first | intro _ | apply zNJ n_ | apply zNg n_ | apply ti | apply ts | apply tb | apply tl n_ | exact td _)
def zLi (n_ : Nat) y0 s1 : Tw (zBp y0 s1) := by
 delta zBp
 repeat with_reducible (first | intro _ | apply zLs n_ | apply zCn n_ | apply ti | apply ts | apply tb | apply tl n_ | exact td _)
def zIp (n_ : Nat) y0 : Tw (zBZ y0) := by
 delta zBZ
 repeat with_reducible (first | intro _ | apply zLi n_ | apply ti | apply ts | apply tb | apply tl n_ | exact td _)
def zIq (n_ : Nat) (y0 : uE) := (zIp n_ y0).1
theorem zMd (n_ : Nat) (y0 : uE) : Le (zIq n_ y0) (zBZ y0) := (zIp n_ y0).2
def zFc (n_ : Nat) (r2 : (List Int) × Int) (s1 : Bool × (List Int) × (List (List Int))) (rec_search_finder_find : uE → Option ((List Int) × (List (List Int)) × Bool)) (y0 : uE) (s2 : Int × (List (List Int)) × Bool) : Option ((Int × (List (List Int)) × Bool) ⊕ ((List Int) × (List (List Int)) × Bool)) :=
 if decide (s2.1 < (len ([2, 4, 8] : List Int))) then
  (zI ([2, 4, 8] : List Int) s2.1).bind fun x2 =>
  (yG (decide (0 ≤ r2.2) && decide (r2.2 < 40))).bind fun _ =>
  if (yE .i64 (yT s1.2.1 r2.2) x2) != 0 then
   (yG (decide (0 ≤ r2.2) && decide (r2.2 < 40))).bind fun _ =>
   (rec_search_finder_find (y0.1, y0.2.1, xS 40 s1.2.1 r2.2 x2, s2.2.1, s2.2.2)).bind fun r3 =>
   some (.inl (zR (s2.1 + 1), r3.2.1, r3.2.2))
  else
   some (.inl (zR (s2.1 + 1), s2.2.1, s2.2.2))
 else
  some (.inr (s1.2.1, s2.2.1, s2.2.2))
theorem zNK (n_ : Nat) (r2 : (List Int) × Int) (s1 : Bool × (List Int) × (List (List Int))) {rec_search_finder_find rec_search_finder_find' : uE → Option ((List Int) × (List (List Int)) × Bool)} (h_rec_search_finder_find : ∀ u0, Le (rec_search_finder_find u0) (rec_search_finder_find' u0)) (y0 : uE) (s2 : Int × (List (List Int)) × Bool) : Le (zFc n_ r2 s1 rec_search_finder_find y0 s2) (zBL r2 s1 rec_search_finder_find' y0 s2) := by
 unfold zFc zBL
 repeat with_reducible (first | intro _ | apply h_rec_search_finder_find | exact Le.refl _ | apply Le.ite | apply Le.seqE | apply Le.bind | apply Le.lp | exact Le.none _)
def zHV (n_ : Nat) (rec_search_finder_find : uE → Option ((List Int) × (List (List Int)) × Bool)) (y0 : uE) : Option ((List Int) × (List (List Int)) × Bool) :=
 (
  if y0.2.2.2.2 then
   some (true, y0.2.2.1, y0.2.2.2.1)
  else
   ((zIq n_) y0).bind fun r1 =>
   some (!r1.1, r1.2.1, r1.2.2) : Option (Bool × (List Int) × (List (List Int)))).bind fun s1 =>
 if s1.1 then
  some (s1.2.1, s1.2.2, y0.2.2.2.2)
 else
  ((zIn n_) (y0.1, y0.2.1, s1.2.1, s1.2.2, y0.2.2.2.2)).bind fun r2 =>
  if decide (r2.2 < 0) then
   (wE s1.2.2 ([r2.1] : List (List Int))).bind fun x1 =>
   some (s1.2.1, x1, (len s1.2.2) == 200)
  else
   (lp n_) ((zFc n_) r2 s1 rec_search_finder_find y0) (0, s1.2.2, y0.2.2.2.2)
theorem zOQ (n_ : Nat) {rec_search_finder_find rec_search_finder_find' : uE → Option ((List Int) × (List (List Int)) × Bool)} (h_rec_search_finder_find : ∀ u0, Le (rec_search_finder_find u0) (rec_search_finder_find' u0)) (y0 : uE) : Le (zHV n_ rec_search_finder_find y0) (zAu rec_search_finder_find' y0) := by
 unfold zHV zAu
 repeat with_reducible (first | intro _ | apply h_rec_search_finder_find | apply zNK | apply zM2 | apply zMd | exact Le.refl _ | apply Le.ite | apply Le.seqE | apply Le.bind | apply Le.lp | exact Le.none _)
def zHR (n_ : Nat) : Nat → uE → Option ((List Int) × (List (List Int)) × Bool)
 | 0 => fun _ => none
 | k + 1 => fun y0 => (zHV n_) ((zHR n_) k) y0
theorem zJn (n_ : Nat) : ∀ (k m : Nat), k ≤ m → ∀ u0, Le (zHR n_ k u0) (zBV m u0)
 | 0, _, _ => fun u0 => Le.none _
 | k + 1, m, h => fun u0 => by
  obtain ⟨m, rfl⟩ : ∃ q, m = q + 1 := ⟨m - 1, by omega⟩
  exact zOQ n_ (zJn n_ k m (by omega)) _
def zLB (n_ : Nat) (y0 : uE) : Option ((List Int) × (List (List Int)) × Bool) :=
 zHR n_ n_ y0
theorem zPP (n_ : Nat) (y0 : uE) : Le (zLB n_ y0) (zDK y0) := Le.lim n_ fun m h => zJn n_ n_ m h _
def zPi (n_ : Nat) (y0 : uE) : Tw (zDK y0) := ⟨zLB n_ y0, zPP n_ y0⟩
def zPs (n_ : Nat) y0 s2 : Tw (zBd y0 s2) := by
 delta zBd
 repeat with_reducible (first | intro _ | apply zS1 n_ | apply ti | apply ts | apply tb | apply tl n_ | exact td _)
def zHe (n_ : Nat) y0 : Tw (zAd y0) := by
 delta zAd
 repeat with_reducible (first | intro _ | apply zKk n_ | apply zPs n_ | apply zPi n_ | apply ti | apply ts | apply tb | apply tl n_ | exact td _)
def zPM (n_ : Nat) y1 y0 s1 : Tw (zCq y1 y0 s1) := by
 delta zCq
 repeat with_reducible (first | intro _ | apply zCK n_ | apply ti | apply ts | apply tb | apply tl n_ | exact td _)
def zJ3 (n_ : Nat) y0 y1 : Tw (zB3 y0 y1) := by
 delta zB3
 repeat with_reducible (first | intro _ | apply zPM n_ | apply ti | apply ts | apply tb | apply tl n_ | exact td _)
def zPx (n_ : Nat) y0 y1 : Tw (zDL y0 y1) := by
 delta zDL
 repeat with_reducible (first | intro _ | apply zCn n_ | apply ti | apply ts | apply tb | apply tl n_ | exact td _)
def zFF (n_ : Nat) y0 y1 s1 : Tw (zAU y0 y1 s1) := by
 delta zAU
 repeat with_reducible (first | intro _ | apply zPx n_ | apply ti | apply ts | apply tb | apply tl n_ | exact td _)
def zFl (n_ : Nat) y0 y1 : Tw (zA5 y0 y1) := by
 delta zA5
 repeat with_reducible (first | intro _ | apply zFF n_ | apply ti | apply ts | apply tb | apply tl n_ | exact td _)
def zE9 (n_ : Nat) y0 y1 : Tw (zAC y0 y1) := by
 delta zAC
 repeat with_reducible (first | intro _ | apply zFl n_ | apply ti | apply ts | apply tb | apply tl n_ | exact td _)
def zMV (n_ : Nat) y0 y1 : Tw (zCX y0 y1) := by
 delta zCX
 repeat with_reducible (first | intro _ | apply zE9 n_ | apply ti | apply ts | apply tb | apply tl n_ | exact td _)
def zNo (n_ : Nat) y0 y1 : Tw (zBy y0 y1) := by
 delta zBy
 repeat with_reducible (first | intro _ | apply zJ3 n_ | apply zMV n_ | apply ti | apply ts | apply tb | apply tl n_ | exact td _)
def zG1 (n_ : Nat) y0 y2 : Tw (zAa y0 y2) := by
 delta zAa
 repeat with_reducible (first | intro _ | apply zNo n_ | apply ti | apply ts | apply tb | apply tl n_ | exact td _)
def zFa (n_ : Nat) y0 y2 s1 : Tw (zAZ y0 y2 s1) := by
 delta zAZ
 repeat with_reducible (first | intro _ | apply zG1 n_ | apply ti | apply ts | apply tb | apply tl n_ | exact td _)
def zGy (n_ : Nat) y0 y2 : Tw (zAg y0 y2) := by
 delta zAg
 repeat with_reducible (first | intro _ | apply zFa n_ | apply ti | apply ts | apply tb | apply tl n_ | exact td _)
def zFU (n_ : Nat) y0 y2 : Tw (zAI y0 y2) := by
 delta zAI
 repeat with_reducible (first | intro _ | apply zGy n_ | apply ti | apply ts | apply tb | apply tl n_ | exact td _)
def zGI (n_ : Nat) r1 s1 : Tw (zAB r1 s1) := by
 delta zAB
 repeat with_reducible (first | intro _ | apply zFU n_ | apply ti | apply ts | apply tb | apply tl n_ | exact td _)
def zHF (n_ : Nat) y0 : Tw (zAm y0) := by
 delta zAm
 repeat with_reducible (first | intro _ | apply zHe n_ | apply zGI n_ | apply ti | apply ts | apply tb | apply tl n_ | exact td _)
def zKR (n_ : Nat) y0 : Tw (zBN y0) := by
 delta zBN
 repeat with_reducible (first | intro _ | apply zHF n_ | apply ti | apply ts | apply tb | apply tl n_ | exact td _)
def zOS (n_ : Nat) y0 y1 s2 : Tw (zCH y0 y1 s2) := by
 delta zCH
 repeat with_reducible (first | intro _ | apply zCn n_ | apply ti | apply ts | apply tb | apply tl n_ | exact td _)
def zL1 (n_ : Nat) y0 y1 : Tw (zBq y0 y1) := by
 delta zBq
 repeat with_reducible (first | intro _ | apply zLp n_ | apply zOS n_ | apply ti | apply ts | apply tb | apply tl n_ | exact td _)
def zIL (n_ : Nat) y0 : Tw (zAy y0) := by
 delta zAy
 repeat with_reducible (first | intro _ | apply zKR n_ | apply zRc n_ | apply zLk n_ | apply zL1 n_ | apply ti | apply ts | apply tb | apply tl n_ | exact td _)
def zWy (n_ : Nat) y0 : Tw (zHK y0) := by
 delta zHK
 repeat with_reducible (first | intro _ | apply zIL n_ | apply ti | apply ts | apply tb | apply tl n_ | exact td _)
def zK8 (n_ : Nat) y0 : Tw (zBK y0) := by
 delta zBK
 repeat with_reducible (first | intro _ | apply zWy n_ | apply ti | apply ts | apply tb | apply tl n_ | exact td _)
def zHx (n_ : Nat) r1 s1 : Tw (zA1 r1 s1) := by
 delta zA1
 repeat with_reducible (first | intro _ | apply zCK n_ | apply ti | apply ts | apply tb | apply tl n_ | exact td _)
def zIv (n_ : Nat) y0 : Tw (zAW y0) := by
 delta zAW
 repeat with_reducible (first | intro _ | apply zK8 n_ | apply zHx n_ | apply ti | apply ts | apply tb | apply tl n_ | exact td _)
def zNP (n_ : Nat) y0 y1 : Tw (zBf y0 y1) := by
 delta zBf
 repeat with_reducible (first | intro _ | apply zJ3 n_ | apply zMV n_ | apply ti | apply ts | apply tb | apply tl n_ | exact td _)
def zFn (n_ : Nat) y0 y2 : Tw (zA6 y0 y2) := by
 delta zA6
 repeat with_reducible (first | intro _ | apply zNP n_ | apply ti | apply ts | apply tb | apply tl n_ | exact td _)
def zFE (n_ : Nat) y0 y2 s1 : Tw (zAV y0 y2 s1) := by
 delta zAV
 repeat with_reducible (first | intro _ | apply zFn n_ | apply ti | apply ts | apply tb | apply tl n_ | exact td _)
def zFq (n_ : Nat) y0 y2 : Tw (zA3 y0 y2) := by
 delta zA3
 repeat with_reducible (first | intro _ | apply zFE n_ | apply ti | apply ts | apply tb | apply tl n_ | exact td _)
def zEv (n_ : Nat) y0 y2 : Tw (zAD y0 y2) := by
 delta zAD
 repeat with_reducible (first | intro _ | apply zFq n_ | apply ti | apply ts | apply tb | apply tl n_ | exact td _)
def zFb (n_ : Nat) r1 s1 : Tw (zAA r1 s1) := by
 delta zAA
 repeat with_reducible (first | intro _ | apply zEv n_ | apply ti | apply ts | apply tb | apply tl n_ | exact td _)
def zGw (n_ : Nat) y0 : Tw (zAh y0) := by
 delta zAh
 repeat with_reducible (first | intro _ | apply zHe n_ | apply zFb n_ | apply ti | apply ts | apply tb | apply tl n_ | exact td _)
def zJq (n_ : Nat) y0 : Tw (zBF y0) := by
 delta zBF
 repeat with_reducible (first | intro _ | apply zGw n_ | apply ti | apply ts | apply tb | apply tl n_ | exact td _)
def zHu (n_ : Nat) y0 : Tw (zAs y0) := by
 delta zAs
 repeat with_reducible (first | intro _ | apply zJq n_ | apply zRc n_ | apply zLk n_ | apply zL1 n_ | apply ti | apply ts | apply tb | apply tl n_ | exact td _)
def zX2 (n_ : Nat) y0 : Tw (zHM y0) := by
 delta zHM
 repeat with_reducible (first | intro _ | apply zHu n_ | apply ti | apply ts | apply tb | apply tl n_ | exact td _)
def zKu (n_ : Nat) y0 : Tw (zBJ y0) := by
 delta zBJ
 repeat with_reducible (first | intro _ | apply zX2 n_ | apply ti | apply ts | apply tb | apply tl n_ | exact td _)
def zIB (n_ : Nat) r1 s1 : Tw (zA2 r1 s1) := by
 delta zA2
 repeat with_reducible (first | intro _ | apply zCK n_ | apply ti | apply ts | apply tb | apply tl n_ | exact td _)
def zIt (n_ : Nat) y0 : Tw (zAX y0) := by
 delta zAX
 repeat with_reducible (first | intro _ | apply zKu n_ | apply zIB n_ | apply ti | apply ts | apply tb | apply tl n_ | exact td _)
def zHJ (n_ : Nat) r1 s1 : Tw (zAS r1 s1) := by
 delta zAS
 repeat with_reducible (first | intro _ | apply zCK n_ | apply ti | apply ts | apply tb | apply tl n_ | exact td _)
def zIF (n_ : Nat) y0 : Tw (zAO y0) := by
 delta zAO
 repeat with_reducible (first | intro _ | apply zKR n_ | apply zHJ n_ | apply ti | apply ts | apply tb | apply tl n_ | exact td _)
def zGu (n_ : Nat) r1 s1 : Tw (zAQ r1 s1) := by
 delta zAQ
 repeat with_reducible (first | intro _ | apply zCK n_ | apply ti | apply ts | apply tb | apply tl n_ | exact td _)
def zIE (n_ : Nat) y0 : Tw (zAM y0) := by
 delta zAM
 repeat with_reducible (first | intro _ | apply zJq n_ | apply zGu n_ | apply ti | apply ts | apply tb | apply tl n_ | exact td _)
def zPo (n_ : Nat) y0 y1 : Tw (zC3 y0 y1) := by
 delta zC3
 repeat with_reducible (first | intro _ | apply zJ3 n_ | apply ti | apply ts | apply tb | apply tl n_ | exact td _)
def zHo (n_ : Nat) y0 y2 : Tw (zAq y0 y2) := by
 delta zAq
 repeat with_reducible (first | intro _ | apply zPo n_ | apply ti | apply ts | apply tb | apply tl n_ | exact td _)
def zFH (n_ : Nat) y0 y2 s1 : Tw (zAT y0 y2 s1) := by
 delta zAT
 repeat with_reducible (first | intro _ | apply zHo n_ | apply ti | apply ts | apply tb | apply tl n_ | exact td _)
def zFo (n_ : Nat) y0 y2 : Tw (zA7 y0 y2) := by
 delta zA7
 repeat with_reducible (first | intro _ | apply zFH n_ | apply ti | apply ts | apply tb | apply tl n_ | exact td _)
def zFG (n_ : Nat) y0 y2 : Tw (zAE y0 y2) := by
 delta zAE
 repeat with_reducible (first | intro _ | apply zFo n_ | apply ti | apply ts | apply tb | apply tl n_ | exact td _)
def zHT (n_ : Nat) r1 s1 : Tw (zAF r1 s1) := by
 delta zAF
 repeat with_reducible (first | intro _ | apply zFG n_ | apply ti | apply ts | apply tb | apply tl n_ | exact td _)
def zIH (n_ : Nat) y0 : Tw (zAz y0) := by
 delta zAz
 repeat with_reducible (first | intro _ | apply zHe n_ | apply zHT n_ | apply ti | apply ts | apply tb | apply tl n_ | exact td _)
def zRB (n_ : Nat) y0 : Tw (zCY y0) := by
 delta zCY
 repeat with_reducible (first | intro _ | apply zIH n_ | apply ti | apply ts | apply tb | apply tl n_ | exact td _)
def zIO (n_ : Nat) r1 s1 : Tw (zA9 r1 s1) := by
 delta zA9
 repeat with_reducible (first | intro _ | apply zCK n_ | apply ti | apply ts | apply tb | apply tl n_ | exact td _)
def zJC (n_ : Nat) y0 : Tw (zAY y0) := by
 delta zAY
 repeat with_reducible (first | intro _ | apply zRB n_ | apply zIO n_ | apply ti | apply ts | apply tb | apply tl n_ | exact td _)
def zIg (n_ : Nat) r1 s1 : Tw (zAe r1 s1) := by
 delta zAe
 repeat with_reducible (first | intro _ | apply zCK n_ | apply ti | apply ts | apply tb | apply tl n_ | exact td _)
def zJl (n_ : Nat) y0 : Tw (zA8 y0) := by
 delta zA8
 repeat with_reducible (first | intro _ | apply zHe n_ | apply zIg n_ | apply ti | apply ts | apply tb | apply tl n_ | exact td _)
def zQ9 (n_ : Nat) y0 y1 : Tw (zA0 y0 y1) := by
 delta zA0
 repeat with_reducible (first | intro _ | apply zKk n_ | apply zJf n_ | apply zJl n_ | apply zIF n_ | apply zJC n_ | apply zIE n_ | apply zIv n_ | apply zIt n_ | apply ti | apply ts | apply tb | apply tl n_ | exact td _)
def zNb (n_ : Nat) r1 y0 s1 : Tw (zBv r1 y0 s1) := by
 delta zBv
 repeat with_reducible (first | intro _ | apply zJp n_ | apply ti | apply ts | apply tb | apply tl n_ | exact td _)
def zPr (n_ : Nat) y0 y1 : Tw (zBT y0 y1) := by
 delta zBT
 repeat with_reducible (first | intro _ | apply zQ9 n_ | apply zNb n_ | apply ti | apply ts | apply tb | apply tl n_ | exact td _)
def zNZ (n_ : Nat) y0 : Tw (zBu y0) := by
 delta zBu
 repeat with_reducible (first | intro _ | apply ti | apply ts | apply tb | apply tl n_ | exact td _)
def zOW (n_ : Nat) y0 y1 : Tw (zCI y0 y1) := by
 delta zCI
 repeat with_reducible (first | intro _ | apply ti | apply ts | apply tb | apply tl n_ | exact td _)
def zM3 (n_ : Nat) y0 y1 : Tw (zCJ y0 y1) := by
 delta zCJ
 repeat with_reducible (first | intro _ | apply zOW n_ | apply ti | apply ts | apply tb | apply tl n_ | exact td _)
def zNs (n_ : Nat) y0 y1 : Tw (zDz y0 y1) := by
 delta zDz
 repeat with_reducible (first | intro _ | apply zM3 n_ | apply ti | apply ts | apply tb | apply tl n_ | exact td _)
def zO3 (n_ : Nat) y0 y1 : Tw (zCU y0 y1) := by
 delta zCU
 repeat with_reducible (first | intro _ | apply zNs n_ | apply ti | apply ts | apply tb | apply tl n_ | exact td _)
def zDd (n_ : Nat) y0 y1 s1 : Tw (zBG y0 y1 s1) := by
 delta zBG
 repeat with_reducible (first | intro _ | apply zO3 n_ | apply ti | apply ts | apply tb | apply tl n_ | exact td _)
def zEM (n_ : Nat) y0 y1 : Tw (zAi y0 y1) := by
 delta zAi
 repeat with_reducible (first | intro _ | apply zDd n_ | apply ti | apply ts | apply tb | apply tl n_ | exact td _)
def zDf (n_ : Nat) y0 y1 : Tw (zAH y0 y1) := by
 delta zAH
 repeat with_reducible (first | intro _ | apply zEM n_ | apply ti | apply ts | apply tb | apply tl n_ | exact td _)
def zL8 (n_ : Nat) y0 y1 y2 : Tw (zBo y0 y1 y2) := by
 delta zBo
 repeat with_reducible (first | intro _ | apply zDf n_ | apply ti | apply ts | apply tb | apply tl n_ | exact td _)
def zDt (n_ : Nat) y0 y1 y2 s1 : Tw (zBM y0 y1 y2 s1) := by
 delta zBM
 repeat with_reducible (first | intro _ | apply zL8 n_ | apply ti | apply ts | apply tb | apply tl n_ | exact td _)
def zEc (n_ : Nat) y0 y1 y2 : Tw (zAo y0 y1 y2) := by
 delta zAo
 repeat with_reducible (first | intro _ | apply zDt n_ | apply ti | apply ts | apply tb | apply tl n_ | exact td _)
def zDh (n_ : Nat) y0 y1 y2 s2 : Tw (zBI y0 y1 y2 s2) := by
 delta zBI
 repeat with_reducible (first | intro _ | apply zL8 n_ | apply ti | apply ts | apply tb | apply tl n_ | exact td _)
def zEV (n_ : Nat) y0 y1 y2 : Tw (zAR y0 y1 y2) := by
 delta zAR
 repeat with_reducible (first | intro _ | apply zEc n_ | apply zDh n_ | apply ti | apply ts | apply tb | apply tl n_ | exact td _)
def zSR (n_ : Nat) y0 y1 y2 : Tw (zBB y0 y1 y2) := by
 delta zBB
 repeat with_reducible (first | intro _ | apply zPr n_ | apply zNZ n_ | apply zOL n_ | apply zEV n_ | apply ti | apply ts | apply tb | apply tl n_ | exact td _)
def zN6 (n_ : Nat) y0 s1 : Tw (zFd y0 s1) := by
 delta zFd
 repeat with_reducible (first | intro _ | apply ti | apply ts | apply tb | apply tl n_ | exact td _)
def zHt (n_ : Nat) y0 : Tw (zBU y0) := by
 delta zBU
 repeat with_reducible (first | intro _ | apply zN6 n_ | apply ti | apply ts | apply tb | apply tl n_ | exact td _)
def zIC (n_ : Nat) (y0 : List Int) := (zHt n_ y0).1
theorem zK4 (n_ : Nat) (y0 : List Int) : Le (zIC n_ y0) (zBU y0) := (zHt n_ y0).2
def zNQ (n_ : Nat) (y0 : List Int) : Tw (zBY y0) := ⟨zEa n_ y0, zJZ n_ y0⟩
def zIy (n_ : Nat) (x1 : zK) (rec_argument_Subs : (List zK) → Int → Option (List Int)) (y0 : List zK) (s2 : (List Int) × Int) : Option (((List Int) × Int) ⊕ (List Int)) :=
 if decide (s2.2 < (len x1.2.2.1)) then
  (zI x1.2.2.1 s2.2).bind fun x2 =>
  (rec_argument_Subs y0 x2).bind fun r2 =>
  (wE s2.1 r2).bind fun x3 =>
  some (.inl (x3, zR (s2.2 + 1)))
 else
  some (.inr s2.1)
theorem zQc (n_ : Nat) (x1 : zK) {rec_argument_Subs rec_argument_Subs' : (List zK) → Int → Option (List Int)} (h_rec_argument_Subs : ∀ u0 u1, Le (rec_argument_Subs u0 u1) (rec_argument_Subs' u0 u1)) (y0 : List zK) (s2 : (List Int) × Int) : Le (zIy n_ x1 rec_argument_Subs y0 s2) (zCt x1 rec_argument_Subs' y0 s2) := by
 unfold zIy zCt
 repeat with_reducible (first | intro _ | apply h_rec_argument_Subs | exact Le.refl _ | apply Le.ite | apply Le.seqE | apply Le.bind | apply Le.lp | exact Le.none _)
def zKt (n_ : Nat) (rec_argument_Subs : (List zK) → Int → Option (List Int)) (y0 : List zK) (y1 : Int) : Option (List Int) :=
 (zB0 y0 y1).bind fun r1 =>
 if !r1 then
  some ([] : List Int)
 else
  (
   (zI y0 y1).bind fun x1 =>
   (lp n_) ((zIy n_) x1 rec_argument_Subs y0) (([y1] : List Int), 0) : Option (List Int)).bind fun s1 =>
  ((zEa n_) s1).bind fun r3 =>
  ((zIC n_) r3).bind fun r4 =>
  some r4
theorem zSN (n_ : Nat) {rec_argument_Subs rec_argument_Subs' : (List zK) → Int → Option (List Int)} (h_rec_argument_Subs : ∀ u0 u1, Le (rec_argument_Subs u0 u1) (rec_argument_Subs' u0 u1)) (y0 : List zK) (y1 : Int) : Le (zKt n_ rec_argument_Subs y0 y1) (zEw rec_argument_Subs' y0 y1) := by
 unfold zKt zEw
 repeat with_reducible (first | intro _ | apply h_rec_argument_Subs | apply zK4 | apply zJZ | apply zQc | exact Le.refl _ | apply Le.ite | apply Le.seqE | apply Le.bind | apply Le.lp | exact Le.none _)
def zKb (n_ : Nat) : Nat → (List zK) → Int → Option (List Int)
 | 0 => fun _ _ => none
 | k + 1 => fun y0 y1 => (zKt n_) ((zKb n_) k) y0 y1
theorem zMu (n_ : Nat) : ∀ (k m : Nat), k ≤ m → ∀ u0 u1, Le (zKb n_ k u0 u1) (zCp m u0 u1)
 | 0, _, _ => fun u0 u1 => Le.none _
 | k + 1, m, h => fun u0 u1 => by
  obtain ⟨m, rfl⟩ : ∃ q, m = q + 1 := ⟨m - 1, by omega⟩
  exact zSN n_ (zMu n_ k m (by omega)) _ _
def zOh (n_ : Nat) (y0 : List zK) (y1 : Int) : Option (List Int) :=
 zKb n_ n_ y0 y1
theorem zSi (n_ : Nat) (y0 : List zK) (y1 : Int) : Le (zOh n_ y0 y1) (zD7 y0 y1) := Le.lim n_ fun m h => zMu n_ n_ m h _ _
def zL7 (n_ : Nat) (y0 : List zK) (y1 : Int) : Tw (zD7 y0 y1) := ⟨zOh n_ y0 y1, zSi n_ y0 y1⟩
def zK6 (n_ : Nat) y0 y1 y2 : Tw (zCo y0 y1 y2) := by
 delta zCo
 repeat with_reducible (first | intro _ | apply zL7 n_ | apply zNQ n_ | apply zHt n_ | apply ti | apply ts | apply tb | apply tl n_ | exact td _)
def zJz (n_ : Nat) (x4 : zK) (rec_argument_run : zT → (List zK) → Int → Option (List zO)) (y0 : zT) (y1 : List zK) (s2 : (List zO) × Int) : Option (((List zO) × Int) ⊕ (List zO)) :=
 if decide (s2.2 < (len x4.2.2.1)) then
  (zI x4.2.2.1 s2.2).bind fun x5 =>
  (rec_argument_run y0 y1 x5).bind fun r1 =>
  (wE s2.1 r1).bind fun x6 =>
  some (.inl (x6, zR (s2.2 + 1)))
 else
  some (.inr s2.1)
theorem zRi (n_ : Nat) (x4 : zK) {rec_argument_run rec_argument_run' : zT → (List zK) → Int → Option (List zO)} (h_rec_argument_run : ∀ u0 u1 u2, Le (rec_argument_run u0 u1 u2) (rec_argument_run' u0 u1 u2)) (y0 : zT) (y1 : List zK) (s2 : (List zO) × Int) : Le (zJz n_ x4 rec_argument_run y0 y1 s2) (zKD x4 rec_argument_run' y0 y1 s2) := by
 unfold zJz zKD
 repeat with_reducible (first | intro _ | apply h_rec_argument_run | exact Le.refl _ | apply Le.ite | apply Le.seqE | apply Le.bind | apply Le.lp | exact Le.none _)
def zLu (n_ : Nat) (rec_argument_run : zT → (List zK) → Int → Option (List zO)) (y0 : zT) (y1 : List zK) (y2 : Int) : Option (List zO) :=
 (zI y1 y2).bind fun x1 =>
 (zI y1 y2).bind fun x2 =>
 (
  if decide (0 ≤ x2.2.1) then
   (zI y0.2.1 x2.2.1).bind fun x3 =>
   some x3.2.1
  else
   some false : Option Bool).bind fun s1 =>
 if s1 then
  (zI y1 y2).bind fun x4 =>
  (lp n_) ((zJz n_) x4 rec_argument_run y0 y1) (([x1.2.2.2] : List zO), 0)
 else
  some ([x1.2.2.2] : List zO)
theorem zSw (n_ : Nat) {rec_argument_run rec_argument_run' : zT → (List zK) → Int → Option (List zO)} (h_rec_argument_run : ∀ u0 u1 u2, Le (rec_argument_run u0 u1 u2) (rec_argument_run' u0 u1 u2)) (y0 : zT) (y1 : List zK) (y2 : Int) : Le (zLu n_ rec_argument_run y0 y1 y2) (zKN rec_argument_run' y0 y1 y2) := by
 unfold zLu zKN
 repeat with_reducible (first | intro _ | apply h_rec_argument_run | apply zRi | exact Le.refl _ | apply Le.ite | apply Le.seqE | apply Le.bind | apply Le.lp | exact Le.none _)
def zLm (n_ : Nat) : Nat → zT → (List zK) → Int → Option (List zO)
 | 0 => fun _ _ _ => none
 | k + 1 => fun y0 y1 y2 => (zLu n_) ((zLm n_) k) y0 y1 y2
theorem zON (n_ : Nat) : ∀ (k m : Nat), k ≤ m → ∀ u0 u1 u2, Le (zLm n_ k u0 u1 u2) (zIG m u0 u1 u2)
 | 0, _, _ => fun u0 u1 u2 => Le.none _
 | k + 1, m, h => fun u0 u1 u2 => by
  obtain ⟨m, rfl⟩ : ∃ q, m = q + 1 := ⟨m - 1, by omega⟩
  exact zSw n_ (zON n_ k m (by omega)) _ _ _
def zQG (n_ : Nat) (y0 : zT) (y1 : List zK) (y2 : Int) : Option (List zO) :=
 zLm n_ n_ y0 y1 y2
theorem zU2 (n_ : Nat) (y0 : zT) (y1 : List zK) (y2 : Int) : Le (zQG n_ y0 y1 y2) (zKF y0 y1 y2) := Le.lim n_ fun m h => zON n_ n_ m h _ _ _
def zUd (n_ : Nat) (y0 : zT) (y1 : List zK) (y2 : Int) : Tw (zKF y0 y1 y2) := ⟨zQG n_ y0 y1 y2, zU2 n_ y0 y1 y2⟩
def zPm (n_ : Nat) y3 y0 y2 y1 s1 : Tw (zID y3 y0 y2 y1 s1) := by
 delta zID
 repeat with_reducible (first | intro _ | apply zUd n_ | apply zNs n_ | apply zK6 n_ | apply zCn n_ | apply ti | apply ts | apply tb | apply tl n_ | exact td _)
def zMq (n_ : Nat) y0 y1 y2 y3 : Tw (zEe y0 y1 y2 y3) := by
 delta zEe
 repeat with_reducible (first | intro _ | apply zPm n_ | apply ti | apply ts | apply tb | apply tl n_ | exact td _)
def zNW (n_ : Nat) (y0 : zT) (y1 : List zK) (y2 : Int) (y3 : List Int) := (zMq n_ y0 y1 y2 y3).1
theorem zQo (n_ : Nat) (y0 : zT) (y1 : List zK) (y2 : Int) (y3 : List Int) : Le (zNW n_ y0 y1 y2 y3) (zEe y0 y1 y2 y3) := (zMq n_ y0 y1 y2 y3).2
def zDs (n_ : Nat) y0 y2 : Tw (zAb y0 y2) := by
 delta zAb
 repeat with_reducible (first | intro _ | apply ti | apply ts | apply tb | apply tl n_ | exact td _)
def zBr (n_ : Nat) y0 y2 : Tw (zAG y0 y2) := by
 delta zAG
 repeat with_reducible (first | intro _ | apply zDs n_ | apply ti | apply ts | apply tb | apply tl n_ | exact td _)
def zBl (n_ : Nat) (y0 : List Int) (y2 : uT) := (zBr n_ y0 y2).1
theorem zDR (n_ : Nat) (y0 : List Int) (y2 : uT) : Le (zBl n_ y0 y2) (zAG y0 y2) := (zBr n_ y0 y2).2
def zDA (n_ : Nat) (y0 : uT) (x1 : wC) (y2 : List Int) (rec_argument_builder_apply_2 : uT → Int → (List Int) → Option (List zK)) (y1 : Int) (s2 : Int × (List zK)) : Option ((Int × (List zK)) ⊕ (Unit ⊕ (List zK))) :=
 if decide (s2.1 < (len y0.2.1)) then
  (zI y0.2.1 s2.1).bind fun x2 =>
  (zI x1.2.2.2.1 (len y2)).bind fun x3 =>
  if x2.2.2.2 == x3 then
   (
    (zJ9 y2).bind fun r2 =>
    (wE r2 ([s2.1] : List Int)).bind fun x4 =>
    (rec_argument_builder_apply_2 (y0.1, y0.2.1, s2.2, y0.2.2.2) y1 x4).bind fun r3 =>
    some r3 : Option (List zK)).bind fun s3 =>
   some (.inl (zR (s2.1 + 1), s3))
  else
   some (.inl (zR (s2.1 + 1), s2.2))
 else
  some (.inr (.inr s2.2))
theorem zK1 (n_ : Nat) (y0 : uT) (x1 : wC) (y2 : List Int) {rec_argument_builder_apply_2 rec_argument_builder_apply_2' : uT → Int → (List Int) → Option (List zK)} (h_rec_argument_builder_apply_2 : ∀ u0 u1 u2, Le (rec_argument_builder_apply_2 u0 u1 u2) (rec_argument_builder_apply_2' u0 u1 u2)) (y1 : Int) (s2 : Int × (List zK)) : Le (zDA n_ y0 x1 y2 rec_argument_builder_apply_2 y1 s2) (zDC y0 x1 y2 rec_argument_builder_apply_2' y1 s2) := by
 unfold zDA zDC
 repeat with_reducible (first | intro _ | apply h_rec_argument_builder_apply_2 | exact Le.refl _ | apply Le.ite | apply Le.seqE | apply Le.bind | apply Le.lp | exact Le.none _)
def zDZ (n_ : Nat) (rec_argument_builder_apply_2 : uT → Int → (List Int) → Option (List zK)) (y0 : uT) (y1 : Int) (y2 : List Int) : Option (List zK) :=
 (zI y0.1.2.1 y1).bind fun x1 =>
 (zC2 y0).bind fun r1 =>
 if r1 then
  some y0.2.2.1
 else
  yZ (
   if decide ((len y2) < (len x1.2.2.2.1)) then
    (lp n_) ((zDA n_) y0 x1 y2 rec_argument_builder_apply_2 y1) (0, y0.2.2.1)
   else
    some (.inl ()) : Option (Unit ⊕ (List zK))) fun _ =>
  (
   ((zBl n_) y2 y0).bind fun r6 =>
   if r6 then
    ((zNW n_) y0.1 y0.2.1 y1 y2).bind fun r7 =>
    some r7
   else
    some false : Option Bool).bind fun s4 =>
  if s4 then
   (zI y0.1.2.1 y1).bind fun x6 =>
   (wE y0.2.2.1 ([((-1), y1, y2, x6.2.2.2.2)] : List zK)).bind fun x7 =>
   some x7
  else
   some y0.2.2.1
theorem zLO (n_ : Nat) {rec_argument_builder_apply_2 rec_argument_builder_apply_2' : uT → Int → (List Int) → Option (List zK)} (h_rec_argument_builder_apply_2 : ∀ u0 u1 u2, Le (rec_argument_builder_apply_2 u0 u1 u2) (rec_argument_builder_apply_2' u0 u1 u2)) (y0 : uT) (y1 : Int) (y2 : List Int) : Le (zDZ n_ rec_argument_builder_apply_2 y0 y1 y2) (zCc rec_argument_builder_apply_2' y0 y1 y2) := by
 unfold zDZ zCc
 repeat with_reducible (first | intro _ | apply h_rec_argument_builder_apply_2 | apply zQo | apply zDR | apply zK1 | exact Le.refl _ | apply Le.ite | apply Le.seqE | apply Le.bind | apply Le.lp | exact Le.none _)
def zD1 (n_ : Nat) : Nat → uT → Int → (List Int) → Option (List zK)
 | 0 => fun _ _ _ => none
 | k + 1 => fun y0 y1 y2 => (zDZ n_) ((zD1 n_) k) y0 y1 y2
theorem zGd (n_ : Nat) : ∀ (k m : Nat), k ≤ m → ∀ u0 u1 u2, Le (zD1 n_ k u0 u1 u2) (zCD m u0 u1 u2)
 | 0, _, _ => fun u0 u1 u2 => Le.none _
 | k + 1, m, h => fun u0 u1 u2 => by
  obtain ⟨m, rfl⟩ : ∃ q, m = q + 1 := ⟨m - 1, by omega⟩
  exact zLO n_ (zGd n_ k m (by omega)) _ _ _
def zHq (n_ : Nat) (y0 : uT) (y1 : Int) (y2 : List Int) : Option (List zK) :=
 zD1 n_ n_ y0 y1 y2
theorem zLW (n_ : Nat) (y0 : uT) (y1 : Int) (y2 : List Int) : Le (zHq n_ y0 y1 y2) (zC7 y0 y1 y2) := Le.lim n_ fun m h => zGd n_ n_ m h _ _ _
def zMA (n_ : Nat) (y0 : uT) (y1 : Int) (y2 : List Int) : Tw (zC7 y0 y1 y2) := ⟨zHq n_ y0 y1 y2, zLW n_ y0 y1 y2⟩
def zGv (n_ : Nat) y0 y1 : Tw (zBH y0 y1) := by
 delta zBH
 repeat with_reducible (first | intro _ | apply ti | apply ts | apply tb | apply tl n_ | exact td _)
def zOs (n_ : Nat) y0 y1 : Tw (zHG y0 y1) := by
 delta zHG
 repeat with_reducible (first | intro _ | apply zGv n_ | apply ti | apply ts | apply tb | apply tl n_ | exact td _)
def zEW (n_ : Nat) y0 y1 : Tw (zAn y0 y1) := by
 delta zAn
 repeat with_reducible (first | intro _ | apply ti | apply ts | apply tb | apply tl n_ | exact td _)
def zRD (n_ : Nat) y0 y1 : Tw (zGn y0 y1) := by
 delta zGn
 repeat with_reducible (first | intro _ | apply zEW n_ | apply ti | apply ts | apply tb | apply tl n_ | exact td _)
def zFO (n_ : Nat) y0 : Tw (zCR y0) := by
 delta zCR
 repeat with_reducible (first | intro _ | apply ti | apply ts | apply tb | apply tl n_ | exact td _)
def zFC (n_ : Nat) y0 : Tw (zCZ y0) := by
 delta zCZ
 repeat with_reducible (first | intro _ | apply zFO n_ | apply ti | apply ts | apply tb | apply tl n_ | exact td _)
def zRP (n_ : Nat) y0 : Tw (zGc y0) := by
 delta zGc
 repeat with_reducible (first | intro _ | apply zFO n_ | apply ti | apply ts | apply tb | apply tl n_ | exact td _)
def zRK (n_ : Nat) y0 : Tw (zG8 y0) := by
 delta zG8
 repeat with_reducible (first | intro _ | apply zFC n_ | apply zRP n_ | apply ti | apply ts | apply tb | apply tl n_ | exact td _)
def zPu (n_ : Nat) y0 y1 : Tw (zE5 y0 y1) := by
 delta zE5
 repeat with_reducible (first | intro _ | apply zFC n_ | apply zOs n_ | apply ti | apply ts | apply tb | apply tl n_ | exact td _)
def zRM (n_ : Nat) y0 s3 : Tw (zJD y0 s3) := by
 delta zJD
 repeat with_reducible (first | intro _ | apply zFC n_ | apply ti | apply ts | apply tb | apply tl n_ | exact td _)
def zT3 (n_ : Nat) y0 : Tw (zJU y0) := by
 delta zJU
 repeat with_reducible (first | intro _ | apply zFO n_ | apply zFC n_ | apply zRM n_ | apply ti | apply ts | apply tb | apply tl n_ | exact td _)
def zOU (n_ : Nat) y0 s2 : Tw (zG6 y0 s2) := by
 delta zG6
 repeat with_reducible (first | intro _ | apply zRK n_ | apply zRD n_ | apply ti | apply ts | apply tb | apply tl n_ | exact td _)
def zOX (n_ : Nat) y0 s4 : Tw (zGY y0 s4) := by
 delta zGY
 repeat with_reducible (first | intro _ | apply zT3 n_ | apply zOs n_ | apply ti | apply ts | apply tb | apply tl n_ | exact td _)
def zO2 (n_ : Nat) y0 s5 : Tw (zG3 y0 s5) := by
 delta zG3
 repeat with_reducible (first | intro _ | apply zPu n_ | apply ti | apply ts | apply tb | apply tl n_ | exact td _)
def zLT (n_ : Nat) y0 : Tw (zD2 y0) := by
 delta zD2
 repeat with_reducible (first | intro _ | apply zOU n_ | apply zOX n_ | apply zO2 n_ | apply ti | apply ts | apply tb | apply tl n_ | exact td _)
def zQb (n_ : Nat) y0 s4 s6 : Tw (zIe y0 s4 s6) := by
 delta zIe
 repeat with_reducible (first | intro _ | apply zMA n_ | apply ti | apply ts | apply tb | apply tl n_ | exact td _)
def zQf (n_ : Nat) y0 s4 : Tw (zI6 y0 s4) := by
 delta zI6
 repeat with_reducible (first | intro _ | apply zQb n_ | apply ti | apply ts | apply tb | apply tl n_ | exact td _)
def zTL (n_ : Nat) y0 : Tw (zI2 y0) := by
 delta zI2
 repeat with_reducible (first | intro _ | apply zLT n_ | apply zQf n_ | apply ti | apply ts | apply tb | apply tl n_ | exact td _)
def zGN (n_ : Nat) (y0 : List wA) : Tw (zA4 y0) := ⟨zBb n_ y0, zFN n_ y0⟩
def zQl (n_ : Nat) y1 s2 r1 s3 s4 : Tw (zId y1 s2 r1 s3 s4) := by
 delta zId
 repeat with_reducible (first | intro _ | apply zL7 n_ | apply zCn n_ | apply ti | apply ts | apply tb | apply tl n_ | exact td _)
def zQQ (n_ : Nat) y1 y0 s2 s3 : Tw (zIf y1 y0 s2 s3) := by
 delta zIf
 repeat with_reducible (first | intro _ | apply zQl n_ | apply ti | apply ts | apply tb | apply tl n_ | exact td _)
def zQ2 (n_ : Nat) y1 y0 s2 : Tw (zI9 y1 y0 s2) := by
 delta zI9
 repeat with_reducible (first | intro _ | apply zQQ n_ | apply ti | apply ts | apply tb | apply tl n_ | exact td _)
def zTI (n_ : Nat) y0 y1 : Tw (zIT y0 y1) := by
 delta zIT
 repeat with_reducible (first | intro _ | apply zQ2 n_ | apply zGN n_ | apply ti | apply ts | apply tb | apply tl n_ | exact td _)
def zL4 (n_ : Nat) y0 y1 : Tw (zCQ y0 y1) := by
 delta zCQ
 repeat with_reducible (first | intro _ | apply zL7 n_ | apply zNQ n_ | apply ti | apply ts | apply tb | apply tl n_ | exact td _)
def zHn (n_ : Nat) y0 y1 : Tw (zBR y0 y1) := by
 delta zBR
 repeat with_reducible (first | intro _ | apply ti | apply ts | apply tb | apply tl n_ | exact td _)
def zG0 (n_ : Nat) y0 y1 : Tw (zBE y0 y1) := by
 delta zBE
 repeat with_reducible (first | intro _ | apply zHn n_ | apply ti | apply ts | apply tb | apply tl n_ | exact td _)
def zUq (n_ : Nat) y0 y1 y2 : Tw (zKJ y0 y1 y2) := by
 delta zKJ
 repeat with_reducible (first | intro _ | apply zL4 n_ | apply zG0 n_ | apply ti | apply ts | apply tb | apply tl n_ | exact td _)
def zJJ (n_ : Nat) (x5 : zK) (rec_argument_Last : zT → (List zK) → Int → Option (List Int)) (y0 : zT) (y1 : List zK) (s3 : (List Int) × Int) : Option (((List Int) × Int) ⊕ (List Int)) :=
 if decide (s3.2 < (len x5.2.2.1)) then
  (zI x5.2.2.1 s3.2).bind fun x6 =>
  (rec_argument_Last y0 y1 x6).bind fun r2 =>
  (wE s3.1 r2).bind fun x7 =>
  some (.inl (x7, zR (s3.2 + 1)))
 else
  some (.inr s3.1)
theorem zQV (n_ : Nat) (x5 : zK) {rec_argument_Last rec_argument_Last' : zT → (List zK) → Int → Option (List Int)} (h_rec_argument_Last : ∀ u0 u1 u2, Le (rec_argument_Last u0 u1 u2) (rec_argument_Last' u0 u1 u2)) (y0 : zT) (y1 : List zK) (s3 : (List Int) × Int) : Le (zJJ n_ x5 rec_argument_Last y0 y1 s3) (zJa x5 rec_argument_Last' y0 y1 s3) := by
 unfold zJJ zJa
 repeat with_reducible (first | intro _ | apply h_rec_argument_Last | exact Le.refl _ | apply Le.ite | apply Le.seqE | apply Le.bind | apply Le.lp | exact Le.none _)
def zKr (n_ : Nat) (rec_argument_Last : zT → (List zK) → Int → Option (List Int)) (y0 : zT) (y1 : List zK) (y2 : Int) : Option (List Int) :=
 (
  (zB0 y1 y2).bind fun r1 =>
  if !r1 then
   some true
  else
   (zI y1 y2).bind fun x1 =>
   some (decide (x1.2.1 < 0)) : Option Bool).bind fun s1 =>
 if s1 then
  some ([] : List Int)
 else
  (zI y1 y2).bind fun x2 =>
  (zI y0.2.1 x2.2.1).bind fun x3 =>
  if !x3.2.1 then
   (zI y1 y2).bind fun x4 =>
   some ([x4.2.1] : List Int)
  else
   (
    (zI y1 y2).bind fun x5 =>
    (lp n_) ((zJJ n_) x5 rec_argument_Last y0 y1) (([] : List Int), 0) : Option (List Int)).bind fun s2 =>
   ((zEa n_) s2).bind fun r3 =>
   ((zIC n_) r3).bind fun r4 =>
   some r4
theorem zRu (n_ : Nat) {rec_argument_Last rec_argument_Last' : zT → (List zK) → Int → Option (List Int)} (h_rec_argument_Last : ∀ u0 u1 u2, Le (rec_argument_Last u0 u1 u2) (rec_argument_Last' u0 u1 u2)) (y0 : zT) (y1 : List zK) (y2 : Int) : Le (zKr n_ rec_argument_Last y0 y1 y2) (zJF rec_argument_Last' y0 y1 y2) := by
 unfold zKr zJF
 repeat with_reducible (first | intro _ | apply h_rec_argument_Last | apply zK4 | apply zJZ | apply zQV | exact Le.refl _ | apply Le.ite | apply Le.seqE | apply Le.bind | apply Le.lp | exact Le.none _)
def zK7 (n_ : Nat) : Nat → zT → (List zK) → Int → Option (List Int)
 | 0 => fun _ _ _ => none
 | k + 1 => fun y0 y1 y2 => (zKr n_) ((zK7 n_) k) y0 y1 y2
theorem zMz (n_ : Nat) : ∀ (k m : Nat), k ≤ m → ∀ u0 u1 u2, Le (zK7 n_ k u0 u1 u2) (zHZ m u0 u1 u2)
 | 0, _, _ => fun u0 u1 u2 => Le.none _
 | k + 1, m, h => fun u0 u1 u2 => by
  obtain ⟨m, rfl⟩ : ∃ q, m = q + 1 := ⟨m - 1, by omega⟩
  exact zRu n_ (zMz n_ k m (by omega)) _ _ _
def zPZ (n_ : Nat) (y0 : zT) (y1 : List zK) (y2 : Int) : Option (List Int) :=
 zK7 n_ n_ y0 y1 y2
theorem zSz (n_ : Nat) (y0 : zT) (y1 : List zK) (y2 : Int) : Le (zPZ n_ y0 y1 y2) (zJS y0 y1 y2) := Le.lim n_ fun m h => zMz n_ n_ m h _ _ _
def zTa (n_ : Nat) (y0 : zT) (y1 : List zK) (y2 : Int) : Tw (zJS y0 y1 y2) := ⟨zPZ n_ y0 y1 y2, zSz n_ y0 y1 y2⟩
def zS5 (n_ : Nat) y0 y1 : Tw (zIl y0 y1) := by
 delta zIl
 repeat with_reducible (first | intro _ | apply ti | apply ts | apply tb | apply tl n_ | exact td _)
def zOJ (n_ : Nat) y0 y1 y2 : Tw (zDG y0 y1 y2) := by
 delta zDG
 repeat with_reducible (first | intro _ | apply zTa n_ | apply zS5 n_ | apply ti | apply ts | apply tb | apply tl n_ | exact td _)
def zSt (n_ : Nat) y0 : Tw (zFm y0) := by
 delta zFm
 repeat with_reducible (first | intro _ | apply ti | apply ts | apply tb | apply tl n_ | exact td _)
def zSy (n_ : Nat) y0 : Tw (zFz y0) := by
 delta zFz
 repeat with_reducible (first | intro _ | apply ti | apply ts | apply tb | apply tl n_ | exact td _)
def zM6 (n_ : Nat) y0 y1 y2 : Tw (zGT y0 y1 y2) := by
 delta zGT
 repeat with_reducible (first | intro _ | apply zSy n_ | apply zSt n_ | apply ti | apply ts | apply tb | apply tl n_ | exact td _)
def zKe (n_ : Nat) y0 y1 y2 y3 y4 : Tw (zCN y0 y1 y2 y3 y4) := by
 delta zCN
 repeat with_reducible (first | intro _ | apply zOJ n_ | apply zM6 n_ | apply ti | apply ts | apply tb | apply tl n_ | exact td _)
def zL5 (n_ : Nat) y0 y1 y2 : Tw (zBP y0 y1 y2) := by
 delta zBP
 repeat with_reducible (first | intro _ | apply zL4 n_ | apply ti | apply ts | apply tb | apply tl n_ | exact td _)
def zEP (n_ : Nat) y0 y1 y2 y3 y4 : Tw (zAv y0 y1 y2 y3 y4) := by
 delta zAv
 repeat with_reducible (first | intro _ | apply zL5 n_ | apply zM6 n_ | apply ti | apply ts | apply tb | apply tl n_ | exact td _)
def zKq (n_ : Nat) y0 y1 y2 y3 : Tw (zCO y0 y1 y2 y3) := by
 delta zCO
 repeat with_reducible (first | intro _ | apply zOJ n_ | apply ti | apply ts | apply tb | apply tl n_ | exact td _)
def zMB (n_ : Nat) y1 y2 y3 y4 y5 : Tw (zC8 y1 y2 y3 y4 y5) := by
 delta zC8
 repeat with_reducible (first | intro _ | apply zKe n_ | apply zKq n_ | apply zEP n_ | apply ti | apply ts | apply tb | apply tl n_ | exact td _)
def zOC (n_ : Nat) y0 y1 y2 : Tw (zDD y0 y1 y2) := by
 delta zDD
 repeat with_reducible (first | intro _ | apply zK6 n_ | apply zS5 n_ | apply ti | apply ts | apply tb | apply tl n_ | exact td _)
def zKf (n_ : Nat) y0 y1 y2 y3 y4 : Tw (zBa y0 y1 y2 y3 y4) := by
 delta zBa
 repeat with_reducible (first | intro _ | apply zOC n_ | apply zM6 n_ | apply ti | apply ts | apply tb | apply tl n_ | exact td _)
def zJk (n_ : Nat) y0 y1 y2 y3 : Tw (zBi y0 y1 y2 y3) := by
 delta zBi
 repeat with_reducible (first | intro _ | apply zL5 n_ | apply ti | apply ts | apply tb | apply tl n_ | exact td _)
def zKd (n_ : Nat) y0 y1 y2 y3 : Tw (zCL y0 y1 y2 y3) := by
 delta zCL
 repeat with_reducible (first | intro _ | apply zOC n_ | apply ti | apply ts | apply tb | apply tl n_ | exact td _)
def zMD (n_ : Nat) y1 y2 y3 y4 y6 : Tw (zC9 y1 y2 y3 y4 y6) := by
 delta zC9
 repeat with_reducible (first | intro _ | apply zKd n_ | apply zEP n_ | apply zJk n_ | apply zKf n_ | apply ti | apply ts | apply tb | apply tl n_ | exact td _)
def zYL (n_ : Nat) y0 y1 y2 y3 y4 : Tw (zNj y0 y1 y2 y3 y4) := by
 delta zNj
 repeat with_reducible (first | intro _ | apply zUq n_ | apply zMB n_ | apply zMD n_ | apply ti | apply ts | apply tb | apply tl n_ | exact td _)
def zMH (n_ : Nat) y0 y1 y2 y3 : Tw (zDp y0 y1 y2 y3) := by
 delta zDp
 repeat with_reducible (first | intro _ | apply zYL n_ | apply ti | apply ts | apply tb | apply tl n_ | exact td _)
def zEY (n_ : Nat) y0 y1 y2 y3 s1 : Tw (zBS y0 y1 y2 y3 s1) := by
 delta zBS
 repeat with_reducible (first | intro _ | apply zMH n_ | apply ti | apply ts | apply tb | apply tl n_ | exact td _)
def zFM (n_ : Nat) y0 y1 y2 y3 : Tw (zAx y0 y1 y2 y3) := by
 delta zAx
 repeat with_reducible (first | intro _ | apply zEY n_ | apply ti | apply ts | apply tb | apply tl n_ | exact td _)
def zEK (n_ : Nat) y0 y1 y2 y3 s2 : Tw (zBQ y0 y1 y2 y3 s2) := by
 delta zBQ
 repeat with_reducible (first | intro _ | apply zMH n_ | apply ti | apply ts | apply tb | apply tl n_ | exact td _)
def zFI (n_ : Nat) y0 y1 y2 y3 : Tw (zAr y0 y1 y2 y3) := by
 delta zAr
 repeat with_reducible (first | intro _ | apply zFM n_ | apply zEK n_ | apply ti | apply ts | apply tb | apply tl n_ | exact td _)
def zTC (n_ : Nat) y0 y1 y2 : Tw (zFx y0 y1 y2) := by
 delta zFx
 repeat with_reducible (first | intro _ | apply zTI n_ | apply zFI n_ | apply ti | apply ts | apply tb | apply tl n_ | exact td _)
def zMi (n_ : Nat) y0 s1 : Tw (zEl y0 s1) := by
 delta zEl
 repeat with_reducible (first | intro _ | apply ti | apply ts | apply tb | apply tl n_ | exact td _)
def zPE (n_ : Nat) y0 : Tw (zEF y0) := by
 delta zEF
 repeat with_reducible (first | intro _ | apply zMi n_ | apply ti | apply ts | apply tb | apply tl n_ | exact td _)
def zHi (n_ : Nat) (y0 : List qW) : Tw (zAp y0) := ⟨zBw n_ y0, zHO n_ y0⟩
def zUj (n_ : Nat) y0 y1 : Tw (zIK y0 y1) := by
 delta zIK
 repeat with_reducible (first | intro _ | apply zHi n_ | apply zPE n_ | apply ti | apply ts | apply tb | apply tl n_ | exact td _)
def zPV (n_ : Nat) y0 x1 y1 s3 s4 : Tw (zH5 y0 x1 y1 s3 s4) := by
 delta zH5
 repeat with_reducible (first | intro _ | apply zNs n_ | apply ti | apply ts | apply tb | apply tl n_ | exact td _)
def zPA (n_ : Nat) y0 y1 s3 : Tw (zHW y0 y1 s3) := by
 delta zHW
 repeat with_reducible (first | intro _ | apply zPV n_ | apply ti | apply ts | apply tb | apply tl n_ | exact td _)
def zRh (n_ : Nat) y0 y1 : Tw (zGa y0 y1) := by
 delta zGa
 repeat with_reducible (first | intro _ | apply zPA n_ | apply ti | apply ts | apply tb | apply tl n_ | exact td _)
def zTM (n_ : Nat) y0 y1 : Tw (zIY y0 y1) := by
 delta zIY
 repeat with_reducible (first | intro _ | apply zTL n_ | apply zTC n_ | apply zUj n_ | apply zOM n_ | apply zCK n_ | apply zJp n_ | apply zRh n_ | apply ti | apply ts | apply tb | apply tl n_ | exact td _)
def zSr (n_ : Nat) y0 y1 : Tw (zDj y0 y1) := by
 delta zDj
 repeat with_reducible (first | intro _ | apply zTM n_ | apply zSR n_ | apply ti | apply ts | apply tb | apply tl n_ | exact td _)
def zIX (n_ : Nat) y0 : Tw (zDF y0) := by
 delta zDF
 repeat with_reducible (first | intro _ | apply zFC n_ | apply ti | apply ts | apply tb | apply tl n_ | exact td _)
def zOV (n_ : Nat) y0 : Tw (zD9 y0) := by
 delta zD9
 repeat with_reducible (first | intro _ | apply zIX n_ | apply ti | apply ts | apply tb | apply tl n_ | exact td _)
def zNB (n_ : Nat) y0 : Tw (zCy y0) := by
 delta zCy
 repeat with_reducible (first | intro _ | apply zIX n_ | apply ti | apply ts | apply tb | apply tl n_ | exact td _)
def zOY (n_ : Nat) y0 s3 : Tw (zGX y0 s3) := by
 delta zGX
 repeat with_reducible (first | intro _ | apply zIX n_ | apply ti | apply ts | apply tb | apply tl n_ | exact td _)
def zQ4 (n_ : Nat) y0 : Tw (zFV y0) := by
 delta zFV
 repeat with_reducible (first | intro _ | apply zOY n_ | apply zIX n_ | apply ti | apply ts | apply tb | apply tl n_ | exact td _)
def zTj (n_ : Nat) y0 : Tw (zJY y0) := by
 delta zJY
 repeat with_reducible (first | intro _ | apply zFC n_ | apply ti | apply ts | apply tb | apply tl n_ | exact td _)
def zCr (n_ : Nat) y0 y1 : Tw (zBX y0 y1) := by
 delta zBX
 repeat with_reducible (first | intro _ | apply zTj n_ | apply ti | apply ts | apply tb | apply tl n_ | exact td _)
def zHN (n_ : Nat) y0 y1 : Tw (zBn y0 y1) := by
 delta zBn
 repeat with_reducible (first | intro _ | apply zFO n_ | apply ti | apply ts | apply tb | apply tl n_ | exact td _)
def zNE (n_ : Nat) y0 y1 : Tw (zCz y0 y1) := by
 delta zCz
 repeat with_reducible (first | intro _ | apply zCr n_ | apply zHN n_ | apply ti | apply ts | apply tb | apply tl n_ | exact td _)
def zLw (n_ : Nat) y0 : Tw (zCa y0) := by
 delta zCa
 repeat with_reducible (first | intro _ | apply zHN n_ | apply zCr n_ | apply ti | apply ts | apply tb | apply tl n_ | exact td _)
def zNG (n_ : Nat) s3 : Tw (zEs s3) := by
 delta zEs
 repeat with_reducible (first | intro _ | apply zCr n_ | apply ti | apply ts | apply tb | apply tl n_ | exact td _)
def zOv (n_ : Nat) y0 y1 : Tw (zEG y0 y1) := by
 delta zEG
 repeat with_reducible (first | intro _ | apply zHN n_ | apply zNG n_ | apply zCr n_ | apply ti | apply ts | apply tb | apply tl n_ | exact td _)
def zQA (n_ : Nat) y0 y1 : Tw (zE0 y0 y1) := by
 delta zE0
 repeat with_reducible (first | intro _ | apply zNE n_ | apply zOV n_ | apply zOv n_ | apply zQ4 n_ | apply zLw n_ | apply zNB n_ | apply ti | apply ts | apply tb | apply tl n_ | exact td _)
def zQU (n_ : Nat) s2 : Tw (zIc s2) := by
 delta zIc
 repeat with_reducible (first | intro _ | apply zQA n_ | apply ti | apply ts | apply tb | apply tl n_ | exact td _)
def zTH (n_ : Nat) y0 : Tw (zIV y0) := by
 delta zIV
 repeat with_reducible (first | intro _ | apply zQU n_ | apply zLT n_ | apply ti | apply ts | apply tb | apply tl n_ | exact td _)
def zXC (n_ : Nat) y0 : Tw (zIm y0) := by
 delta zIm
 repeat with_reducible (first | intro _ | apply zTH n_ | apply ti | apply ts | apply tb | apply tl n_ | exact td _)
def zVn (n_ : Nat) : Tw (zED ) := by
 delta zED
 repeat with_reducible (first | intro _ | apply zXC n_ | apply zSr n_ | apply ti | apply ts | apply tb | apply tl n_ | exact td _)
end
end
section
theorem z0r : zED = some true := (zVn 100).el (by kernel_rfl)
theorem zPv (y0 : List Int) {W0 : Prop} (_w0 : W0) : zE4 y0 = some true := zUo z0r y0
end
end Go.GD
