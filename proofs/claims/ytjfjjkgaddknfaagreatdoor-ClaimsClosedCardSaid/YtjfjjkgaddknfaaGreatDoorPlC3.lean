/- Part of the proof. Conditions: none. -/
import Derived.Test.YtjfjjkgaddknfaaGreatDoorPlC2
namespace Go.GD
set_option autoImplicit false
set_option linter.unusedVariables false
section
noncomputable section
def zMD (n_ : Nat) y0 s1 : Tw (zFJ y0 s1) := by
 delta zFJ
 repeat with_reducible (first | intro _ | apply ti | apply ts | apply tb | apply tl n_ | exact td _)
def zGk (n_ : Nat) y0 : Tw (zAu y0) := by
 delta zAu
 repeat with_reducible (first | intro _ | apply zMD n_ | apply ti | apply ts | apply tb | apply tl n_ | exact td _)
def zGl (n_ : Nat) (y0 : List Int) := (zGk n_ y0).1
theorem zIn (n_ : Nat) (y0 : List Int) : Le (zGl n_ y0) (zAu y0) := (zGk n_ y0).2
def zLR (n_ : Nat) (y0 : List Int) : Tw (zBC y0) := ⟨zEb n_ y0, zHq n_ y0⟩
def zIC (n_ : Nat) (x1 : zH) (rec_argument_Subs : (List zH) → Int → Option (List Int)) (y0 : List zH) (s2 : (List Int) × Int) : Option (((List Int) × Int) ⊕ (List Int)) :=
 if decide (s2.2 < (len x1.2.2.1)) then
  (zD x1.2.2.1 s2.2).bind fun x2 =>
  (rec_argument_Subs y0 x2).bind fun r2 =>
  (wB s2.1 r2).bind fun x3 =>
  some (.inl (x3, zR (s2.2 + 1)))
 else
  some (.inr s2.1)
theorem zOW (n_ : Nat) (x1 : zH) {rec_argument_Subs rec_argument_Subs' : (List zH) → Int → Option (List Int)} (h_rec_argument_Subs : ∀ u0 u1, Le (rec_argument_Subs u0 u1) (rec_argument_Subs' u0 u1)) (y0 : List zH) (s2 : (List Int) × Int) : Le (zIC n_ x1 rec_argument_Subs y0 s2) (zC8 x1 rec_argument_Subs' y0 s2) := by
 unfold zIC zC8
 repeat with_reducible (first | intro _ | apply h_rec_argument_Subs | exact Le.refl _ | apply Le.ite | apply Le.seqE | apply Le.bind | apply Le.lp | exact Le.none _)
def zJF (n_ : Nat) (rec_argument_Subs : (List zH) → Int → Option (List Int)) (y0 : List zH) (y1 : Int) : Option (List Int) :=
 (zAi y0 y1).bind fun r1 =>
 if !r1 then
  some ([] : List Int)
 else
  (
   (zD y0 y1).bind fun x1 =>
   (lp n_) ((zIC n_) x1 rec_argument_Subs y0) (([y1] : List Int), 0) : Option (List Int)).bind fun s1 =>
  ((zEb n_) s1).bind fun r3 =>
  ((zGl n_) r3).bind fun r4 =>
  some r4
theorem zPi (n_ : Nat) {rec_argument_Subs rec_argument_Subs' : (List zH) → Int → Option (List Int)} (h_rec_argument_Subs : ∀ u0 u1, Le (rec_argument_Subs u0 u1) (rec_argument_Subs' u0 u1)) (y0 : List zH) (y1 : Int) : Le (zJF n_ rec_argument_Subs y0 y1) (zEl rec_argument_Subs' y0 y1) := by
 unfold zJF zEl
 repeat with_reducible (first | intro _ | apply h_rec_argument_Subs | apply zIn | apply zHq | apply zOW | exact Le.refl _ | apply Le.ite | apply Le.seqE | apply Le.bind | apply Le.lp | exact Le.none _)
def zIy (n_ : Nat) : Nat → (List zH) → Int → Option (List Int)
 | 0 => fun _ _ => none
 | k + 1 => fun y0 y1 => (zJF n_) ((zIy n_) k) y0 y1
theorem zL9 (n_ : Nat) : ∀ (k m : Nat), k ≤ m → ∀ u0 u1, Le (zIy n_ k u0 u1) (zC5 m u0 u1)
 | 0, _, _ => fun u0 u1 => Le.none _
 | k + 1, m, h => fun u0 u1 => by
  obtain ⟨m, rfl⟩ : ∃ q, m = q + 1 := ⟨m - 1, by omega⟩
  exact zPi n_ (zL9 n_ k m (by omega)) _ _
def zN0 (n_ : Nat) (y0 : List zH) (y1 : Int) : Option (List Int) :=
 zIy n_ n_ y0 y1
theorem zQ7 (n_ : Nat) (y0 : List zH) (y1 : Int) : Le (zN0 n_ y0 y1) (zDI y0 y1) := Le.lim n_ fun m h => zL9 n_ n_ m h _ _
def zJs (n_ : Nat) (y0 : List zH) (y1 : Int) : Tw (zDI y0 y1) := ⟨zN0 n_ y0 y1, zQ7 n_ y0 y1⟩
def zIk (n_ : Nat) y0 y1 y2 : Tw (zB7 y0 y1 y2) := by
 delta zB7
 repeat with_reducible (first | intro _ | apply zJs n_ | apply zLR n_ | apply zGk n_ | apply ti | apply ts | apply tb | apply tl n_ | exact td _)
def zI7 (n_ : Nat) (x4 : zH) (rec_argument_run : zM → (List zH) → Int → Option (List zF)) (y0 : zM) (y1 : List zH) (s2 : (List zF) × Int) : Option (((List zF) × Int) ⊕ (List zF)) :=
 if decide (s2.2 < (len x4.2.2.1)) then
  (zD x4.2.2.1 s2.2).bind fun x5 =>
  (rec_argument_run y0 y1 x5).bind fun r1 =>
  (wB s2.1 r1).bind fun x6 =>
  some (.inl (x6, zR (s2.2 + 1)))
 else
  some (.inr s2.1)
theorem zPO (n_ : Nat) (x4 : zH) {rec_argument_run rec_argument_run' : zM → (List zH) → Int → Option (List zF)} (h_rec_argument_run : ∀ u0 u1 u2, Le (rec_argument_run u0 u1 u2) (rec_argument_run' u0 u1 u2)) (y0 : zM) (y1 : List zH) (s2 : (List zF) × Int) : Le (zI7 n_ x4 rec_argument_run y0 y1 s2) (zG9 x4 rec_argument_run' y0 y1 s2) := by
 unfold zI7 zG9
 repeat with_reducible (first | intro _ | apply h_rec_argument_run | exact Le.refl _ | apply Le.ite | apply Le.seqE | apply Le.bind | apply Le.lp | exact Le.none _)
def zJh (n_ : Nat) (rec_argument_run : zM → (List zH) → Int → Option (List zF)) (y0 : zM) (y1 : List zH) (y2 : Int) : Option (List zF) :=
 (zD y1 y2).bind fun x1 =>
 (zD y1 y2).bind fun x2 =>
 (
  if decide (0 ≤ x2.2.1) then
   (zD y0.2.1 x2.2.1).bind fun x3 =>
   some x3.2.1
  else
   some false : Option Bool).bind fun s1 =>
 if s1 then
  (zD y1 y2).bind fun x4 =>
  (lp n_) ((zI7 n_) x4 rec_argument_run y0 y1) (([x1.2.2.2] : List zF), 0)
 else
  some ([x1.2.2.2] : List zF)
theorem zQ6 (n_ : Nat) {rec_argument_run rec_argument_run' : zM → (List zH) → Int → Option (List zF)} (h_rec_argument_run : ∀ u0 u1 u2, Le (rec_argument_run u0 u1 u2) (rec_argument_run' u0 u1 u2)) (y0 : zM) (y1 : List zH) (y2 : Int) : Le (zJh n_ rec_argument_run y0 y1 y2) (zFg rec_argument_run' y0 y1 y2) := by
 unfold zJh zFg
 repeat with_reducible (first | intro _ | apply h_rec_argument_run | apply zPO | exact Le.refl _ | apply Le.ite | apply Le.seqE | apply Le.bind | apply Le.lp | exact Le.none _)
def zJy (n_ : Nat) : Nat → zM → (List zH) → Int → Option (List zF)
 | 0 => fun _ _ _ => none
 | k + 1 => fun y0 y1 y2 => (zJh n_) ((zJy n_) k) y0 y1 y2
theorem zMS (n_ : Nat) : ∀ (k m : Nat), k ≤ m → ∀ u0 u1 u2, Le (zJy n_ k u0 u1 u2) (zCX m u0 u1 u2)
 | 0, _, _ => fun u0 u1 u2 => Le.none _
 | k + 1, m, h => fun u0 u1 u2 => by
  obtain ⟨m, rfl⟩ : ∃ q, m = q + 1 := ⟨m - 1, by omega⟩
  exact zQ6 n_ (zMS n_ k m (by omega)) _ _ _
def zOH (n_ : Nat) (y0 : zM) (y1 : List zH) (y2 : Int) : Option (List zF) :=
 zJy n_ n_ y0 y1 y2
theorem zRM (n_ : Nat) (y0 : zM) (y1 : List zH) (y2 : Int) : Le (zOH n_ y0 y1 y2) (zEI y0 y1 y2) := Le.lim n_ fun m h => zMS n_ n_ m h _ _ _
def zST (n_ : Nat) (y0 : zM) (y1 : List zH) (y2 : Int) : Tw (zEI y0 y1 y2) := ⟨zOH n_ y0 y1 y2, zRM n_ y0 y1 y2⟩
def zMX (n_ : Nat) y0 y1 : Tw (zBp y0 y1) := by
 delta zBp
 repeat with_reducible (first | intro _ | apply ti | apply ts | apply tb | apply tl n_ | exact td _)
def zKv (n_ : Nat) y0 y1 : Tw (zBr y0 y1) := by
 delta zBr
 repeat with_reducible (first | intro _ | apply zMX n_ | apply ti | apply ts | apply tb | apply tl n_ | exact td _)
def zLy (n_ : Nat) y0 y1 : Tw (zDf y0 y1) := by
 delta zDf
 repeat with_reducible (first | intro _ | apply zKv n_ | apply ti | apply ts | apply tb | apply tl n_ | exact td _)
def zPa (n_ : Nat) y0 y1 : Tw (zDh y0 y1) := by
 delta zDh
 repeat with_reducible (first | intro _ | apply ti | apply ts | apply tb | apply tl n_ | exact td _)
def zDg (n_ : Nat) y0 y1 : Tw (zAn y0 y1) := by
 delta zAn
 repeat with_reducible (first | intro _ | apply zPa n_ | apply ti | apply ts | apply tb | apply tl n_ | exact td _)
def zNq (n_ : Nat) y3 y0 y2 y1 s1 : Tw (zCJ y3 y0 y2 y1 s1) := by
 delta zCJ
 repeat with_reducible (first | intro _ | apply zST n_ | apply zLy n_ | apply zIk n_ | apply zDg n_ | apply ti | apply ts | apply tb | apply tl n_ | exact td _)
def zKx (n_ : Nat) y0 y1 y2 y3 : Tw (zCU y0 y1 y2 y3) := by
 delta zCU
 repeat with_reducible (first | intro _ | apply zNq n_ | apply ti | apply ts | apply tb | apply tl n_ | exact td _)
def zLG (n_ : Nat) (y0 : zM) (y1 : List zH) (y2 : Int) (y3 : List Int) := (zKx n_ y0 y1 y2 y3).1
theorem zOx (n_ : Nat) (y0 : zM) (y1 : List zH) (y2 : Int) (y3 : List Int) : Le (zLG n_ y0 y1 y2 y3) (zCU y0 y1 y2 y3) := (zKx n_ y0 y1 y2 y3).2
def zDz (n_ : Nat) y0 y2 : Tw (zAF y0 y2) := by
 delta zAF
 repeat with_reducible (first | intro _ | apply ti | apply ts | apply tb | apply tl n_ | exact td _)
def zB4 (n_ : Nat) y0 y2 : Tw (zAA y0 y2) := by
 delta zAA
 repeat with_reducible (first | intro _ | apply zDz n_ | apply ti | apply ts | apply tb | apply tl n_ | exact td _)
def zB2 (n_ : Nat) (y0 : List Int) (y2 : uW) := (zB4 n_ y0 y2).1
theorem zDF (n_ : Nat) (y0 : List Int) (y2 : uW) : Le (zB2 n_ y0 y2) (zAA y0 y2) := (zB4 n_ y0 y2).2
def zCt (n_ : Nat) (y0 : uW) (x1 : qK) (y2 : List Int) (rec_argument_builder_apply_2 : uW → Int → (List Int) → Option (List zH)) (y1 : Int) (s2 : Int × (List zH)) : Option ((Int × (List zH)) ⊕ (Unit ⊕ (List zH))) :=
 if decide (s2.1 < (len y0.2.1)) then
  (zD y0.2.1 s2.1).bind fun x2 =>
  (zD x1.2.2.2.1 (len y2)).bind fun x3 =>
  if x2.2.2.2 == x3 then
   (
    (zDi y2).bind fun r2 =>
    (wB r2 ([s2.1] : List Int)).bind fun x4 =>
    (rec_argument_builder_apply_2 (y0.1, y0.2.1, s2.2, y0.2.2.2) y1 x4).bind fun r3 =>
    some r3 : Option (List zH)).bind fun s3 =>
   some (.inl (zR (s2.1 + 1), s3))
  else
   some (.inl (zR (s2.1 + 1), s2.2))
 else
  some (.inr (.inr s2.2))
theorem zIw (n_ : Nat) (y0 : uW) (x1 : qK) (y2 : List Int) {rec_argument_builder_apply_2 rec_argument_builder_apply_2' : uW → Int → (List Int) → Option (List zH)} (h_rec_argument_builder_apply_2 : ∀ u0 u1 u2, Le (rec_argument_builder_apply_2 u0 u1 u2) (rec_argument_builder_apply_2' u0 u1 u2)) (y1 : Int) (s2 : Int × (List zH)) : Le (zCt n_ y0 x1 y2 rec_argument_builder_apply_2 y1 s2) (zAg y0 x1 y2 rec_argument_builder_apply_2' y1 s2) := by
 unfold zCt zAg
 repeat with_reducible (first | intro _ | apply h_rec_argument_builder_apply_2 | exact Le.refl _ | apply Le.ite | apply Le.seqE | apply Le.bind | apply Le.lp | exact Le.none _)
def zDR (n_ : Nat) (rec_argument_builder_apply_2 : uW → Int → (List Int) → Option (List zH)) (y0 : uW) (y1 : Int) (y2 : List Int) : Option (List zH) :=
 (zD y0.1.2.1 y1).bind fun x1 =>
 (zBI y0).bind fun r1 =>
 if r1 then
  some y0.2.2.1
 else
  yC (
   if decide ((len y2) < (len x1.2.2.2.1)) then
    (lp n_) ((zCt n_) y0 x1 y2 rec_argument_builder_apply_2 y1) (0, y0.2.2.1)
   else
    some (.inl ()) : Option (Unit ⊕ (List zH))) fun _ =>
  (
   ((zB2 n_) y2 y0).bind fun r6 =>
   if r6 then
    ((zLG n_) y0.1 y0.2.1 y1 y2).bind fun r7 =>
    some r7
   else
    some false : Option Bool).bind fun s4 =>
  if s4 then
   (zD y0.1.2.1 y1).bind fun x6 =>
   (wB y0.2.2.1 ([((-1), y1, y2, x6.2.2.2.2)] : List zH)).bind fun x7 =>
   some x7
  else
   some y0.2.2.1
theorem zJ8 (n_ : Nat) {rec_argument_builder_apply_2 rec_argument_builder_apply_2' : uW → Int → (List Int) → Option (List zH)} (h_rec_argument_builder_apply_2 : ∀ u0 u1 u2, Le (rec_argument_builder_apply_2 u0 u1 u2) (rec_argument_builder_apply_2' u0 u1 u2)) (y0 : uW) (y1 : Int) (y2 : List Int) : Le (zDR n_ rec_argument_builder_apply_2 y0 y1 y2) (zBE rec_argument_builder_apply_2' y0 y1 y2) := by
 unfold zDR zBE
 repeat with_reducible (first | intro _ | apply h_rec_argument_builder_apply_2 | apply zOx | apply zDF | apply zIw | exact Le.refl _ | apply Le.ite | apply Le.seqE | apply Le.bind | apply Le.lp | exact Le.none _)
def zDM (n_ : Nat) : Nat → uW → Int → (List Int) → Option (List zH)
 | 0 => fun _ _ _ => none
 | k + 1 => fun y0 y1 y2 => (zDR n_) ((zDM n_) k) y0 y1 y2
theorem zFs (n_ : Nat) : ∀ (k m : Nat), k ≤ m → ∀ u0 u1 u2, Le (zDM n_ k u0 u1 u2) (zA7 m u0 u1 u2)
 | 0, _, _ => fun u0 u1 u2 => Le.none _
 | k + 1, m, h => fun u0 u1 u2 => by
  obtain ⟨m, rfl⟩ : ∃ q, m = q + 1 := ⟨m - 1, by omega⟩
  exact zJ8 n_ (zFs n_ k m (by omega)) _ _ _
def zGj (n_ : Nat) (y0 : uW) (y1 : Int) (y2 : List Int) : Option (List zH) :=
 zDM n_ n_ y0 y1 y2
theorem zJo (n_ : Nat) (y0 : uW) (y1 : Int) (y2 : List Int) : Le (zGj n_ y0 y1 y2) (zBF y0 y1 y2) := Le.lim n_ fun m h => zFs n_ n_ m h _ _ _
def zKM (n_ : Nat) (y0 : uW) (y1 : Int) (y2 : List Int) : Tw (zBF y0 y1 y2) := ⟨zGj n_ y0 y1 y2, zJo n_ y0 y1 y2⟩
def zGD (n_ : Nat) y0 y1 : Tw (zAZ y0 y1) := by
 delta zAZ
 repeat with_reducible (first | intro _ | apply ti | apply ts | apply tb | apply tl n_ | exact td _)
def zMk (n_ : Nat) y0 y1 : Tw (zDQ y0 y1) := by
 delta zDQ
 repeat with_reducible (first | intro _ | apply zGD n_ | apply ti | apply ts | apply tb | apply tl n_ | exact td _)
def zER (n_ : Nat) y0 y1 : Tw (zAJ y0 y1) := by
 delta zAJ
 repeat with_reducible (first | intro _ | apply ti | apply ts | apply tb | apply tl n_ | exact td _)
def zPb (n_ : Nat) y0 y1 : Tw (zCd y0 y1) := by
 delta zCd
 repeat with_reducible (first | intro _ | apply zER n_ | apply ti | apply ts | apply tb | apply tl n_ | exact td _)
def zEy (n_ : Nat) y0 : Tw (zBK y0) := by
 delta zBK
 repeat with_reducible (first | intro _ | apply ti | apply ts | apply tb | apply tl n_ | exact td _)
def zEa (n_ : Nat) y0 : Tw (zB6 y0) := by
 delta zB6
 repeat with_reducible (first | intro _ | apply zEy n_ | apply ti | apply ts | apply tb | apply tl n_ | exact td _)
def zOq (n_ : Nat) y0 : Tw (zDs y0) := by
 delta zDs
 repeat with_reducible (first | intro _ | apply zEy n_ | apply ti | apply ts | apply tb | apply tl n_ | exact td _)
def zPV (n_ : Nat) y0 : Tw (zC7 y0) := by
 delta zC7
 repeat with_reducible (first | intro _ | apply zEa n_ | apply zOq n_ | apply ti | apply ts | apply tb | apply tl n_ | exact td _)
def zNv (n_ : Nat) y0 y1 : Tw (zCI y0 y1) := by
 delta zCI
 repeat with_reducible (first | intro _ | apply zEa n_ | apply zMk n_ | apply ti | apply ts | apply tb | apply tl n_ | exact td _)
def zPA (n_ : Nat) y0 s3 : Tw (zCf y0 s3) := by
 delta zCf
 repeat with_reducible (first | intro _ | apply zEa n_ | apply ti | apply ts | apply tb | apply tl n_ | exact td _)
def zRs (n_ : Nat) y0 : Tw (zEe y0) := by
 delta zEe
 repeat with_reducible (first | intro _ | apply zEy n_ | apply zEa n_ | apply zPA n_ | apply ti | apply ts | apply tb | apply tl n_ | exact td _)
def zMY (n_ : Nat) y0 s2 : Tw (zBm y0 s2) := by
 delta zBm
 repeat with_reducible (first | intro _ | apply zPV n_ | apply zPb n_ | apply ti | apply ts | apply tb | apply tl n_ | exact td _)
def zM0 (n_ : Nat) y0 s4 : Tw (zBq y0 s4) := by
 delta zBq
 repeat with_reducible (first | intro _ | apply zRs n_ | apply zMk n_ | apply ti | apply ts | apply tb | apply tl n_ | exact td _)
def zM5 (n_ : Nat) y0 s5 : Tw (zBo y0 s5) := by
 delta zBo
 repeat with_reducible (first | intro _ | apply zNv n_ | apply ti | apply ts | apply tb | apply tl n_ | exact td _)
def zJq (n_ : Nat) y0 : Tw (zB5 y0) := by
 delta zB5
 repeat with_reducible (first | intro _ | apply zMY n_ | apply zM0 n_ | apply zM5 n_ | apply ti | apply ts | apply tb | apply tl n_ | exact td _)
def zOe (n_ : Nat) y0 s4 s6 : Tw (zBw y0 s4 s6) := by
 delta zBw
 repeat with_reducible (first | intro _ | apply zKM n_ | apply ti | apply ts | apply tb | apply tl n_ | exact td _)
def zOS (n_ : Nat) y0 s4 : Tw (zAp y0 s4) := by
 delta zAp
 repeat with_reducible (first | intro _ | apply zOe n_ | apply ti | apply ts | apply tb | apply tl n_ | exact td _)
def zQZ (n_ : Nat) y0 : Tw (zD9 y0) := by
 delta zD9
 repeat with_reducible (first | intro _ | apply zJq n_ | apply zOS n_ | apply ti | apply ts | apply tb | apply tl n_ | exact td _)
def zJk (n_ : Nat) y0 s1 : Tw (zDP y0 s1) := by
 delta zDP
 repeat with_reducible (first | intro _ | apply ti | apply ts | apply tb | apply tl n_ | exact td _)
def zLF (n_ : Nat) y0 : Tw (zBW y0) := by
 delta zBW
 repeat with_reducible (first | intro _ | apply zJk n_ | apply ti | apply ts | apply tb | apply tl n_ | exact td _)
def zFb (n_ : Nat) (y0 : List zF) : Tw (zAE y0) := ⟨zBP n_ y0, zFK n_ y0⟩
def zMT (n_ : Nat) y0 : Tw (zCq y0) := by
 delta zCq
 repeat with_reducible (first | intro _ | apply zFb n_ | apply zLF n_ | apply ti | apply ts | apply tb | apply tl n_ | exact td _)
def zIP (n_ : Nat) y0 y1 : Tw (zBT y0 y1) := by
 delta zBT
 repeat with_reducible (first | intro _ | apply zMT n_ | apply ti | apply ts | apply tb | apply tl n_ | exact td _)
def zUM (n_ : Nat) y0 : Tw (zGN y0) := by
 delta zGN
 repeat with_reducible (first | intro _ | apply ti | apply ts | apply tb | apply tl n_ | exact td _)
def zF5 (n_ : Nat) (y0 : List wT) : Tw (zAS y0) := ⟨zBO n_ y0, zEw n_ y0⟩
def zOj (n_ : Nat) y1 s2 r1 s3 s4 : Tw (zCS y1 s2 r1 s3 s4) := by
 delta zCS
 repeat with_reducible (first | intro _ | apply zJs n_ | apply zDg n_ | apply ti | apply ts | apply tb | apply tl n_ | exact td _)
def zO4 (n_ : Nat) y1 y0 s2 s3 : Tw (zCT y1 y0 s2 s3) := by
 delta zCT
 repeat with_reducible (first | intro _ | apply zOj n_ | apply ti | apply ts | apply tb | apply tl n_ | exact td _)
def zOc (n_ : Nat) y1 y0 s2 : Tw (zBx y1 y0 s2) := by
 delta zBx
 repeat with_reducible (first | intro _ | apply zO4 n_ | apply ti | apply ts | apply tb | apply tl n_ | exact td _)
def zQ0 (n_ : Nat) y0 y1 : Tw (zD7 y0 y1) := by
 delta zD7
 repeat with_reducible (first | intro _ | apply zOc n_ | apply zF5 n_ | apply ti | apply ts | apply tb | apply tl n_ | exact td _)
def zJx (n_ : Nat) y0 y1 : Tw (zBu y0 y1) := by
 delta zBu
 repeat with_reducible (first | intro _ | apply zJs n_ | apply zLR n_ | apply ti | apply ts | apply tb | apply tl n_ | exact td _)
def zG0 (n_ : Nat) y0 y1 : Tw (zA3 y0 y1) := by
 delta zA3
 repeat with_reducible (first | intro _ | apply ti | apply ts | apply tb | apply tl n_ | exact td _)
def zFn (n_ : Nat) y0 y1 : Tw (zAX y0 y1) := by
 delta zAX
 repeat with_reducible (first | intro _ | apply zG0 n_ | apply ti | apply ts | apply tb | apply tl n_ | exact td _)
def zSM (n_ : Nat) y0 y1 y2 : Tw (zFf y0 y1 y2) := by
 delta zFf
 repeat with_reducible (first | intro _ | apply zJx n_ | apply zFn n_ | apply ti | apply ts | apply tb | apply tl n_ | exact td _)
def zHc (n_ : Nat) (x5 : zH) (rec_argument_Last : zM → (List zH) → Int → Option (List Int)) (y0 : zM) (y1 : List zH) (s3 : (List Int) × Int) : Option (((List Int) × Int) ⊕ (List Int)) :=
 if decide (s3.2 < (len x5.2.2.1)) then
  (zD x5.2.2.1 s3.2).bind fun x6 =>
  (rec_argument_Last y0 y1 x6).bind fun r2 =>
  (wB s3.1 r2).bind fun x7 =>
  some (.inl (x7, zR (s3.2 + 1)))
 else
  some (.inr s3.1)
theorem zOR (n_ : Nat) (x5 : zH) {rec_argument_Last rec_argument_Last' : zM → (List zH) → Int → Option (List Int)} (h_rec_argument_Last : ∀ u0 u1 u2, Le (rec_argument_Last u0 u1 u2) (rec_argument_Last' u0 u1 u2)) (y0 : zM) (y1 : List zH) (s3 : (List Int) × Int) : Le (zHc n_ x5 rec_argument_Last y0 y1 s3) (zCa x5 rec_argument_Last' y0 y1 s3) := by
 unfold zHc zCa
 repeat with_reducible (first | intro _ | apply h_rec_argument_Last | exact Le.refl _ | apply Le.ite | apply Le.seqE | apply Le.bind | apply Le.lp | exact Le.none _)
def zIz (n_ : Nat) (rec_argument_Last : zM → (List zH) → Int → Option (List Int)) (y0 : zM) (y1 : List zH) (y2 : Int) : Option (List Int) :=
 (
  (zAi y1 y2).bind fun r1 =>
  if !r1 then
   some true
  else
   (zD y1 y2).bind fun x1 =>
   some (decide (x1.2.1 < 0)) : Option Bool).bind fun s1 =>
 if s1 then
  some ([] : List Int)
 else
  (zD y1 y2).bind fun x2 =>
  (zD y0.2.1 x2.2.1).bind fun x3 =>
  if !x3.2.1 then
   (zD y1 y2).bind fun x4 =>
   some ([x4.2.1] : List Int)
  else
   (
    (zD y1 y2).bind fun x5 =>
    (lp n_) ((zHc n_) x5 rec_argument_Last y0 y1) (([] : List Int), 0) : Option (List Int)).bind fun s2 =>
   ((zEb n_) s2).bind fun r3 =>
   ((zGl n_) r3).bind fun r4 =>
   some r4
theorem zQC (n_ : Nat) {rec_argument_Last rec_argument_Last' : zM → (List zH) → Int → Option (List Int)} (h_rec_argument_Last : ∀ u0 u1 u2, Le (rec_argument_Last u0 u1 u2) (rec_argument_Last' u0 u1 u2)) (y0 : zM) (y1 : List zH) (y2 : Int) : Le (zIz n_ rec_argument_Last y0 y1 y2) (zEn rec_argument_Last' y0 y1 y2) := by
 unfold zIz zEn
 repeat with_reducible (first | intro _ | apply h_rec_argument_Last | apply zIn | apply zHq | apply zOR | exact Le.refl _ | apply Le.ite | apply Le.seqE | apply Le.bind | apply Le.lp | exact Le.none _)
def zJI (n_ : Nat) : Nat → zM → (List zH) → Int → Option (List Int)
 | 0 => fun _ _ _ => none
 | k + 1 => fun y0 y1 y2 => (zIz n_) ((zJI n_) k) y0 y1 y2
theorem zL8 (n_ : Nat) : ∀ (k m : Nat), k ≤ m → ∀ u0 u1 u2, Le (zJI n_ k u0 u1 u2) (zC0 m u0 u1 u2)
 | 0, _, _ => fun u0 u1 u2 => Le.none _
 | k + 1, m, h => fun u0 u1 u2 => by
  obtain ⟨m, rfl⟩ : ∃ q, m = q + 1 := ⟨m - 1, by omega⟩
  exact zQC n_ (zL8 n_ k m (by omega)) _ _ _
def zN4 (n_ : Nat) (y0 : zM) (y1 : List zH) (y2 : Int) : Option (List Int) :=
 zJI n_ n_ y0 y1 y2
theorem zQd (n_ : Nat) (y0 : zM) (y1 : List zH) (y2 : Int) : Le (zN4 n_ y0 y1 y2) (zGJ y0 y1 y2) := Le.lim n_ fun m h => zL8 n_ n_ m h _ _ _
def zR7 (n_ : Nat) (y0 : zM) (y1 : List zH) (y2 : Int) : Tw (zGJ y0 y1 y2) := ⟨zN4 n_ y0 y1 y2, zQd n_ y0 y1 y2⟩
def zQS (n_ : Nat) y0 y1 : Tw (zHZ y0 y1) := by
 delta zHZ
 repeat with_reducible (first | intro _ | apply ti | apply ts | apply tb | apply tl n_ | exact td _)
def zMQ (n_ : Nat) y0 y1 y2 : Tw (zBt y0 y1 y2) := by
 delta zBt
 repeat with_reducible (first | intro _ | apply zR7 n_ | apply zQS n_ | apply ti | apply ts | apply tb | apply tl n_ | exact td _)
def zQe (n_ : Nat) y0 : Tw (zCu y0) := by
 delta zCu
 repeat with_reducible (first | intro _ | apply ti | apply ts | apply tb | apply tl n_ | exact td _)
def zQ9 (n_ : Nat) y0 : Tw (zCp y0) := by
 delta zCp
 repeat with_reducible (first | intro _ | apply ti | apply ts | apply tb | apply tl n_ | exact td _)
def zKs (n_ : Nat) y0 y1 y2 : Tw (zDE y0 y1 y2) := by
 delta zDE
 repeat with_reducible (first | intro _ | apply zQ9 n_ | apply zQe n_ | apply ti | apply ts | apply tb | apply tl n_ | exact td _)
def zJC (n_ : Nat) y0 y1 y2 y3 y4 : Tw (zAh y0 y1 y2 y3 y4) := by
 delta zAh
 repeat with_reducible (first | intro _ | apply zMQ n_ | apply zKs n_ | apply ti | apply ts | apply tb | apply tl n_ | exact td _)
def zJg (n_ : Nat) y0 y1 y2 : Tw (zBM y0 y1 y2) := by
 delta zBM
 repeat with_reducible (first | intro _ | apply zJx n_ | apply ti | apply ts | apply tb | apply tl n_ | exact td _)
def zEM (n_ : Nat) y0 y1 y2 y3 y4 : Tw (zAI y0 y1 y2 y3 y4) := by
 delta zAI
 repeat with_reducible (first | intro _ | apply zJg n_ | apply zKs n_ | apply ti | apply ts | apply tb | apply tl n_ | exact td _)
def zJJ (n_ : Nat) y0 y1 y2 y3 : Tw (zAk y0 y1 y2 y3) := by
 delta zAk
 repeat with_reducible (first | intro _ | apply zMQ n_ | apply ti | apply ts | apply tb | apply tl n_ | exact td _)
def zKJ (n_ : Nat) y1 y2 y3 y4 y5 : Tw (zBf y1 y2 y3 y4 y5) := by
 delta zBf
 repeat with_reducible (first | intro _ | apply zJC n_ | apply zJJ n_ | apply zEM n_ | apply ti | apply ts | apply tb | apply tl n_ | exact td _)
def zMJ (n_ : Nat) y0 y1 y2 : Tw (zBs y0 y1 y2) := by
 delta zBs
 repeat with_reducible (first | intro _ | apply zIk n_ | apply zQS n_ | apply ti | apply ts | apply tb | apply tl n_ | exact td _)
def zJU (n_ : Nat) y0 y1 y2 y3 y4 : Tw (zA6 y0 y1 y2 y3 y4) := by
 delta zA6
 repeat with_reducible (first | intro _ | apply zMJ n_ | apply zKs n_ | apply ti | apply ts | apply tb | apply tl n_ | exact td _)
def zIH (n_ : Nat) y0 y1 y2 y3 : Tw (zAa y0 y1 y2 y3) := by
 delta zAa
 repeat with_reducible (first | intro _ | apply zJg n_ | apply ti | apply ts | apply tb | apply tl n_ | exact td _)
def zJR (n_ : Nat) y0 y1 y2 y3 : Tw (zAj y0 y1 y2 y3) := by
 delta zAj
 repeat with_reducible (first | intro _ | apply zMJ n_ | apply ti | apply ts | apply tb | apply tl n_ | exact td _)
def zKO (n_ : Nat) y1 y2 y3 y4 y6 : Tw (zBi y1 y2 y3 y4 y6) := by
 delta zBi
 repeat with_reducible (first | intro _ | apply zJR n_ | apply zEM n_ | apply zIH n_ | apply zJU n_ | apply ti | apply ts | apply tb | apply tl n_ | exact td _)
def zVr (n_ : Nat) y0 y1 y2 y3 y4 : Tw (zI2 y0 y1 y2 y3 y4) := by
 delta zI2
 repeat with_reducible (first | intro _ | apply zSM n_ | apply zKJ n_ | apply zKO n_ | apply ti | apply ts | apply tb | apply tl n_ | exact td _)
def zK5 (n_ : Nat) y0 y1 y2 y3 : Tw (zBl y0 y1 y2 y3) := by
 delta zBl
 repeat with_reducible (first | intro _ | apply zVr n_ | apply ti | apply ts | apply tb | apply tl n_ | exact td _)
def zEP (n_ : Nat) y0 y1 y2 y3 s1 : Tw (zAs y0 y1 y2 y3 s1) := by
 delta zAs
 repeat with_reducible (first | intro _ | apply zK5 n_ | apply ti | apply ts | apply tb | apply tl n_ | exact td _)
def zFR (n_ : Nat) y0 y1 y2 y3 : Tw (zAc y0 y1 y2 y3) := by
 delta zAc
 repeat with_reducible (first | intro _ | apply zEP n_ | apply ti | apply ts | apply tb | apply tl n_ | exact td _)
def zEC (n_ : Nat) y0 y1 y2 y3 s2 : Tw (zAq y0 y1 y2 y3 s2) := by
 delta zAq
 repeat with_reducible (first | intro _ | apply zK5 n_ | apply ti | apply ts | apply tb | apply tl n_ | exact td _)
def zEr (n_ : Nat) y0 y1 y2 y3 : Tw (zAN y0 y1 y2 y3) := by
 delta zAN
 repeat with_reducible (first | intro _ | apply zFR n_ | apply zEC n_ | apply ti | apply ts | apply tb | apply tl n_ | exact td _)
def zQ4 (n_ : Nat) y0 y1 y2 : Tw (zCm y0 y1 y2) := by
 delta zCm
 repeat with_reducible (first | intro _ | apply zQ0 n_ | apply zEr n_ | apply ti | apply ts | apply tb | apply tl n_ | exact td _)
def zLV (n_ : Nat) y0 s1 : Tw (zEj y0 s1) := by
 delta zEj
 repeat with_reducible (first | intro _ | apply ti | apply ts | apply tb | apply tl n_ | exact td _)
def zMx (n_ : Nat) y0 : Tw (zCZ y0) := by
 delta zCZ
 repeat with_reducible (first | intro _ | apply zLV n_ | apply ti | apply ts | apply tb | apply tl n_ | exact td _)
def zGh (n_ : Nat) (y0 : List wD) : Tw (zA5 y0) := ⟨zBe n_ y0, zGM n_ y0⟩
def zSV (n_ : Nat) y0 y1 : Tw (zEG y0 y1) := by
 delta zEG
 repeat with_reducible (first | intro _ | apply zGh n_ | apply zMx n_ | apply ti | apply ts | apply tb | apply tl n_ | exact td _)
def zUV (n_ : Nat) y0 : Tw (zH6 y0) := by
 delta zH6
 repeat with_reducible (first | intro _ | apply ti | apply ts | apply tb | apply tl n_ | exact td _)
def zT1 (n_ : Nat) y0 : Tw (zG8 y0) := by
 delta zG8
 repeat with_reducible (first | intro _ | apply ti | apply ts | apply tb | apply tl n_ | exact td _)
def zNS (n_ : Nat) y0 y1 : Tw (zCG y0 y1) := by
 delta zCG
 repeat with_reducible (first | intro _ | apply zUM n_ | apply ti | apply ts | apply tb | apply tl n_ | exact td _)
def zOV (n_ : Nat) y0 s1 : Tw (zBJ y0 s1) := by
 delta zBJ
 repeat with_reducible (first | intro _ | apply zNS n_ | apply ti | apply ts | apply tb | apply tl n_ | exact td _)
def zJS (n_ : Nat) y0 : Tw (zAx y0) := by
 delta zAx
 repeat with_reducible (first | intro _ | apply zOV n_ | apply ti | apply ts | apply tb | apply tl n_ | exact td _)
def zOD (n_ : Nat) y0 : Tw (zEF y0) := by
 delta zEF
 repeat with_reducible (first | intro _ | apply zJS n_ | apply ti | apply ts | apply tb | apply tl n_ | exact td _)
def zJK (n_ : Nat) y0 y1 : Tw (zCK y0 y1) := by
 delta zCK
 repeat with_reducible (first | intro _ | apply zOD n_ | apply zT1 n_ | apply zUV n_ | apply ti | apply ts | apply tb | apply tl n_ | exact td _)
def zO0 (n_ : Nat) y0 y1 : Tw (zCQ y0 y1) := by
 delta zCQ
 repeat with_reducible (first | intro _ | apply ti | apply ts | apply tb | apply tl n_ | exact td _)
def zOU (n_ : Nat) r4 y0 s6 s9 s10 : Tw (zB3 r4 y0 s6 s9 s10) := by
 delta zB3
 repeat with_reducible (first | intro _ | apply zJK n_ | apply ti | apply ts | apply tb | apply tl n_ | exact td _)
def zOf (n_ : Nat) s6 y0 s9 : Tw (zBy s6 y0 s9) := by
 delta zBy
 repeat with_reducible (first | intro _ | apply zJK n_ | apply zOU n_ | apply ti | apply ts | apply tb | apply tl n_ | exact td _)
def zOh (n_ : Nat) y0 s6 : Tw (zBH y0 s6) := by
 delta zBH
 repeat with_reducible (first | intro _ | apply zOf n_ | apply ti | apply ts | apply tb | apply tl n_ | exact td _)
def zQm (n_ : Nat) y0 : Tw (zDb y0) := by
 delta zDb
 repeat with_reducible (first | intro _ | apply zO0 n_ | apply zOh n_ | apply ti | apply ts | apply tb | apply tl n_ | exact td _)
def zMR (n_ : Nat) y0 : Tw (zCo y0) := by
 delta zCo
 repeat with_reducible (first | intro _ | apply zQm n_ | apply ti | apply ts | apply tb | apply tl n_ | exact td _)
def zCn (n_ : Nat) y0 y1 : Tw (zAw y0 y1) := by
 delta zAw
 repeat with_reducible (first | intro _ | apply ti | apply ts | apply tb | apply tl n_ | exact td _)
def zNW (n_ : Nat) y0 x1 y1 s3 s4 : Tw (zCY y0 x1 y1 s3 s4) := by
 delta zCY
 repeat with_reducible (first | intro _ | apply zLy n_ | apply ti | apply ts | apply tb | apply tl n_ | exact td _)
def zMn (n_ : Nat) y0 y1 s3 : Tw (zCB y0 y1 s3) := by
 delta zCB
 repeat with_reducible (first | intro _ | apply zNW n_ | apply ti | apply ts | apply tb | apply tl n_ | exact td _)
def zPR (n_ : Nat) y0 y1 : Tw (zC9 y0 y1) := by
 delta zC9
 repeat with_reducible (first | intro _ | apply zMn n_ | apply ti | apply ts | apply tb | apply tl n_ | exact td _)
def zQ1 (n_ : Nat) y0 y1 : Tw (zCr y0 y1) := by
 delta zCr
 repeat with_reducible (first | intro _ | apply zQZ n_ | apply zQ4 n_ | apply zSV n_ | apply zMR n_ | apply zCn n_ | apply zIP n_ | apply zPR n_ | apply ti | apply ts | apply tb | apply tl n_ | exact td _)
def zPJ (n_ : Nat) y0 : Tw (zGA y0) := by
 delta zGA
 repeat with_reducible (first | intro _ | apply zMR n_ | apply ti | apply ts | apply tb | apply tl n_ | exact td _)
def zHT (n_ : Nat) y0 : Tw (zBN y0) := by
 delta zBN
 repeat with_reducible (first | intro _ | apply zPJ n_ | apply ti | apply ts | apply tb | apply tl n_ | exact td _)
def zHP (n_ : Nat) r1 s1 : Tw (zBz r1 s1) := by
 delta zBz
 repeat with_reducible (first | intro _ | apply zCn n_ | apply ti | apply ts | apply tb | apply tl n_ | exact td _)
def zIO (n_ : Nat) y0 : Tw (zBY y0) := by
 delta zBY
 repeat with_reducible (first | intro _ | apply zHT n_ | apply zHP n_ | apply ti | apply ts | apply tb | apply tl n_ | exact td _)
def zGp (n_ : Nat) r1 s1 : Tw (zBj r1 s1) := by
 delta zBj
 repeat with_reducible (first | intro _ | apply zCn n_ | apply ti | apply ts | apply tb | apply tl n_ | exact td _)
def zHa (n_ : Nat) y0 : Tw (zBQ y0) := by
 delta zBQ
 repeat with_reducible (first | intro _ | apply zGp n_ | apply ti | apply ts | apply tb | apply tl n_ | exact td _)
def zGm (n_ : Nat) r1 s1 : Tw (zBk r1 s1) := by
 delta zBk
 repeat with_reducible (first | intro _ | apply zCn n_ | apply ti | apply ts | apply tb | apply tl n_ | exact td _)
def zHb (n_ : Nat) y0 : Tw (zBR y0) := by
 delta zBR
 repeat with_reducible (first | intro _ | apply zGm n_ | apply ti | apply ts | apply tb | apply tl n_ | exact td _)
def zGs (n_ : Nat) y0 : Tw (zA8 y0) := by
 delta zA8
 repeat with_reducible (first | intro _ | apply zNS n_ | apply ti | apply ts | apply tb | apply tl n_ | exact td _)
def zRS (n_ : Nat) y0 : Tw (zE4 y0) := by
 delta zE4
 repeat with_reducible (first | intro _ | apply zOD n_ | apply zGs n_ | apply ti | apply ts | apply tb | apply tl n_ | exact td _)
def zPs (n_ : Nat) y0 y1 : Tw (zDG y0 y1) := by
 delta zDG
 repeat with_reducible (first | intro _ | apply zRS n_ | apply zJK n_ | apply ti | apply ts | apply tb | apply tl n_ | exact td _)
def zH4 (n_ : Nat) y0 : Tw (zBA y0) := by
 delta zBA
 repeat with_reducible (first | intro _ | apply ti | apply ts | apply tb | apply tl n_ | exact td _)
def zH3 (n_ : Nat) (y0 : uE) := (zH4 n_ y0).1
theorem zKf (n_ : Nat) (y0 : uE) : Le (zH3 n_ y0) (zBA y0) := (zH4 n_ y0).2
def zNB (n_ : Nat) y0 y1 y2 : Tw (zC2 y0 y1 y2) := by
 delta zC2
 repeat with_reducible (first | intro _ | apply ti | apply ts | apply tb | apply tl n_ | exact td _)
def zLc (n_ : Nat) y0 y1 : Tw (zBa y0 y1) := by
 delta zBa
 repeat with_reducible (first | intro _ | apply zNB n_ | apply ti | apply ts | apply tb | apply tl n_ | exact td _)
def zO8 (n_ : Nat) y0 y1 y2 : Tw (zAr y0 y1 y2) := by
 delta zAr
 repeat with_reducible (first | intro _ | apply ti | apply ts | apply tb | apply tl n_ | exact td _)
def zKy (n_ : Nat) y0 y1 : Tw (zBV y0 y1) := by
 delta zBV
 repeat with_reducible (first | intro _ | apply zO8 n_ | apply ti | apply ts | apply tb | apply tl n_ | exact td _)
def zJe (n_ : Nat) y0 s3 : Tw (zAH y0 s3) := by
 delta zAH
 repeat with_reducible (first | intro _ | apply zKy n_ | apply zLc n_ | apply ti | apply ts | apply tb | apply tl n_ | exact td _)
def zJl (n_ : Nat) y0 s1 : Tw (zB1 y0 s1) := by
 delta zB1
 repeat with_reducible (first | intro _ | apply zJe n_ | apply zDg n_ | apply ti | apply ts | apply tb | apply tl n_ | exact td _)
def zHV (n_ : Nat) y0 : Tw (zAz y0) := by
 delta zAz
 repeat with_reducible (first | intro _ | apply zJl n_ | apply ti | apply ts | apply tb | apply tl n_ | exact td _)
def zHX (n_ : Nat) (y0 : uE) := (zHV n_ y0).1
theorem zKj (n_ : Nat) (y0 : uE) : Le (zHX n_ y0) (zAz y0) := (zHV n_ y0).2
def zFD (n_ : Nat) (r2 : (List Int) × Int) (s1 : Bool × (List Int) × (List (List Int))) (rec_search_finder_find : uE → Option ((List Int) × (List (List Int)) × Bool)) (y0 : uE) (s2 : Int × (List (List Int)) × Bool) : Option ((Int × (List (List Int)) × Bool) ⊕ ((List Int) × (List (List Int)) × Bool)) :=
 if decide (s2.1 < (len ([2, 4, 8] : List Int))) then
  (zD ([2, 4, 8] : List Int) s2.1).bind fun x2 =>
  (vY (decide (0 ≤ r2.2) && decide (r2.2 < 40))).bind fun _ =>
  if (yG .i64 (yM s1.2.1 r2.2) x2) != 0 then
   (vY (decide (0 ≤ r2.2) && decide (r2.2 < 40))).bind fun _ =>
   (rec_search_finder_find (y0.1, y0.2.1, xO 40 s1.2.1 r2.2 x2, s2.2.1, s2.2.2)).bind fun r3 =>
   some (.inl (zR (s2.1 + 1), r3.2.1, r3.2.2))
  else
   some (.inl (zR (s2.1 + 1), s2.2.1, s2.2.2))
 else
  some (.inr (s1.2.1, s2.2.1, s2.2.2))
theorem zLH (n_ : Nat) (r2 : (List Int) × Int) (s1 : Bool × (List Int) × (List (List Int))) {rec_search_finder_find rec_search_finder_find' : uE → Option ((List Int) × (List (List Int)) × Bool)} (h_rec_search_finder_find : ∀ u0, Le (rec_search_finder_find u0) (rec_search_finder_find' u0)) (y0 : uE) (s2 : Int × (List (List Int)) × Bool) : Le (zFD n_ r2 s1 rec_search_finder_find y0 s2) (zAm r2 s1 rec_search_finder_find' y0 s2) := by
 unfold zFD zAm
 repeat with_reducible (first | intro _ | apply h_rec_search_finder_find | exact Le.refl _ | apply Le.ite | apply Le.seqE | apply Le.bind | apply Le.lp | exact Le.none _)
def zGO (n_ : Nat) (rec_search_finder_find : uE → Option ((List Int) × (List (List Int)) × Bool)) (y0 : uE) : Option ((List Int) × (List (List Int)) × Bool) :=
 (
  if y0.2.2.2.2 then
   some (true, y0.2.2.1, y0.2.2.2.1)
  else
   ((zHX n_) y0).bind fun r1 =>
   some (!r1.1, r1.2.1, r1.2.2) : Option (Bool × (List Int) × (List (List Int)))).bind fun s1 =>
 if s1.1 then
  some (s1.2.1, s1.2.2, y0.2.2.2.2)
 else
  ((zH3 n_) (y0.1, y0.2.1, s1.2.1, s1.2.2, y0.2.2.2.2)).bind fun r2 =>
  if decide (r2.2 < 0) then
   (wB s1.2.2 ([r2.1] : List (List Int))).bind fun x1 =>
   some (s1.2.1, x1, (len s1.2.2) == 200)
  else
   (lp n_) ((zFD n_) r2 s1 rec_search_finder_find y0) (0, s1.2.2, y0.2.2.2.2)
theorem zM3 (n_ : Nat) {rec_search_finder_find rec_search_finder_find' : uE → Option ((List Int) × (List (List Int)) × Bool)} (h_rec_search_finder_find : ∀ u0, Le (rec_search_finder_find u0) (rec_search_finder_find' u0)) (y0 : uE) : Le (zGO n_ rec_search_finder_find y0) (zA9 rec_search_finder_find' y0) := by
 unfold zGO zA9
 repeat with_reducible (first | intro _ | apply h_rec_search_finder_find | apply zLH | apply zKf | apply zKj | exact Le.refl _ | apply Le.ite | apply Le.seqE | apply Le.bind | apply Le.lp | exact Le.none _)
def zGU (n_ : Nat) : Nat → uE → Option ((List Int) × (List (List Int)) × Bool)
 | 0 => fun _ => none
 | k + 1 => fun y0 => (zGO n_) ((zGU n_) k) y0
theorem zIR (n_ : Nat) : ∀ (k m : Nat), k ≤ m → ∀ u0, Le (zGU n_ k u0) (zAv m u0)
 | 0, _, _ => fun u0 => Le.none _
 | k + 1, m, h => fun u0 => by
  obtain ⟨m, rfl⟩ : ∃ q, m = q + 1 := ⟨m - 1, by omega⟩
  exact zM3 n_ (zIR n_ k m (by omega)) _
def zJV (n_ : Nat) (y0 : uE) : Option ((List Int) × (List (List Int)) × Bool) :=
 zGU n_ n_ y0
theorem zMc (n_ : Nat) (y0 : uE) : Le (zJV n_ y0) (zCx y0) := Le.lim n_ fun m h => zIR n_ n_ m h _
def zNp (n_ : Nat) (y0 : uE) : Tw (zCx y0) := ⟨zJV n_ y0, zMc n_ y0⟩
def zNl (n_ : Nat) y0 s2 : Tw (zBS y0 s2) := by
 delta zBS
 repeat with_reducible (first | intro _ | apply zPs n_ | apply ti | apply ts | apply tb | apply tl n_ | exact td _)
def zLE (n_ : Nat) y0 : Tw (zCC y0) := by
 delta zCC
 repeat with_reducible (first | intro _ | apply zJS n_ | apply zNl n_ | apply zNp n_ | apply ti | apply ts | apply tb | apply tl n_ | exact td _)
def zMg (n_ : Nat) y1 y0 s1 : Tw (zC1 y1 y0 s1) := by
 delta zC1
 repeat with_reducible (first | intro _ | apply zCn n_ | apply ti | apply ts | apply tb | apply tl n_ | exact td _)
def zPL (n_ : Nat) y0 y1 : Tw (zCH y0 y1) := by
 delta zCH
 repeat with_reducible (first | intro _ | apply zMg n_ | apply ti | apply ts | apply tb | apply tl n_ | exact td _)
def zOA (n_ : Nat) y0 y1 : Tw (zCz y0 y1) := by
 delta zCz
 repeat with_reducible (first | intro _ | apply zDg n_ | apply ti | apply ts | apply tb | apply tl n_ | exact td _)
def zE1 (n_ : Nat) y0 y1 s1 : Tw (zAL y0 y1 s1) := by
 delta zAL
 repeat with_reducible (first | intro _ | apply zOA n_ | apply ti | apply ts | apply tb | apply tl n_ | exact td _)
def zF3 (n_ : Nat) y0 y1 : Tw (zAR y0 y1) := by
 delta zAR
 repeat with_reducible (first | intro _ | apply zE1 n_ | apply ti | apply ts | apply tb | apply tl n_ | exact td _)
def zE7 (n_ : Nat) y0 y1 : Tw (zAC y0 y1) := by
 delta zAC
 repeat with_reducible (first | intro _ | apply zF3 n_ | apply ti | apply ts | apply tb | apply tl n_ | exact td _)
def zOv (n_ : Nat) y0 y1 : Tw (zCc y0 y1) := by
 delta zCc
 repeat with_reducible (first | intro _ | apply zE7 n_ | apply ti | apply ts | apply tb | apply tl n_ | exact td _)
def zLg (n_ : Nat) y0 y1 : Tw (zBb y0 y1) := by
 delta zBb
 repeat with_reducible (first | intro _ | apply zPL n_ | apply zOv n_ | apply ti | apply ts | apply tb | apply tl n_ | exact td _)
def zFm (n_ : Nat) y0 y2 : Tw (zAW y0 y2) := by
 delta zAW
 repeat with_reducible (first | intro _ | apply zLg n_ | apply ti | apply ts | apply tb | apply tl n_ | exact td _)
def zFS (n_ : Nat) y0 y2 s1 : Tw (zAP y0 y2 s1) := by
 delta zAP
 repeat with_reducible (first | intro _ | apply zFm n_ | apply ti | apply ts | apply tb | apply tl n_ | exact td _)
def zGG (n_ : Nat) y0 y2 : Tw (zAY y0 y2) := by
 delta zAY
 repeat with_reducible (first | intro _ | apply zFS n_ | apply ti | apply ts | apply tb | apply tl n_ | exact td _)
def zFF (n_ : Nat) y0 y2 : Tw (zAD y0 y2) := by
 delta zAD
 repeat with_reducible (first | intro _ | apply zGG n_ | apply ti | apply ts | apply tb | apply tl n_ | exact td _)
def zFa (n_ : Nat) r1 s1 : Tw (zAB r1 s1) := by
 delta zAB
 repeat with_reducible (first | intro _ | apply zFF n_ | apply ti | apply ts | apply tb | apply tl n_ | exact td _)
def zGP (n_ : Nat) y0 : Tw (zAK y0) := by
 delta zAK
 repeat with_reducible (first | intro _ | apply zLE n_ | apply zFa n_ | apply ti | apply ts | apply tb | apply tl n_ | exact td _)
def zNM (n_ : Nat) y0 : Tw (zB8 y0) := by
 delta zB8
 repeat with_reducible (first | intro _ | apply zGP n_ | apply ti | apply ts | apply tb | apply tl n_ | exact td _)
def zGT (n_ : Nat) r1 s1 : Tw (zAM r1 s1) := by
 delta zAM
 repeat with_reducible (first | intro _ | apply zCn n_ | apply ti | apply ts | apply tb | apply tl n_ | exact td _)
def zGz (n_ : Nat) y0 : Tw (zAG y0) := by
 delta zAG
 repeat with_reducible (first | intro _ | apply zNM n_ | apply zGT n_ | apply ti | apply ts | apply tb | apply tl n_ | exact td _)
def zHU (n_ : Nat) r1 s1 : Tw (zBv r1 s1) := by
 delta zBv
 repeat with_reducible (first | intro _ | apply zCn n_ | apply ti | apply ts | apply tb | apply tl n_ | exact td _)
def zIL (n_ : Nat) y0 : Tw (zBX y0) := by
 delta zBX
 repeat with_reducible (first | intro _ | apply zLE n_ | apply zHU n_ | apply ti | apply ts | apply tb | apply tl n_ | exact td _)
def zO1 (n_ : Nat) y0 y1 : Tw (zBG y0 y1) := by
 delta zBG
 repeat with_reducible (first | intro _ | apply zJS n_ | apply zIO n_ | apply zIL n_ | apply zGz n_ | apply zHa n_ | apply zHb n_ | apply ti | apply ts | apply tb | apply tl n_ | exact td _)
def zLz (n_ : Nat) r1 y0 s1 : Tw (zBc r1 y0 s1) := by
 delta zBc
 repeat with_reducible (first | intro _ | apply zIP n_ | apply ti | apply ts | apply tb | apply tl n_ | exact td _)
def zNx (n_ : Nat) y0 y1 : Tw (zAt y0 y1) := by
 delta zAt
 repeat with_reducible (first | intro _ | apply zO1 n_ | apply zLz n_ | apply ti | apply ts | apply tb | apply tl n_ | exact td _)
def zLd (n_ : Nat) y0 : Tw (zDD y0) := by
 delta zDD
 repeat with_reducible (first | intro _ | apply ti | apply ts | apply tb | apply tl n_ | exact td _)
def zNQ (n_ : Nat) y0 y1 : Tw (zDu y0 y1) := by
 delta zDu
 repeat with_reducible (first | intro _ | apply zLy n_ | apply ti | apply ts | apply tb | apply tl n_ | exact td _)
def zD3 (n_ : Nat) y0 y1 s1 : Tw (zAe y0 y1 s1) := by
 delta zAe
 repeat with_reducible (first | intro _ | apply zNQ n_ | apply ti | apply ts | apply tb | apply tl n_ | exact td _)
def zEH (n_ : Nat) y0 y1 : Tw (zA0 y0 y1) := by
 delta zA0
 repeat with_reducible (first | intro _ | apply zD3 n_ | apply ti | apply ts | apply tb | apply tl n_ | exact td _)
def zD2 (n_ : Nat) y0 y1 : Tw (zAQ y0 y1) := by
 delta zAQ
 repeat with_reducible (first | intro _ | apply zEH n_ | apply ti | apply ts | apply tb | apply tl n_ | exact td _)
def zJf (n_ : Nat) y0 y1 y2 : Tw (zDK y0 y1 y2) := by
 delta zDK
 repeat with_reducible (first | intro _ | apply zD2 n_ | apply ti | apply ts | apply tb | apply tl n_ | exact td _)
def zDo (n_ : Nat) y0 y1 y2 s1 : Tw (zAo y0 y1 y2 s1) := by
 delta zAo
 repeat with_reducible (first | intro _ | apply zJf n_ | apply ti | apply ts | apply tb | apply tl n_ | exact td _)
def zEd (n_ : Nat) y0 y1 y2 : Tw (zA4 y0 y1 y2) := by
 delta zA4
 repeat with_reducible (first | intro _ | apply zDo n_ | apply ti | apply ts | apply tb | apply tl n_ | exact td _)
def zD6 (n_ : Nat) y0 y1 y2 s2 : Tw (zAf y0 y1 y2 s2) := by
 delta zAf
 repeat with_reducible (first | intro _ | apply zJf n_ | apply ti | apply ts | apply tb | apply tl n_ | exact td _)
def zEQ (n_ : Nat) y0 y1 y2 : Tw (zA2 y0 y1 y2) := by
 delta zA2
 repeat with_reducible (first | intro _ | apply zEd n_ | apply zD6 n_ | apply ti | apply ts | apply tb | apply tl n_ | exact td _)
def zPk (n_ : Nat) y0 y1 y2 : Tw (zGf y0 y1 y2) := by
 delta zGf
 repeat with_reducible (first | intro _ | apply zNx n_ | apply zLd n_ | apply zMT n_ | apply zEQ n_ | apply ti | apply ts | apply tb | apply tl n_ | exact td _)
def zQf (n_ : Nat) y0 y1 : Tw (zD8 y0 y1) := by
 delta zD8
 repeat with_reducible (first | intro _ | apply zQ1 n_ | apply zPk n_ | apply ti | apply ts | apply tb | apply tl n_ | exact td _)
def zHJ (n_ : Nat) y0 : Tw (zCv y0) := by
 delta zCv
 repeat with_reducible (first | intro _ | apply zEa n_ | apply ti | apply ts | apply tb | apply tl n_ | exact td _)
def zM4 (n_ : Nat) y0 : Tw (zDV y0) := by
 delta zDV
 repeat with_reducible (first | intro _ | apply zHJ n_ | apply ti | apply ts | apply tb | apply tl n_ | exact td _)
def zLT (n_ : Nat) y0 : Tw (zCk y0) := by
 delta zCk
 repeat with_reducible (first | intro _ | apply zHJ n_ | apply ti | apply ts | apply tb | apply tl n_ | exact td _)
def zM6 (n_ : Nat) y0 s3 : Tw (zFl y0 s3) := by
 delta zFl
 repeat with_reducible (first | intro _ | apply zHJ n_ | apply ti | apply ts | apply tb | apply tl n_ | exact td _)
def zO9 (n_ : Nat) y0 : Tw (zFG y0) := by
 delta zFG
 repeat with_reducible (first | intro _ | apply zM6 n_ | apply zHJ n_ | apply ti | apply ts | apply tb | apply tl n_ | exact td _)
def zRR (n_ : Nat) y0 : Tw (zHg y0) := by
 delta zHg
 repeat with_reducible (first | intro _ | apply zEa n_ | apply ti | apply ts | apply tb | apply tl n_ | exact td _)
def zCl (n_ : Nat) y0 y1 : Tw (zBB y0 y1) := by
 delta zBB
 repeat with_reducible (first | intro _ | apply zRR n_ | apply ti | apply ts | apply tb | apply tl n_ | exact td _)
def zGV (n_ : Nat) y0 y1 : Tw (zB0 y0 y1) := by
 delta zB0
 repeat with_reducible (first | intro _ | apply zEy n_ | apply ti | apply ts | apply tb | apply tl n_ | exact td _)
def zLB (n_ : Nat) y0 y1 : Tw (zC6 y0 y1) := by
 delta zC6
 repeat with_reducible (first | intro _ | apply zCl n_ | apply zGV n_ | apply ti | apply ts | apply tb | apply tl n_ | exact td _)
def zKS (n_ : Nat) y0 : Tw (zCM y0) := by
 delta zCM
 repeat with_reducible (first | intro _ | apply zGV n_ | apply zCl n_ | apply ti | apply ts | apply tb | apply tl n_ | exact td _)
def zLI (n_ : Nat) s3 : Tw (zEh s3) := by
 delta zEh
 repeat with_reducible (first | intro _ | apply zCl n_ | apply ti | apply ts | apply tb | apply tl n_ | exact td _)
def zMz (n_ : Nat) y0 y1 : Tw (zDp y0 y1) := by
 delta zDp
 repeat with_reducible (first | intro _ | apply zGV n_ | apply zLI n_ | apply zCl n_ | apply ti | apply ts | apply tb | apply tl n_ | exact td _)
def zNw (n_ : Nat) y0 y1 : Tw (zEZ y0 y1) := by
 delta zEZ
 repeat with_reducible (first | intro _ | apply zLB n_ | apply zM4 n_ | apply zMz n_ | apply zO9 n_ | apply zKS n_ | apply zLT n_ | apply ti | apply ts | apply tb | apply tl n_ | exact td _)
def zOa (n_ : Nat) s2 : Tw (zHL s2) := by
 delta zHL
 repeat with_reducible (first | intro _ | apply zNw n_ | apply ti | apply ts | apply tb | apply tl n_ | exact td _)
def zQa (n_ : Nat) y0 : Tw (zHI y0) := by
 delta zHI
 repeat with_reducible (first | intro _ | apply zOa n_ | apply zJq n_ | apply ti | apply ts | apply tb | apply tl n_ | exact td _)
def zVQ (n_ : Nat) y0 : Tw (zHY y0) := by
 delta zHY
 repeat with_reducible (first | intro _ | apply zQa n_ | apply ti | apply ts | apply tb | apply tl n_ | exact td _)
def zTa (n_ : Nat) : Tw (zDd ) := by
 delta zDd
 repeat with_reducible (first | intro _ | apply zVQ n_ | apply zQf n_ | apply ti | apply ts | apply tb | apply tl n_ | exact td _)
end
end
section
theorem zYl : zDd = some true := (zTa 100).el (by kernel_rfl)
theorem zNn (y0 : List Int) {W0 : Prop} (_w0 : W0) : zEX y0 = some true := zSU zYl y0
end
end Go.GD
