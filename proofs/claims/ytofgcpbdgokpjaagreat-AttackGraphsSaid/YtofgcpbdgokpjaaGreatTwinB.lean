/- Twins of models, that can be computed: printed by program (twin.py). Conditions: none. -/
import Derived.Test.YtofgcpbdgokpjaaGreatAttTwin
import Derived.Test.YtofgcpbdgokpjaaGreatModels
namespace Go.GD
set_option autoImplicit false
set_option linter.unusedVariables false

def e_argument_inside (n_ : Nat) (y0 : List T_Argument) (y1 : Int) : Option Bool :=
  some ((decide (0 ≤ y1)) && (decide (y1 < (len y0))))

theorem le_argument_inside (n_ : Nat) (y0 : List T_Argument) (y1 : Int) : Le (e_argument_inside n_ y0 y1) (m_argument_inside y0 y1) := by
  unfold e_argument_inside m_argument_inside
  repeat with_reducible (first | intro _ | exact Le.refl _ | apply Le.ite | apply Le.seqE | apply Le.bind | apply Le.lp | exact Le.none _)

def e_slices_Compact_int_L2 (n_ : Nat) (y0 : List Int) (s1 : Int) (s3 : (List Int) × Int × Int) : Option (((List Int) × Int × Int) ⊕ ((List Int) × Int)) :=
  if decide (s3.2.2 < ((Int.toNat (((List.length y0 : Nat) : Int) - s1) : Nat) : Int)) then
    (idxV s3.1 s1 s3.2.2).bind fun x3 =>
    (idxV s3.1 s1 (w64 (s3.2.2 - 1))).bind fun x4 =>
    if x3 != x4 then
      (idxV s3.1 s1 s3.2.2).bind fun x5 =>
      (idx s3.1 s3.2.1).bind fun _ =>
      some (.inl (List.set s3.1 (Int.toNat s3.2.1) x5, w64 (s3.2.1 + 1), w64 (s3.2.2 + 1)))
    else
      some (.inl (s3.1, s3.2.1, w64 (s3.2.2 + 1)))
  else
    some (.inr (s3.1, s3.2.1))

theorem le_slices_Compact_int_L2 (n_ : Nat) (y0 : List Int) (s1 : Int) (s3 : (List Int) × Int × Int) : Le (e_slices_Compact_int_L2 n_ y0 s1 s3) (m_slices_Compact_int_L2 y0 s1 s3) := by
  unfold e_slices_Compact_int_L2 m_slices_Compact_int_L2
  repeat with_reducible (first | intro _ | exact Le.refl _ | apply Le.ite | apply Le.seqE | apply Le.bind | apply Le.lp | exact Le.none _)

def e_slices_Compact_int_L1 (n_ : Nat) (y0 : List Int) (s1 : Int) : Option (Int ⊕ (List Int)) :=
  if decide (s1 < (len y0)) then
    (idx y0 s1).bind fun x1 =>
    (idx y0 (w64 (s1 - 1))).bind fun x2 =>
    if x1 == x2 then
      (chk (decide (0 ≤ s1) && decide (s1 ≤ len y0))).bind fun _ =>
      ((lp n_) ((e_slices_Compact_int_L2 n_) y0 s1) (y0, s1, 1) : Option ((List Int) × Int)).bind fun s2 =>
      (chk (decide (0 ≤ s2.2) && decide (s2.2 ≤ len s2.1))).bind fun _ =>
      (sub (clearFrom s2.1 s2.2 0) 0 s2.2).bind fun x7 =>
      some (.inr x7)
    else
      some (.inl (w64 (s1 + 1)))
  else
    some (.inr y0)

theorem le_slices_Compact_int_L1 (n_ : Nat) (y0 : List Int) (s1 : Int) : Le (e_slices_Compact_int_L1 n_ y0 s1) (m_slices_Compact_int_L1 y0 s1) := by
  unfold e_slices_Compact_int_L1 m_slices_Compact_int_L1
  repeat with_reducible (first | intro _ | apply le_slices_Compact_int_L2 | exact Le.refl _ | apply Le.ite | apply Le.seqE | apply Le.bind | apply Le.lp | exact Le.none _)

def e_slices_Compact_int (n_ : Nat) (y0 : List Int) : Option (List Int) :=
  if decide ((len y0) < 2) then
    some y0
  else
    (lp n_) ((e_slices_Compact_int_L1 n_) y0) 1

theorem le_slices_Compact_int (n_ : Nat) (y0 : List Int) : Le (e_slices_Compact_int n_ y0) (m_slices_Compact_int y0) := by
  unfold e_slices_Compact_int m_slices_Compact_int
  repeat with_reducible (first | intro _ | apply le_slices_Compact_int_L1 | exact Le.refl _ | apply Le.ite | apply Le.seqE | apply Le.bind | apply Le.lp | exact Le.none _)

def e_argument_Subs_L1 (n_ : Nat) (x1 : T_Argument) (rec_argument_Subs : (List T_Argument) → Int → Option (List Int)) (y0 : List T_Argument) (s2 : (List Int) × Int) : Option (((List Int) × Int) ⊕ (List Int)) :=
  if decide (s2.2 < (len x1.2.2.1)) then
    (idx x1.2.2.1 s2.2).bind fun x2 =>
    (rec_argument_Subs y0 x2).bind fun r2 =>
    (app s2.1 r2).bind fun x3 =>
    some (.inl (x3, w64 (s2.2 + 1)))
  else
    some (.inr s2.1)

theorem le_argument_Subs_L1 (n_ : Nat) (x1 : T_Argument) {rec_argument_Subs rec_argument_Subs' : (List T_Argument) → Int → Option (List Int)} (h_rec_argument_Subs : ∀ u0 u1, Le (rec_argument_Subs u0 u1) (rec_argument_Subs' u0 u1)) (y0 : List T_Argument) (s2 : (List Int) × Int) : Le (e_argument_Subs_L1 n_ x1 rec_argument_Subs y0 s2) (m_argument_Subs_L1 x1 rec_argument_Subs' y0 s2) := by
  unfold e_argument_Subs_L1 m_argument_Subs_L1
  repeat with_reducible (first | intro _ | apply h_rec_argument_Subs | exact Le.refl _ | apply Le.ite | apply Le.seqE | apply Le.bind | apply Le.lp | exact Le.none _)

def fe_argument_Subs (n_ : Nat) (rec_argument_Subs : (List T_Argument) → Int → Option (List Int)) (y0 : List T_Argument) (y1 : Int) : Option (List Int) :=
  ((e_argument_inside n_) y0 y1).bind fun r1 =>
  if !r1 then
    some ([] : List Int)
  else
    (
      (idx y0 y1).bind fun x1 =>
      (lp n_) ((e_argument_Subs_L1 n_) x1 rec_argument_Subs y0) (([y1] : List Int), 0) : Option (List Int)).bind fun s1 =>
    ((e_slices_Sort_int n_) s1).bind fun r3 =>
    ((e_slices_Compact_int n_) r3).bind fun r4 =>
    some r4

theorem lef_argument_Subs (n_ : Nat) {rec_argument_Subs rec_argument_Subs' : (List T_Argument) → Int → Option (List Int)} (h_rec_argument_Subs : ∀ u0 u1, Le (rec_argument_Subs u0 u1) (rec_argument_Subs' u0 u1)) (y0 : List T_Argument) (y1 : Int) : Le (fe_argument_Subs n_ rec_argument_Subs y0 y1) (F_argument_Subs rec_argument_Subs' y0 y1) := by
  unfold fe_argument_Subs F_argument_Subs
  repeat with_reducible (first | intro _ | apply h_rec_argument_Subs | apply le_slices_Compact_int | apply le_slices_Sort_int | apply le_argument_Subs_L1 | apply le_argument_inside | exact Le.refl _ | apply Le.ite | apply Le.seqE | apply Le.bind | apply Le.lp | exact Le.none _)

def ke_argument_Subs (n_ : Nat) : Nat → (List T_Argument) → Int → Option (List Int)
  | 0 => fun _ _ => none
  | k + 1 => fun y0 y1 => (fe_argument_Subs n_) ((ke_argument_Subs n_) k) y0 y1

theorem lek_argument_Subs (n_ : Nat) : ∀ (k m : Nat), k ≤ m → ∀ u0 u1, Le (ke_argument_Subs n_ k u0 u1) (k_argument_Subs m u0 u1)
  | 0, _, _ => fun u0 u1 => Le.none _
  | k + 1, m, h => fun u0 u1 => by
    obtain ⟨m, rfl⟩ : ∃ q, m = q + 1 := ⟨m - 1, by omega⟩
    exact lef_argument_Subs n_ (lek_argument_Subs n_ k m (by omega)) _ _

def e_argument_Subs (n_ : Nat) (y0 : List T_Argument) (y1 : Int) : Option (List Int) :=
  ke_argument_Subs n_ n_ y0 y1

theorem le_argument_Subs (n_ : Nat) (y0 : List T_Argument) (y1 : Int) : Le (e_argument_Subs n_ y0 y1) (m_argument_Subs y0 y1) := Le.lim n_ fun m h => lek_argument_Subs n_ n_ m h _ _

def e_literal_Complement (n_ : Nat) (y0 : T_Literal) : Option T_Literal :=
  some (!y0.1, y0.2)

theorem le_literal_Complement (n_ : Nat) (y0 : T_Literal) : Le (e_literal_Complement n_ y0) (m_literal_Complement y0) := by
  unfold e_literal_Complement m_literal_Complement
  repeat with_reducible (first | intro _ | exact Le.refl _ | apply Le.ite | apply Le.seqE | apply Le.bind | apply Le.lp | exact Le.none _)

def e_attack_kinds (n_ : Nat) (y0 : T_Base) (y1 : List T_Argument) (y2 : Int) (y3 : Int) : Option (List Int) :=
  (
    (idx y1 y2).bind fun x1 =>
    (idx y1 y3).bind fun x2 =>
    some (x1.2.2.2, x2) : Option (T_Literal × T_Argument)).bind fun s1 =>
  ((e_literal_Complement n_) s1.2.2.2.2).bind fun r1 =>
  if decide (0 ≤ s1.2.1) then
    (
      if s1.1 == r1 then
        (idx y0.1 s1.2.1).bind fun x3 =>
        some (x3.2.1 != 1)
      else
        some false : Option Bool).bind fun s2 =>
    if s2 then
      (app ([] : List Int) ([1] : List Int)).bind fun x4 =>
      some x4
    else
      some ([] : List Int)
  else
    (idx y0.2.1 s1.2.2.1).bind fun x5 =>
    if !x5.2.1 then
      (
        if s1.1 == r1 then
          (app ([] : List Int) ([2] : List Int)).bind fun x6 =>
          some x6
        else
          some ([] : List Int) : Option (List Int)).bind fun s3 =>
      (
        if s1.1.1 then
          (idx y0.2.1 s1.2.2.1).bind fun x7 =>
          some (s1.1.2 == x7.1)
        else
          some false : Option Bool).bind fun s4 =>
      if s4 then
        (app s3 ([3] : List Int)).bind fun x8 =>
        some x8
      else
        some s3
    else
      some ([] : List Int)

theorem le_attack_kinds (n_ : Nat) (y0 : T_Base) (y1 : List T_Argument) (y2 : Int) (y3 : Int) : Le (e_attack_kinds n_ y0 y1 y2 y3) (m_attack_kinds y0 y1 y2 y3) := by
  unfold e_attack_kinds m_attack_kinds
  repeat with_reducible (first | intro _ | apply le_literal_Complement | exact Le.refl _ | apply Le.ite | apply Le.seqE | apply Le.bind | apply Le.lp | exact Le.none _)

def e_slices_Index_int_L1 (n_ : Nat) (y0 : List Int) (y1 : Int) (s1 : Int) : Option (Int ⊕ Int) :=
  if decide (s1 < (len y0)) then
    (idx y0 s1).bind fun x1 =>
    if y1 == x1 then
      some (.inr s1)
    else
      some (.inl (w64 (s1 + 1)))
  else
    some (.inr (-1))

theorem le_slices_Index_int_L1 (n_ : Nat) (y0 : List Int) (y1 : Int) (s1 : Int) : Le (e_slices_Index_int_L1 n_ y0 y1 s1) (m_slices_Index_int_L1 y0 y1 s1) := by
  unfold e_slices_Index_int_L1 m_slices_Index_int_L1
  repeat with_reducible (first | intro _ | exact Le.refl _ | apply Le.ite | apply Le.seqE | apply Le.bind | apply Le.lp | exact Le.none _)

def e_slices_Index_int (n_ : Nat) (y0 : List Int) (y1 : Int) : Option Int :=
  (lp n_) ((e_slices_Index_int_L1 n_) y0 y1) 0

theorem le_slices_Index_int (n_ : Nat) (y0 : List Int) (y1 : Int) : Le (e_slices_Index_int n_ y0 y1) (m_slices_Index_int y0 y1) := by
  unfold e_slices_Index_int m_slices_Index_int
  repeat with_reducible (first | intro _ | apply le_slices_Index_int_L1 | exact Le.refl _ | apply Le.ite | apply Le.seqE | apply Le.bind | apply Le.lp | exact Le.none _)

def e_slices_Contains_int (n_ : Nat) (y0 : List Int) (y1 : Int) : Option Bool :=
  ((e_slices_Index_int n_) y0 y1).bind fun r1 =>
  some (decide (0 ≤ r1))

theorem le_slices_Contains_int (n_ : Nat) (y0 : List Int) (y1 : Int) : Le (e_slices_Contains_int n_ y0 y1) (m_slices_Contains_int y0 y1) := by
  unfold e_slices_Contains_int m_slices_Contains_int
  repeat with_reducible (first | intro _ | apply le_slices_Index_int | exact Le.refl _ | apply Le.ite | apply Le.seqE | apply Le.bind | apply Le.lp | exact Le.none _)

def e_attack_Attacks_L4 (n_ : Nat) (r1 : (List Int)) (s3 : (List T_Attack) × Int) (s4 : (List T_Attack) × Int) (s2 : (List T_Attack) × Int) (s5 : (List T_Attack) × Int) : Option (((List T_Attack) × Int) ⊕ (((List T_Attack) × Int) ⊕ (((List T_Attack) × Int) ⊕ (((List T_Attack) × Int) ⊕ (List T_Attack))))) :=
  if decide (s5.2 < (len r1)) then
    (idx r1 s5.2).bind fun x1 =>
    (app s5.1 ([(s3.2, s4.2, s2.2, x1)] : List T_Attack)).bind fun x2 =>
    some (.inl (x2, w64 (s5.2 + 1)))
  else
    some (.inr (.inl (s5.1, w64 (s4.2 + 1))))

theorem le_attack_Attacks_L4 (n_ : Nat) (r1 : (List Int)) (s3 : (List T_Attack) × Int) (s4 : (List T_Attack) × Int) (s2 : (List T_Attack) × Int) (s5 : (List T_Attack) × Int) : Le (e_attack_Attacks_L4 n_ r1 s3 s4 s2 s5) (m_attack_Attacks_L4 r1 s3 s4 s2 s5) := by
  unfold e_attack_Attacks_L4 m_attack_Attacks_L4
  repeat with_reducible (first | intro _ | exact Le.refl _ | apply Le.ite | apply Le.seqE | apply Le.bind | apply Le.lp | exact Le.none _)

def e_attack_Attacks_L3 (n_ : Nat) (y1 : List T_Argument) (s2 : (List T_Attack) × Int) (r1 : (List Int)) (s3 : (List T_Attack) × Int) (s4 : (List T_Attack) × Int) : Option (((List T_Attack) × Int) ⊕ (((List T_Attack) × Int) ⊕ (((List T_Attack) × Int) ⊕ (List T_Attack)))) :=
  if decide (s4.2 < (len y1)) then
    ((e_argument_Subs n_) y1 s4.2).bind fun r2 =>
    ((e_slices_Contains_int n_) r2 s2.2).bind fun r3 =>
    if !r3 then
      some (.inl (s4.1, w64 (s4.2 + 1)))
    else
      (lp n_) ((e_attack_Attacks_L4 n_) r1 s3 s4 s2) (s4.1, 0)
  else
    some (.inr (.inl (s4.1, w64 (s3.2 + 1))))

theorem le_attack_Attacks_L3 (n_ : Nat) (y1 : List T_Argument) (s2 : (List T_Attack) × Int) (r1 : (List Int)) (s3 : (List T_Attack) × Int) (s4 : (List T_Attack) × Int) : Le (e_attack_Attacks_L3 n_ y1 s2 r1 s3 s4) (m_attack_Attacks_L3 y1 s2 r1 s3 s4) := by
  unfold e_attack_Attacks_L3 m_attack_Attacks_L3
  repeat with_reducible (first | intro _ | apply le_attack_Attacks_L4 | apply le_slices_Contains_int | apply le_argument_Subs | exact Le.refl _ | apply Le.ite | apply Le.seqE | apply Le.bind | apply Le.lp | exact Le.none _)

def e_attack_Attacks_L2 (n_ : Nat) (y1 : List T_Argument) (y0 : T_Base) (s2 : (List T_Attack) × Int) (s3 : (List T_Attack) × Int) : Option (((List T_Attack) × Int) ⊕ (((List T_Attack) × Int) ⊕ (List T_Attack))) :=
  if decide (s3.2 < (len y1)) then
    ((e_attack_kinds n_) y0 y1 s3.2 s2.2).bind fun r1 =>
    if (len r1) == 0 then
      some (.inl (s3.1, w64 (s3.2 + 1)))
    else
      (lp n_) ((e_attack_Attacks_L3 n_) y1 s2 r1 s3) (s3.1, 0)
  else
    some (.inr (.inl (s3.1, w64 (s2.2 + 1))))

theorem le_attack_Attacks_L2 (n_ : Nat) (y1 : List T_Argument) (y0 : T_Base) (s2 : (List T_Attack) × Int) (s3 : (List T_Attack) × Int) : Le (e_attack_Attacks_L2 n_ y1 y0 s2 s3) (m_attack_Attacks_L2 y1 y0 s2 s3) := by
  unfold e_attack_Attacks_L2 m_attack_Attacks_L2
  repeat with_reducible (first | intro _ | apply le_attack_Attacks_L3 | apply le_attack_kinds | exact Le.refl _ | apply Le.ite | apply Le.seqE | apply Le.bind | apply Le.lp | exact Le.none _)

def e_attack_Attacks_L1 (n_ : Nat) (y1 : List T_Argument) (y0 : T_Base) (s2 : (List T_Attack) × Int) : Option (((List T_Attack) × Int) ⊕ (List T_Attack)) :=
  if decide (s2.2 < (len y1)) then
    (lp n_) ((e_attack_Attacks_L2 n_) y1 y0 s2) (s2.1, 0)
  else
    some (.inr s2.1)

theorem le_attack_Attacks_L1 (n_ : Nat) (y1 : List T_Argument) (y0 : T_Base) (s2 : (List T_Attack) × Int) : Le (e_attack_Attacks_L1 n_ y1 y0 s2) (m_attack_Attacks_L1 y1 y0 s2) := by
  unfold e_attack_Attacks_L1 m_attack_Attacks_L1
  repeat with_reducible (first | intro _ | apply le_attack_Attacks_L2 | exact Le.refl _ | apply Le.ite | apply Le.seqE | apply Le.bind | apply Le.lp | exact Le.none _)

def e_attack_Attacks (n_ : Nat) (y0 : T_Base) (y1 : List T_Argument) : Option (List T_Attack) :=
  ((lp n_) ((e_attack_Attacks_L1 n_) y1 y0) (([] : List T_Attack), 0) : Option (List T_Attack)).bind fun s1 =>
  ((e_slices_SortFunc_Attack__attack_Attacks_1 n_) s1).bind fun r4 =>
  some r4

theorem le_attack_Attacks (n_ : Nat) (y0 : T_Base) (y1 : List T_Argument) : Le (e_attack_Attacks n_ y0 y1) (m_attack_Attacks y0 y1) := by
  unfold e_attack_Attacks m_attack_Attacks
  repeat with_reducible (first | intro _ | apply le_slices_SortFunc_Attack__attack_Attacks_1 | apply le_attack_Attacks_L1 | exact Le.refl _ | apply Le.ite | apply Le.seqE | apply Le.bind | apply Le.lp | exact Le.none _)

def e_argument_Premises_L1 (n_ : Nat) (r1 : (List Int)) (y0 : List T_Argument) (s2 : (List Int) × Int) : Option (((List Int) × Int) ⊕ (List Int)) :=
  if decide (s2.2 < (len r1)) then
    (idx r1 s2.2).bind fun x1 =>
    (idx y0 x1).bind fun x2 =>
    if decide (0 ≤ x2.1) then
      (idx y0 x1).bind fun x3 =>
      (app s2.1 ([x3.1] : List Int)).bind fun x4 =>
      some (.inl (x4, w64 (s2.2 + 1)))
    else
      some (.inl (s2.1, w64 (s2.2 + 1)))
  else
    some (.inr s2.1)

theorem le_argument_Premises_L1 (n_ : Nat) (r1 : (List Int)) (y0 : List T_Argument) (s2 : (List Int) × Int) : Le (e_argument_Premises_L1 n_ r1 y0 s2) (m_argument_Premises_L1 r1 y0 s2) := by
  unfold e_argument_Premises_L1 m_argument_Premises_L1
  repeat with_reducible (first | intro _ | exact Le.refl _ | apply Le.ite | apply Le.seqE | apply Le.bind | apply Le.lp | exact Le.none _)

def e_argument_Premises (n_ : Nat) (y0 : List T_Argument) (y1 : Int) : Option (List Int) :=
  (
    ((e_argument_Subs n_) y0 y1).bind fun r1 =>
    (lp n_) ((e_argument_Premises_L1 n_) r1 y0) (([] : List Int), 0) : Option (List Int)).bind fun s1 =>
  ((e_slices_Sort_int n_) s1).bind fun r2 =>
  some r2

theorem le_argument_Premises (n_ : Nat) (y0 : List T_Argument) (y1 : Int) : Le (e_argument_Premises n_ y0 y1) (m_argument_Premises y0 y1) := by
  unfold e_argument_Premises m_argument_Premises
  repeat with_reducible (first | intro _ | apply le_slices_Sort_int | apply le_argument_Premises_L1 | apply le_argument_Subs | exact Le.refl _ | apply Le.ite | apply Le.seqE | apply Le.bind | apply Le.lp | exact Le.none _)

def e_lift_Assumes_1 (n_ : Nat) (y0 : Int) (y1 : T_Base) : Option Bool :=
  (idx y1.1 y0).bind fun x1 =>
  some (x1.2.1 == 3)

theorem le_lift_Assumes_1 (n_ : Nat) (y0 : Int) (y1 : T_Base) : Le (e_lift_Assumes_1 n_ y0 y1) (m_lift_Assumes_1 y0 y1) := by
  unfold e_lift_Assumes_1 m_lift_Assumes_1
  repeat with_reducible (first | intro _ | exact Le.refl _ | apply Le.ite | apply Le.seqE | apply Le.bind | apply Le.lp | exact Le.none _)

def e_slices_IndexFunc_int__lift_Assumes_1_L1 (n_ : Nat) (y0 : List Int) (y1 : T_Base) (s1 : Int) : Option (Int ⊕ Int) :=
  if decide (s1 < (len y0)) then
    (idx y0 s1).bind fun x1 =>
    ((e_lift_Assumes_1 n_) x1 y1).bind fun r1 =>
    if r1 then
      some (.inr s1)
    else
      some (.inl (w64 (s1 + 1)))
  else
    some (.inr (-1))

theorem le_slices_IndexFunc_int__lift_Assumes_1_L1 (n_ : Nat) (y0 : List Int) (y1 : T_Base) (s1 : Int) : Le (e_slices_IndexFunc_int__lift_Assumes_1_L1 n_ y0 y1 s1) (m_slices_IndexFunc_int__lift_Assumes_1_L1 y0 y1 s1) := by
  unfold e_slices_IndexFunc_int__lift_Assumes_1_L1 m_slices_IndexFunc_int__lift_Assumes_1_L1
  repeat with_reducible (first | intro _ | apply le_lift_Assumes_1 | exact Le.refl _ | apply Le.ite | apply Le.seqE | apply Le.bind | apply Le.lp | exact Le.none _)

def e_slices_IndexFunc_int__lift_Assumes_1 (n_ : Nat) (y0 : List Int) (y1 : T_Base) : Option Int :=
  (lp n_) ((e_slices_IndexFunc_int__lift_Assumes_1_L1 n_) y0 y1) 0

theorem le_slices_IndexFunc_int__lift_Assumes_1 (n_ : Nat) (y0 : List Int) (y1 : T_Base) : Le (e_slices_IndexFunc_int__lift_Assumes_1 n_ y0 y1) (m_slices_IndexFunc_int__lift_Assumes_1 y0 y1) := by
  unfold e_slices_IndexFunc_int__lift_Assumes_1 m_slices_IndexFunc_int__lift_Assumes_1
  repeat with_reducible (first | intro _ | apply le_slices_IndexFunc_int__lift_Assumes_1_L1 | exact Le.refl _ | apply Le.ite | apply Le.seqE | apply Le.bind | apply Le.lp | exact Le.none _)

def e_slices_ContainsFunc_int__lift_Assumes_1 (n_ : Nat) (y0 : List Int) (y1 : T_Base) : Option Bool :=
  ((e_slices_IndexFunc_int__lift_Assumes_1 n_) y0 y1).bind fun r1 =>
  some (decide (0 ≤ r1))

theorem le_slices_ContainsFunc_int__lift_Assumes_1 (n_ : Nat) (y0 : List Int) (y1 : T_Base) : Le (e_slices_ContainsFunc_int__lift_Assumes_1 n_ y0 y1) (m_slices_ContainsFunc_int__lift_Assumes_1 y0 y1) := by
  unfold e_slices_ContainsFunc_int__lift_Assumes_1 m_slices_ContainsFunc_int__lift_Assumes_1
  repeat with_reducible (first | intro _ | apply le_slices_IndexFunc_int__lift_Assumes_1 | exact Le.refl _ | apply Le.ite | apply Le.seqE | apply Le.bind | apply Le.lp | exact Le.none _)

def e_lift_Assumes (n_ : Nat) (y0 : T_Base) (y1 : List T_Argument) (y2 : Int) : Option Bool :=
  ((e_argument_Premises n_) y1 y2).bind fun r1 =>
  ((e_slices_ContainsFunc_int__lift_Assumes_1 n_) r1 y0).bind fun r2 =>
  some r2

theorem le_lift_Assumes (n_ : Nat) (y0 : T_Base) (y1 : List T_Argument) (y2 : Int) : Le (e_lift_Assumes n_ y0 y1 y2) (m_lift_Assumes y0 y1 y2) := by
  unfold e_lift_Assumes m_lift_Assumes
  repeat with_reducible (first | intro _ | apply le_slices_ContainsFunc_int__lift_Assumes_1 | apply le_argument_Premises | exact Le.refl _ | apply Le.ite | apply Le.seqE | apply Le.bind | apply Le.lp | exact Le.none _)

def e_argument_Last_L1 (n_ : Nat) (x5 : T_Argument) (rec_argument_Last : T_Base → (List T_Argument) → Int → Option (List Int)) (y0 : T_Base) (y1 : List T_Argument) (s3 : (List Int) × Int) : Option (((List Int) × Int) ⊕ (List Int)) :=
  if decide (s3.2 < (len x5.2.2.1)) then
    (idx x5.2.2.1 s3.2).bind fun x6 =>
    (rec_argument_Last y0 y1 x6).bind fun r2 =>
    (app s3.1 r2).bind fun x7 =>
    some (.inl (x7, w64 (s3.2 + 1)))
  else
    some (.inr s3.1)

theorem le_argument_Last_L1 (n_ : Nat) (x5 : T_Argument) {rec_argument_Last rec_argument_Last' : T_Base → (List T_Argument) → Int → Option (List Int)} (h_rec_argument_Last : ∀ u0 u1 u2, Le (rec_argument_Last u0 u1 u2) (rec_argument_Last' u0 u1 u2)) (y0 : T_Base) (y1 : List T_Argument) (s3 : (List Int) × Int) : Le (e_argument_Last_L1 n_ x5 rec_argument_Last y0 y1 s3) (m_argument_Last_L1 x5 rec_argument_Last' y0 y1 s3) := by
  unfold e_argument_Last_L1 m_argument_Last_L1
  repeat with_reducible (first | intro _ | apply h_rec_argument_Last | exact Le.refl _ | apply Le.ite | apply Le.seqE | apply Le.bind | apply Le.lp | exact Le.none _)

def fe_argument_Last (n_ : Nat) (rec_argument_Last : T_Base → (List T_Argument) → Int → Option (List Int)) (y0 : T_Base) (y1 : List T_Argument) (y2 : Int) : Option (List Int) :=
  (
    ((e_argument_inside n_) y1 y2).bind fun r1 =>
    if !r1 then
      some true
    else
      (idx y1 y2).bind fun x1 =>
      some (decide (x1.2.1 < 0)) : Option Bool).bind fun s1 =>
  if s1 then
    some ([] : List Int)
  else
    (idx y1 y2).bind fun x2 =>
    (idx y0.2.1 x2.2.1).bind fun x3 =>
    if !x3.2.1 then
      (idx y1 y2).bind fun x4 =>
      some ([x4.2.1] : List Int)
    else
      (
        (idx y1 y2).bind fun x5 =>
        (lp n_) ((e_argument_Last_L1 n_) x5 rec_argument_Last y0 y1) (([] : List Int), 0) : Option (List Int)).bind fun s2 =>
      ((e_slices_Sort_int n_) s2).bind fun r3 =>
      ((e_slices_Compact_int n_) r3).bind fun r4 =>
      some r4

theorem lef_argument_Last (n_ : Nat) {rec_argument_Last rec_argument_Last' : T_Base → (List T_Argument) → Int → Option (List Int)} (h_rec_argument_Last : ∀ u0 u1 u2, Le (rec_argument_Last u0 u1 u2) (rec_argument_Last' u0 u1 u2)) (y0 : T_Base) (y1 : List T_Argument) (y2 : Int) : Le (fe_argument_Last n_ rec_argument_Last y0 y1 y2) (F_argument_Last rec_argument_Last' y0 y1 y2) := by
  unfold fe_argument_Last F_argument_Last
  repeat with_reducible (first | intro _ | apply h_rec_argument_Last | apply le_slices_Compact_int | apply le_slices_Sort_int | apply le_argument_Last_L1 | apply le_argument_inside | exact Le.refl _ | apply Le.ite | apply Le.seqE | apply Le.bind | apply Le.lp | exact Le.none _)

def ke_argument_Last (n_ : Nat) : Nat → T_Base → (List T_Argument) → Int → Option (List Int)
  | 0 => fun _ _ _ => none
  | k + 1 => fun y0 y1 y2 => (fe_argument_Last n_) ((ke_argument_Last n_) k) y0 y1 y2

theorem lek_argument_Last (n_ : Nat) : ∀ (k m : Nat), k ≤ m → ∀ u0 u1 u2, Le (ke_argument_Last n_ k u0 u1 u2) (k_argument_Last m u0 u1 u2)
  | 0, _, _ => fun u0 u1 u2 => Le.none _
  | k + 1, m, h => fun u0 u1 u2 => by
    obtain ⟨m, rfl⟩ : ∃ q, m = q + 1 := ⟨m - 1, by omega⟩
    exact lef_argument_Last n_ (lek_argument_Last n_ k m (by omega)) _ _ _

def e_argument_Last (n_ : Nat) (y0 : T_Base) (y1 : List T_Argument) (y2 : Int) : Option (List Int) :=
  ke_argument_Last n_ n_ y0 y1 y2

theorem le_argument_Last (n_ : Nat) (y0 : T_Base) (y1 : List T_Argument) (y2 : Int) : Le (e_argument_Last n_ y0 y1 y2) (m_argument_Last y0 y1 y2) := Le.lim n_ fun m h => lek_argument_Last n_ n_ m h _ _ _

def e_lift_ranks_L1 (n_ : Nat) (y1 : List Int) (y0 : T_Base) (s1 : (List Int) × Int) : Option (((List Int) × Int) ⊕ (List Int)) :=
  if decide (s1.2 < (len y1)) then
    (idx y1 s1.2).bind fun x1 =>
    (idx y0.2.1 x1).bind fun x2 =>
    (app s1.1 ([x2.2.2.1] : List Int)).bind fun x3 =>
    some (.inl (x3, w64 (s1.2 + 1)))
  else
    some (.inr s1.1)

theorem le_lift_ranks_L1 (n_ : Nat) (y1 : List Int) (y0 : T_Base) (s1 : (List Int) × Int) : Le (e_lift_ranks_L1 n_ y1 y0 s1) (m_lift_ranks_L1 y1 y0 s1) := by
  unfold e_lift_ranks_L1 m_lift_ranks_L1
  repeat with_reducible (first | intro _ | exact Le.refl _ | apply Le.ite | apply Le.seqE | apply Le.bind | apply Le.lp | exact Le.none _)

def e_lift_ranks (n_ : Nat) (y0 : T_Base) (y1 : List Int) : Option (List Int) :=
  (lp n_) ((e_lift_ranks_L1 n_) y1 y0) (([] : List Int), 0)

theorem le_lift_ranks (n_ : Nat) (y0 : T_Base) (y1 : List Int) : Le (e_lift_ranks n_ y0 y1) (m_lift_ranks y0 y1) := by
  unfold e_lift_ranks m_lift_ranks
  repeat with_reducible (first | intro _ | apply le_lift_ranks_L1 | exact Le.refl _ | apply Le.ite | apply Le.seqE | apply Le.bind | apply Le.lp | exact Le.none _)

def e_lift_LastRanks (n_ : Nat) (y0 : T_Base) (y1 : List T_Argument) (y2 : Int) : Option (List Int) :=
  ((e_argument_Last n_) y0 y1 y2).bind fun r1 =>
  ((e_lift_ranks n_) y0 r1).bind fun r2 =>
  some r2

theorem le_lift_LastRanks (n_ : Nat) (y0 : T_Base) (y1 : List T_Argument) (y2 : Int) : Le (e_lift_LastRanks n_ y0 y1 y2) (m_lift_LastRanks y0 y1 y2) := by
  unfold e_lift_LastRanks m_lift_LastRanks
  repeat with_reducible (first | intro _ | apply le_lift_ranks | apply le_argument_Last | exact Le.refl _ | apply Le.ite | apply Le.seqE | apply Le.bind | apply Le.lp | exact Le.none _)

def e_slices_Max_int_L1 (n_ : Nat) (y0 : List Int) (s2 : Int × Int) : Option ((Int × Int) ⊕ Int) :=
  if decide (s2.2 < (len y0)) then
    (idx y0 s2.2).bind fun x2 =>
    some (.inl (if x2 > s2.1 then x2 else s2.1, w64 (s2.2 + 1)))
  else
    some (.inr s2.1)

theorem le_slices_Max_int_L1 (n_ : Nat) (y0 : List Int) (s2 : Int × Int) : Le (e_slices_Max_int_L1 n_ y0 s2) (m_slices_Max_int_L1 y0 s2) := by
  unfold e_slices_Max_int_L1 m_slices_Max_int_L1
  repeat with_reducible (first | intro _ | exact Le.refl _ | apply Le.ite | apply Le.seqE | apply Le.bind | apply Le.lp | exact Le.none _)

def e_slices_Max_int (n_ : Nat) (y0 : List Int) : Option Int :=
  (
    if decide ((len y0) < 1) then
      none
    else
      some () : Option Unit).bind fun _ =>
  (idx y0 0).bind fun x1 =>
  (lp n_) ((e_slices_Max_int_L1 n_) y0) (x1, 1)

theorem le_slices_Max_int (n_ : Nat) (y0 : List Int) : Le (e_slices_Max_int n_ y0) (m_slices_Max_int y0) := by
  unfold e_slices_Max_int m_slices_Max_int
  repeat with_reducible (first | intro _ | apply le_slices_Max_int_L1 | exact Le.refl _ | apply Le.ite | apply Le.seqE | apply Le.bind | apply Le.lp | exact Le.none _)

def e_slices_Min_int_L1 (n_ : Nat) (y0 : List Int) (s2 : Int × Int) : Option ((Int × Int) ⊕ Int) :=
  if decide (s2.2 < (len y0)) then
    (idx y0 s2.2).bind fun x2 =>
    some (.inl (if x2 < s2.1 then x2 else s2.1, w64 (s2.2 + 1)))
  else
    some (.inr s2.1)

theorem le_slices_Min_int_L1 (n_ : Nat) (y0 : List Int) (s2 : Int × Int) : Le (e_slices_Min_int_L1 n_ y0 s2) (m_slices_Min_int_L1 y0 s2) := by
  unfold e_slices_Min_int_L1 m_slices_Min_int_L1
  repeat with_reducible (first | intro _ | exact Le.refl _ | apply Le.ite | apply Le.seqE | apply Le.bind | apply Le.lp | exact Le.none _)

def e_slices_Min_int (n_ : Nat) (y0 : List Int) : Option Int :=
  (
    if decide ((len y0) < 1) then
      none
    else
      some () : Option Unit).bind fun _ =>
  (idx y0 0).bind fun x1 =>
  (lp n_) ((e_slices_Min_int_L1 n_) y0) (x1, 1)

theorem le_slices_Min_int (n_ : Nat) (y0 : List Int) : Le (e_slices_Min_int n_ y0) (m_slices_Min_int y0) := by
  unfold e_slices_Min_int m_slices_Min_int
  repeat with_reducible (first | intro _ | apply le_slices_Min_int_L1 | exact Le.refl _ | apply Le.ite | apply Le.seqE | apply Le.bind | apply Le.lp | exact Le.none _)

def e_lift_SetLess (n_ : Nat) (y0 : List Int) (y1 : List Int) (y2 : Int) : Option Bool :=
  if if y2 != 1 then (y2 != 2) || ((len y0) == 0) else (len y0) == 0 then
    some false
  else
    if (len y1) == 0 then
      some true
    else
      if y2 == 1 then
        ((e_slices_Min_int n_) y0).bind fun r1 =>
        ((e_slices_Min_int n_) y1).bind fun r2 =>
        some (decide (r1 < r2))
      else
        ((e_slices_Max_int n_) y0).bind fun r3 =>
        ((e_slices_Max_int n_) y1).bind fun r4 =>
        some (decide (r3 < r4))

theorem le_lift_SetLess (n_ : Nat) (y0 : List Int) (y1 : List Int) (y2 : Int) : Le (e_lift_SetLess n_ y0 y1 y2) (m_lift_SetLess y0 y1 y2) := by
  unfold e_lift_SetLess m_lift_SetLess
  repeat with_reducible (first | intro _ | apply le_slices_Max_int | apply le_slices_Min_int | exact Le.refl _ | apply Le.ite | apply Le.seqE | apply Le.bind | apply Le.lp | exact Le.none _)

def e_lift_Less_1__lift_LastRanks (n_ : Nat) (y0 : T_Base) (y1 : List T_Argument) (y2 : Int) (y3 : Int) (y4 : T_Ordering) : Option Bool :=
  ((e_lift_LastRanks n_) y0 y1 y2).bind fun r1 =>
  ((e_lift_LastRanks n_) y0 y1 y3).bind fun r2 =>
  ((e_lift_SetLess n_) r1 r2 y4.2).bind fun r3 =>
  some r3

theorem le_lift_Less_1__lift_LastRanks (n_ : Nat) (y0 : T_Base) (y1 : List T_Argument) (y2 : Int) (y3 : Int) (y4 : T_Ordering) : Le (e_lift_Less_1__lift_LastRanks n_ y0 y1 y2 y3 y4) (m_lift_Less_1__lift_LastRanks y0 y1 y2 y3 y4) := by
  unfold e_lift_Less_1__lift_LastRanks m_lift_Less_1__lift_LastRanks
  repeat with_reducible (first | intro _ | apply le_lift_SetLess | apply le_lift_LastRanks | exact Le.refl _ | apply Le.ite | apply Le.seqE | apply Le.bind | apply Le.lp | exact Le.none _)

def e_lift_PremiseRanks_L1 (n_ : Nat) (r1 : (List Int)) (y0 : T_Base) (s1 : (List Int) × Int) : Option (((List Int) × Int) ⊕ (List Int)) :=
  if decide (s1.2 < (len r1)) then
    (idx r1 s1.2).bind fun x1 =>
    (idx y0.1 x1).bind fun x2 =>
    if x2.2.1 == 2 then
      (app s1.1 ([x2.2.2.1] : List Int)).bind fun x3 =>
      some (.inl (x3, w64 (s1.2 + 1)))
    else
      if x2.2.1 == 3 then
        (app s1.1 ([(-1)] : List Int)).bind fun x4 =>
        some (.inl (x4, w64 (s1.2 + 1)))
      else
        some (.inl (s1.1, w64 (s1.2 + 1)))
  else
    some (.inr s1.1)

theorem le_lift_PremiseRanks_L1 (n_ : Nat) (r1 : (List Int)) (y0 : T_Base) (s1 : (List Int) × Int) : Le (e_lift_PremiseRanks_L1 n_ r1 y0 s1) (m_lift_PremiseRanks_L1 r1 y0 s1) := by
  unfold e_lift_PremiseRanks_L1 m_lift_PremiseRanks_L1
  repeat with_reducible (first | intro _ | exact Le.refl _ | apply Le.ite | apply Le.seqE | apply Le.bind | apply Le.lp | exact Le.none _)

def e_lift_PremiseRanks (n_ : Nat) (y0 : T_Base) (y1 : List T_Argument) (y2 : Int) : Option (List Int) :=
  ((e_argument_Premises n_) y1 y2).bind fun r1 =>
  (lp n_) ((e_lift_PremiseRanks_L1 n_) r1 y0) (([] : List Int), 0)

theorem le_lift_PremiseRanks (n_ : Nat) (y0 : T_Base) (y1 : List T_Argument) (y2 : Int) : Le (e_lift_PremiseRanks n_ y0 y1 y2) (m_lift_PremiseRanks y0 y1 y2) := by
  unfold e_lift_PremiseRanks m_lift_PremiseRanks
  repeat with_reducible (first | intro _ | apply le_lift_PremiseRanks_L1 | apply le_argument_Premises | exact Le.refl _ | apply Le.ite | apply Le.seqE | apply Le.bind | apply Le.lp | exact Le.none _)

def e_lift_Less_1__lift_PremiseRanks (n_ : Nat) (y0 : T_Base) (y1 : List T_Argument) (y2 : Int) (y3 : Int) (y4 : T_Ordering) : Option Bool :=
  ((e_lift_PremiseRanks n_) y0 y1 y2).bind fun r1 =>
  ((e_lift_PremiseRanks n_) y0 y1 y3).bind fun r2 =>
  ((e_lift_SetLess n_) r1 r2 y4.2).bind fun r3 =>
  some r3

theorem le_lift_Less_1__lift_PremiseRanks (n_ : Nat) (y0 : T_Base) (y1 : List T_Argument) (y2 : Int) (y3 : Int) (y4 : T_Ordering) : Le (e_lift_Less_1__lift_PremiseRanks n_ y0 y1 y2 y3 y4) (m_lift_Less_1__lift_PremiseRanks y0 y1 y2 y3 y4) := by
  unfold e_lift_Less_1__lift_PremiseRanks m_lift_Less_1__lift_PremiseRanks
  repeat with_reducible (first | intro _ | apply le_lift_SetLess | apply le_lift_PremiseRanks | exact Le.refl _ | apply Le.ite | apply Le.seqE | apply Le.bind | apply Le.lp | exact Le.none _)

def e_lift_Less_2__lift_LastRanks (n_ : Nat) (y0 : T_Base) (y1 : List T_Argument) (y2 : Int) (y3 : Int) : Option Bool :=
  (
    ((e_lift_LastRanks n_) y0 y1 y2).bind fun r1 =>
    if (len r1) == 0 then
      ((e_lift_LastRanks n_) y0 y1 y3).bind fun r2 =>
      some ((len r2) == 0)
    else
      some false : Option Bool).bind fun s1 =>
  some s1

theorem le_lift_Less_2__lift_LastRanks (n_ : Nat) (y0 : T_Base) (y1 : List T_Argument) (y2 : Int) (y3 : Int) : Le (e_lift_Less_2__lift_LastRanks n_ y0 y1 y2 y3) (m_lift_Less_2__lift_LastRanks y0 y1 y2 y3) := by
  unfold e_lift_Less_2__lift_LastRanks m_lift_Less_2__lift_LastRanks
  repeat with_reducible (first | intro _ | apply le_lift_LastRanks | exact Le.refl _ | apply Le.ite | apply Le.seqE | apply Le.bind | apply Le.lp | exact Le.none _)

def e_lift_Less_3__lift_Less_1 (n_ : Nat) (y1 : T_Base) (y2 : List T_Argument) (y3 : Int) (y4 : Int) (y5 : T_Ordering) : Option Bool :=
  (
    ((e_lift_Less_1__lift_LastRanks n_) y1 y2 y3 y4 y5).bind fun r1 =>
    if r1 then
      some true
    else
      ((e_lift_Less_2__lift_LastRanks n_) y1 y2 y3 y4).bind fun r2 =>
      if r2 then
        ((e_lift_Less_1__lift_PremiseRanks n_) y1 y2 y3 y4 y5).bind fun r3 =>
        some r3
      else
        some false : Option Bool).bind fun s1 =>
  some s1

theorem le_lift_Less_3__lift_Less_1 (n_ : Nat) (y1 : T_Base) (y2 : List T_Argument) (y3 : Int) (y4 : Int) (y5 : T_Ordering) : Le (e_lift_Less_3__lift_Less_1 n_ y1 y2 y3 y4 y5) (m_lift_Less_3__lift_Less_1 y1 y2 y3 y4 y5) := by
  unfold e_lift_Less_3__lift_Less_1 m_lift_Less_3__lift_Less_1
  repeat with_reducible (first | intro _ | apply le_lift_Less_1__lift_PremiseRanks | apply le_lift_Less_2__lift_LastRanks | apply le_lift_Less_1__lift_LastRanks | exact Le.refl _ | apply Le.ite | apply Le.seqE | apply Le.bind | apply Le.lp | exact Le.none _)

def e_argument_Defeasible_L1 (n_ : Nat) (r1 : (List Int)) (y1 : List T_Argument) (y0 : T_Base) (s2 : (List Int) × Int) : Option (((List Int) × Int) ⊕ (List Int)) :=
  if decide (s2.2 < (len r1)) then
    (idx r1 s2.2).bind fun x1 =>
    (idx y1 x1).bind fun x2 =>
    (
      if decide (0 ≤ x2.2.1) then
        (idx y0.2.1 x2.2.1).bind fun x3 =>
        some (!x3.2.1)
      else
        some false : Option Bool).bind fun s3 =>
    if s3 then
      (app s2.1 ([x2.2.1] : List Int)).bind fun x4 =>
      some (.inl (x4, w64 (s2.2 + 1)))
    else
      some (.inl (s2.1, w64 (s2.2 + 1)))
  else
    some (.inr s2.1)

theorem le_argument_Defeasible_L1 (n_ : Nat) (r1 : (List Int)) (y1 : List T_Argument) (y0 : T_Base) (s2 : (List Int) × Int) : Le (e_argument_Defeasible_L1 n_ r1 y1 y0 s2) (m_argument_Defeasible_L1 r1 y1 y0 s2) := by
  unfold e_argument_Defeasible_L1 m_argument_Defeasible_L1
  repeat with_reducible (first | intro _ | exact Le.refl _ | apply Le.ite | apply Le.seqE | apply Le.bind | apply Le.lp | exact Le.none _)

def e_argument_Defeasible (n_ : Nat) (y0 : T_Base) (y1 : List T_Argument) (y2 : Int) : Option (List Int) :=
  (
    ((e_argument_Subs n_) y1 y2).bind fun r1 =>
    (lp n_) ((e_argument_Defeasible_L1 n_) r1 y1 y0) (([] : List Int), 0) : Option (List Int)).bind fun s1 =>
  ((e_slices_Sort_int n_) s1).bind fun r2 =>
  ((e_slices_Compact_int n_) r2).bind fun r3 =>
  some r3

theorem le_argument_Defeasible (n_ : Nat) (y0 : T_Base) (y1 : List T_Argument) (y2 : Int) : Le (e_argument_Defeasible n_ y0 y1 y2) (m_argument_Defeasible y0 y1 y2) := by
  unfold e_argument_Defeasible m_argument_Defeasible
  repeat with_reducible (first | intro _ | apply le_slices_Compact_int | apply le_slices_Sort_int | apply le_argument_Defeasible_L1 | apply le_argument_Subs | exact Le.refl _ | apply Le.ite | apply Le.seqE | apply Le.bind | apply Le.lp | exact Le.none _)

def e_lift_RuleRanks (n_ : Nat) (y0 : T_Base) (y1 : List T_Argument) (y2 : Int) : Option (List Int) :=
  ((e_argument_Defeasible n_) y0 y1 y2).bind fun r1 =>
  ((e_lift_ranks n_) y0 r1).bind fun r2 =>
  some r2

theorem le_lift_RuleRanks (n_ : Nat) (y0 : T_Base) (y1 : List T_Argument) (y2 : Int) : Le (e_lift_RuleRanks n_ y0 y1 y2) (m_lift_RuleRanks y0 y1 y2) := by
  unfold e_lift_RuleRanks m_lift_RuleRanks
  repeat with_reducible (first | intro _ | apply le_lift_ranks | apply le_argument_Defeasible | exact Le.refl _ | apply Le.ite | apply Le.seqE | apply Le.bind | apply Le.lp | exact Le.none _)

def e_lift_Less_1__lift_RuleRanks (n_ : Nat) (y0 : T_Base) (y1 : List T_Argument) (y2 : Int) (y3 : Int) (y4 : T_Ordering) : Option Bool :=
  ((e_lift_RuleRanks n_) y0 y1 y2).bind fun r1 =>
  ((e_lift_RuleRanks n_) y0 y1 y3).bind fun r2 =>
  ((e_lift_SetLess n_) r1 r2 y4.2).bind fun r3 =>
  some r3

theorem le_lift_Less_1__lift_RuleRanks (n_ : Nat) (y0 : T_Base) (y1 : List T_Argument) (y2 : Int) (y3 : Int) (y4 : T_Ordering) : Le (e_lift_Less_1__lift_RuleRanks n_ y0 y1 y2 y3 y4) (m_lift_Less_1__lift_RuleRanks y0 y1 y2 y3 y4) := by
  unfold e_lift_Less_1__lift_RuleRanks m_lift_Less_1__lift_RuleRanks
  repeat with_reducible (first | intro _ | apply le_lift_SetLess | apply le_lift_RuleRanks | exact Le.refl _ | apply Le.ite | apply Le.seqE | apply Le.bind | apply Le.lp | exact Le.none _)

def e_lift_Less_2__lift_PremiseRanks (n_ : Nat) (y0 : T_Base) (y1 : List T_Argument) (y2 : Int) (y3 : Int) : Option Bool :=
  (
    ((e_lift_PremiseRanks n_) y0 y1 y2).bind fun r1 =>
    if (len r1) == 0 then
      ((e_lift_PremiseRanks n_) y0 y1 y3).bind fun r2 =>
      some ((len r2) == 0)
    else
      some false : Option Bool).bind fun s1 =>
  some s1

theorem le_lift_Less_2__lift_PremiseRanks (n_ : Nat) (y0 : T_Base) (y1 : List T_Argument) (y2 : Int) (y3 : Int) : Le (e_lift_Less_2__lift_PremiseRanks n_ y0 y1 y2 y3) (m_lift_Less_2__lift_PremiseRanks y0 y1 y2 y3) := by
  unfold e_lift_Less_2__lift_PremiseRanks m_lift_Less_2__lift_PremiseRanks
  repeat with_reducible (first | intro _ | apply le_lift_PremiseRanks | exact Le.refl _ | apply Le.ite | apply Le.seqE | apply Le.bind | apply Le.lp | exact Le.none _)

def e_lift_Less_2__lift_RuleRanks (n_ : Nat) (y0 : T_Base) (y1 : List T_Argument) (y2 : Int) (y3 : Int) : Option Bool :=
  (
    ((e_lift_RuleRanks n_) y0 y1 y2).bind fun r1 =>
    if (len r1) == 0 then
      ((e_lift_RuleRanks n_) y0 y1 y3).bind fun r2 =>
      some ((len r2) == 0)
    else
      some false : Option Bool).bind fun s1 =>
  some s1

theorem le_lift_Less_2__lift_RuleRanks (n_ : Nat) (y0 : T_Base) (y1 : List T_Argument) (y2 : Int) (y3 : Int) : Le (e_lift_Less_2__lift_RuleRanks n_ y0 y1 y2 y3) (m_lift_Less_2__lift_RuleRanks y0 y1 y2 y3) := by
  unfold e_lift_Less_2__lift_RuleRanks m_lift_Less_2__lift_RuleRanks
  repeat with_reducible (first | intro _ | apply le_lift_RuleRanks | exact Le.refl _ | apply Le.ite | apply Le.seqE | apply Le.bind | apply Le.lp | exact Le.none _)

def e_lift_Less_4__lift_Less_2 (n_ : Nat) (y1 : T_Base) (y2 : List T_Argument) (y3 : Int) (y4 : Int) (y6 : T_Ordering) : Option Bool :=
  ((e_lift_Less_2__lift_RuleRanks n_) y1 y2 y3 y4).bind fun r1 =>
  if r1 then
    ((e_lift_Less_1__lift_PremiseRanks n_) y1 y2 y3 y4 y6).bind fun r2 =>
    some r2
  else
    ((e_lift_Less_2__lift_PremiseRanks n_) y1 y2 y3 y4).bind fun r3 =>
    if r3 then
      ((e_lift_Less_1__lift_RuleRanks n_) y1 y2 y3 y4 y6).bind fun r4 =>
      some r4
    else
      (
        ((e_lift_Less_1__lift_PremiseRanks n_) y1 y2 y3 y4 y6).bind fun r5 =>
        if r5 then
          ((e_lift_Less_1__lift_RuleRanks n_) y1 y2 y3 y4 y6).bind fun r6 =>
          some r6
        else
          some false : Option Bool).bind fun s1 =>
      some s1

theorem le_lift_Less_4__lift_Less_2 (n_ : Nat) (y1 : T_Base) (y2 : List T_Argument) (y3 : Int) (y4 : Int) (y6 : T_Ordering) : Le (e_lift_Less_4__lift_Less_2 n_ y1 y2 y3 y4 y6) (m_lift_Less_4__lift_Less_2 y1 y2 y3 y4 y6) := by
  unfold e_lift_Less_4__lift_Less_2 m_lift_Less_4__lift_Less_2
  repeat with_reducible (first | intro _ | apply le_lift_Less_1__lift_RuleRanks | apply le_lift_Less_2__lift_PremiseRanks | apply le_lift_Less_1__lift_PremiseRanks | apply le_lift_Less_2__lift_RuleRanks | exact Le.refl _ | apply Le.ite | apply Le.seqE | apply Le.bind | apply Le.lp | exact Le.none _)

def e_lift_Less (n_ : Nat) (y0 : T_Base) (y1 : List T_Argument) (y2 : Int) (y3 : Int) (y4 : T_Ordering) : Option Bool :=
  (
    if decide ((if y3 < y2 then y3 else y2) < 0) then
      some true
    else
      if decide ((len y1) ≤ (if y3 > y2 then y3 else y2)) then
        some true
      else
        ((e_lift_Assumes n_) y0 y1 y3).bind fun r1 =>
        some r1 : Option Bool).bind fun s1 =>
  if s1 then
    some false
  else
    if y4.1 == 1 then
      ((e_lift_Less_3__lift_Less_1 n_) y0 y1 y2 y3 y4).bind fun r2 =>
      some r2
    else
      if y4.1 == 2 then
        ((e_lift_Less_4__lift_Less_2 n_) y0 y1 y2 y3 y4).bind fun r3 =>
        some r3
      else
        some false

theorem le_lift_Less (n_ : Nat) (y0 : T_Base) (y1 : List T_Argument) (y2 : Int) (y3 : Int) (y4 : T_Ordering) : Le (e_lift_Less n_ y0 y1 y2 y3 y4) (m_lift_Less y0 y1 y2 y3 y4) := by
  unfold e_lift_Less m_lift_Less
  repeat with_reducible (first | intro _ | apply le_lift_Less_4__lift_Less_2 | apply le_lift_Less_3__lift_Less_1 | apply le_lift_Assumes | exact Le.refl _ | apply Le.ite | apply Le.seqE | apply Le.bind | apply Le.lp | exact Le.none _)

def e_attack_Defeats_1 (n_ : Nat) (y0 : T_Attack) (y1 : T_Base) (y2 : List T_Argument) (y3 : T_Ordering) : Option Bool :=
  (
    if y0.2.2.2 != 3 then
      ((e_lift_Less n_) y1 y2 y0.1 y0.2.2.1 y3).bind fun r1 =>
      some r1
    else
      some false : Option Bool).bind fun s1 =>
  some s1

theorem le_attack_Defeats_1 (n_ : Nat) (y0 : T_Attack) (y1 : T_Base) (y2 : List T_Argument) (y3 : T_Ordering) : Le (e_attack_Defeats_1 n_ y0 y1 y2 y3) (m_attack_Defeats_1 y0 y1 y2 y3) := by
  unfold e_attack_Defeats_1 m_attack_Defeats_1
  repeat with_reducible (first | intro _ | apply le_lift_Less | exact Le.refl _ | apply Le.ite | apply Le.seqE | apply Le.bind | apply Le.lp | exact Le.none _)

def e_slices_IndexFunc_Attack__attack_Defeats_1_L1 (n_ : Nat) (y0 : List T_Attack) (y1 : T_Base) (y2 : List T_Argument) (y3 : T_Ordering) (s1 : Int) : Option (Int ⊕ Int) :=
  if decide (s1 < (len y0)) then
    (idx y0 s1).bind fun x1 =>
    ((e_attack_Defeats_1 n_) x1 y1 y2 y3).bind fun r1 =>
    if r1 then
      some (.inr s1)
    else
      some (.inl (w64 (s1 + 1)))
  else
    some (.inr (-1))

theorem le_slices_IndexFunc_Attack__attack_Defeats_1_L1 (n_ : Nat) (y0 : List T_Attack) (y1 : T_Base) (y2 : List T_Argument) (y3 : T_Ordering) (s1 : Int) : Le (e_slices_IndexFunc_Attack__attack_Defeats_1_L1 n_ y0 y1 y2 y3 s1) (m_slices_IndexFunc_Attack__attack_Defeats_1_L1 y0 y1 y2 y3 s1) := by
  unfold e_slices_IndexFunc_Attack__attack_Defeats_1_L1 m_slices_IndexFunc_Attack__attack_Defeats_1_L1
  repeat with_reducible (first | intro _ | apply le_attack_Defeats_1 | exact Le.refl _ | apply Le.ite | apply Le.seqE | apply Le.bind | apply Le.lp | exact Le.none _)

def e_slices_IndexFunc_Attack__attack_Defeats_1 (n_ : Nat) (y0 : List T_Attack) (y1 : T_Base) (y2 : List T_Argument) (y3 : T_Ordering) : Option Int :=
  (lp n_) ((e_slices_IndexFunc_Attack__attack_Defeats_1_L1 n_) y0 y1 y2 y3) 0

theorem le_slices_IndexFunc_Attack__attack_Defeats_1 (n_ : Nat) (y0 : List T_Attack) (y1 : T_Base) (y2 : List T_Argument) (y3 : T_Ordering) : Le (e_slices_IndexFunc_Attack__attack_Defeats_1 n_ y0 y1 y2 y3) (m_slices_IndexFunc_Attack__attack_Defeats_1 y0 y1 y2 y3) := by
  unfold e_slices_IndexFunc_Attack__attack_Defeats_1 m_slices_IndexFunc_Attack__attack_Defeats_1
  repeat with_reducible (first | intro _ | apply le_slices_IndexFunc_Attack__attack_Defeats_1_L1 | exact Le.refl _ | apply Le.ite | apply Le.seqE | apply Le.bind | apply Le.lp | exact Le.none _)

def e_slices_DeleteFunc_Attack__attack_Defeats_1_L1 (n_ : Nat) (y0 : List T_Attack) (y1 : T_Base) (y2 : List T_Argument) (y3 : T_Ordering) (s2 : (List T_Attack) × Int × Int) : Option (((List T_Attack) × Int × Int) ⊕ ((List T_Attack) × Int)) :=
  if decide (s2.2.2 < (len y0)) then
    (idx s2.1 s2.2.2).bind fun x1 =>
    ((e_attack_Defeats_1 n_) x1 y1 y2 y3).bind fun r2 =>
    if !r2 then
      (idx s2.1 s2.2.1).bind fun _ =>
      some (.inl (List.set s2.1 (Int.toNat s2.2.1) x1, w64 (s2.2.1 + 1), w64 (s2.2.2 + 1)))
    else
      some (.inl (s2.1, s2.2.1, w64 (s2.2.2 + 1)))
  else
    some (.inr (s2.1, s2.2.1))

theorem le_slices_DeleteFunc_Attack__attack_Defeats_1_L1 (n_ : Nat) (y0 : List T_Attack) (y1 : T_Base) (y2 : List T_Argument) (y3 : T_Ordering) (s2 : (List T_Attack) × Int × Int) : Le (e_slices_DeleteFunc_Attack__attack_Defeats_1_L1 n_ y0 y1 y2 y3 s2) (m_slices_DeleteFunc_Attack__attack_Defeats_1_L1 y0 y1 y2 y3 s2) := by
  unfold e_slices_DeleteFunc_Attack__attack_Defeats_1_L1 m_slices_DeleteFunc_Attack__attack_Defeats_1_L1
  repeat with_reducible (first | intro _ | apply le_attack_Defeats_1 | exact Le.refl _ | apply Le.ite | apply Le.seqE | apply Le.bind | apply Le.lp | exact Le.none _)

def e_slices_DeleteFunc_Attack__attack_Defeats_1 (n_ : Nat) (y0 : List T_Attack) (y1 : T_Base) (y2 : List T_Argument) (y3 : T_Ordering) : Option (List T_Attack) :=
  ((e_slices_IndexFunc_Attack__attack_Defeats_1 n_) y0 y1 y2 y3).bind fun r1 =>
  if r1 == (-1) then
    some y0
  else
    ((lp n_) ((e_slices_DeleteFunc_Attack__attack_Defeats_1_L1 n_) y0 y1 y2 y3) (y0, r1, w64 (r1 + 1)) : Option ((List T_Attack) × Int)).bind fun s1 =>
    (chk (decide (0 ≤ s1.2) && decide (s1.2 ≤ len s1.1))).bind fun _ =>
    (sub (clearFrom s1.1 s1.2 (0, 0, 0, 0)) 0 s1.2).bind fun x3 =>
    some x3

theorem le_slices_DeleteFunc_Attack__attack_Defeats_1 (n_ : Nat) (y0 : List T_Attack) (y1 : T_Base) (y2 : List T_Argument) (y3 : T_Ordering) : Le (e_slices_DeleteFunc_Attack__attack_Defeats_1 n_ y0 y1 y2 y3) (m_slices_DeleteFunc_Attack__attack_Defeats_1 y0 y1 y2 y3) := by
  unfold e_slices_DeleteFunc_Attack__attack_Defeats_1 m_slices_DeleteFunc_Attack__attack_Defeats_1
  repeat with_reducible (first | intro _ | apply le_slices_DeleteFunc_Attack__attack_Defeats_1_L1 | apply le_slices_IndexFunc_Attack__attack_Defeats_1 | exact Le.refl _ | apply Le.ite | apply Le.seqE | apply Le.bind | apply Le.lp | exact Le.none _)

def e_attack_Defeats (n_ : Nat) (y0 : T_Base) (y1 : List T_Argument) (y2 : T_Ordering) : Option (List T_Attack) :=
  ((e_attack_Attacks n_) y0 y1).bind fun r1 =>
  ((e_slices_DeleteFunc_Attack__attack_Defeats_1 n_) r1 y0 y1 y2).bind fun r2 =>
  some r2

theorem le_attack_Defeats (n_ : Nat) (y0 : T_Base) (y1 : List T_Argument) (y2 : T_Ordering) : Le (e_attack_Defeats n_ y0 y1 y2) (m_attack_Defeats y0 y1 y2) := by
  unfold e_attack_Defeats m_attack_Defeats
  repeat with_reducible (first | intro _ | apply le_slices_DeleteFunc_Attack__attack_Defeats_1 | apply le_attack_Attacks | exact Le.refl _ | apply Le.ite | apply Le.seqE | apply Le.bind | apply Le.lp | exact Le.none _)

def e_slices_Compact_Pair_L2 (n_ : Nat) (y0 : List T_Pair) (s1 : Int) (s3 : (List T_Pair) × Int × Int) : Option (((List T_Pair) × Int × Int) ⊕ ((List T_Pair) × Int)) :=
  if decide (s3.2.2 < ((Int.toNat (((List.length y0 : Nat) : Int) - s1) : Nat) : Int)) then
    (idxV s3.1 s1 s3.2.2).bind fun x3 =>
    (idxV s3.1 s1 (w64 (s3.2.2 - 1))).bind fun x4 =>
    if !(x3 == x4) then
      (idxV s3.1 s1 s3.2.2).bind fun x5 =>
      (idx s3.1 s3.2.1).bind fun _ =>
      some (.inl (List.set s3.1 (Int.toNat s3.2.1) x5, w64 (s3.2.1 + 1), w64 (s3.2.2 + 1)))
    else
      some (.inl (s3.1, s3.2.1, w64 (s3.2.2 + 1)))
  else
    some (.inr (s3.1, s3.2.1))

theorem le_slices_Compact_Pair_L2 (n_ : Nat) (y0 : List T_Pair) (s1 : Int) (s3 : (List T_Pair) × Int × Int) : Le (e_slices_Compact_Pair_L2 n_ y0 s1 s3) (m_slices_Compact_Pair_L2 y0 s1 s3) := by
  unfold e_slices_Compact_Pair_L2 m_slices_Compact_Pair_L2
  repeat with_reducible (first | intro _ | exact Le.refl _ | apply Le.ite | apply Le.seqE | apply Le.bind | apply Le.lp | exact Le.none _)

def e_slices_Compact_Pair_L1 (n_ : Nat) (y0 : List T_Pair) (s1 : Int) : Option (Int ⊕ (List T_Pair)) :=
  if decide (s1 < (len y0)) then
    (idx y0 s1).bind fun x1 =>
    (idx y0 (w64 (s1 - 1))).bind fun x2 =>
    if x1 == x2 then
      (chk (decide (0 ≤ s1) && decide (s1 ≤ len y0))).bind fun _ =>
      ((lp n_) ((e_slices_Compact_Pair_L2 n_) y0 s1) (y0, s1, 1) : Option ((List T_Pair) × Int)).bind fun s2 =>
      (chk (decide (0 ≤ s2.2) && decide (s2.2 ≤ len s2.1))).bind fun _ =>
      (sub (clearFrom s2.1 s2.2 (0, 0)) 0 s2.2).bind fun x7 =>
      some (.inr x7)
    else
      some (.inl (w64 (s1 + 1)))
  else
    some (.inr y0)

theorem le_slices_Compact_Pair_L1 (n_ : Nat) (y0 : List T_Pair) (s1 : Int) : Le (e_slices_Compact_Pair_L1 n_ y0 s1) (m_slices_Compact_Pair_L1 y0 s1) := by
  unfold e_slices_Compact_Pair_L1 m_slices_Compact_Pair_L1
  repeat with_reducible (first | intro _ | apply le_slices_Compact_Pair_L2 | exact Le.refl _ | apply Le.ite | apply Le.seqE | apply Le.bind | apply Le.lp | exact Le.none _)

def e_slices_Compact_Pair (n_ : Nat) (y0 : List T_Pair) : Option (List T_Pair) :=
  if decide ((len y0) < 2) then
    some y0
  else
    (lp n_) ((e_slices_Compact_Pair_L1 n_) y0) 1

theorem le_slices_Compact_Pair (n_ : Nat) (y0 : List T_Pair) : Le (e_slices_Compact_Pair n_ y0) (m_slices_Compact_Pair y0) := by
  unfold e_slices_Compact_Pair m_slices_Compact_Pair
  repeat with_reducible (first | intro _ | apply le_slices_Compact_Pair_L1 | exact Le.refl _ | apply Le.ite | apply Le.seqE | apply Le.bind | apply Le.lp | exact Le.none _)

def e_attack_Graph_L1 (n_ : Nat) (y1 : List T_Attack) (y0 : Int) (s2 : Int × (List T_Pair)) : Option ((Int × (List T_Pair)) ⊕ ((List T_Pair) ⊕ (T_Graph × Int))) :=
  if decide (s2.1 < (len y1)) then
    (idx y1 s2.1).bind fun x1 =>
    if (decide ((if x1.2.1 < x1.1 then x1.2.1 else x1.1) < 0)) || (decide (y0 ≤ (if x1.2.1 > x1.1 then x1.2.1 else x1.1))) then
      some (.inr (.inr ((0, ([] : List T_Pair)), 1)))
    else
      (app s2.2 ([(x1.1, x1.2.1)] : List T_Pair)).bind fun x2 =>
      some (.inl (w64 (s2.1 + 1), x2))
  else
    some (.inr (.inl s2.2))

theorem le_attack_Graph_L1 (n_ : Nat) (y1 : List T_Attack) (y0 : Int) (s2 : Int × (List T_Pair)) : Le (e_attack_Graph_L1 n_ y1 y0 s2) (m_attack_Graph_L1 y1 y0 s2) := by
  unfold e_attack_Graph_L1 m_attack_Graph_L1
  repeat with_reducible (first | intro _ | exact Le.refl _ | apply Le.ite | apply Le.seqE | apply Le.bind | apply Le.lp | exact Le.none _)

def e_attack_Graph (n_ : Nat) (y0 : Int) (y1 : List T_Attack) : Option (T_Graph × Int) :=
  if (decide (y0 < 0)) || (decide (40 < y0)) then
    some ((0, ([] : List T_Pair)), 1)
  else
    seqE ((lp n_) ((e_attack_Graph_L1 n_) y1 y0) (0, ([] : List T_Pair)) : Option ((List T_Pair) ⊕ (T_Graph × Int))) fun s1 =>
    ((e_slices_SortFunc_Pair__attack_Graph_1 n_) s1).bind fun r1 =>
    ((e_slices_Compact_Pair n_) r1).bind fun r2 =>
    some ((y0, r2), 0)

theorem le_attack_Graph (n_ : Nat) (y0 : Int) (y1 : List T_Attack) : Le (e_attack_Graph n_ y0 y1) (m_attack_Graph y0 y1) := by
  unfold e_attack_Graph m_attack_Graph
  repeat with_reducible (first | intro _ | apply le_slices_Compact_Pair | apply le_slices_SortFunc_Pair__attack_Graph_1 | apply le_attack_Graph_L1 | exact Le.refl _ | apply Le.ite | apply Le.seqE | apply Le.bind | apply Le.lp | exact Le.none _)

def e_ref01_ValidName_L1 (n_ : Nat) (y0 : Str) (s2 : Int) : Option (Int ⊕ Bool) :=
  if decide (s2 < (len y0)) then
    (
      (sidx y0 s2).bind fun x3 =>
      if decide (x3 < 97) then
        (sidx y0 s2).bind fun x4 =>
        if decide (x4 < 48) then
          (sidx y0 s2).bind fun x5 =>
          some (x5 != 95)
        else
          (sidx y0 s2).bind fun x6 =>
          if decide (57 < x6) then
            (sidx y0 s2).bind fun x7 =>
            some (x7 != 95)
          else
            some false
      else
        (sidx y0 s2).bind fun x8 =>
        if decide (122 < x8) then
          (sidx y0 s2).bind fun x9 =>
          if decide (x9 < 48) then
            (sidx y0 s2).bind fun x10 =>
            some (x10 != 95)
          else
            (sidx y0 s2).bind fun x11 =>
            if decide (57 < x11) then
              (sidx y0 s2).bind fun x12 =>
              some (x12 != 95)
            else
              some false
        else
          some false : Option Bool).bind fun s3 =>
    if s3 then
      some (.inr false)
    else
      some (.inl (w64 (s2 + 1)))
  else
    some (.inr true)

theorem le_ref01_ValidName_L1 (n_ : Nat) (y0 : Str) (s2 : Int) : Le (e_ref01_ValidName_L1 n_ y0 s2) (m_ref01_ValidName_L1 y0 s2) := by
  unfold e_ref01_ValidName_L1 m_ref01_ValidName_L1
  repeat with_reducible (first | intro _ | exact Le.refl _ | apply Le.ite | apply Le.seqE | apply Le.bind | apply Le.lp | exact Le.none _)

def e_ref01_ValidName (n_ : Nat) (y0 : Str) : Option Bool :=
  (
    if decide ((len y0) < 1) then
      some true
    else
      if decide (12 < (len y0)) then
        some true
      else
        (sidx y0 0).bind fun x1 =>
        if decide (x1 < 97) then
          some true
        else
          (sidx y0 0).bind fun x2 =>
          some (decide (122 < x2)) : Option Bool).bind fun s1 =>
  if s1 then
    some false
  else
    (lp n_) ((e_ref01_ValidName_L1 n_) y0) 0

theorem le_ref01_ValidName (n_ : Nat) (y0 : Str) : Le (e_ref01_ValidName n_ y0) (m_ref01_ValidName y0) := by
  unfold e_ref01_ValidName m_ref01_ValidName
  repeat with_reducible (first | intro _ | apply le_ref01_ValidName_L1 | exact Le.refl _ | apply Le.ite | apply Le.seqE | apply Le.bind | apply Le.lp | exact Le.none _)

def e_ref01_Valid (n_ : Nat) (y0 : T_Literal) : Option Bool :=
  ((e_ref01_ValidName n_) y0.2).bind fun r1 =>
  some r1

theorem le_ref01_Valid (n_ : Nat) (y0 : T_Literal) : Le (e_ref01_Valid n_ y0) (m_ref01_Valid y0) := by
  unfold e_ref01_Valid m_ref01_Valid
  repeat with_reducible (first | intro _ | apply le_ref01_ValidName | exact Le.refl _ | apply Le.ite | apply Le.seqE | apply Le.bind | apply Le.lp | exact Le.none _)

def e_ref05_Find_L1 (n_ : Nat) (y0 : T_Base) (y1 : Str) (s1 : Int) : Option (Int ⊕ Int) :=
  if decide (s1 < (len y0.2.1)) then
    (idx y0.2.1 s1).bind fun x1 =>
    if x1.1 == y1 then
      some (.inr s1)
    else
      some (.inl (w64 (s1 + 1)))
  else
    some (.inr (-1))

theorem le_ref05_Find_L1 (n_ : Nat) (y0 : T_Base) (y1 : Str) (s1 : Int) : Le (e_ref05_Find_L1 n_ y0 y1 s1) (m_ref05_Find_L1 y0 y1 s1) := by
  unfold e_ref05_Find_L1 m_ref05_Find_L1
  repeat with_reducible (first | intro _ | exact Le.refl _ | apply Le.ite | apply Le.seqE | apply Le.bind | apply Le.lp | exact Le.none _)

def e_ref05_Find (n_ : Nat) (y0 : T_Base) (y1 : Str) : Option Int :=
  (lp n_) ((e_ref05_Find_L1 n_) y0 y1) 0

theorem le_ref05_Find (n_ : Nat) (y0 : T_Base) (y1 : Str) : Le (e_ref05_Find n_ y0 y1) (m_ref05_Find y0 y1) := by
  unfold e_ref05_Find m_ref05_Find
  repeat with_reducible (first | intro _ | apply le_ref05_Find_L1 | exact Le.refl _ | apply Le.ite | apply Le.seqE | apply Le.bind | apply Le.lp | exact Le.none _)

def e_ref05_Premise_L1 (n_ : Nat) (y0 : T_Base) (y1 : T_Literal) (s1 : Int) : Option (Int ⊕ Int) :=
  if decide (s1 < (len y0.1)) then
    (idx y0.1 s1).bind fun x1 =>
    if x1.1 == y1 then
      some (.inr s1)
    else
      some (.inl (w64 (s1 + 1)))
  else
    some (.inr (-1))

theorem le_ref05_Premise_L1 (n_ : Nat) (y0 : T_Base) (y1 : T_Literal) (s1 : Int) : Le (e_ref05_Premise_L1 n_ y0 y1 s1) (m_ref05_Premise_L1 y0 y1 s1) := by
  unfold e_ref05_Premise_L1 m_ref05_Premise_L1
  repeat with_reducible (first | intro _ | exact Le.refl _ | apply Le.ite | apply Le.seqE | apply Le.bind | apply Le.lp | exact Le.none _)

def e_ref05_Premise (n_ : Nat) (y0 : T_Base) (y1 : T_Literal) : Option Int :=
  (lp n_) ((e_ref05_Premise_L1 n_) y0 y1) 0

theorem le_ref05_Premise (n_ : Nat) (y0 : T_Base) (y1 : T_Literal) : Le (e_ref05_Premise n_ y0 y1) (m_ref05_Premise y0 y1) := by
  unfold e_ref05_Premise m_ref05_Premise
  repeat with_reducible (first | intro _ | apply le_ref05_Premise_L1 | exact Le.refl _ | apply Le.ite | apply Le.seqE | apply Le.bind | apply Le.lp | exact Le.none _)

def e_ref05_rank (n_ : Nat) (y0 : Int) : Option Bool :=
  some ((decide (0 ≤ y0)) && (decide (y0 ≤ 9)))

theorem le_ref05_rank (n_ : Nat) (y0 : Int) : Le (e_ref05_rank n_ y0) (m_ref05_rank y0) := by
  unfold e_ref05_rank m_ref05_rank
  repeat with_reducible (first | intro _ | exact Le.refl _ | apply Le.ite | apply Le.seqE | apply Le.bind | apply Le.lp | exact Le.none _)

def e_ref05_premise (n_ : Nat) (y0 : T_Premise) : Option Int :=
  if (decide (y0.2.1 < 1)) || (decide (3 < y0.2.1)) then
    some 4
  else
    (
      ((e_ref01_Valid n_) y0.1).bind fun r1 =>
      if !r1 then
        some true
      else
        ((e_ref05_rank n_) y0.2.2.1).bind fun r2 =>
        if !r2 then
          some true
        else
          if y0.2.1 != 2 then
            if y0.2.2.1 != 0 then
              some true
            else
              if !(y0.2.2.2 == []) then
                ((e_ref01_ValidName n_) y0.2.2.2).bind fun r3 =>
                some (!r3)
              else
                some false
          else
            if !(y0.2.2.2 == []) then
              ((e_ref01_ValidName n_) y0.2.2.2).bind fun r4 =>
              some (!r4)
            else
              some false : Option Bool).bind fun s1 =>
    if s1 then
      some 1
    else
      some 0

theorem le_ref05_premise (n_ : Nat) (y0 : T_Premise) : Le (e_ref05_premise n_ y0) (m_ref05_premise y0) := by
  unfold e_ref05_premise m_ref05_premise
  repeat with_reducible (first | intro _ | apply le_ref01_ValidName | apply le_ref05_rank | apply le_ref01_Valid | exact Le.refl _ | apply Le.ite | apply Le.seqE | apply Le.bind | apply Le.lp | exact Le.none _)

def e_ref01_Compare (n_ : Nat) (y0 : T_Literal) (y1 : T_Literal) : Option Int :=
  if y0 == y1 then
    some 0
  else
    if (sless y0.2 y1.2) || ((y0.2 == y1.2) && y1.1) then
      some (-1)
    else
      some 1

theorem le_ref01_Compare (n_ : Nat) (y0 : T_Literal) (y1 : T_Literal) : Le (e_ref01_Compare n_ y0 y1) (m_ref01_Compare y0 y1) := by
  unfold e_ref01_Compare m_ref01_Compare
  repeat with_reducible (first | intro _ | exact Le.refl _ | apply Le.ite | apply Le.seqE | apply Le.bind | apply Le.lp | exact Le.none _)

def e_ref05_rule_L1 (n_ : Nat) (y0 : T_Rule) (s3 : Bool × Int) : Option ((Bool × Int) ⊕ Bool) :=
  if decide (s3.2 < (len y0.2.2.2.1)) then
    (
      if s3.1 then
        (idx y0.2.2.2.1 s3.2).bind fun x1 =>
        ((e_ref01_Valid n_) x1).bind fun r5 =>
        some r5
      else
        some false : Option Bool).bind fun s4 =>
    some (.inl (s4, w64 (s3.2 + 1)))
  else
    some (.inr s3.1)

theorem le_ref05_rule_L1 (n_ : Nat) (y0 : T_Rule) (s3 : Bool × Int) : Le (e_ref05_rule_L1 n_ y0 s3) (m_ref05_rule_L1 y0 s3) := by
  unfold e_ref05_rule_L1 m_ref05_rule_L1
  repeat with_reducible (first | intro _ | apply le_ref01_Valid | exact Le.refl _ | apply Le.ite | apply Le.seqE | apply Le.bind | apply Le.lp | exact Le.none _)

def e_ref05_rule_L2 (n_ : Nat) (y0 : T_Rule) (s5 : Int) : Option (Int ⊕ Int) :=
  if decide (s5 < (len y0.2.2.2.1)) then
    (idx y0.2.2.2.1 (w64 (s5 - 1))).bind fun x2 =>
    (idx y0.2.2.2.1 s5).bind fun x3 =>
    ((e_ref01_Compare n_) x2 x3).bind fun r6 =>
    if decide (0 ≤ r6) then
      some (.inr 8)
    else
      some (.inl (w64 (s5 + 1)))
  else
    some (.inr 0)

theorem le_ref05_rule_L2 (n_ : Nat) (y0 : T_Rule) (s5 : Int) : Le (e_ref05_rule_L2 n_ y0 s5) (m_ref05_rule_L2 y0 s5) := by
  unfold e_ref05_rule_L2 m_ref05_rule_L2
  repeat with_reducible (first | intro _ | apply le_ref01_Compare | exact Le.refl _ | apply Le.ite | apply Le.seqE | apply Le.bind | apply Le.lp | exact Le.none _)

def e_ref05_rule (n_ : Nat) (y0 : T_Rule) : Option Int :=
  if decide (4 < (len y0.2.2.2.1)) then
    some 2
  else
    (
      ((e_ref01_ValidName n_) y0.1).bind fun r1 =>
      if r1 then
        ((e_ref05_rank n_) y0.2.2.1).bind fun r2 =>
        if r2 then
          if !y0.2.1 then
            ((e_ref01_Valid n_) y0.2.2.2.2).bind fun r3 =>
            some r3
          else
            if y0.2.2.1 == 0 then
              ((e_ref01_Valid n_) y0.2.2.2.2).bind fun r4 =>
              some r4
            else
              some false
        else
          some false
      else
        some false : Option Bool).bind fun s1 =>
    ((lp n_) ((e_ref05_rule_L1 n_) y0) (s1, 0) : Option Bool).bind fun s2 =>
    if !s2 then
      some 1
    else
      (lp n_) ((e_ref05_rule_L2 n_) y0) 1

theorem le_ref05_rule (n_ : Nat) (y0 : T_Rule) : Le (e_ref05_rule n_ y0) (m_ref05_rule y0) := by
  unfold e_ref05_rule m_ref05_rule
  repeat with_reducible (first | intro _ | apply le_ref05_rule_L2 | apply le_ref05_rule_L1 | apply le_ref01_Valid | apply le_ref05_rank | apply le_ref01_ValidName | exact Le.refl _ | apply Le.ite | apply Le.seqE | apply Le.bind | apply Le.lp | exact Le.none _)

def e_ref05_Validate_L1 (n_ : Nat) (y0 : T_Base) (s2 : Int) : Option (Int ⊕ (Unit ⊕ Int)) :=
  if decide (s2 < (len y0.1)) then
    (idx y0.1 s2).bind fun x1 =>
    ((e_ref05_premise n_) x1).bind fun r1 =>
    if r1 != 0 then
      some (.inr (.inr r1))
    else
      (idx y0.1 s2).bind fun x2 =>
      ((e_ref05_Premise n_) y0 x2.1).bind fun r2 =>
      if decide (r2 < s2) then
        some (.inr (.inr 5))
      else
        some (.inl (w64 (s2 + 1)))
  else
    some (.inr (.inl ()))

theorem le_ref05_Validate_L1 (n_ : Nat) (y0 : T_Base) (s2 : Int) : Le (e_ref05_Validate_L1 n_ y0 s2) (m_ref05_Validate_L1 y0 s2) := by
  unfold e_ref05_Validate_L1 m_ref05_Validate_L1
  repeat with_reducible (first | intro _ | apply le_ref05_Premise | apply le_ref05_premise | exact Le.refl _ | apply Le.ite | apply Le.seqE | apply Le.bind | apply Le.lp | exact Le.none _)

def e_ref05_Validate_L2 (n_ : Nat) (y0 : T_Base) (s4 : Int) : Option (Int ⊕ (Unit ⊕ Int)) :=
  if decide (s4 < (len y0.2.1)) then
    (idx y0.2.1 s4).bind fun x3 =>
    ((e_ref05_rule n_) x3).bind fun r3 =>
    if r3 != 0 then
      some (.inr (.inr r3))
    else
      (idx y0.2.1 s4).bind fun x4 =>
      ((e_ref05_Find n_) y0 x4.1).bind fun r4 =>
      if decide (r4 < s4) then
        some (.inr (.inr 5))
      else
        some (.inl (w64 (s4 + 1)))
  else
    some (.inr (.inl ()))

theorem le_ref05_Validate_L2 (n_ : Nat) (y0 : T_Base) (s4 : Int) : Le (e_ref05_Validate_L2 n_ y0 s4) (m_ref05_Validate_L2 y0 s4) := by
  unfold e_ref05_Validate_L2 m_ref05_Validate_L2
  repeat with_reducible (first | intro _ | apply le_ref05_Find | apply le_ref05_rule | exact Le.refl _ | apply Le.ite | apply Le.seqE | apply Le.bind | apply Le.lp | exact Le.none _)

def e_ref05_Validate_L3 (n_ : Nat) (y0 : T_Base) (s5 : Int) : Option (Int ⊕ Int) :=
  if decide (s5 < (len y0.2.2)) then
    (idx y0.2.2 s5).bind fun x5 =>
    (
      ((e_ref05_rank n_) x5.2.1).bind fun r5 =>
      if !r5 then
        some true
      else
        ((e_ref01_Valid n_) x5.2.2).bind fun r6 =>
        some (!r6) : Option Bool).bind fun s6 =>
    if s6 then
      some (.inr 1)
    else
      ((e_ref05_Find n_) y0 x5.1).bind fun r7 =>
      if decide (r7 < 0) then
        some (.inr 6)
      else
        (idx y0.2.1 r7).bind fun x6 =>
        if x6.2.1 then
          some (.inr 4)
        else
          some (.inl (w64 (s5 + 1)))
  else
    some (.inr 0)

theorem le_ref05_Validate_L3 (n_ : Nat) (y0 : T_Base) (s5 : Int) : Le (e_ref05_Validate_L3 n_ y0 s5) (m_ref05_Validate_L3 y0 s5) := by
  unfold e_ref05_Validate_L3 m_ref05_Validate_L3
  repeat with_reducible (first | intro _ | apply le_ref05_Find | apply le_ref01_Valid | apply le_ref05_rank | exact Le.refl _ | apply Le.ite | apply Le.seqE | apply Le.bind | apply Le.lp | exact Le.none _)

def e_ref05_Validate (n_ : Nat) (y0 : T_Base) : Option Int :=
  if (decide (16 < (len y0.1))) || ((decide (24 < (len y0.2.1))) || (decide (8 < (len y0.2.2)))) then
    some 2
  else
    seqE ((lp n_) ((e_ref05_Validate_L1 n_) y0) 0 : Option (Unit ⊕ Int)) fun _ =>
    seqE ((lp n_) ((e_ref05_Validate_L2 n_) y0) 0 : Option (Unit ⊕ Int)) fun _ =>
    (lp n_) ((e_ref05_Validate_L3 n_) y0) 0

theorem le_ref05_Validate (n_ : Nat) (y0 : T_Base) : Le (e_ref05_Validate n_ y0) (m_ref05_Validate y0) := by
  unfold e_ref05_Validate m_ref05_Validate
  repeat with_reducible (first | intro _ | apply le_ref05_Validate_L3 | apply le_ref05_Validate_L2 | apply le_ref05_Validate_L1 | exact Le.refl _ | apply Le.ite | apply Le.seqE | apply Le.bind | apply Le.lp | exact Le.none _)

def e_ref01_Has_L1 (n_ : Nat) (y0 : List T_Literal) (y1 : T_Literal) (s1 : Int) : Option (Int ⊕ Bool) :=
  if decide (s1 < (len y0)) then
    (idx y0 s1).bind fun x1 =>
    if x1 == y1 then
      some (.inr true)
    else
      some (.inl (w64 (s1 + 1)))
  else
    some (.inr false)

theorem le_ref01_Has_L1 (n_ : Nat) (y0 : List T_Literal) (y1 : T_Literal) (s1 : Int) : Le (e_ref01_Has_L1 n_ y0 y1 s1) (m_ref01_Has_L1 y0 y1 s1) := by
  unfold e_ref01_Has_L1 m_ref01_Has_L1
  repeat with_reducible (first | intro _ | exact Le.refl _ | apply Le.ite | apply Le.seqE | apply Le.bind | apply Le.lp | exact Le.none _)

def e_ref01_Has (n_ : Nat) (y0 : List T_Literal) (y1 : T_Literal) : Option Bool :=
  (lp n_) ((e_ref01_Has_L1 n_) y0 y1) 0

theorem le_ref01_Has (n_ : Nat) (y0 : List T_Literal) (y1 : T_Literal) : Le (e_ref01_Has n_ y0 y1) (m_ref01_Has y0 y1) := by
  unfold e_ref01_Has m_ref01_Has
  repeat with_reducible (first | intro _ | apply le_ref01_Has_L1 | exact Le.refl _ | apply Le.ite | apply Le.seqE | apply Le.bind | apply Le.lp | exact Le.none _)

def e_ref07_insert_L1 (n_ : Nat) (y0 : List Int) (y1 : Int) (s2 : Int) : Option (Int ⊕ Int) :=
  (
    if decide (s2 < (len y0)) then
      (idx y0 s2).bind fun x1 =>
      some (decide (x1 < y1))
    else
      some false : Option Bool).bind fun s3 =>
  if s3 then
    some (.inl (w64 (s2 + 1)))
  else
    some (.inr s2)

theorem le_ref07_insert_L1 (n_ : Nat) (y0 : List Int) (y1 : Int) (s2 : Int) : Le (e_ref07_insert_L1 n_ y0 y1 s2) (m_ref07_insert_L1 y0 y1 s2) := by
  unfold e_ref07_insert_L1 m_ref07_insert_L1
  repeat with_reducible (first | intro _ | exact Le.refl _ | apply Le.ite | apply Le.seqE | apply Le.bind | apply Le.lp | exact Le.none _)

def e_ref07_insert (n_ : Nat) (y0 : List Int) (y1 : Int) : Option (List Int) :=
  ((lp n_) ((e_ref07_insert_L1 n_) y0 y1) 0 : Option Int).bind fun s1 =>
  (
    if decide (s1 < (len y0)) then
      (idx y0 s1).bind fun x2 =>
      some (x2 == y1)
    else
      some false : Option Bool).bind fun s4 =>
  if s4 then
    some y0
  else
    (sub y0 0 s1).bind fun x3 =>
    (app ([] : List Int) x3).bind fun x4 =>
    (sub y0 s1 (len y0)).bind fun x5 =>
    (app x4 ([y1] : List Int)).bind fun x6 =>
    (app x6 x5).bind fun x7 =>
    some x7

theorem le_ref07_insert (n_ : Nat) (y0 : List Int) (y1 : Int) : Le (e_ref07_insert n_ y0 y1) (m_ref07_insert y0 y1) := by
  unfold e_ref07_insert m_ref07_insert
  repeat with_reducible (first | intro _ | apply le_ref07_insert_L1 | exact Le.refl _ | apply Le.ite | apply Le.seqE | apply Le.bind | apply Le.lp | exact Le.none _)

def e_ref07_union_L1 (n_ : Nat) (y1 : List Int) (s1 : (List Int) × Int) : Option (((List Int) × Int) ⊕ (List Int)) :=
  if decide (s1.2 < (len y1)) then
    (idx y1 s1.2).bind fun x1 =>
    ((e_ref07_insert n_) s1.1 x1).bind fun r1 =>
    some (.inl (r1, w64 (s1.2 + 1)))
  else
    some (.inr s1.1)

theorem le_ref07_union_L1 (n_ : Nat) (y1 : List Int) (s1 : (List Int) × Int) : Le (e_ref07_union_L1 n_ y1 s1) (m_ref07_union_L1 y1 s1) := by
  unfold e_ref07_union_L1 m_ref07_union_L1
  repeat with_reducible (first | intro _ | apply le_ref07_insert | exact Le.refl _ | apply Le.ite | apply Le.seqE | apply Le.bind | apply Le.lp | exact Le.none _)

def e_ref07_union (n_ : Nat) (y0 : List Int) (y1 : List Int) : Option (List Int) :=
  (lp n_) ((e_ref07_union_L1 n_) y1) (y0, 0)

theorem le_ref07_union (n_ : Nat) (y0 : List Int) (y1 : List Int) : Le (e_ref07_union n_ y0 y1) (m_ref07_union y0 y1) := by
  unfold e_ref07_union m_ref07_union
  repeat with_reducible (first | intro _ | apply le_ref07_union_L1 | exact Le.refl _ | apply Le.ite | apply Le.seqE | apply Le.bind | apply Le.lp | exact Le.none _)

def e_ref07_Subs_L1 (n_ : Nat) (y0 : List T_Argument) (y1 : Int) (rec_ref07_Subs : (List T_Argument) → Int → Option (List Int)) (s1 : (List Int) × Int) : Option (((List Int) × Int) ⊕ (List Int)) :=
  (idx y0 y1).bind fun x1 =>
  if decide (s1.2 < (len x1.2.2.1)) then
    (idx y0 y1).bind fun x2 =>
    (idx x2.2.2.1 s1.2).bind fun x3 =>
    (rec_ref07_Subs y0 x3).bind fun r1 =>
    ((e_ref07_union n_) s1.1 r1).bind fun r2 =>
    some (.inl (r2, w64 (s1.2 + 1)))
  else
    some (.inr s1.1)

theorem le_ref07_Subs_L1 (n_ : Nat) (y0 : List T_Argument) (y1 : Int) {rec_ref07_Subs rec_ref07_Subs' : (List T_Argument) → Int → Option (List Int)} (h_rec_ref07_Subs : ∀ u0 u1, Le (rec_ref07_Subs u0 u1) (rec_ref07_Subs' u0 u1)) (s1 : (List Int) × Int) : Le (e_ref07_Subs_L1 n_ y0 y1 rec_ref07_Subs s1) (m_ref07_Subs_L1 y0 y1 rec_ref07_Subs' s1) := by
  unfold e_ref07_Subs_L1 m_ref07_Subs_L1
  repeat with_reducible (first | intro _ | apply h_rec_ref07_Subs | apply le_ref07_union | exact Le.refl _ | apply Le.ite | apply Le.seqE | apply Le.bind | apply Le.lp | exact Le.none _)

def fe_ref07_Subs (n_ : Nat) (rec_ref07_Subs : (List T_Argument) → Int → Option (List Int)) (y0 : List T_Argument) (y1 : Int) : Option (List Int) :=
  if (decide (y1 < 0)) || (decide ((len y0) ≤ y1)) then
    some ([] : List Int)
  else
    (lp n_) ((e_ref07_Subs_L1 n_) y0 y1 rec_ref07_Subs) (([y1] : List Int), 0)

theorem lef_ref07_Subs (n_ : Nat) {rec_ref07_Subs rec_ref07_Subs' : (List T_Argument) → Int → Option (List Int)} (h_rec_ref07_Subs : ∀ u0 u1, Le (rec_ref07_Subs u0 u1) (rec_ref07_Subs' u0 u1)) (y0 : List T_Argument) (y1 : Int) : Le (fe_ref07_Subs n_ rec_ref07_Subs y0 y1) (F_ref07_Subs rec_ref07_Subs' y0 y1) := by
  unfold fe_ref07_Subs F_ref07_Subs
  repeat with_reducible (first | intro _ | apply h_rec_ref07_Subs | apply le_ref07_Subs_L1 | exact Le.refl _ | apply Le.ite | apply Le.seqE | apply Le.bind | apply Le.lp | exact Le.none _)

def ke_ref07_Subs (n_ : Nat) : Nat → (List T_Argument) → Int → Option (List Int)
  | 0 => fun _ _ => none
  | k + 1 => fun y0 y1 => (fe_ref07_Subs n_) ((ke_ref07_Subs n_) k) y0 y1

theorem lek_ref07_Subs (n_ : Nat) : ∀ (k m : Nat), k ≤ m → ∀ u0 u1, Le (ke_ref07_Subs n_ k u0 u1) (k_ref07_Subs m u0 u1)
  | 0, _, _ => fun u0 u1 => Le.none _
  | k + 1, m, h => fun u0 u1 => by
    obtain ⟨m, rfl⟩ : ∃ q, m = q + 1 := ⟨m - 1, by omega⟩
    exact lef_ref07_Subs n_ (lek_ref07_Subs n_ k m (by omega)) _ _

def e_ref07_Subs (n_ : Nat) (y0 : List T_Argument) (y1 : Int) : Option (List Int) :=
  ke_ref07_Subs n_ n_ y0 y1

theorem le_ref07_Subs (n_ : Nat) (y0 : List T_Argument) (y1 : Int) : Le (e_ref07_Subs n_ y0 y1) (m_ref07_Subs y0 y1) := Le.lim n_ fun m h => lek_ref07_Subs n_ n_ m h _ _

def e_ref07_Defeasible_L1 (n_ : Nat) (r1 : (List Int)) (y1 : List T_Argument) (y0 : T_Base) (s1 : (List Int) × Int) : Option (((List Int) × Int) ⊕ (List Int)) :=
  if decide (s1.2 < (len r1)) then
    (idx r1 s1.2).bind fun x1 =>
    (
      (idx y1 x1).bind fun x2 =>
      if decide (0 ≤ x2.2.1) then
        (idx y1 x1).bind fun x3 =>
        (idx y0.2.1 x3.2.1).bind fun x4 =>
        some (!x4.2.1)
      else
        some false : Option Bool).bind fun s2 =>
    if s2 then
      (idx y1 x1).bind fun x5 =>
      ((e_ref07_insert n_) s1.1 x5.2.1).bind fun r2 =>
      some (.inl (r2, w64 (s1.2 + 1)))
    else
      some (.inl (s1.1, w64 (s1.2 + 1)))
  else
    some (.inr s1.1)

theorem le_ref07_Defeasible_L1 (n_ : Nat) (r1 : (List Int)) (y1 : List T_Argument) (y0 : T_Base) (s1 : (List Int) × Int) : Le (e_ref07_Defeasible_L1 n_ r1 y1 y0 s1) (m_ref07_Defeasible_L1 r1 y1 y0 s1) := by
  unfold e_ref07_Defeasible_L1 m_ref07_Defeasible_L1
  repeat with_reducible (first | intro _ | apply le_ref07_insert | exact Le.refl _ | apply Le.ite | apply Le.seqE | apply Le.bind | apply Le.lp | exact Le.none _)

def e_ref07_Defeasible (n_ : Nat) (y0 : T_Base) (y1 : List T_Argument) (y2 : Int) : Option (List Int) :=
  ((e_ref07_Subs n_) y1 y2).bind fun r1 =>
  (lp n_) ((e_ref07_Defeasible_L1 n_) r1 y1 y0) (([] : List Int), 0)

theorem le_ref07_Defeasible (n_ : Nat) (y0 : T_Base) (y1 : List T_Argument) (y2 : Int) : Le (e_ref07_Defeasible n_ y0 y1 y2) (m_ref07_Defeasible y0 y1 y2) := by
  unfold e_ref07_Defeasible m_ref07_Defeasible
  repeat with_reducible (first | intro _ | apply le_ref07_Defeasible_L1 | apply le_ref07_Subs | exact Le.refl _ | apply Le.ite | apply Le.seqE | apply Le.bind | apply Le.lp | exact Le.none _)

def e_ref07_Run_L1 (n_ : Nat) (y1 : List T_Argument) (y2 : Int) (rec_ref07_Run : T_Base → (List T_Argument) → Int → Option (List T_Literal)) (y0 : T_Base) (s2 : (List T_Literal) × Int) : Option (((List T_Literal) × Int) ⊕ (List T_Literal)) :=
  (idx y1 y2).bind fun x5 =>
  if decide (s2.2 < (len x5.2.2.1)) then
    (idx y1 y2).bind fun x6 =>
    (idx x6.2.2.1 s2.2).bind fun x7 =>
    (rec_ref07_Run y0 y1 x7).bind fun r1 =>
    (app s2.1 r1).bind fun x8 =>
    some (.inl (x8, w64 (s2.2 + 1)))
  else
    some (.inr s2.1)

theorem le_ref07_Run_L1 (n_ : Nat) (y1 : List T_Argument) (y2 : Int) {rec_ref07_Run rec_ref07_Run' : T_Base → (List T_Argument) → Int → Option (List T_Literal)} (h_rec_ref07_Run : ∀ u0 u1 u2, Le (rec_ref07_Run u0 u1 u2) (rec_ref07_Run' u0 u1 u2)) (y0 : T_Base) (s2 : (List T_Literal) × Int) : Le (e_ref07_Run_L1 n_ y1 y2 rec_ref07_Run y0 s2) (m_ref07_Run_L1 y1 y2 rec_ref07_Run' y0 s2) := by
  unfold e_ref07_Run_L1 m_ref07_Run_L1
  repeat with_reducible (first | intro _ | apply h_rec_ref07_Run | exact Le.refl _ | apply Le.ite | apply Le.seqE | apply Le.bind | apply Le.lp | exact Le.none _)

def fe_ref07_Run (n_ : Nat) (rec_ref07_Run : T_Base → (List T_Argument) → Int → Option (List T_Literal)) (y0 : T_Base) (y1 : List T_Argument) (y2 : Int) : Option (List T_Literal) :=
  (idx y1 y2).bind fun x1 =>
  (
    (idx y1 y2).bind fun x2 =>
    if decide (0 ≤ x2.2.1) then
      (idx y1 y2).bind fun x3 =>
      (idx y0.2.1 x3.2.1).bind fun x4 =>
      some x4.2.1
    else
      some false : Option Bool).bind fun s1 =>
  if s1 then
    (lp n_) ((e_ref07_Run_L1 n_) y1 y2 rec_ref07_Run y0) (([x1.2.2.2] : List T_Literal), 0)
  else
    some ([x1.2.2.2] : List T_Literal)

theorem lef_ref07_Run (n_ : Nat) {rec_ref07_Run rec_ref07_Run' : T_Base → (List T_Argument) → Int → Option (List T_Literal)} (h_rec_ref07_Run : ∀ u0 u1 u2, Le (rec_ref07_Run u0 u1 u2) (rec_ref07_Run' u0 u1 u2)) (y0 : T_Base) (y1 : List T_Argument) (y2 : Int) : Le (fe_ref07_Run n_ rec_ref07_Run y0 y1 y2) (F_ref07_Run rec_ref07_Run' y0 y1 y2) := by
  unfold fe_ref07_Run F_ref07_Run
  repeat with_reducible (first | intro _ | apply h_rec_ref07_Run | apply le_ref07_Run_L1 | exact Le.refl _ | apply Le.ite | apply Le.seqE | apply Le.bind | apply Le.lp | exact Le.none _)

def ke_ref07_Run (n_ : Nat) : Nat → T_Base → (List T_Argument) → Int → Option (List T_Literal)
  | 0 => fun _ _ _ => none
  | k + 1 => fun y0 y1 y2 => (fe_ref07_Run n_) ((ke_ref07_Run n_) k) y0 y1 y2

theorem lek_ref07_Run (n_ : Nat) : ∀ (k m : Nat), k ≤ m → ∀ u0 u1 u2, Le (ke_ref07_Run n_ k u0 u1 u2) (k_ref07_Run m u0 u1 u2)
  | 0, _, _ => fun u0 u1 u2 => Le.none _
  | k + 1, m, h => fun u0 u1 u2 => by
    obtain ⟨m, rfl⟩ : ∃ q, m = q + 1 := ⟨m - 1, by omega⟩
    exact lef_ref07_Run n_ (lek_ref07_Run n_ k m (by omega)) _ _ _

def e_ref07_Run (n_ : Nat) (y0 : T_Base) (y1 : List T_Argument) (y2 : Int) : Option (List T_Literal) :=
  ke_ref07_Run n_ n_ y0 y1 y2

theorem le_ref07_Run (n_ : Nat) (y0 : T_Base) (y1 : List T_Argument) (y2 : Int) : Le (e_ref07_Run n_ y0 y1 y2) (m_ref07_Run y0 y1 y2) := Le.lim n_ fun m h => lek_ref07_Run n_ n_ m h _ _ _

def e_ref07_in_L1 (n_ : Nat) (y0 : List Int) (y1 : Int) (s1 : Int) : Option (Int ⊕ Bool) :=
  if decide (s1 < (len y0)) then
    (idx y0 s1).bind fun x1 =>
    if x1 == y1 then
      some (.inr true)
    else
      some (.inl (w64 (s1 + 1)))
  else
    some (.inr false)

theorem le_ref07_in_L1 (n_ : Nat) (y0 : List Int) (y1 : Int) (s1 : Int) : Le (e_ref07_in_L1 n_ y0 y1 s1) (m_ref07_in_L1 y0 y1 s1) := by
  unfold e_ref07_in_L1 m_ref07_in_L1
  repeat with_reducible (first | intro _ | exact Le.refl _ | apply Le.ite | apply Le.seqE | apply Le.bind | apply Le.lp | exact Le.none _)

def e_ref07_in (n_ : Nat) (y0 : List Int) (y1 : Int) : Option Bool :=
  (lp n_) ((e_ref07_in_L1 n_) y0 y1) 0

theorem le_ref07_in (n_ : Nat) (y0 : List Int) (y1 : Int) : Le (e_ref07_in n_ y0 y1) (m_ref07_in y0 y1) := by
  unfold e_ref07_in m_ref07_in
  repeat with_reducible (first | intro _ | apply le_ref07_in_L1 | exact Le.refl _ | apply Le.ite | apply Le.seqE | apply Le.bind | apply Le.lp | exact Le.none _)

def e_ref07_Within_L1 (n_ : Nat) (y3 : List Int) (x1 : T_Rule) (y0 : T_Base) (y1 : List T_Argument) (y2 : Int) (s1 : Int) : Option (Int ⊕ Bool) :=
  if decide (s1 < (len y3)) then
    (
      if x1.2.1 then
        (idx y3 s1).bind fun x2 =>
        ((e_ref07_Run n_) y0 y1 x2).bind fun r1 =>
        ((e_ref01_Has n_) r1 x1.2.2.2.2).bind fun r2 =>
        if r2 then
          some true
        else
          if !x1.2.1 then
            (idx y3 s1).bind fun x3 =>
            ((e_ref07_Defeasible n_) y0 y1 x3).bind fun r3 =>
            ((e_ref07_in n_) r3 y2).bind fun r4 =>
            some r4
          else
            some false
      else
        if !x1.2.1 then
          (idx y3 s1).bind fun x4 =>
          ((e_ref07_Defeasible n_) y0 y1 x4).bind fun r5 =>
          ((e_ref07_in n_) r5 y2).bind fun r6 =>
          some r6
        else
          some false : Option Bool).bind fun s2 =>
    if s2 then
      some (.inr false)
    else
      some (.inl (w64 (s1 + 1)))
  else
    some (.inr true)

theorem le_ref07_Within_L1 (n_ : Nat) (y3 : List Int) (x1 : T_Rule) (y0 : T_Base) (y1 : List T_Argument) (y2 : Int) (s1 : Int) : Le (e_ref07_Within_L1 n_ y3 x1 y0 y1 y2 s1) (m_ref07_Within_L1 y3 x1 y0 y1 y2 s1) := by
  unfold e_ref07_Within_L1 m_ref07_Within_L1
  repeat with_reducible (first | intro _ | apply le_ref07_in | apply le_ref07_Defeasible | apply le_ref01_Has | apply le_ref07_Run | exact Le.refl _ | apply Le.ite | apply Le.seqE | apply Le.bind | apply Le.lp | exact Le.none _)

def e_ref07_Within (n_ : Nat) (y0 : T_Base) (y1 : List T_Argument) (y2 : Int) (y3 : List Int) : Option Bool :=
  (idx y0.2.1 y2).bind fun x1 =>
  (lp n_) ((e_ref07_Within_L1 n_) y3 x1 y0 y1 y2) 0

theorem le_ref07_Within (n_ : Nat) (y0 : T_Base) (y1 : List T_Argument) (y2 : Int) (y3 : List Int) : Le (e_ref07_Within n_ y0 y1 y2 y3) (m_ref07_Within y0 y1 y2 y3) := by
  unfold e_ref07_Within m_ref07_Within
  repeat with_reducible (first | intro _ | apply le_ref07_Within_L1 | exact Le.refl _ | apply Le.ite | apply Le.seqE | apply Le.bind | apply Le.lp | exact Le.none _)

def e_ref07_choices_2_L1 (n_ : Nat) (y1 : Int) (y0 : List T_Argument) (y2 : List T_Literal) (y3 : List Int) (rec_ref07_choices_2 : (List T_Argument) → Int → (List T_Literal) → (List Int) → Option (List (List Int))) (s1 : (List (List Int)) × Int) : Option (((List (List Int)) × Int) ⊕ (List (List Int))) :=
  if decide (s1.2 < y1) then
    (idx y0 s1.2).bind fun x2 =>
    (idx y2 (len y3)).bind fun x3 =>
    if x2.2.2.2 == x3 then
      (sub y3 0 (len y3)).bind fun x4 =>
      (app x4 ([s1.2] : List Int)).bind fun x5 =>
      (rec_ref07_choices_2 y0 y1 y2 x5).bind fun r1 =>
      (app s1.1 r1).bind fun x6 =>
      some (.inl (x6, w64 (s1.2 + 1)))
    else
      some (.inl (s1.1, w64 (s1.2 + 1)))
  else
    some (.inr s1.1)

theorem le_ref07_choices_2_L1 (n_ : Nat) (y1 : Int) (y0 : List T_Argument) (y2 : List T_Literal) (y3 : List Int) {rec_ref07_choices_2 rec_ref07_choices_2' : (List T_Argument) → Int → (List T_Literal) → (List Int) → Option (List (List Int))} (h_rec_ref07_choices_2 : ∀ u0 u1 u2 u3, Le (rec_ref07_choices_2 u0 u1 u2 u3) (rec_ref07_choices_2' u0 u1 u2 u3)) (s1 : (List (List Int)) × Int) : Le (e_ref07_choices_2_L1 n_ y1 y0 y2 y3 rec_ref07_choices_2 s1) (m_ref07_choices_2_L1 y1 y0 y2 y3 rec_ref07_choices_2' s1) := by
  unfold e_ref07_choices_2_L1 m_ref07_choices_2_L1
  repeat with_reducible (first | intro _ | apply h_rec_ref07_choices_2 | exact Le.refl _ | apply Le.ite | apply Le.seqE | apply Le.bind | apply Le.lp | exact Le.none _)

def fe_ref07_choices_2 (n_ : Nat) (rec_ref07_choices_2 : (List T_Argument) → Int → (List T_Literal) → (List Int) → Option (List (List Int))) (y0 : List T_Argument) (y1 : Int) (y2 : List T_Literal) (y3 : List Int) : Option (List (List Int)) :=
  if (len y3) == (len y2) then
    (app ([] : List Int) y3).bind fun x1 =>
    some ([x1] : List (List Int))
  else
    (lp n_) ((e_ref07_choices_2_L1 n_) y1 y0 y2 y3 rec_ref07_choices_2) (([] : List (List Int)), 0)

theorem lef_ref07_choices_2 (n_ : Nat) {rec_ref07_choices_2 rec_ref07_choices_2' : (List T_Argument) → Int → (List T_Literal) → (List Int) → Option (List (List Int))} (h_rec_ref07_choices_2 : ∀ u0 u1 u2 u3, Le (rec_ref07_choices_2 u0 u1 u2 u3) (rec_ref07_choices_2' u0 u1 u2 u3)) (y0 : List T_Argument) (y1 : Int) (y2 : List T_Literal) (y3 : List Int) : Le (fe_ref07_choices_2 n_ rec_ref07_choices_2 y0 y1 y2 y3) (F_ref07_choices_2 rec_ref07_choices_2' y0 y1 y2 y3) := by
  unfold fe_ref07_choices_2 F_ref07_choices_2
  repeat with_reducible (first | intro _ | apply h_rec_ref07_choices_2 | apply le_ref07_choices_2_L1 | exact Le.refl _ | apply Le.ite | apply Le.seqE | apply Le.bind | apply Le.lp | exact Le.none _)

def ke_ref07_choices_2 (n_ : Nat) : Nat → (List T_Argument) → Int → (List T_Literal) → (List Int) → Option (List (List Int))
  | 0 => fun _ _ _ _ => none
  | k + 1 => fun y0 y1 y2 y3 => (fe_ref07_choices_2 n_) ((ke_ref07_choices_2 n_) k) y0 y1 y2 y3

theorem lek_ref07_choices_2 (n_ : Nat) : ∀ (k m : Nat), k ≤ m → ∀ u0 u1 u2 u3, Le (ke_ref07_choices_2 n_ k u0 u1 u2 u3) (k_ref07_choices_2 m u0 u1 u2 u3)
  | 0, _, _ => fun u0 u1 u2 u3 => Le.none _
  | k + 1, m, h => fun u0 u1 u2 u3 => by
    obtain ⟨m, rfl⟩ : ∃ q, m = q + 1 := ⟨m - 1, by omega⟩
    exact lef_ref07_choices_2 n_ (lek_ref07_choices_2 n_ k m (by omega)) _ _ _ _

def e_ref07_choices_2 (n_ : Nat) (y0 : List T_Argument) (y1 : Int) (y2 : List T_Literal) (y3 : List Int) : Option (List (List Int)) :=
  ke_ref07_choices_2 n_ n_ y0 y1 y2 y3

theorem le_ref07_choices_2 (n_ : Nat) (y0 : List T_Argument) (y1 : Int) (y2 : List T_Literal) (y3 : List Int) : Le (e_ref07_choices_2 n_ y0 y1 y2 y3) (m_ref07_choices_2 y0 y1 y2 y3) := Le.lim n_ fun m h => lek_ref07_choices_2 n_ n_ m h _ _ _ _

def e_ref07_recent_L1 (n_ : Nat) (y0 : List Int) (y1 : Int) (s1 : Int) : Option (Int ⊕ Bool) :=
  if decide (s1 < (len y0)) then
    (idx y0 s1).bind fun x1 =>
    if decide (y1 ≤ x1) then
      some (.inr true)
    else
      some (.inl (w64 (s1 + 1)))
  else
    some (.inr false)

theorem le_ref07_recent_L1 (n_ : Nat) (y0 : List Int) (y1 : Int) (s1 : Int) : Le (e_ref07_recent_L1 n_ y0 y1 s1) (m_ref07_recent_L1 y0 y1 s1) := by
  unfold e_ref07_recent_L1 m_ref07_recent_L1
  repeat with_reducible (first | intro _ | exact Le.refl _ | apply Le.ite | apply Le.seqE | apply Le.bind | apply Le.lp | exact Le.none _)

def e_ref07_recent (n_ : Nat) (y0 : List Int) (y1 : Int) : Option Bool :=
  (lp n_) ((e_ref07_recent_L1 n_) y0 y1) 0

theorem le_ref07_recent (n_ : Nat) (y0 : List Int) (y1 : Int) : Le (e_ref07_recent n_ y0 y1) (m_ref07_recent y0 y1) := by
  unfold e_ref07_recent m_ref07_recent
  repeat with_reducible (first | intro _ | apply le_ref07_recent_L1 | exact Le.refl _ | apply Le.ite | apply Le.seqE | apply Le.bind | apply Le.lp | exact Le.none _)

def e_ref07_Build_L1 (n_ : Nat) (y0 : T_Base) (s2 : (List T_Argument) × Int) : Option (((List T_Argument) × Int) ⊕ (List T_Argument)) :=
  if decide (s2.2 < (len y0.1)) then
    (idx y0.1 s2.2).bind fun x1 =>
    (app s2.1 ([(s2.2, (-1), ([] : List Int), x1.1)] : List T_Argument)).bind fun x2 =>
    some (.inl (x2, w64 (s2.2 + 1)))
  else
    some (.inr s2.1)

theorem le_ref07_Build_L1 (n_ : Nat) (y0 : T_Base) (s2 : (List T_Argument) × Int) : Le (e_ref07_Build_L1 n_ y0 s2) (m_ref07_Build_L1 y0 s2) := by
  unfold e_ref07_Build_L1 m_ref07_Build_L1
  repeat with_reducible (first | intro _ | exact Le.refl _ | apply Le.ite | apply Le.seqE | apply Le.bind | apply Le.lp | exact Le.none _)

def e_ref07_Build_L4 (n_ : Nat) (r2 : (List (List Int))) (s3 : (List T_Argument) × Int × Int) (y0 : T_Base) (s4 : (List T_Argument) × Int) (s5 : (List T_Argument) × Int) : Option (((List T_Argument) × Int) ⊕ (((List T_Argument) × Int) ⊕ (((List T_Argument) × Int × Int) ⊕ ((List T_Argument) × Int)))) :=
  if decide (s5.2 < (len r2)) then
    (idx r2 s5.2).bind fun x4 =>
    (
      ((e_ref07_recent n_) x4 s3.2.1).bind fun r3 =>
      if !r3 then
        if decide (1 < s3.2.2) then
          some true
        else
          if decide (0 < (len x4)) then
            some true
          else
            ((e_ref07_Within n_) y0 s5.1 s4.2 x4).bind fun r4 =>
            some (!r4)
      else
        ((e_ref07_Within n_) y0 s5.1 s4.2 x4).bind fun r5 =>
        some (!r5) : Option Bool).bind fun s6 =>
    if s6 then
      some (.inl (s5.1, w64 (s5.2 + 1)))
    else
      (idx y0.2.1 s4.2).bind fun x5 =>
      (app s5.1 ([((-1), s4.2, x4, x5.2.2.2.2)] : List T_Argument)).bind fun x6 =>
      if decide (40 < (len x6)) then
        some (.inr (.inr (.inr (([] : List T_Argument), 2))))
      else
        some (.inl (x6, w64 (s5.2 + 1)))
  else
    some (.inr (.inl (s5.1, w64 (s4.2 + 1))))

theorem le_ref07_Build_L4 (n_ : Nat) (r2 : (List (List Int))) (s3 : (List T_Argument) × Int × Int) (y0 : T_Base) (s4 : (List T_Argument) × Int) (s5 : (List T_Argument) × Int) : Le (e_ref07_Build_L4 n_ r2 s3 y0 s4 s5) (m_ref07_Build_L4 r2 s3 y0 s4 s5) := by
  unfold e_ref07_Build_L4 m_ref07_Build_L4
  repeat with_reducible (first | intro _ | apply le_ref07_Within | apply le_ref07_recent | exact Le.refl _ | apply Le.ite | apply Le.seqE | apply Le.bind | apply Le.lp | exact Le.none _)

def e_ref07_Build_L3 (n_ : Nat) (y0 : T_Base) (s3 : (List T_Argument) × Int × Int) (s4 : (List T_Argument) × Int) : Option (((List T_Argument) × Int) ⊕ (((List T_Argument) × Int × Int) ⊕ ((List T_Argument) × Int))) :=
  if decide (s4.2 < (len y0.2.1)) then
    (idx y0.2.1 s4.2).bind fun x3 =>
    ((e_ref07_choices_2 n_) s4.1 (len s3.1) x3.2.2.2.1 ([] : List Int)).bind fun r2 =>
    (lp n_) ((e_ref07_Build_L4 n_) r2 s3 y0 s4) (s4.1, 0)
  else
    some (.inr (.inl (s4.1, len s3.1, w64 (s3.2.2 + 1))))

theorem le_ref07_Build_L3 (n_ : Nat) (y0 : T_Base) (s3 : (List T_Argument) × Int × Int) (s4 : (List T_Argument) × Int) : Le (e_ref07_Build_L3 n_ y0 s3 s4) (m_ref07_Build_L3 y0 s3 s4) := by
  unfold e_ref07_Build_L3 m_ref07_Build_L3
  repeat with_reducible (first | intro _ | apply le_ref07_Build_L4 | apply le_ref07_choices_2 | exact Le.refl _ | apply Le.ite | apply Le.seqE | apply Le.bind | apply Le.lp | exact Le.none _)

def e_ref07_Build_L2 (n_ : Nat) (y0 : T_Base) (s3 : (List T_Argument) × Int × Int) : Option (((List T_Argument) × Int × Int) ⊕ ((List T_Argument) × Int)) :=
  if (s3.2.2 == 1) || (decide (s3.2.1 < (len s3.1))) then
    (lp n_) ((e_ref07_Build_L3 n_) y0 s3) (s3.1, 0)
  else
    some (.inr (s3.1, 0))

theorem le_ref07_Build_L2 (n_ : Nat) (y0 : T_Base) (s3 : (List T_Argument) × Int × Int) : Le (e_ref07_Build_L2 n_ y0 s3) (m_ref07_Build_L2 y0 s3) := by
  unfold e_ref07_Build_L2 m_ref07_Build_L2
  repeat with_reducible (first | intro _ | apply le_ref07_Build_L3 | exact Le.refl _ | apply Le.ite | apply Le.seqE | apply Le.bind | apply Le.lp | exact Le.none _)

def e_ref07_Build (n_ : Nat) (y0 : T_Base) : Option ((List T_Argument) × Int) :=
  ((e_ref05_Validate n_) y0).bind fun r1 =>
  if r1 != 0 then
    some (([] : List T_Argument), r1)
  else
    ((lp n_) ((e_ref07_Build_L1 n_) y0) (([] : List T_Argument), 0) : Option (List T_Argument)).bind fun s1 =>
    (lp n_) ((e_ref07_Build_L2 n_) y0) (s1, 0, 1)

theorem le_ref07_Build (n_ : Nat) (y0 : T_Base) : Le (e_ref07_Build n_ y0) (m_ref07_Build y0) := by
  unfold e_ref07_Build m_ref07_Build
  repeat with_reducible (first | intro _ | apply le_ref07_Build_L2 | apply le_ref07_Build_L1 | apply le_ref05_Validate | exact Le.refl _ | apply Le.ite | apply Le.seqE | apply Le.bind | apply Le.lp | exact Le.none _)

def e_law09_awake (n_ : Nat) : Option Bool :=
  ((e_ref07_Build n_) (([((false, [112]), 2, 1, []), ((true, [112]), 2, 2, [])] : List T_Premise), ([] : List T_Rule), ([] : List T_Promotion))).bind fun r1 =>
  ((e_attack_Attacks n_) (([((false, [112]), 2, 1, []), ((true, [112]), 2, 2, [])] : List T_Premise), ([] : List T_Rule), ([] : List T_Promotion)) r1.1).bind fun r2 =>
  ((e_attack_Defeats n_) (([((false, [112]), 2, 1, []), ((true, [112]), 2, 2, [])] : List T_Premise), ([] : List T_Rule), ([] : List T_Promotion)) r1.1 (1, 1)).bind fun r3 =>
  ((e_attack_Graph n_) 2 r3).bind fun r4 =>
  (
    if r1.2 == 0 then
      if (len r2) == 2 then
        if (len r3) == 1 then
          (idx r3 0).bind fun x1 =>
          if x1 == (1, 0, 0, 1) then
            if r4.2 == 0 then
              if r4.1.1 == 2 then
                some ((len r4.1.2) == 1)
              else
                some false
            else
              some false
          else
            some false
        else
          some false
      else
        some false
    else
      some false : Option Bool).bind fun s1 =>
  some s1

theorem le_law09_awake (n_ : Nat) : Le (e_law09_awake n_ ) (m_law09_awake ) := by
  unfold e_law09_awake m_law09_awake
  repeat with_reducible (first | intro _ | apply le_attack_Graph | apply le_attack_Defeats | apply le_attack_Attacks | apply le_ref07_Build | exact Le.refl _ | apply Le.ite | apply Le.seqE | apply Le.bind | apply Le.lp | exact Le.none _)

end Go.GD
