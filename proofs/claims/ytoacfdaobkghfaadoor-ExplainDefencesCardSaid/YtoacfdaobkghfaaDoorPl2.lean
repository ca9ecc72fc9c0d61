/- The plain law: what the models compute, in plain Lean. Conditions: none. -/
import Derived.Test.YtoacfdaobkghfaaDoorPl1
namespace Go.GD
set_option autoImplicit false

section
set_option linter.unusedVariables false
def e_math_bits_TrailingZeros64 (n_ : Nat) (y0 : Int) : Option Int :=
  if y0 == 0 then
    some 64
  else
    (idx tab_math_bits_deBruijn64tab (shr .u64 (IntKind.u64.wrap ((band .u64 y0 (IntKind.u64.wrap (0 - y0))) * 285870213051353865)) 58)).bind fun x1 =>
    some (w64 (x1))
theorem le_math_bits_TrailingZeros64 (n_ : Nat) (y0 : Int) : Le (e_math_bits_TrailingZeros64 n_ y0) (m_math_bits_TrailingZeros64 y0) := by
  unfold e_math_bits_TrailingZeros64 m_math_bits_TrailingZeros64
  repeat with_reducible (first | intro _ | exact Le.refl _ | apply Le.ite | apply Le.seqE | apply Le.bind | apply Le.lp | exact Le.none _)
def e_network_Set_List_L1 (n_ : Nat) (s1 : Int × (List Int)) : Option ((Int × (List Int)) ⊕ (List Int)) :=
  if s1.1 != 0 then
    ((e_math_bits_TrailingZeros64 n_) s1.1).bind fun r1 =>
    (app s1.2 ([r1] : List Int)).bind fun x1 =>
    some (.inl (band .u64 s1.1 (IntKind.u64.wrap (s1.1 - 1)), x1))
  else
    some (.inr s1.2)
theorem le_network_Set_List_L1 (n_ : Nat) (s1 : Int × (List Int)) : Le (e_network_Set_List_L1 n_ s1) (m_network_Set_List_L1 s1) := by
  unfold e_network_Set_List_L1 m_network_Set_List_L1
  repeat with_reducible (first | intro _ | apply le_math_bits_TrailingZeros64 | exact Le.refl _ | apply Le.ite | apply Le.seqE | apply Le.bind | apply Le.lp | exact Le.none _)
def e_network_Set_List (n_ : Nat) (y0 : Int) : Option (List Int) :=
  (lp n_) ((e_network_Set_List_L1 n_)) (y0, ([] : List Int))
theorem le_network_Set_List (n_ : Nat) (y0 : Int) : Le (e_network_Set_List n_ y0) (m_network_Set_List y0) := by
  unfold e_network_Set_List m_network_Set_List
  repeat with_reducible (first | intro _ | apply le_network_Set_List_L1 | exact Le.refl _ | apply Le.ite | apply Le.seqE | apply Le.bind | apply Le.lp | exact Le.none _)
def e_network_Net_Attackers_L1 (n_ : Nat) (r1 : (List Int)) (y0 : T_network_Net) (s1 : Int × Int) : Option ((Int × Int) ⊕ Int) :=
  if decide (s1.2 < (len r1)) then
    (idx r1 s1.2).bind fun x1 =>
    (idx y0.2.1 x1).bind fun x2 =>
    some (.inl (bor .u64 s1.1 x2, w64 (s1.2 + 1)))
  else
    some (.inr s1.1)
theorem le_network_Net_Attackers_L1 (n_ : Nat) (r1 : (List Int)) (y0 : T_network_Net) (s1 : Int × Int) : Le (e_network_Net_Attackers_L1 n_ r1 y0 s1) (m_network_Net_Attackers_L1 r1 y0 s1) := by
  unfold e_network_Net_Attackers_L1 m_network_Net_Attackers_L1
  repeat with_reducible (first | intro _ | exact Le.refl _ | apply Le.ite | apply Le.seqE | apply Le.bind | apply Le.lp | exact Le.none _)
def e_network_Net_Attackers (n_ : Nat) (y0 : T_network_Net) (y1 : Int) : Option Int :=
  ((e_network_Set_List n_) y1).bind fun r1 =>
  (lp n_) ((e_network_Net_Attackers_L1 n_) r1 y0) (0, 0)
theorem le_network_Net_Attackers (n_ : Nat) (y0 : T_network_Net) (y1 : Int) : Le (e_network_Net_Attackers n_ y0 y1) (m_network_Net_Attackers y0 y1) := by
  unfold e_network_Net_Attackers m_network_Net_Attackers
  repeat with_reducible (first | intro _ | apply le_network_Net_Attackers_L1 | apply le_network_Set_List | exact Le.refl _ | apply Le.ite | apply Le.seqE | apply Le.bind | apply Le.lp | exact Le.none _)
def e_network_Net_Hit_L1 (n_ : Nat) (r1 : (List Int)) (y0 : T_network_Net) (s1 : Int × Int) : Option ((Int × Int) ⊕ Int) :=
  if decide (s1.2 < (len r1)) then
    (idx r1 s1.2).bind fun x1 =>
    (idx y0.2.2 x1).bind fun x2 =>
    some (.inl (bor .u64 s1.1 x2, w64 (s1.2 + 1)))
  else
    some (.inr s1.1)
theorem le_network_Net_Hit_L1 (n_ : Nat) (r1 : (List Int)) (y0 : T_network_Net) (s1 : Int × Int) : Le (e_network_Net_Hit_L1 n_ r1 y0 s1) (m_network_Net_Hit_L1 r1 y0 s1) := by
  unfold e_network_Net_Hit_L1 m_network_Net_Hit_L1
  repeat with_reducible (first | intro _ | exact Le.refl _ | apply Le.ite | apply Le.seqE | apply Le.bind | apply Le.lp | exact Le.none _)
def e_network_Net_Hit (n_ : Nat) (y0 : T_network_Net) (y1 : Int) : Option Int :=
  ((e_network_Set_List n_) y1).bind fun r1 =>
  (lp n_) ((e_network_Net_Hit_L1 n_) r1 y0) (0, 0)
theorem le_network_Net_Hit (n_ : Nat) (y0 : T_network_Net) (y1 : Int) : Le (e_network_Net_Hit n_ y0 y1) (m_network_Net_Hit y0 y1) := by
  unfold e_network_Net_Hit m_network_Net_Hit
  repeat with_reducible (first | intro _ | apply le_network_Net_Hit_L1 | apply le_network_Set_List | exact Le.refl _ | apply Le.ite | apply Le.seqE | apply Le.bind | apply Le.lp | exact Le.none _)
def e_network_Net_Free (n_ : Nat) (y0 : T_network_Net) (y1 : Int) : Option Bool :=
  ((e_network_Net_Hit n_) y0 y1).bind fun r1 =>
  some ((band .u64 r1 y1) == 0)
theorem le_network_Net_Free (n_ : Nat) (y0 : T_network_Net) (y1 : Int) : Le (e_network_Net_Free n_ y0 y1) (m_network_Net_Free y0 y1) := by
  unfold e_network_Net_Free m_network_Net_Free
  repeat with_reducible (first | intro _ | apply le_network_Net_Hit | exact Le.refl _ | apply Le.ite | apply Le.seqE | apply Le.bind | apply Le.lp | exact Le.none _)
def e_network_Net_Admissible (n_ : Nat) (y0 : T_network_Net) (y1 : Int) : Option Bool :=
  (
    ((e_network_Net_Free n_) y0 y1).bind fun r1 =>
    if r1 then
      ((e_network_Net_Attackers n_) y0 y1).bind fun r2 =>
      ((e_network_Net_Hit n_) y0 y1).bind fun r3 =>
      some ((bandNot .u64 r2 r3) == 0)
    else
      some false : Option Bool).bind fun s1 =>
  some s1
theorem le_network_Net_Admissible (n_ : Nat) (y0 : T_network_Net) (y1 : Int) : Le (e_network_Net_Admissible n_ y0 y1) (m_network_Net_Admissible y0 y1) := by
  unfold e_network_Net_Admissible m_network_Net_Admissible
  repeat with_reducible (first | intro _ | apply le_network_Net_Hit | apply le_network_Net_Attackers | apply le_network_Net_Free | exact Le.refl _ | apply Le.ite | apply Le.seqE | apply Le.bind | apply Le.lp | exact Le.none _)
def e_network_Set_With (n_ : Nat) (y0 : Int) (y1 : Int) : Option Int :=
  (shlK .u64 1 (IntKind.u64.wrap (y1))).bind fun x1 =>
  some (bor .u64 y0 x1)
theorem le_network_Set_With (n_ : Nat) (y0 : Int) (y1 : Int) : Le (e_network_Set_With n_ y0 y1) (m_network_Set_With y0 y1) := by
  unfold e_network_Set_With m_network_Set_With
  repeat with_reducible (first | intro _ | exact Le.refl _ | apply Le.ite | apply Le.seqE | apply Le.bind | apply Le.lp | exact Le.none _)
def e_network_Of_L1 (n_ : Nat) (y0 : List Int) (s1 : Int × Int) : Option ((Int × Int) ⊕ Int) :=
  if decide (s1.2 < (len y0)) then
    (idx y0 s1.2).bind fun x1 =>
    ((e_network_Set_With n_) s1.1 x1).bind fun r1 =>
    some (.inl (r1, w64 (s1.2 + 1)))
  else
    some (.inr s1.1)
theorem le_network_Of_L1 (n_ : Nat) (y0 : List Int) (s1 : Int × Int) : Le (e_network_Of_L1 n_ y0 s1) (m_network_Of_L1 y0 s1) := by
  unfold e_network_Of_L1 m_network_Of_L1
  repeat with_reducible (first | intro _ | apply le_network_Set_With | exact Le.refl _ | apply Le.ite | apply Le.seqE | apply Le.bind | apply Le.lp | exact Le.none _)
def e_network_Of (n_ : Nat) (y0 : List Int) : Option Int :=
  (lp n_) ((e_network_Of_L1 n_) y0) (0, 0)
theorem le_network_Of (n_ : Nat) (y0 : List Int) : Le (e_network_Of n_ y0) (m_network_Of y0) := by
  unfold e_network_Of m_network_Of
  repeat with_reducible (first | intro _ | apply le_network_Of_L1 | exact Le.refl _ | apply Le.ite | apply Le.seqE | apply Le.bind | apply Le.lp | exact Le.none _)
def e_network_Set_Has (n_ : Nat) (y0 : Int) (y1 : Int) : Option Bool :=
  (shrK .u64 y0 (IntKind.u64.wrap (y1))).bind fun x1 =>
  some ((band .u64 x1 1) == 1)
theorem le_network_Set_Has (n_ : Nat) (y0 : Int) (y1 : Int) : Le (e_network_Set_Has n_ y0 y1) (m_network_Set_Has y0 y1) := by
  unfold e_network_Set_Has m_network_Set_Has
  repeat with_reducible (first | intro _ | exact Le.refl _ | apply Le.ite | apply Le.seqE | apply Le.bind | apply Le.lp | exact Le.none _)
def e_explain_Defences_1 (n_ : Nat) (y0 : List Int) (y1 : Int) (y2 : T_network_Net) (y3 : List Int) : Option (List Int) :=
  ((e_network_Of n_) y0).bind fun r1 =>
  (
    ((e_network_Set_Has n_) r1 y1).bind fun r2 =>
    if r2 then
      ((e_network_Net_Admissible n_) y2 r1).bind fun r3 =>
      some r3
    else
      some false : Option Bool).bind fun s1 =>
  if s1 then
    (app y3 ([r1] : List Int)).bind fun x1 =>
    some x1
  else
    some y3
theorem le_explain_Defences_1 (n_ : Nat) (y0 : List Int) (y1 : Int) (y2 : T_network_Net) (y3 : List Int) : Le (e_explain_Defences_1 n_ y0 y1 y2 y3) (m_explain_Defences_1 y0 y1 y2 y3) := by
  unfold e_explain_Defences_1 m_explain_Defences_1
  repeat with_reducible (first | intro _ | apply le_network_Net_Admissible | apply le_network_Set_Has | apply le_network_Of | exact Le.refl _ | apply Le.ite | apply Le.seqE | apply Le.bind | apply Le.lp | exact Le.none _)
def e_explain_all__explain_Defences_1_L2 (n_ : Nat) (y0 : List Int) (s1 : Int × (List Int)) (s3 : (List Int) × Int) : Option (((List Int) × Int) ⊕ (List Int)) :=
  if decide (s3.2 < (len y0)) then
    (idx y0 s3.2).bind fun x2 =>
    (shrK .i64 s1.1 s3.2).bind fun x3 =>
    if (band .i64 x3 1) == 1 then
      (app s3.1 ([x2] : List Int)).bind fun x4 =>
      some (.inl (x4, w64 (s3.2 + 1)))
    else
      some (.inl (s3.1, w64 (s3.2 + 1)))
  else
    some (.inr s3.1)
theorem le_explain_all__explain_Defences_1_L2 (n_ : Nat) (y0 : List Int) (s1 : Int × (List Int)) (s3 : (List Int) × Int) : Le (e_explain_all__explain_Defences_1_L2 n_ y0 s1 s3) (m_explain_all__explain_Defences_1_L2 y0 s1 s3) := by
  unfold e_explain_all__explain_Defences_1_L2 m_explain_all__explain_Defences_1_L2
  repeat with_reducible (first | intro _ | exact Le.refl _ | apply Le.ite | apply Le.seqE | apply Le.bind | apply Le.lp | exact Le.none _)
def e_explain_all__explain_Defences_1_L1 (n_ : Nat) (x1 : Int) (y0 : List Int) (y1 : Int) (y2 : T_network_Net) (s1 : Int × (List Int)) : Option ((Int × (List Int)) ⊕ (List Int)) :=
  if decide (s1.1 < x1) then
    ((lp n_) ((e_explain_all__explain_Defences_1_L2 n_) y0 s1) (([] : List Int), 0) : Option (List Int)).bind fun s2 =>
    ((e_explain_Defences_1 n_) s2 y1 y2 s1.2).bind fun r1 =>
    some (.inl (w64 (s1.1 + 1), r1))
  else
    some (.inr s1.2)
theorem le_explain_all__explain_Defences_1_L1 (n_ : Nat) (x1 : Int) (y0 : List Int) (y1 : Int) (y2 : T_network_Net) (s1 : Int × (List Int)) : Le (e_explain_all__explain_Defences_1_L1 n_ x1 y0 y1 y2 s1) (m_explain_all__explain_Defences_1_L1 x1 y0 y1 y2 s1) := by
  unfold e_explain_all__explain_Defences_1_L1 m_explain_all__explain_Defences_1_L1
  repeat with_reducible (first | intro _ | apply le_explain_Defences_1 | apply le_explain_all__explain_Defences_1_L2 | exact Le.refl _ | apply Le.ite | apply Le.seqE | apply Le.bind | apply Le.lp | exact Le.none _)
def e_explain_all__explain_Defences_1 (n_ : Nat) (y0 : List Int) (y1 : Int) (y2 : T_network_Net) (y3 : List Int) : Option (List Int) :=
  (shlK .i64 1 (len y0)).bind fun x1 =>
  (lp n_) ((e_explain_all__explain_Defences_1_L1 n_) x1 y0 y1 y2) (0, y3)
theorem le_explain_all__explain_Defences_1 (n_ : Nat) (y0 : List Int) (y1 : Int) (y2 : T_network_Net) (y3 : List Int) : Le (e_explain_all__explain_Defences_1 n_ y0 y1 y2 y3) (m_explain_all__explain_Defences_1 y0 y1 y2 y3) := by
  unfold e_explain_all__explain_Defences_1 m_explain_all__explain_Defences_1
  repeat with_reducible (first | intro _ | apply le_explain_all__explain_Defences_1_L1 | exact Le.refl _ | apply Le.ite | apply Le.seqE | apply Le.bind | apply Le.lp | exact Le.none _)
def e_cmp_isNaN_int (n_ : Nat) (y0 : Int) : Option Bool :=
  some (y0 != y0)
theorem le_cmp_isNaN_int (n_ : Nat) (y0 : Int) : Le (e_cmp_isNaN_int n_ y0) (m_cmp_isNaN_int y0) := by
  unfold e_cmp_isNaN_int m_cmp_isNaN_int
  repeat with_reducible (first | intro _ | exact Le.refl _ | apply Le.ite | apply Le.seqE | apply Le.bind | apply Le.lp | exact Le.none _)
def e_cmp_Compare_int (n_ : Nat) (y0 : Int) (y1 : Int) : Option Int :=
  ((e_cmp_isNaN_int n_) y0).bind fun r1 =>
  ((e_cmp_isNaN_int n_) y1).bind fun r2 =>
  if r1 then
    if r2 then
      some 0
    else
      some (-1)
  else
    if r2 then
      some 1
    else
      if decide (y0 < y1) then
        some (-1)
      else
        if decide (y1 < y0) then
          some 1
        else
          some 0
theorem le_cmp_Compare_int (n_ : Nat) (y0 : Int) (y1 : Int) : Le (e_cmp_Compare_int n_ y0 y1) (m_cmp_Compare_int y0 y1) := by
  unfold e_cmp_Compare_int m_cmp_Compare_int
  repeat with_reducible (first | intro _ | apply le_cmp_isNaN_int | exact Le.refl _ | apply Le.ite | apply Le.seqE | apply Le.bind | apply Le.lp | exact Le.none _)
def e_cmp_Or_int_L1 (n_ : Nat) (y0 : List Int) (s1 : Int) : Option (Int ⊕ Int) :=
  if decide (s1 < (len y0)) then
    (idx y0 s1).bind fun x1 =>
    if x1 != 0 then
      some (.inr x1)
    else
      some (.inl (w64 (s1 + 1)))
  else
    some (.inr 0)
theorem le_cmp_Or_int_L1 (n_ : Nat) (y0 : List Int) (s1 : Int) : Le (e_cmp_Or_int_L1 n_ y0 s1) (m_cmp_Or_int_L1 y0 s1) := by
  unfold e_cmp_Or_int_L1 m_cmp_Or_int_L1
  repeat with_reducible (first | intro _ | exact Le.refl _ | apply Le.ite | apply Le.seqE | apply Le.bind | apply Le.lp | exact Le.none _)
def e_cmp_Or_int (n_ : Nat) (y0 : List Int) : Option Int :=
  (lp n_) ((e_cmp_Or_int_L1 n_) y0) 0
theorem le_cmp_Or_int (n_ : Nat) (y0 : List Int) : Le (e_cmp_Or_int n_ y0) (m_cmp_Or_int y0) := by
  unfold e_cmp_Or_int m_cmp_Or_int
  repeat with_reducible (first | intro _ | apply le_cmp_Or_int_L1 | exact Le.refl _ | apply Le.ite | apply Le.seqE | apply Le.bind | apply Le.lp | exact Le.none _)
def e_graph_compare (n_ : Nat) (y0 : T_Pair) (y1 : T_Pair) : Option Int :=
  ((e_cmp_Compare_int n_) y0.1 y1.1).bind fun r1 =>
  ((e_cmp_Compare_int n_) y0.2 y1.2).bind fun r2 =>
  ((e_cmp_Or_int n_) ([r1, r2] : List Int)).bind fun r3 =>
  some r3
theorem le_graph_compare (n_ : Nat) (y0 : T_Pair) (y1 : T_Pair) : Le (e_graph_compare n_ y0 y1) (m_graph_compare y0 y1) := by
  unfold e_graph_compare m_graph_compare
  repeat with_reducible (first | intro _ | apply le_cmp_Or_int | apply le_cmp_Compare_int | exact Le.refl _ | apply Le.ite | apply Le.seqE | apply Le.bind | apply Le.lp | exact Le.none _)
def e_graph_Validate_L1 (n_ : Nat) (y0 : T_Graph) (s1 : Int) : Option (Int ⊕ Int) :=
  if decide (s1 < (len y0.2)) then
    (idx y0.2 s1).bind fun x1 =>
    if (decide ((if x1.2 < x1.1 then x1.2 else x1.1) < 0)) || (decide (y0.1 ≤ (if x1.2 > x1.1 then x1.2 else x1.1))) then
      some (.inr 1)
    else
      (
        if decide (0 < s1) then
          (idx y0.2 (w64 (s1 - 1))).bind fun x2 =>
          ((e_graph_compare n_) x2 x1).bind fun r1 =>
          some (decide (0 ≤ r1))
        else
          some false : Option Bool).bind fun s2 =>
      if s2 then
        some (.inr 8)
      else
        some (.inl (w64 (s1 + 1)))
  else
    some (.inr 0)
theorem le_graph_Validate_L1 (n_ : Nat) (y0 : T_Graph) (s1 : Int) : Le (e_graph_Validate_L1 n_ y0 s1) (m_graph_Validate_L1 y0 s1) := by
  unfold e_graph_Validate_L1 m_graph_Validate_L1
  repeat with_reducible (first | intro _ | apply le_graph_compare | exact Le.refl _ | apply Le.ite | apply Le.seqE | apply Le.bind | apply Le.lp | exact Le.none _)
def e_graph_Validate (n_ : Nat) (y0 : T_Graph) : Option Int :=
  if (decide (y0.1 < 0)) || (decide (40 < y0.1)) then
    some 1
  else
    (lp n_) ((e_graph_Validate_L1 n_) y0) 0
theorem le_graph_Validate (n_ : Nat) (y0 : T_Graph) : Le (e_graph_Validate n_ y0) (m_graph_Validate y0) := by
  unfold e_graph_Validate m_graph_Validate
  repeat with_reducible (first | intro _ | apply le_graph_Validate_L1 | exact Le.refl _ | apply Le.ite | apply Le.seqE | apply Le.bind | apply Le.lp | exact Le.none _)
def e_network_New_L1 (n_ : Nat) (y0 : T_Graph) (s3 : Int × Int) : Option ((Int × Int) ⊕ Int) :=
  if decide (s3.1 < y0.1) then
    ((e_network_Set_With n_) s3.2 s3.1).bind fun r1 =>
    some (.inl (w64 (s3.1 + 1), r1))
  else
    some (.inr s3.2)
theorem le_network_New_L1 (n_ : Nat) (y0 : T_Graph) (s3 : Int × Int) : Le (e_network_New_L1 n_ y0 s3) (m_network_New_L1 y0 s3) := by
  unfold e_network_New_L1 m_network_New_L1
  repeat with_reducible (first | intro _ | apply le_network_Set_With | exact Le.refl _ | apply Le.ite | apply Le.seqE | apply Le.bind | apply Le.lp | exact Le.none _)
def e_network_New_L2 (n_ : Nat) (y0 : T_Graph) (s5 : Int × (List Int) × (List Int)) : Option ((Int × (List Int) × (List Int)) ⊕ ((List Int) × (List Int))) :=
  if decide (s5.1 < (len y0.2)) then
    (idx y0.2 s5.1).bind fun x11 =>
    (idx s5.2.1 x11.2).bind fun x12 =>
    ((e_network_Set_With n_) x12 x11.1).bind fun r2 =>
    (idx s5.2.1 x11.2).bind fun _ =>
    (idx s5.2.2 x11.1).bind fun x14 =>
    ((e_network_Set_With n_) x14 x11.2).bind fun r3 =>
    (idx s5.2.2 x11.1).bind fun _ =>
    some (.inl (w64 (s5.1 + 1), List.set s5.2.1 (Int.toNat x11.2) r2, List.set s5.2.2 (Int.toNat x11.1) r3))
  else
    some (.inr (s5.2.1, s5.2.2))
theorem le_network_New_L2 (n_ : Nat) (y0 : T_Graph) (s5 : Int × (List Int) × (List Int)) : Le (e_network_New_L2 n_ y0 s5) (m_network_New_L2 y0 s5) := by
  unfold e_network_New_L2 m_network_New_L2
  repeat with_reducible (first | intro _ | apply le_network_Set_With | exact Le.refl _ | apply Le.ite | apply Le.seqE | apply Le.bind | apply Le.lp | exact Le.none _)
def e_network_New (n_ : Nat) (y0 : T_Graph) : Option T_network_Net :=
  (
    (mkS y0.1 y0.1 (0 : Int)).bind fun x1 =>
    (mkS y0.1 y0.1 (0 : Int)).bind fun x2 =>
    some (0, x1, x2) : Option T_network_Net).bind fun s1 =>
  ((lp n_) ((e_network_New_L1 n_) y0) (0, s1.1) : Option Int).bind fun s2 =>
  ((lp n_) ((e_network_New_L2 n_) y0) (0, s1.2.1, s1.2.2) : Option ((List Int) × (List Int))).bind fun s4 =>
  some (s2, s4.1, s4.2)
theorem le_network_New (n_ : Nat) (y0 : T_Graph) : Le (e_network_New n_ y0) (m_network_New y0) := by
  unfold e_network_New m_network_New
  repeat with_reducible (first | intro _ | apply le_network_New_L2 | apply le_network_New_L1 | exact Le.refl _ | apply Le.ite | apply Le.seqE | apply Le.bind | apply Le.lp | exact Le.none _)
def e_explain_Defences_2 (n_ : Nat) (y0 : Int) (y1 : Int) : Option Bool :=
  some ((y0 != y1) && ((bandNot .u64 y0 y1) == 0))
theorem le_explain_Defences_2 (n_ : Nat) (y0 : Int) (y1 : Int) : Le (e_explain_Defences_2 n_ y0 y1) (m_explain_Defences_2 y0 y1) := by
  unfold e_explain_Defences_2 m_explain_Defences_2
  repeat with_reducible (first | intro _ | exact Le.refl _ | apply Le.ite | apply Le.seqE | apply Le.bind | apply Le.lp | exact Le.none _)
def e_slices_IndexFunc_Set__explain_Defences_2_L1 (n_ : Nat) (y0 : List Int) (y1 : Int) (s1 : Int) : Option (Int ⊕ Int) :=
  if decide (s1 < (len y0)) then
    (idx y0 s1).bind fun x1 =>
    ((e_explain_Defences_2 n_) x1 y1).bind fun r1 =>
    if r1 then
      some (.inr s1)
    else
      some (.inl (w64 (s1 + 1)))
  else
    some (.inr (-1))
theorem le_slices_IndexFunc_Set__explain_Defences_2_L1 (n_ : Nat) (y0 : List Int) (y1 : Int) (s1 : Int) : Le (e_slices_IndexFunc_Set__explain_Defences_2_L1 n_ y0 y1 s1) (m_slices_IndexFunc_Set__explain_Defences_2_L1 y0 y1 s1) := by
  unfold e_slices_IndexFunc_Set__explain_Defences_2_L1 m_slices_IndexFunc_Set__explain_Defences_2_L1
  repeat with_reducible (first | intro _ | apply le_explain_Defences_2 | exact Le.refl _ | apply Le.ite | apply Le.seqE | apply Le.bind | apply Le.lp | exact Le.none _)
def e_slices_IndexFunc_Set__explain_Defences_2 (n_ : Nat) (y0 : List Int) (y1 : Int) : Option Int :=
  (lp n_) ((e_slices_IndexFunc_Set__explain_Defences_2_L1 n_) y0 y1) 0
theorem le_slices_IndexFunc_Set__explain_Defences_2 (n_ : Nat) (y0 : List Int) (y1 : Int) : Le (e_slices_IndexFunc_Set__explain_Defences_2 n_ y0 y1) (m_slices_IndexFunc_Set__explain_Defences_2 y0 y1) := by
  unfold e_slices_IndexFunc_Set__explain_Defences_2 m_slices_IndexFunc_Set__explain_Defences_2
  repeat with_reducible (first | intro _ | apply le_slices_IndexFunc_Set__explain_Defences_2_L1 | exact Le.refl _ | apply Le.ite | apply Le.seqE | apply Le.bind | apply Le.lp | exact Le.none _)
def e_slices_ContainsFunc_Set__explain_Defences_2 (n_ : Nat) (y0 : List Int) (y1 : Int) : Option Bool :=
  ((e_slices_IndexFunc_Set__explain_Defences_2 n_) y0 y1).bind fun r1 =>
  some (decide (0 ≤ r1))
theorem le_slices_ContainsFunc_Set__explain_Defences_2 (n_ : Nat) (y0 : List Int) (y1 : Int) : Le (e_slices_ContainsFunc_Set__explain_Defences_2 n_ y0 y1) (m_slices_ContainsFunc_Set__explain_Defences_2 y0 y1) := by
  unfold e_slices_ContainsFunc_Set__explain_Defences_2 m_slices_ContainsFunc_Set__explain_Defences_2
  repeat with_reducible (first | intro _ | apply le_slices_IndexFunc_Set__explain_Defences_2 | exact Le.refl _ | apply Le.ite | apply Le.seqE | apply Le.bind | apply Le.lp | exact Le.none _)
def e_explain_Defences_L1 (n_ : Nat) (r4 : (List Int)) (s2 : (List (List Int)) × Int) : Option (((List (List Int)) × Int) ⊕ (List (List Int))) :=
  if decide (s2.2 < (len r4)) then
    (idx r4 s2.2).bind fun x1 =>
    ((e_slices_ContainsFunc_Set__explain_Defences_2 n_) r4 x1).bind fun r5 =>
    if !r5 then
      ((e_network_Set_List n_) x1).bind fun r6 =>
      (app s2.1 ([r6] : List (List Int))).bind fun x2 =>
      some (.inl (x2, w64 (s2.2 + 1)))
    else
      some (.inl (s2.1, w64 (s2.2 + 1)))
  else
    some (.inr s2.1)
theorem le_explain_Defences_L1 (n_ : Nat) (r4 : (List Int)) (s2 : (List (List Int)) × Int) : Le (e_explain_Defences_L1 n_ r4 s2) (m_explain_Defences_L1 r4 s2) := by
  unfold e_explain_Defences_L1 m_explain_Defences_L1
  repeat with_reducible (first | intro _ | apply le_network_Set_List | apply le_slices_ContainsFunc_Set__explain_Defences_2 | exact Le.refl _ | apply Le.ite | apply Le.seqE | apply Le.bind | apply Le.lp | exact Le.none _)
def e_explain_Defences (n_ : Nat) (y0 : T_Graph) (y1 : Int) : Option ((List (List Int)) × Int) :=
  ((e_graph_Validate n_) y0).bind fun r1 =>
  if r1 != 0 then
    some (([] : List (List Int)), r1)
  else
    if (decide (y1 < 0)) || (decide (y0.1 ≤ y1)) then
      some (([] : List (List Int)), 1)
    else
      if decide (10 < y0.1) then
        some (([] : List (List Int)), 2)
      else
        ((e_network_New n_) y0).bind fun r2 =>
        ((e_network_Set_List n_) r2.1).bind fun r3 =>
        ((e_explain_all__explain_Defences_1 n_) r3 y1 r2 ([] : List Int)).bind fun r4 =>
        ((lp n_) ((e_explain_Defences_L1 n_) r4) (([] : List (List Int)), 0) : Option (List (List Int))).bind fun s1 =>
        ((e_slices_SortFunc_int__explain_Defences_3 n_) s1).bind fun r7 =>
        some (r7, 0)
theorem le_explain_Defences (n_ : Nat) (y0 : T_Graph) (y1 : Int) : Le (e_explain_Defences n_ y0 y1) (m_explain_Defences y0 y1) := by
  unfold e_explain_Defences m_explain_Defences
  repeat with_reducible (first | intro _ | apply le_slices_SortFunc_int__explain_Defences_3 | apply le_explain_Defences_L1 | apply le_explain_all__explain_Defences_1 | apply le_network_Set_List | apply le_network_New | apply le_graph_Validate | exact Le.refl _ | apply Le.ite | apply Le.seqE | apply Le.bind | apply Le.lp | exact Le.none _)
def e_network_Net_Grounded_L2 (n_ : Nat) (r2 : (List Int)) (y0 : T_network_Net) (r1 : Int) (s3 : Int × Int) : Option ((Int × Int) ⊕ Int) :=
  if decide (s3.2 < (len r2)) then
    (idx r2 s3.2).bind fun x1 =>
    (idx y0.2.1 x1).bind fun x2 =>
    if (bandNot .u64 x2 r1) == 0 then
      ((e_network_Set_With n_) s3.1 x1).bind fun r3 =>
      some (.inl (r3, w64 (s3.2 + 1)))
    else
      some (.inl (s3.1, w64 (s3.2 + 1)))
  else
    some (.inr s3.1)
theorem le_network_Net_Grounded_L2 (n_ : Nat) (r2 : (List Int)) (y0 : T_network_Net) (r1 : Int) (s3 : Int × Int) : Le (e_network_Net_Grounded_L2 n_ r2 y0 r1 s3) (m_network_Net_Grounded_L2 r2 y0 r1 s3) := by
  unfold e_network_Net_Grounded_L2 m_network_Net_Grounded_L2
  repeat with_reducible (first | intro _ | apply le_network_Set_With | exact Le.refl _ | apply Le.ite | apply Le.seqE | apply Le.bind | apply Le.lp | exact Le.none _)
def e_network_Net_Grounded_L1 (n_ : Nat) (y0 : T_network_Net) (s1 : (List Int) × Int) : Option (((List Int) × Int) ⊕ (List Int)) :=
  ((e_network_Net_Hit n_) y0 s1.2).bind fun r1 =>
  (
    ((e_network_Set_List n_) y0.1).bind fun r2 =>
    (lp n_) ((e_network_Net_Grounded_L2 n_) r2 y0 r1) (s1.2, 0) : Option Int).bind fun s2 =>
  if s2 == s1.2 then
    some (.inr s1.1)
  else
    (app s1.1 ([s2] : List Int)).bind fun x3 =>
    some (.inl (x3, s2))
theorem le_network_Net_Grounded_L1 (n_ : Nat) (y0 : T_network_Net) (s1 : (List Int) × Int) : Le (e_network_Net_Grounded_L1 n_ y0 s1) (m_network_Net_Grounded_L1 y0 s1) := by
  unfold e_network_Net_Grounded_L1 m_network_Net_Grounded_L1
  repeat with_reducible (first | intro _ | apply le_network_Net_Grounded_L2 | apply le_network_Set_List | apply le_network_Net_Hit | exact Le.refl _ | apply Le.ite | apply Le.seqE | apply Le.bind | apply Le.lp | exact Le.none _)
def e_network_Net_Grounded (n_ : Nat) (y0 : T_network_Net) : Option (List Int) :=
  (lp n_) ((e_network_Net_Grounded_L1 n_) y0) (([] : List Int), 0)
theorem le_network_Net_Grounded (n_ : Nat) (y0 : T_network_Net) : Le (e_network_Net_Grounded n_ y0) (m_network_Net_Grounded y0) := by
  unfold e_network_Net_Grounded m_network_Net_Grounded
  repeat with_reducible (first | intro _ | apply le_network_Net_Grounded_L1 | exact Le.refl _ | apply Le.ite | apply Le.seqE | apply Le.bind | apply Le.lp | exact Le.none _)
def e_network_Net_In (n_ : Nat) (y0 : T_network_Net) : Option Int :=
  ((e_network_Net_Grounded n_) y0).bind fun r1 =>
  if (len r1) == 0 then
    some 0
  else
    (idx r1 (w64 ((len r1) - 1))).bind fun x1 =>
    some x1
theorem le_network_Net_In (n_ : Nat) (y0 : T_network_Net) : Le (e_network_Net_In n_ y0) (m_network_Net_In y0) := by
  unfold e_network_Net_In m_network_Net_In
  repeat with_reducible (first | intro _ | apply le_network_Net_Grounded | exact Le.refl _ | apply Le.ite | apply Le.seqE | apply Le.bind | apply Le.lp | exact Le.none _)
def e_network_Net_Stable (n_ : Nat) (y0 : T_network_Net) (y1 : Int) : Option Bool :=
  (
    ((e_network_Net_Free n_) y0 y1).bind fun r1 =>
    if r1 then
      ((e_network_Net_Hit n_) y0 y1).bind fun r2 =>
      some ((bandNot .u64 (bandNot .u64 y0.1 y1) r2) == 0)
    else
      some false : Option Bool).bind fun s1 =>
  some s1
theorem le_network_Net_Stable (n_ : Nat) (y0 : T_network_Net) (y1 : Int) : Le (e_network_Net_Stable n_ y0 y1) (m_network_Net_Stable y0 y1) := by
  unfold e_network_Net_Stable m_network_Net_Stable
  repeat with_reducible (first | intro _ | apply le_network_Net_Hit | apply le_network_Net_Free | exact Le.refl _ | apply Le.ite | apply Le.seqE | apply Le.bind | apply Le.lp | exact Le.none _)
def e_network_Net_Answer_1 (n_ : Nat) (y0 : Int) (y1 : Int) (y2 : T_network_Net) (y3 : Int) (y4 : Bool) (y5 : Bool) : Option (Bool × Bool) :=
  (
    if y1 == 1 then
      ((e_network_Net_Admissible n_) y2 y0).bind fun r1 =>
      if r1 then
        some true
      else
        if y1 != 1 then
          ((e_network_Net_Stable n_) y2 y0).bind fun r2 =>
          some r2
        else
          some false
    else
      if y1 != 1 then
        ((e_network_Net_Stable n_) y2 y0).bind fun r3 =>
        some r3
      else
        some false : Option Bool).bind fun s1 =>
  (
    if s1 then
      ((e_network_Set_Has n_) y0 y3).bind fun r4 =>
      some (!(r4 == y4))
    else
      some false : Option Bool).bind fun s2 =>
  if s2 then
    some (false, !y4)
  else
    some (true, y5)
theorem le_network_Net_Answer_1 (n_ : Nat) (y0 : Int) (y1 : Int) (y2 : T_network_Net) (y3 : Int) (y4 : Bool) (y5 : Bool) : Le (e_network_Net_Answer_1 n_ y0 y1 y2 y3 y4 y5) (m_network_Net_Answer_1 y0 y1 y2 y3 y4 y5) := by
  unfold e_network_Net_Answer_1 m_network_Net_Answer_1
  repeat with_reducible (first | intro _ | apply le_network_Set_Has | apply le_network_Net_Stable | apply le_network_Net_Admissible | exact Le.refl _ | apply Le.ite | apply Le.seqE | apply Le.bind | apply Le.lp | exact Le.none _)
def e_network_subsets__network_Net_Answer_1_L1 (n_ : Nat) (y1 : Int) (y2 : T_network_Net) (y3 : Int) (y4 : Bool) (y0 : Int) (s1 : Int × Bool) : Option ((Int × Bool) ⊕ Bool) :=
  (
    ((e_network_Net_Answer_1 n_) s1.1 y1 y2 y3 y4 s1.2).bind fun r1 =>
    if !r1.1 then
      some (true, r1.2)
    else
      some (s1.1 == 0, r1.2) : Option (Bool × Bool)).bind fun s2 =>
  if s2.1 then
    some (.inr s2.2)
  else
    some (.inl (band .u64 (IntKind.u64.wrap (s1.1 - 1)) y0, s2.2))
theorem le_network_subsets__network_Net_Answer_1_L1 (n_ : Nat) (y1 : Int) (y2 : T_network_Net) (y3 : Int) (y4 : Bool) (y0 : Int) (s1 : Int × Bool) : Le (e_network_subsets__network_Net_Answer_1_L1 n_ y1 y2 y3 y4 y0 s1) (m_network_subsets__network_Net_Answer_1_L1 y1 y2 y3 y4 y0 s1) := by
  unfold e_network_subsets__network_Net_Answer_1_L1 m_network_subsets__network_Net_Answer_1_L1
  repeat with_reducible (first | intro _ | apply le_network_Net_Answer_1 | exact Le.refl _ | apply Le.ite | apply Le.seqE | apply Le.bind | apply Le.lp | exact Le.none _)
def e_network_subsets__network_Net_Answer_1 (n_ : Nat) (y0 : Int) (y1 : Int) (y2 : T_network_Net) (y3 : Int) (y4 : Bool) (y5 : Bool) : Option Bool :=
  (lp n_) ((e_network_subsets__network_Net_Answer_1_L1 n_) y1 y2 y3 y4 y0) (y0, y5)
theorem le_network_subsets__network_Net_Answer_1 (n_ : Nat) (y0 : Int) (y1 : Int) (y2 : T_network_Net) (y3 : Int) (y4 : Bool) (y5 : Bool) : Le (e_network_subsets__network_Net_Answer_1 n_ y0 y1 y2 y3 y4 y5) (m_network_subsets__network_Net_Answer_1 y0 y1 y2 y3 y4 y5) := by
  unfold e_network_subsets__network_Net_Answer_1 m_network_subsets__network_Net_Answer_1
  repeat with_reducible (first | intro _ | apply le_network_subsets__network_Net_Answer_1_L1 | exact Le.refl _ | apply Le.ite | apply Le.seqE | apply Le.bind | apply Le.lp | exact Le.none _)
def e_network_Net_Answer (n_ : Nat) (y0 : T_network_Net) (y1 : Int) (y2 : Int) : Option Bool :=
  if y1 == 4 then
    ((e_network_Net_In n_) y0).bind fun r1 =>
    ((e_network_Set_Has n_) r1 y2).bind fun r2 =>
    some r2
  else
    ((e_network_subsets__network_Net_Answer_1 n_) y0.1 y1 y0 y2 (y1 == 3) (y1 == 3)).bind fun r3 =>
    some r3
theorem le_network_Net_Answer (n_ : Nat) (y0 : T_network_Net) (y1 : Int) (y2 : Int) : Le (e_network_Net_Answer n_ y0 y1 y2) (m_network_Net_Answer y0 y1 y2) := by
  unfold e_network_Net_Answer m_network_Net_Answer
  repeat with_reducible (first | intro _ | apply le_network_subsets__network_Net_Answer_1 | apply le_network_Set_Has | apply le_network_Net_In | exact Le.refl _ | apply Le.ite | apply Le.seqE | apply Le.bind | apply Le.lp | exact Le.none _)
def e_network_Net_Within_L1 (n_ : Nat) (y0 : T_network_Net) (s1 : T_network_Net) (y1 : Int) (s3 : Int × (List Int) × (List Int)) : Option ((Int × (List Int) × (List Int)) ⊕ ((List Int) × (List Int))) :=
  if decide (s3.1 < (len y0.2.1)) then
    ((e_network_Set_Has n_) s1.1 s3.1).bind fun r1 =>
    if r1 then
      (idx y0.2.1 s3.1).bind fun x11 =>
      (idx y0.2.2 s3.1).bind fun x12 =>
      (idx s3.2.1 s3.1).bind fun _ =>
      (idx s3.2.2 s3.1).bind fun _ =>
      some (.inl (w64 (s3.1 + 1), List.set s3.2.1 (Int.toNat s3.1) (band .u64 x11 y1), List.set s3.2.2 (Int.toNat s3.1) (band .u64 x12 y1)))
    else
      some (.inl (w64 (s3.1 + 1), s3.2.1, s3.2.2))
  else
    some (.inr (s3.2.1, s3.2.2))
theorem le_network_Net_Within_L1 (n_ : Nat) (y0 : T_network_Net) (s1 : T_network_Net) (y1 : Int) (s3 : Int × (List Int) × (List Int)) : Le (e_network_Net_Within_L1 n_ y0 s1 y1 s3) (m_network_Net_Within_L1 y0 s1 y1 s3) := by
  unfold e_network_Net_Within_L1 m_network_Net_Within_L1
  repeat with_reducible (first | intro _ | apply le_network_Set_Has | exact Le.refl _ | apply Le.ite | apply Le.seqE | apply Le.bind | apply Le.lp | exact Le.none _)
def e_network_Net_Within (n_ : Nat) (y0 : T_network_Net) (y1 : Int) : Option T_network_Net :=
  (
    (mkS (len y0.2.1) (len y0.2.1) (0 : Int)).bind fun x1 =>
    (mkS (len y0.2.1) (len y0.2.1) (0 : Int)).bind fun x2 =>
    some (band .u64 y0.1 y1, x1, x2) : Option T_network_Net).bind fun s1 =>
  ((lp n_) ((e_network_Net_Within_L1 n_) y0 s1 y1) (0, s1.2.1, s1.2.2) : Option ((List Int) × (List Int))).bind fun s2 =>
  some (s1.1, s2.1, s2.2)
theorem le_network_Net_Within (n_ : Nat) (y0 : T_network_Net) (y1 : Int) : Le (e_network_Net_Within n_ y0 y1) (m_network_Net_Within y0 y1) := by
  unfold e_network_Net_Within m_network_Net_Within
  repeat with_reducible (first | intro _ | apply le_network_Net_Within_L1 | exact Le.refl _ | apply Le.ite | apply Le.seqE | apply Le.bind | apply Le.lp | exact Le.none _)
def e_explain_Removals_2 (n_ : Nat) (y0 : List Int) (y1 : T_network_Net) (y2 : Int) (y3 : Int) (y4 : Bool) : Option Bool :=
  ((e_network_Of n_) y0).bind fun r1 =>
  ((e_network_Net_Within n_) y1 (bandNot .u64 y1.1 r1)).bind fun r2 =>
  ((e_network_Net_Answer n_) r2 y2 y3).bind fun r3 =>
  some (!(r3 == y4))
theorem le_explain_Removals_2 (n_ : Nat) (y0 : List Int) (y1 : T_network_Net) (y2 : Int) (y3 : Int) (y4 : Bool) : Le (e_explain_Removals_2 n_ y0 y1 y2 y3 y4) (m_explain_Removals_2 y0 y1 y2 y3 y4) := by
  unfold e_explain_Removals_2 m_explain_Removals_2
  repeat with_reducible (first | intro _ | apply le_network_Net_Answer | apply le_network_Net_Within | apply le_network_Of | exact Le.refl _ | apply Le.ite | apply Le.seqE | apply Le.bind | apply Le.lp | exact Le.none _)
def e_explain_least_1__explain_Removals_2 (n_ : Nat) (y0 : List Int) (y1 : List (List Int)) (y3 : T_network_Net) (y4 : Int) (y5 : Int) (y6 : Bool) : Option (List (List Int)) :=
  (
    if decide (0 < (len y1)) then
      (idx y1 0).bind fun x1 =>
      if decide ((len x1) < (len y0)) then
        some true
      else
        ((e_explain_Removals_2 n_) y0 y3 y4 y5 y6).bind fun r1 =>
        some (!r1)
    else
      ((e_explain_Removals_2 n_) y0 y3 y4 y5 y6).bind fun r2 =>
      some (!r2) : Option Bool).bind fun s1 =>
  if s1 then
    some y1
  else
    (
      (
        if decide (0 < (len y1)) then
          (idx y1 0).bind fun x2 =>
          some (decide ((len y0) < (len x2)))
        else
          some false : Option Bool).bind fun s3 =>
      if s3 then
        some ([] : List (List Int))
      else
        some y1 : Option (List (List Int))).bind fun s2 =>
    (app s2 ([y0] : List (List Int))).bind fun x3 =>
    some x3
theorem le_explain_least_1__explain_Removals_2 (n_ : Nat) (y0 : List Int) (y1 : List (List Int)) (y3 : T_network_Net) (y4 : Int) (y5 : Int) (y6 : Bool) : Le (e_explain_least_1__explain_Removals_2 n_ y0 y1 y3 y4 y5 y6) (m_explain_least_1__explain_Removals_2 y0 y1 y3 y4 y5 y6) := by
  unfold e_explain_least_1__explain_Removals_2 m_explain_least_1__explain_Removals_2
  repeat with_reducible (first | intro _ | apply le_explain_Removals_2 | exact Le.refl _ | apply Le.ite | apply Le.seqE | apply Le.bind | apply Le.lp | exact Le.none _)
def e_explain_all__explain_least_1_L2 (n_ : Nat) (y0 : List Int) (s1 : Int × (List (List Int))) (s3 : (List Int) × Int) : Option (((List Int) × Int) ⊕ (List Int)) :=
  if decide (s3.2 < (len y0)) then
    (idx y0 s3.2).bind fun x2 =>
    (shrK .i64 s1.1 s3.2).bind fun x3 =>
    if (band .i64 x3 1) == 1 then
      (app s3.1 ([x2] : List Int)).bind fun x4 =>
      some (.inl (x4, w64 (s3.2 + 1)))
    else
      some (.inl (s3.1, w64 (s3.2 + 1)))
  else
    some (.inr s3.1)
theorem le_explain_all__explain_least_1_L2 (n_ : Nat) (y0 : List Int) (s1 : Int × (List (List Int))) (s3 : (List Int) × Int) : Le (e_explain_all__explain_least_1_L2 n_ y0 s1 s3) (m_explain_all__explain_least_1_L2 y0 s1 s3) := by
  unfold e_explain_all__explain_least_1_L2 m_explain_all__explain_least_1_L2
  repeat with_reducible (first | intro _ | exact Le.refl _ | apply Le.ite | apply Le.seqE | apply Le.bind | apply Le.lp | exact Le.none _)
def e_explain_all__explain_least_1_L1 (n_ : Nat) (x1 : Int) (y0 : List Int) (y3 : T_network_Net) (y4 : Int) (y5 : Int) (y6 : Bool) (s1 : Int × (List (List Int))) : Option ((Int × (List (List Int))) ⊕ (List (List Int))) :=
  if decide (s1.1 < x1) then
    ((lp n_) ((e_explain_all__explain_least_1_L2 n_) y0 s1) (([] : List Int), 0) : Option (List Int)).bind fun s2 =>
    ((e_explain_least_1__explain_Removals_2 n_) s2 s1.2 y3 y4 y5 y6).bind fun r1 =>
    some (.inl (w64 (s1.1 + 1), r1))
  else
    some (.inr s1.2)
theorem le_explain_all__explain_least_1_L1 (n_ : Nat) (x1 : Int) (y0 : List Int) (y3 : T_network_Net) (y4 : Int) (y5 : Int) (y6 : Bool) (s1 : Int × (List (List Int))) : Le (e_explain_all__explain_least_1_L1 n_ x1 y0 y3 y4 y5 y6 s1) (m_explain_all__explain_least_1_L1 x1 y0 y3 y4 y5 y6 s1) := by
  unfold e_explain_all__explain_least_1_L1 m_explain_all__explain_least_1_L1
  repeat with_reducible (first | intro _ | apply le_explain_least_1__explain_Removals_2 | apply le_explain_all__explain_least_1_L2 | exact Le.refl _ | apply Le.ite | apply Le.seqE | apply Le.bind | apply Le.lp | exact Le.none _)
def e_explain_all__explain_least_1 (n_ : Nat) (y0 : List Int) (y1 : List (List Int)) (y3 : T_network_Net) (y4 : Int) (y5 : Int) (y6 : Bool) : Option (List (List Int)) :=
  (shlK .i64 1 (len y0)).bind fun x1 =>
  (lp n_) ((e_explain_all__explain_least_1_L1 n_) x1 y0 y3 y4 y5 y6) (0, y1)
theorem le_explain_all__explain_least_1 (n_ : Nat) (y0 : List Int) (y1 : List (List Int)) (y3 : T_network_Net) (y4 : Int) (y5 : Int) (y6 : Bool) : Le (e_explain_all__explain_least_1 n_ y0 y1 y3 y4 y5 y6) (m_explain_all__explain_least_1 y0 y1 y3 y4 y5 y6) := by
  unfold e_explain_all__explain_least_1 m_explain_all__explain_least_1
  repeat with_reducible (first | intro _ | apply le_explain_all__explain_least_1_L1 | exact Le.refl _ | apply Le.ite | apply Le.seqE | apply Le.bind | apply Le.lp | exact Le.none _)
def e_explain_least__explain_Removals_2 (n_ : Nat) (y0 : List Int) (y1 : T_network_Net) (y2 : Int) (y3 : Int) (y4 : Bool) : Option (List (List Int)) :=
  ((e_explain_all__explain_least_1 n_) y0 ([] : List (List Int)) y1 y2 y3 y4).bind fun r1 =>
  ((e_slices_SortFunc_int__explain_least_2 n_) r1).bind fun r2 =>
  some r2
theorem le_explain_least__explain_Removals_2 (n_ : Nat) (y0 : List Int) (y1 : T_network_Net) (y2 : Int) (y3 : Int) (y4 : Bool) : Le (e_explain_least__explain_Removals_2 n_ y0 y1 y2 y3 y4) (m_explain_least__explain_Removals_2 y0 y1 y2 y3 y4) := by
  unfold e_explain_least__explain_Removals_2 m_explain_least__explain_Removals_2
  repeat with_reducible (first | intro _ | apply le_slices_SortFunc_int__explain_least_2 | apply le_explain_all__explain_least_1 | exact Le.refl _ | apply Le.ite | apply Le.seqE | apply Le.bind | apply Le.lp | exact Le.none _)
def e_network_Question (n_ : Nat) (y0 : Int) : Option Bool :=
  some ((decide (1 ≤ y0)) && (decide (y0 ≤ 4)))
theorem le_network_Question (n_ : Nat) (y0 : Int) : Le (e_network_Question n_ y0) (m_network_Question y0) := by
  unfold e_network_Question m_network_Question
  repeat with_reducible (first | intro _ | exact Le.refl _ | apply Le.ite | apply Le.seqE | apply Le.bind | apply Le.lp | exact Le.none _)
def e_explain_Removals_1 (n_ : Nat) (y0 : Int) (y1 : Int) : Option Bool :=
  some (y0 == y1)
theorem le_explain_Removals_1 (n_ : Nat) (y0 : Int) (y1 : Int) : Le (e_explain_Removals_1 n_ y0 y1) (m_explain_Removals_1 y0 y1) := by
  unfold e_explain_Removals_1 m_explain_Removals_1
  repeat with_reducible (first | intro _ | exact Le.refl _ | apply Le.ite | apply Le.seqE | apply Le.bind | apply Le.lp | exact Le.none _)
def e_slices_IndexFunc_int__explain_Removals_1_L1 (n_ : Nat) (y0 : List Int) (y1 : Int) (s1 : Int) : Option (Int ⊕ Int) :=
  if decide (s1 < (len y0)) then
    (idx y0 s1).bind fun x1 =>
    ((e_explain_Removals_1 n_) x1 y1).bind fun r1 =>
    if r1 then
      some (.inr s1)
    else
      some (.inl (w64 (s1 + 1)))
  else
    some (.inr (-1))
theorem le_slices_IndexFunc_int__explain_Removals_1_L1 (n_ : Nat) (y0 : List Int) (y1 : Int) (s1 : Int) : Le (e_slices_IndexFunc_int__explain_Removals_1_L1 n_ y0 y1 s1) (m_slices_IndexFunc_int__explain_Removals_1_L1 y0 y1 s1) := by
  unfold e_slices_IndexFunc_int__explain_Removals_1_L1 m_slices_IndexFunc_int__explain_Removals_1_L1
  repeat with_reducible (first | intro _ | apply le_explain_Removals_1 | exact Le.refl _ | apply Le.ite | apply Le.seqE | apply Le.bind | apply Le.lp | exact Le.none _)
def e_slices_IndexFunc_int__explain_Removals_1 (n_ : Nat) (y0 : List Int) (y1 : Int) : Option Int :=
  (lp n_) ((e_slices_IndexFunc_int__explain_Removals_1_L1 n_) y0 y1) 0
theorem le_slices_IndexFunc_int__explain_Removals_1 (n_ : Nat) (y0 : List Int) (y1 : Int) : Le (e_slices_IndexFunc_int__explain_Removals_1 n_ y0 y1) (m_slices_IndexFunc_int__explain_Removals_1 y0 y1) := by
  unfold e_slices_IndexFunc_int__explain_Removals_1 m_slices_IndexFunc_int__explain_Removals_1
  repeat with_reducible (first | intro _ | apply le_slices_IndexFunc_int__explain_Removals_1_L1 | exact Le.refl _ | apply Le.ite | apply Le.seqE | apply Le.bind | apply Le.lp | exact Le.none _)
def e_slices_DeleteFunc_int__explain_Removals_1_L1 (n_ : Nat) (y0 : List Int) (y1 : Int) (s2 : (List Int) × Int × Int) : Option (((List Int) × Int × Int) ⊕ ((List Int) × Int)) :=
  if decide (s2.2.2 < (len y0)) then
    (idx s2.1 s2.2.2).bind fun x1 =>
    ((e_explain_Removals_1 n_) x1 y1).bind fun r2 =>
    if !r2 then
      (idx s2.1 s2.2.1).bind fun _ =>
      some (.inl (List.set s2.1 (Int.toNat s2.2.1) x1, w64 (s2.2.1 + 1), w64 (s2.2.2 + 1)))
    else
      some (.inl (s2.1, s2.2.1, w64 (s2.2.2 + 1)))
  else
    some (.inr (s2.1, s2.2.1))
theorem le_slices_DeleteFunc_int__explain_Removals_1_L1 (n_ : Nat) (y0 : List Int) (y1 : Int) (s2 : (List Int) × Int × Int) : Le (e_slices_DeleteFunc_int__explain_Removals_1_L1 n_ y0 y1 s2) (m_slices_DeleteFunc_int__explain_Removals_1_L1 y0 y1 s2) := by
  unfold e_slices_DeleteFunc_int__explain_Removals_1_L1 m_slices_DeleteFunc_int__explain_Removals_1_L1
  repeat with_reducible (first | intro _ | apply le_explain_Removals_1 | exact Le.refl _ | apply Le.ite | apply Le.seqE | apply Le.bind | apply Le.lp | exact Le.none _)
def e_slices_DeleteFunc_int__explain_Removals_1 (n_ : Nat) (y0 : List Int) (y1 : Int) : Option (List Int) :=
  ((e_slices_IndexFunc_int__explain_Removals_1 n_) y0 y1).bind fun r1 =>
  if r1 == (-1) then
    some y0
  else
    ((lp n_) ((e_slices_DeleteFunc_int__explain_Removals_1_L1 n_) y0 y1) (y0, r1, w64 (r1 + 1)) : Option ((List Int) × Int)).bind fun s1 =>
    (chk (decide (0 ≤ s1.2) && decide (s1.2 ≤ len s1.1))).bind fun _ =>
    (sub (clearFrom s1.1 s1.2 0) 0 s1.2).bind fun x3 =>
    some x3
theorem le_slices_DeleteFunc_int__explain_Removals_1 (n_ : Nat) (y0 : List Int) (y1 : Int) : Le (e_slices_DeleteFunc_int__explain_Removals_1 n_ y0 y1) (m_slices_DeleteFunc_int__explain_Removals_1 y0 y1) := by
  unfold e_slices_DeleteFunc_int__explain_Removals_1 m_slices_DeleteFunc_int__explain_Removals_1
  repeat with_reducible (first | intro _ | apply le_slices_DeleteFunc_int__explain_Removals_1_L1 | apply le_slices_IndexFunc_int__explain_Removals_1 | exact Le.refl _ | apply Le.ite | apply Le.seqE | apply Le.bind | apply Le.lp | exact Le.none _)
def e_explain_Removals (n_ : Nat) (y0 : T_Graph) (y1 : Int) (y2 : Int) : Option ((List (List Int)) × Int) :=
  ((e_graph_Validate n_) y0).bind fun r1 =>
  if r1 != 0 then
    some (([] : List (List Int)), r1)
  else
    ((e_network_Question n_) y1).bind fun r2 =>
    if !r2 then
      some (([] : List (List Int)), 4)
    else
      if (decide (y2 < 0)) || (decide (y0.1 ≤ y2)) then
        some (([] : List (List Int)), 1)
      else
        if decide (10 < y0.1) then
          some (([] : List (List Int)), 2)
        else
          ((e_network_New n_) y0).bind fun r3 =>
          ((e_network_Net_Answer n_) r3 y1 y2).bind fun r4 =>
          ((e_network_Set_List n_) r3.1).bind fun r5 =>
          ((e_slices_DeleteFunc_int__explain_Removals_1 n_) r5 y2).bind fun r6 =>
          ((e_explain_least__explain_Removals_2 n_) r6 r3 y1 y2 r4).bind fun r7 =>
          if (len r7) == 0 then
            some (([] : List (List Int)), 9)
          else
            some (r7, 0)
theorem le_explain_Removals (n_ : Nat) (y0 : T_Graph) (y1 : Int) (y2 : Int) : Le (e_explain_Removals n_ y0 y1 y2) (m_explain_Removals y0 y1 y2) := by
  unfold e_explain_Removals m_explain_Removals
  repeat with_reducible (first | intro _ | apply le_explain_least__explain_Removals_2 | apply le_slices_DeleteFunc_int__explain_Removals_1 | apply le_network_Set_List | apply le_network_Net_Answer | apply le_network_New | apply le_network_Question | apply le_graph_Validate | exact Le.refl _ | apply Le.ite | apply Le.seqE | apply Le.bind | apply Le.lp | exact Le.none _)
def e_keep_Ints_L1 (n_ : Nat) (y0 : List Int) (y1 : List Int) (s1 : Int) : Option (Int ⊕ Bool) :=
  if decide (s1 < (len y0)) then
    (idx y0 s1).bind fun x1 =>
    (idx y1 s1).bind fun x2 =>
    if x1 != x2 then
      some (.inr false)
    else
      some (.inl (w64 (s1 + 1)))
  else
    some (.inr true)
theorem le_keep_Ints_L1 (n_ : Nat) (y0 : List Int) (y1 : List Int) (s1 : Int) : Le (e_keep_Ints_L1 n_ y0 y1 s1) (m_keep_Ints_L1 y0 y1 s1) := by
  unfold e_keep_Ints_L1 m_keep_Ints_L1
  repeat with_reducible (first | intro _ | exact Le.refl _ | apply Le.ite | apply Le.seqE | apply Le.bind | apply Le.lp | exact Le.none _)
def e_keep_Ints (n_ : Nat) (y0 : List Int) (y1 : List Int) : Option Bool :=
  if (len y0) != (len y1) then
    some false
  else
    (lp n_) ((e_keep_Ints_L1 n_) y0 y1) 0
theorem le_keep_Ints (n_ : Nat) (y0 : List Int) (y1 : List Int) : Le (e_keep_Ints n_ y0 y1) (m_keep_Ints y0 y1) := by
  unfold e_keep_Ints m_keep_Ints
  repeat with_reducible (first | intro _ | apply le_keep_Ints_L1 | exact Le.refl _ | apply Le.ite | apply Le.seqE | apply Le.bind | apply Le.lp | exact Le.none _)
def e_keep_Lists_L1 (n_ : Nat) (y0 : List (List Int)) (y1 : List (List Int)) (s1 : Int) : Option (Int ⊕ Bool) :=
  if decide (s1 < (len y0)) then
    (idx y0 s1).bind fun x1 =>
    (idx y1 s1).bind fun x2 =>
    ((e_keep_Ints n_) x1 x2).bind fun r1 =>
    if !r1 then
      some (.inr false)
    else
      some (.inl (w64 (s1 + 1)))
  else
    some (.inr true)
theorem le_keep_Lists_L1 (n_ : Nat) (y0 : List (List Int)) (y1 : List (List Int)) (s1 : Int) : Le (e_keep_Lists_L1 n_ y0 y1 s1) (m_keep_Lists_L1 y0 y1 s1) := by
  unfold e_keep_Lists_L1 m_keep_Lists_L1
  repeat with_reducible (first | intro _ | apply le_keep_Ints | exact Le.refl _ | apply Le.ite | apply Le.seqE | apply Le.bind | apply Le.lp | exact Le.none _)
def e_keep_Lists (n_ : Nat) (y0 : List (List Int)) (y1 : List (List Int)) : Option Bool :=
  if (len y0) != (len y1) then
    some false
  else
    (lp n_) ((e_keep_Lists_L1 n_) y0 y1) 0
theorem le_keep_Lists (n_ : Nat) (y0 : List (List Int)) (y1 : List (List Int)) : Le (e_keep_Lists n_ y0 y1) (m_keep_Lists y0 y1) := by
  unfold e_keep_Lists m_keep_Lists
  repeat with_reducible (first | intro _ | apply le_keep_Lists_L1 | exact Le.refl _ | apply Le.ite | apply Le.seqE | apply Le.bind | apply Le.lp | exact Le.none _)
def e_law24_awake (n_ : Nat) : Option Bool :=
  ((e_explain_Removals n_) (2, ([(0, 1)] : List T_Pair)) 4 1).bind fun r1 =>
  ((e_explain_Defences n_) (3, ([(0, 1), (1, 2)] : List T_Pair)) 2).bind fun r2 =>
  (
    if r1.2 == 0 then
      if r2.2 == 0 then
        ((e_keep_Lists n_) r1.1 ([([0] : List Int)] : List (List Int))).bind fun r3 =>
        if r3 then
          ((e_keep_Lists n_) r2.1 ([([0, 2] : List Int)] : List (List Int))).bind fun r4 =>
          some r4
        else
          some false
      else
        some false
    else
      some false : Option Bool).bind fun s1 =>
  some s1
theorem le_law24_awake (n_ : Nat) : Le (e_law24_awake n_ ) (m_law24_awake ) := by
  unfold e_law24_awake m_law24_awake
  repeat with_reducible (first | intro _ | apply le_keep_Lists | apply le_explain_Defences | apply le_explain_Removals | exact Le.refl _ | apply Le.ite | apply Le.seqE | apply Le.bind | apply Le.lp | exact Le.none _)
end
section
set_option linter.unusedVariables false
/-- Removals: both answer the same -/
theorem removals_same (g : T_Graph) (hL : g.2.length < 4294967296) (q n : Int) : ∃ A e, m_explain_Removals g q n = some (A, e) ∧ m_ref24_Removals g q n = some (A, e) ∧ A.length ≤ 1024 ∧ ∀ s ∈ A, s.length ≤ 10 := by
  obtain ⟨e, h1, h2, h3⟩ := validates g hL
  by_cases he : e = 0
  · subst he
    have hG := h3 rfl
    by_cases hq : 1 ≤ q ∧ q ≤ 4
    · by_cases hn : 0 ≤ n ∧ n < g.1
      · by_cases hN : g.1 ≤ 10
        · obtain ⟨N, L⟩ := g
          obtain ⟨k, hk⟩ := Int.eq_ofNat_of_zero_le hG.1
          simp only at hk hn hN hL hG h1 h2 ⊢
          subst hk
          obtain ⟨a, rfl⟩ := Int.eq_ofNat_of_zero_le hn.1
          obtain ⟨r, r1, r2, r3, r4⟩ := explain_RemovalsN (by omega) hG.inN hL q hq a (by omega) hG h1
          have r5 := ref24_RemovalsN (by omega) hG.inN hL q hq a (by omega) hG h2 r1 r2
          cases hr : r.isEmpty with
          | true =>
            rw [hr] at r4 r5
            exact ⟨[], 9, r4, r5, by simp, by simp⟩
          | false =>
            rw [hr] at r4 r5
            exact ⟨r, 0, r4, r5, r3, fun s hs => by have := ((r2 s).1 hs).1.len; omega⟩
        · have d1 : (decide (1 ≤ q) && decide (q ≤ 4)) = true := by simp; omega
          have d2 : (decide (q < 1) || decide (4 < q)) = false := by simp; omega
          have d3 : (decide (n < 0) || decide (g.1 ≤ n)) = false := by simp; omega
          have d4 : decide (10 < g.1) = true := by simp; omega
          exact ⟨[], 2, by unfold m_explain_Removals; simp [h1, m_network_Question, d1, d3, d4], by unfold m_ref24_Removals; simp [h2, d2, d3, d4], by simp, by simp⟩
      · have d1 : (decide (1 ≤ q) && decide (q ≤ 4)) = true := by simp; omega
        have d2 : (decide (q < 1) || decide (4 < q)) = false := by simp; omega
        have d3 : (decide (n < 0) || decide (g.1 ≤ n)) = true := by simp; omega
        exact ⟨[], 1, by unfold m_explain_Removals; simp [h1, m_network_Question, d1, d3], by unfold m_ref24_Removals; simp [h2, d2, d3], by simp, by simp⟩
    · have d1 : (decide (1 ≤ q) && decide (q ≤ 4)) = false := by simp; omega
      have d2 : (decide (q < 1) || decide (4 < q)) = true := by simp; omega
      exact ⟨[], 4, by unfold m_explain_Removals; simp [h1, m_network_Question, d1], by unfold m_ref24_Removals; simp [h2, d2], by simp, by simp⟩
  · have d : (e != 0) = true := by simpa using he
    exact ⟨[], e, by unfold m_explain_Removals; simp [h1, he], by unfold m_ref24_Removals; simp [h2, he], by simp, by simp⟩
/-- Defences: both answer the same -/
theorem defences_same (g : T_Graph) (hL : g.2.length < 4294967296) (n : Int) : ∃ A e, m_explain_Defences g n = some (A, e) ∧ m_ref24_Defences g n = some (A, e) ∧ A.length ≤ 1024 ∧ ∀ s ∈ A, s.length ≤ 10 := by
  obtain ⟨e, h1, h2, h3⟩ := validates g hL
  by_cases he : e = 0
  · subst he
    have hG := h3 rfl
    by_cases hn : 0 ≤ n ∧ n < g.1
    · by_cases hN : g.1 ≤ 10
      · obtain ⟨N, L⟩ := g
        obtain ⟨k, hk⟩ := Int.eq_ofNat_of_zero_le hG.1
        simp only at hk hn hN hL hG h1 h2 ⊢
        subst hk
        obtain ⟨a, rfl⟩ := Int.eq_ofNat_of_zero_le hn.1
        obtain ⟨r, r1, r2, r3, r4⟩ := explain_DefencesN (by omega) hG.inN hL a (by omega) h1
        obtain ⟨u, u1, u2, u3⟩ := ref24_DefencesN (by omega) hG.inN hL a (by omega) h2
        have : r = u := Asc.ext ord_ltL r1 u1 fun s => by rw [r2, u2]
        subst this
        exact ⟨r, 0, r4, u3, r3, fun s hs => by have := ((r2 s).1 hs).1.len; omega⟩
      · have d3 : (decide (n < 0) || decide (g.1 ≤ n)) = false := by simp; omega
        have d4 : decide (10 < g.1) = true := by simp; omega
        exact ⟨[], 2, by unfold m_explain_Defences; simp [h1, d3, d4], by unfold m_ref24_Defences; simp [h2, d3, d4], by simp, by simp⟩
    · have d3 : (decide (n < 0) || decide (g.1 ≤ n)) = true := by simp; omega
      exact ⟨[], 1, by unfold m_explain_Defences; simp [h1, d3], by unfold m_ref24_Defences; simp [h2, d3], by simp, by simp⟩
  · have d : (e != 0) = true := by simpa using he
    exact ⟨[], e, by unfold m_explain_Defences; simp [h1, he], by unfold m_ref24_Defences; simp [h2, he], by simp, by simp⟩
theorem range_ok {s : T_keep_Src} {lo hi : Int} (h : SrcOk s) (h0 : -1000 ≤ lo) (h1 : lo ≤ hi) (h2 : hi ≤ 1000) : ∃ v k, m_keep_Src_Range s lo hi = some (v, k) ∧ lo ≤ v ∧ v ≤ hi ∧ SrcOk (s.1, k) := by
  have e1 : w64 (hi - lo) = hi - lo := w64_id (by omega) (by omega)
  have e2 : w64 (hi - lo + 1) = hi - lo + 1 := w64_id (by omega) (by omega)
  obtain ⟨v, k, h3, h4, h5, h6⟩ := keep_N h (n := hi - lo + 1) (by omega) (by omega)
  exact ⟨lo + v, k, by unfold m_keep_Src_Range; rw [e1, e2, h3]; simp [w64_id (show -9223372036854775808 ≤ lo + v by omega) (by omega)], by omega, by omega, h6⟩
/-- a graph as the reader makes it -/
structure DrG (g : T_Graph) (n : Int) : Prop where
  lo : 1 ≤ g.1
  hi : g.1 ≤ n
  asc : Asc lt2 g.2
  inn : ∀ p ∈ g.2, 0 ≤ p.1 ∧ p.1 < g.1 ∧ 0 ≤ p.2 ∧ p.2 < g.1
  len : g.2.length ≤ 1000
/-- rows up to a, in row a up to b -/
structure RowsI (N a b : Nat) (l : List T_Pair) : Prop where
  asc : Asc lt2 l
  inn : ∀ p ∈ l, 0 ≤ p.1 ∧ p.1 < N ∧ 0 ≤ p.2 ∧ p.2 < N
  done : ∀ p ∈ l, p.1 < a ∨ (p.1 = a ∧ p.2 < b)
  len : l.length ≤ a * N + b
theorem net_Graph_ok {s : T_keep_Src} {n : Int} (h : SrcOk s) (h0 : 1 ≤ n) (h1 : n ≤ 10) : ∃ g k, m_net_Graph s n = some (g, k) ∧ DrG g n ∧ SrcOk (s.1, k) := by
  obtain ⟨N0, k1, h2, h3, h4, h5⟩ := range_ok h (show -1000 ≤ (1 : Int) by omega) h0 (by omega)
  obtain ⟨N, rfl⟩ := Int.eq_ofNat_of_zero_le (show 0 ≤ N0 by omega)
  obtain ⟨d, k2, h6, h7, h8, h9⟩ := range_ok h5 (show -1000 ≤ (2 : Int) by omega) (show (2 : Int) ≤ 5 by omega) (by omega)
  have hN : N ≤ 10 := by omega
  -- a row
  have row : ∀ (a : Nat) (k : Int) (l : List T_Pair), a < N → SrcOk (s.1, k) → RowsI N a 0 l → ∃ k' l', loop (m_net_Graph_L2 ((N : Int), k1) ((a : Int), k, l) (d, k2) s) (0, k, l) = some (.inl (((a + 1 : Nat) : Int), k', l')) ∧ SrcOk (s.1, k') ∧ RowsI N (a + 1) 0 l' := by
    intro a k l ha hk hl
    have h := loop_uptoS (B := m_net_Graph_L2 ((N : Int), k1) ((a : Int), k, l) (d, k2) s) (fun (z : Int × List T_Pair) b => ((b : Int), z.1, z.2)) N (fun b z => SrcOk (s.1, z.1) ∧ RowsI N a b z.2)
      (fun r => ∃ k' l', r = .inl (((a + 1 : Nat) : Int), k', l') ∧ SrcOk (s.1, k') ∧ RowsI N (a + 1) 0 l') ?_ ?_ (k, l) ⟨hk, hl⟩
    · obtain ⟨r, h10, k', l', rfl, h11⟩ := h
      exact ⟨k', l', h10, h11⟩
    · rintro b ⟨kb, lb⟩ hb ⟨hs, hI⟩
      replace hI : RowsI N a b lb := hI
      replace hs : SrcOk (s.1, kb) := hs
      have hd : decide ((b : Int) < (N : Int)) = true := by simp; omega
      have hm : ∃ m, (1 ≤ m ∧ m ≤ 1000) ∧ (if ((a : Int) == (b : Int)) = true then some 9 else some d) = some m := by
        by_cases he : ((a : Int) == (b : Int)) = true
        · exact ⟨9, by omega, by rw [if_pos he]⟩
        · exact ⟨d, by omega, by rw [if_neg he]⟩
      obtain ⟨m, hm1, hm2⟩ := hm
      obtain ⟨v, k3, h10, h11, h12, h13⟩ := keep_N hs (n := m) hm1.1 (by omega)
      have hll : lb.length ≤ 110 := by
        have h14 := hI.len
        have h15 : a * N ≤ 10 * 10 := Nat.mul_le_mul (by omega) hN
        omega
      have hstep : m_net_Graph_L2 ((N : Int), k1) ((a : Int), k, l) (d, k2) s ((b : Int), kb, lb) = if (v == 1) = true then some (.inl (((b + 1 : Nat) : Int), k3, lb ++ [((a : Int), (b : Int))])) else some (.inl (((b + 1 : Nat) : Int), k3, lb)) := by
        unfold m_net_Graph_L2
        simp only [hd, if_true]
        rw [hm2]
        simp only [Option.bind_some]
        have h10' : m_keep_Src_N (s.1, kb) m = some (v, k3) := h10
        rw [h10']
        simp only [Option.bind_some, w64_succ b (by omega)]
        rw [app_ok (by simp; omega)]
        rfl
      by_cases hv : (v == 1) = true
      · rw [if_pos hv] at hstep
        refine .inl ⟨(k3, lb ++ [((a : Int), (b : Int))]), hstep, h13, ?_, ?_, ?_, ?_⟩
        · refine List.pairwise_append.2 ⟨hI.asc, by simp, fun p hp r hr => ?_⟩
          simp only [List.mem_singleton] at hr
          subst hr
          rcases hI.done p hp with h14 | ⟨h14, h15⟩
          · simp [lt2, lexLt, ltI, h14]
          · simp [lt2, lexLt, ltI, h14, h15]
        · intro p hp
          rw [List.mem_append, List.mem_singleton] at hp
          rcases hp with hp | rfl
          · exact hI.inn p hp
          · exact ⟨by simp, by simp; omega, by simp, by simp; omega⟩
        · intro p hp
          rw [List.mem_append, List.mem_singleton] at hp
          rcases hp with hp | rfl
          · rcases hI.done p hp with h14 | ⟨h14, h15⟩
            · exact .inl h14
            · exact .inr ⟨h14, by omega⟩
          · exact .inr ⟨rfl, by simp; omega⟩
        · have := hI.len; simp; omega
      · rw [if_neg hv] at hstep
        refine .inl ⟨(k3, lb), hstep, h13, hI.asc, hI.inn, fun p hp => ?_, by have := hI.len; simp only; omega⟩
        rcases hI.done p hp with h14 | ⟨h14, h15⟩
        · exact .inl h14
        · exact .inr ⟨h14, by omega⟩
    · rintro ⟨kb, lb⟩ ⟨hs, hI⟩
      replace hI : RowsI N a N lb := hI
      refine ⟨_, ?_, kb, lb, rfl, hs, hI.asc, hI.inn, fun p hp => ?_, ?_⟩
      · unfold m_net_Graph_L2
        simp [w64_succ a (by omega)]
      · rcases hI.done p hp with h14 | ⟨h14, h15⟩
        · exact .inl (by omega)
        · exact .inl (by omega)
      · have := hI.len
        rw [Nat.add_mul]; omega
  have h := loop_uptoS (B := m_net_Graph_L1 ((N : Int), k1) (d, k2) s) (fun (z : Int × List T_Pair) a => ((a : Int), z.1, z.2)) N (fun a z => SrcOk (s.1, z.1) ∧ RowsI N a 0 z.2)
    (fun r => SrcOk (s.1, r.1) ∧ RowsI N N 0 r.2) ?_ ?_ (k2, []) ⟨h9, by simp, by simp, by simp, by simp⟩
  · obtain ⟨⟨k', l'⟩, h10, h11, h12⟩ := h
    refine ⟨((N : Int), l'), k', ?_, ⟨h3, h4, h12.asc, h12.inn, ?_⟩, h11⟩
    · unfold m_net_Graph
      rw [h2]
      simp only [Option.bind_some, h6]
      have h10' : loop (m_net_Graph_L1 ((N : Int), k1) (d, k2) s) (0, k2, []) = some (k', l') := h10
      rw [h10']
      rfl
    · have h13 : l'.length ≤ N * N + 0 := h12.len
      have h14 : N * N ≤ 10 * 10 := Nat.mul_le_mul hN hN
      simp only; omega
  · rintro a ⟨ka, la⟩ ha ⟨hs, hI⟩
    obtain ⟨k', l', h10, h11, h12⟩ := row a ka la ha hs hI
    have hd : decide ((a : Int) < (N : Int)) = true := by simp; omega
    refine .inl ⟨(k', l'), ?_, h11, h12⟩
    show m_net_Graph_L1 ((N : Int), k1) (d, k2) s ((a : Int), ka, la) = _
    rw [m_net_Graph_L1]
    simp only [hd, if_true]
    exact h10
  · rintro ⟨ka, la⟩ ⟨hs, hI⟩
    refine ⟨(ka, la), ?_, hs, hI⟩
    show m_net_Graph_L1 ((N : Int), k1) (d, k2) s ((N : Int), ka, la) = _
    rw [m_net_Graph_L1]
    simp
theorem DrG.valid {g : T_Graph} {n : Int} (h : DrG g n) (hn : n ≤ 40) : m_graph_Validate g = some 0 ∧ m_ref10_Validate g = some 0 ∧ validG g := by
  obtain ⟨N, L⟩ := g
  have hlo := h.lo
  have hhi := h.hi
  have hl := h.len
  simp only at hlo hhi hl
  have hbad : ∀ p ∈ L, badE N p = false := fun p hp => by
    have := h.inn p hp
    simp only at this
    simp [badE]; omega
  have hG : validG (N, L) := ⟨by simp only; omega, by simp only; omega, hbad⟩
  obtain ⟨e, h1, h2, _⟩ := validates (N, L) (by simp only; omega)
  have he : m_graph_Validate (N, L) = some 0 := by
    unfold m_graph_Validate
    have h0 : (decide (N < 0) || decide (40 < N)) = false := by simp; omega
    rw [h0]
    simp only [Bool.false_eq_true, if_false]
    refine loop_for (l := L) (fun i x hx => ?_) ?_
    · have hi := at_lt hx
      rw [valid_step1 N L (by omega) i (by omega)]
      have hv : vStep N L i = none := by
        unfold vStep
        rw [hx]
        simp only [hbad x (mem_at hx), Bool.false_eq_true, if_false]
        by_cases h0 : i = 0
        · simp [h0]
        · rw [if_neg h0]
          have hp : L[i - 1]? = some L[i - 1] := List.getElem?_eq_getElem (by omega)
          rw [hp]
          have hlt : lt2 L[i - 1] x = true := by
            have h3 := List.pairwise_iff_getElem.1 h.asc (i - 1) i (by simp only; omega) hi (by omega)
            rw [List.getElem?_eq_getElem hi] at hx
            rw [← Option.some.inj hx]; exact h3
          simp [hlt]
      rw [hv]
    · rw [valid_step1 N L (by omega) _ (Nat.le_refl _)]
      simp [vStep]
  rw [he] at h1
  cases h1
  exact ⟨he, h2, hG⟩
theorem p_ExplainAnswers (hw : m_law24_awake = some true) (y0 : T_Graph) (y1 : List Int) (y2 y3 : Int) : m_law24_ExplainAnswers y0 y1 y2 y3 = some true := by
  unfold m_law24_ExplainAnswers
  by_cases hl : y0.2.length ≤ 300
  case neg =>
    have h1 : m_net_Light y0 = some false := by unfold m_net_Light; simp [len]; omega
    simp [h1, hw]
  case pos =>
    have h1 : m_net_Light y0 = some true := by unfold m_net_Light; simp [len]; omega
    rw [h1]
    simp only [Option.bind_some, Bool.not_true, Bool.false_eq_true, if_false]
    by_cases h7 : 7 < y0.1 ∧ y0.1 ≤ 10
    · simp [h7.1, h7.2, hw]
    · have hs1 : (if decide (7 < y0.1) = true then some (decide (y0.1 ≤ 10)) else some false) = some false := by
        by_cases h8 : 7 < y0.1
        · have : ¬ y0.1 ≤ 10 := fun h => h7 ⟨h8, h⟩
          simp [h8, this]
        · simp [h8]
      rw [hs1]
      simp only [Option.bind_some, Bool.false_eq_true, if_false]
      rw [keep_New]
      simp only [Option.bind_some]
      obtain ⟨g, k1, h2, h3, h4⟩ := net_Graph_ok (n := 6) (srcOk_New y1) (by omega) (by omega)
      rw [h2]
      simp only [Option.bind_some]
      have hg1 := h3.lo
      have hg2 := h3.hi
      obtain ⟨n, k2, h5, h6, h7', h8⟩ := keep_N h4 (n := g.1) (by omega) (by omega)
      have h5' : m_keep_Src_N (y1.take 2000, k1) g.1 = some (n, k2) := h5
      rw [h5']
      simp only [Option.bind_some]
      obtain ⟨q, k3, h9, h10, h11, h12⟩ := range_ok h8 (show -1000 ≤ (1 : Int) by omega) (show (1 : Int) ≤ 4 by omega) (by omega)
      have h9' : m_keep_Src_Range (y1.take 2000, k2) 1 4 = some (q, k3) := h9
      rw [h9']
      simp only [Option.bind_some]
      have hgl := h3.len
      have key : ∀ x : T_Graph × Int × Int, x ∈ [(y0, y2, y3), (g, q, n), (g, y2, n), (g, q, y3), (y0, q, 0)] → x.1.2.length < 4294967296 := by
        intro x hx
        simp only [List.mem_cons, List.not_mem_nil, or_false] at hx
        rcases hx with rfl | rfl | rfl | rfl | rfl <;> simp only <;> omega
      have hloop := loop_for (B := m_law24_ExplainAnswers_L1 y0 y2 y3 (g, k1) (q, k3) (n, k2)) (l := [(y0, y2, y3), (g, q, n), (g, y2, n), (g, q, y3), (y0, q, 0)]) (r := (.inl () : Unit ⊕ Bool)) ?_ ?_
      · rw [hloop]
        simp [seqE, hw]
      · intro i x hx
        obtain ⟨A, e, a1, a2, a3, a4⟩ := removals_same x.1 (key x (mem_at hx)) x.2.1 x.2.2
        obtain ⟨D, f, d1, d2, d3, d4⟩ := defences_same x.1 (key x (mem_at hx)) x.2.2
        unfold m_law24_ExplainAnswers_L1
        simp only [at_dec hx, if_true, at_idx hx, Option.bind_some, a1, a2, d1, d2, bne_self_eq_false, Bool.false_eq_true, if_false]
        rw [keep_Lists A A (by omega) (fun s hs => by have := a4 s hs; omega), keep_Lists D D (by omega) (fun s hs => by have := d4 s hs; omega)]
        simp only [Option.bind_some, decide_true, Bool.not_true, Bool.false_eq_true, if_false]
        rw [w64_succ i (by have := at_lt hx; simp at this; omega)]
      · unfold m_law24_ExplainAnswers_L1
        simp [len]
theorem keep_In (l : List Int) (hb : l.length < 4294967296) (x : Int) : m_keep_In l x = some (decide (x ∈ l)) := by
  have h : m_keep_In l x = some (l.any (· == x)) := by
    unfold m_keep_In
    apply loop_any
    · intro i y hy
      unfold m_keep_In_L1
      simp only [at_dec hy, if_true, at_idx hy, Option.bind_some, at_suc hy hb]
      cases y == x <;> rfl
    · unfold m_keep_In_L1
      simp [len]
  rw [h]
  congr 1
  rw [Bool.eq_iff_iff, List.any_eq_true, decide_eq_true_eq]
  constructor
  · rintro ⟨y, h1, h2⟩; rw [← eq_of_beq h2]; exact h1
  · intro h; exact ⟨x, h, by simp⟩
theorem keep_Inside (s t : List Int) (hs : s.length < 4294967296) (ht : t.length < 4294967296) : m_keep_Inside s t = some (s.all fun x => decide (x ∈ t)) := by
  unfold m_keep_Inside
  apply loop_all
  · intro i x hx
    unfold m_keep_Inside_L1
    simp only [at_dec hx, if_true, at_idx hx, Option.bind_some, keep_In t ht, at_suc hx hs]
    by_cases h : x ∈ t <;> simp [h]
  · unfold m_keep_Inside_L1
    simp [len]
/-- nodes, strictly ascending -/
theorem net_Set_ok (g : T_Graph) {s : List Int} (hs : s.length < 4294967296) (ha : Asc ltI s) (hb : ∀ x ∈ s, 0 ≤ x ∧ x < g.1) : m_net_Set g s = some true := by
  unfold m_net_Set
  refine loop_for (l := s) (fun i x hx => ?_) (by unfold m_net_Set_L1; simp [len])
  have hi := at_lt hx
  obtain ⟨h0, h1⟩ := hb x (mem_at hx)
  unfold m_net_Set_L1
  have d1 : decide (x < 0) = false := by simp; omega
  have d2 : decide (g.1 ≤ x) = false := by simp; omega
  simp only [at_dec hx, if_true, at_idx hx, Option.bind_some, d1, d2, Bool.false_eq_true, if_false, at_suc hx hs]
  by_cases hz : i = 0
  · subst hz; simp
  · obtain ⟨j, rfl⟩ : ∃ j, i = j + 1 := ⟨i - 1, by omega⟩
    have hy : s[j]? = some s[j] := List.getElem?_eq_getElem (by omega)
    have hlt : s[j] < x := by
      have h3 := List.pairwise_iff_getElem.1 ha j (j + 1) (by omega) hi (by omega)
      rw [List.getElem?_eq_getElem hi] at hx
      rw [Option.some.inj hx] at h3
      simpa [ltI] using h3
    have hd : decide (0 < ((j + 1 : Nat) : Int)) = true := by rw [decide_eq_true_eq]; omega
    have hw : w64 (((j + 1 : Nat) : Int) - 1) = (j : Int) := by rw [w64_id (by omega) (by omega)]; omega
    have d3 : decide (x ≤ s[j]) = false := by simp; omega
    simp only [hd, if_true, hw, at_idx hy, Option.bind_some, d3, Bool.false_eq_true, if_false]
theorem p_ExplainLeast (hw : m_law24_awake = some true) (y0 : List Int) (y1 : Int) : m_law24_ExplainLeast y0 y1 = some true := by
  unfold m_law24_ExplainLeast
  rw [keep_New]
  simp only [Option.bind_some]
  obtain ⟨⟨G, L⟩, k1, h2, h3, h4⟩ := net_Graph_ok (n := 7) (srcOk_New y0) (by omega) (by omega)
  have hg1 := h3.lo
  have hg2 := h3.hi
  have hgl := h3.len
  obtain ⟨g1, g2, hG⟩ := h3.valid (by omega)
  simp only at hg1 hg2 hgl
  obtain ⟨N, rfl⟩ := Int.eq_ofNat_of_zero_le (show 0 ≤ G by omega)
  have hN : N ≤ 7 := by omega
  have hL : L.length < 4294967296 := by omega
  have hV := hG.inN
  rw [h2]
  simp only [Option.bind_some]
  obtain ⟨n, k2, h5, h6, h7, h8⟩ := keep_N h4 (n := (N : Int)) (by omega) (by omega)
  obtain ⟨a, rfl⟩ := Int.eq_ofNat_of_zero_le h6
  have ha : a < N := by omega
  have h5' : m_keep_Src_N (y0.take 2000, k1) (N : Int) = some ((a : Int), k2) := h5
  rw [h5']
  simp only [Option.bind_some]
  obtain ⟨q, k3, h9, h10, h11, h12⟩ := range_ok h8 (show -1000 ≤ (1 : Int) by omega) (show (1 : Int) ≤ 4 by omega) (by omega)
  have h9' : m_keep_Src_Range (y0.take 2000, k2) 1 4 = some (q, k3) := h9
  have hq : 1 ≤ q ∧ q ≤ 4 := ⟨h10, h11⟩
  rw [h9']
  simp only [Option.bind_some]
  have hs0 : othS N a [] := ⟨List.Pairwise.nil, by simp⟩
  rw [woA_some (by omega) hV hL q hq a ha hs0]
  simp only [Option.bind_some]
  obtain ⟨r, r1, r2, r3, r4⟩ := explain_RemovalsN (by omega) hV hL q hq a ha hG g1
  rw [r4]
  simp only [Option.bind_some]
  -- some nodes
  have hsome : ∃ some' : List Int, loop (m_law24_ExplainLeast_L1 (((N : Int), L), k1) ((a : Int), k2) y1) ([], 0) = some some' ∧ othS N a some' := by
    have h := loop_uptoS (B := m_law24_ExplainLeast_L1 (((N : Int), L), k1) ((a : Int), k2) y1) (fun (s : List Int) i => (s, (i : Int))) N
      (fun i s => s.length ≤ i ∧ Asc ltI s ∧ ∀ x ∈ s, 0 ≤ x ∧ x < i ∧ x ≠ (a : Int)) (fun r => othS N a r) ?_ ?_ [] ⟨by simp, by simp, by simp⟩
    · exact h
    · rintro i s hi ⟨hl, h13, h14⟩
      have hd : decide ((i : Int) < (N : Int)) = true := by simp; omega
      have hsh : ∃ z, shrK .i64 y1 (IntKind.u64.wrap (i : Int)) = some z := by
        rw [wrapU_nat (by omega)]
        exact ⟨_, by unfold shrK; rw [if_neg (by omega)]⟩
      obtain ⟨z, hz⟩ := hsh
      have hstep : m_law24_ExplainLeast_L1 (((N : Int), L), k1) ((a : Int), k2) y1 (s, (i : Int)) = if ((i : Int) != (a : Int)) && (band .i64 z 1 == 1) then some (.inl (s ++ [(i : Int)], ((i + 1 : Nat) : Int))) else some (.inl (s, ((i + 1 : Nat) : Int))) := by
        unfold m_law24_ExplainLeast_L1
        simp only [hd, if_true, hz, Option.bind_some, w64_succ i (by omega)]
        rw [app_ok (by simp; omega)]
        by_cases he : ((i : Int) != (a : Int)) = true
        · simp only [he, if_true, Option.bind_some, Bool.true_and]
        · have he' : ((i : Int) != (a : Int)) = false := by simpa using he
          simp only [he', Bool.false_eq_true, if_false, Option.bind_some, Bool.false_and]
      by_cases hc : (((i : Int) != (a : Int)) && (band .i64 z 1 == 1)) = true
      · rw [if_pos hc] at hstep
        have hne : (i : Int) ≠ (a : Int) := by simp at hc; intro h; exact hc.1 (by omega)
        refine .inl ⟨_, hstep, by simp; omega, List.pairwise_append.2 ⟨h13, by simp, fun x hx y hy => ?_⟩, fun x hx => ?_⟩
        · simp only [List.mem_singleton] at hy
          subst hy
          have := h14 x hx
          simp [ltI]; omega
        · rw [List.mem_append, List.mem_singleton] at hx
          rcases hx with hx | rfl
          · have := h14 x hx; omega
          · omega
      · rw [if_neg hc] at hstep
        exact .inl ⟨_, hstep, by omega, h13, fun x hx => by have := h14 x hx; omega⟩
    · rintro s ⟨hl, h13, h14⟩
      exact ⟨s, by unfold m_law24_ExplainLeast_L1; simp, h13, h14⟩
  obtain ⟨S, hS, hSo⟩ := hsome
  rw [hS]
  simp only [Option.bind_some, woA_some (by omega) hV hL q hq a ha hSo]
  have hch : (!(woA N L q a S == woA N L q a [])) = chA N L q a S := rfl
  rw [hch]
  cases hr : r with
  | nil =>
    have hno : chA N L q a S = false := by
      cases hc : chA N L q a S with
      | false => rfl
      | true =>
        exfalso
        -- then there is a least one
        have hT : S ∈ allS (others N a) (2 ^ (others N a).length) := allS_mem.2 ((others_sub a).2 hSo)
        obtain ⟨b, hb⟩ := leastF_ex (ch := chA N L q a) ⟨S, hT, hc⟩
        obtain ⟨b1, b2, b3⟩ := leastF_mem.1 hb
        have : b ∈ r := (r2 b).2 ⟨(others_sub a).1 (allS_mem.1 b1), b2, fun t ht hct => b3 t (allS_mem.2 ((others_sub a).2 ht)) hct⟩
        rw [hr] at this; cases this
    simp [hno, hw]
  | cons x0 r' =>
    rw [← hr]
    have hne : r.isEmpty = false := by rw [hr]; rfl
    have hx0 : x0 ∈ r := by rw [hr]; simp
    have hpos : 0 < r.length := by rw [hr]; simp
    have hi0 : idx r 0 = some x0 := by rw [hr]; simp [idx]
    have hlr : (len r == 0) = false := by rw [beq_eq_false_iff_ne]; simp only [len]; omega
    rw [hne]
    simp only [Bool.false_eq_true, if_false, show ((0 : Int) == 9) = false by decide, bne_self_eq_false, Bool.false_or, hlr]
    obtain ⟨o1, o2, o3⟩ := (r2 x0).1 hx0
    have hL2 : ∃ f, loop (m_law24_ExplainLeast_L2 (r, 0) (((N : Int), L), k1) ((a : Int), k2) (q, k3) (woA N L q a []) S) (false, 0) = some (.inl f) ∧ (f = true ↔ S ∈ r) := by
      have h := loop_forI (B := m_law24_ExplainLeast_L2 (r, 0) (((N : Int), L), k1) ((a : Int), k2) (q, k3) (woA N L q a []) S) (fun i (s : Bool) => (s, (i : Int))) r (fun i s => s = true ↔ S ∈ r.take i)
        (fun o => ∃ f, o = .inl f ∧ (f = true ↔ S ∈ r)) ?_ ?_ false (by simp)
      · obtain ⟨o, h13, f, rfl, h14⟩ := h
        exact ⟨f, h13, h14⟩
      · rintro i x s hx hI
        obtain ⟨p1, p2, p3⟩ := (r2 x).1 (mem_at hx)
        have hxl := p1.len
        have hin : decide ((a : Int) ∈ x) = false := by simp; intro h; exact (p1.2 _ h).2.2 rfl
        have hll : (len x != len x0) = false := by
          have := p3 x0 o1 o2
          have := o3 x p1 p2
          simp [len]; omega
        have hwo : (woA N L q a x == woA N L q a []) = false := by
          have : (woA N L q a x != woA N L q a []) = true := p2
          simpa using this
        refine .inl ⟨s || decide (x = S), ?_, ?_⟩
        · unfold m_law24_ExplainLeast_L2
          simp only [at_dec hx, if_true, at_idx hx, Option.bind_some]
          rw [net_Set_ok ((N : Int), L) (by omega) p1.1 (fun y hy => ⟨(p1.2 y hy).1, (p1.2 y hy).2.1⟩)]
          simp only [Option.bind_some, Bool.not_true, Bool.false_eq_true, if_false]
          rw [keep_In x (by omega), hin]
          simp only [Option.bind_some, Bool.false_eq_true, if_false, hi0, hll, woA_some (by omega) hV hL q hq a ha p1, hwo, keep_Ints x S (by omega), at_suc hx (show r.length < 4294967296 by omega)]
          cases s <;> simp
        · rw [Bool.or_eq_true, decide_eq_true_eq, hI, take_suc hx, List.mem_append, List.mem_singleton]
          exact or_congr Iff.rfl eq_comm
      · rintro s hI
        rw [List.take_length] at hI
        exact ⟨.inl s, by unfold m_law24_ExplainLeast_L2; simp [len], s, rfl, hI⟩
    obtain ⟨f, hf1, hf2⟩ := hL2
    rw [hf1]
    simp only [seqE, Option.bind_some]
    cases hc : chA N L q a S with
    | false => simp [hw]
    | true =>
      have hge := o3 S hSo hc
      simp only [Bool.not_true, Bool.false_eq_true, if_false, hi0, Option.bind_some]
      by_cases h13 : x0.length < S.length
      · have this : decide (len x0 < len S) = true := by simp [len]; omega
        rw [this, hw]
        simp
      · have e1 : decide (len x0 < len S) = false := by simp [len]; omega
        have e2 : (len S == len x0) = true := by simp [len]; omega
        have hmem : S ∈ r := (r2 S).2 ⟨hSo, hc, fun t ht hct => by have := o3 t ht hct; omega⟩
        have hft : f = true := hf2.2 hmem
        rw [e1, e2, hft, hw]
        simp
theorem p_ExplainDefences (hw : m_law24_awake = some true) (y0 : List Int) (y1 : Int) : m_law24_ExplainDefences y0 y1 = some true := by
  unfold m_law24_ExplainDefences
  rw [keep_New]
  simp only [Option.bind_some]
  obtain ⟨⟨G, L⟩, k1, h2, h3, h4⟩ := net_Graph_ok (n := 8) (srcOk_New y0) (by omega) (by omega)
  have hg1 := h3.lo
  have hg2 := h3.hi
  have hgl := h3.len
  obtain ⟨g1, g2, hG⟩ := h3.valid (by omega)
  simp only at hg1 hg2 hgl
  obtain ⟨N, rfl⟩ := Int.eq_ofNat_of_zero_le (show 0 ≤ G by omega)
  have hN : N ≤ 8 := by omega
  have hL : L.length < 4294967296 := by omega
  have hV := hG.inN
  rw [h2]
  simp only [Option.bind_some]
  obtain ⟨n, k2, h5, h6, h7, h8⟩ := keep_N h4 (n := (N : Int)) (by omega) (by omega)
  obtain ⟨a, rfl⟩ := Int.eq_ofNat_of_zero_le h6
  have ha : a < N := by omega
  have h5' : m_keep_Src_N (y0.take 2000, k1) (N : Int) = some ((a : Int), k2) := h5
  rw [h5']
  simp only [Option.bind_some]
  obtain ⟨r, r1, r2, r3, r4⟩ := explain_DefencesN (by omega) hV hL a ha g1
  rw [r4]
  simp only [Option.bind_some, bne_self_eq_false, Bool.false_eq_true, if_false]
  rw [shlK_one (show N < 64 by omega)]
  simp only [Option.bind_some]
  -- the nodes of the set
  have hp : 2 ^ N ≤ 256 := Nat.pow_le_pow_right (n := 2) (by decide) hN
  have hp1 : 1 ≤ 2 ^ N := Nat.pow_pos (by decide)
  have hwm : IntKind.u64.wrap (((2 ^ N : Nat) : Int) - 1) = ((2 ^ N - 1 : Nat) : Int) := by
    generalize 2 ^ N = z at hp hp1
    rw [wrapU (by omega) (by omega)]; omega
  obtain ⟨Y, hY, hYl⟩ : ∃ Y : Nat, IntKind.u64.wrap y1 = (Y : Int) ∧ Y < 18446744073709551616 := by
    refine ⟨(IntKind.u64.wrap y1).toNat, ?_, ?_⟩ <;>
    · unfold IntKind.wrap
      simp only [IntKind.bits, IntKind.signed, Bool.false_and, Bool.false_eq_true, if_false]
      omega
  rw [hwm, hY, band_nat hYl (by omega)]
  have hX : Y &&& (2 ^ N - 1) < 2 ^ N := Nat.lt_of_le_of_lt Nat.and_le_right (by omega)
  generalize Y &&& (2 ^ N - 1) = X at hX
  have hX64 : X < 18446744073709551616 := by omega
  rw [net_Members hX64]
  have hbl := bitsL_len X
  simp only [Option.bind_some, keep_In (bitsL X) (by omega), net_Admissible _ L hL (bitsL X) (by omega)]
  have hSd : (decide ((a : Int) ∈ bitsL X) = true ∧ admS L (bitsL X) = true) ↔ dfS N L a (bitsL X) := by
    rw [decide_eq_true_eq]
    exact ⟨fun h => ⟨bitsL_asc X, fun x hx => (by obtain ⟨i, rfl, _, hi⟩ := bitsL_mem.1 hx; have := maskN hX hi; omega), h.1, h.2⟩, fun h => ⟨h.2.2.1, h.2.2.2⟩⟩
  have hs1 : ∃ b, (if decide ((a : Int) ∈ bitsL X) = true then some (admS L (bitsL X)) else some false) = some b ∧ (b = true ↔ dfS N L a (bitsL X)) := by
    by_cases hm : decide ((a : Int) ∈ bitsL X) = true
    · exact ⟨admS L (bitsL X), by rw [if_pos hm], by rw [← hSd]; simp [hm]⟩
    · exact ⟨false, by rw [if_neg hm], by rw [← hSd]; simp [hm]⟩
  obtain ⟨b, hb1, hb2⟩ := hs1
  rw [hb1]
  simp only [Option.bind_some]
  have hL1 : ∃ f, loop (m_law24_ExplainDefences_L1 (r, 0) (((N : Int), L), k1) ((a : Int), k2) (bitsL X)) (b, 0) = some (.inl f) ∧ (f = true ↔ b = true ∧ ∀ t ∈ r, ¬ ∀ x ∈ t, x ∈ bitsL X) := by
    have h := loop_forI (B := m_law24_ExplainDefences_L1 (r, 0) (((N : Int), L), k1) ((a : Int), k2) (bitsL X)) (fun i (s : Bool) => (s, (i : Int))) r (fun i s => s = true ↔ b = true ∧ ∀ t ∈ r.take i, ¬ ∀ x ∈ t, x ∈ bitsL X)
      (fun o => ∃ f, o = .inl f ∧ (f = true ↔ b = true ∧ ∀ t ∈ r, ¬ ∀ x ∈ t, x ∈ bitsL X)) ?_ ?_ b (by simp)
    · obtain ⟨o, h13, f, rfl, h14⟩ := h
      exact ⟨f, h13, h14⟩
    · rintro i x s hx hI
      obtain ⟨p1, p2⟩ := (r2 x).1 (mem_at hx)
      have hxl := p1.len
      have hlr : r.length < 4294967296 := by omega
      have hin : decide ((a : Int) ∈ x) = true := by simpa using p1.2.2.1
      have hL2 : loop (m_law24_ExplainDefences_L2 (r, 0) (s, (i : Int))) 0 = some (.inl ()) := by
        refine loop_for (l := r) (fun j y hy => ?_) (by unfold m_law24_ExplainDefences_L2; simp [len])
        obtain ⟨q1, q2⟩ := (r2 y).1 (mem_at hy)
        have hyl := q1.len
        unfold m_law24_ExplainDefences_L2
        simp only [at_dec hy, if_true, at_suc hy hlr]
        by_cases hij : i = j
        · subst hij
          simp
        · have hne : ((i : Int) != (j : Int)) = true := by simp; omega
          simp only [hne, if_true, at_idx hx, at_idx hy, Option.bind_some, keep_Inside x y (by omega) (by omega)]
          have hno : (x.all fun z => decide (z ∈ y)) = false := by
            cases hal : x.all fun z => decide (z ∈ y) with
            | false => rfl
            | true =>
              exfalso
              rw [List.all_eq_true] at hal
              have hxy := q2 x p1 (fun z hz => by simpa using hal z hz)
              subst hxy
              have h5 : r[i]? = r[j]? := by rw [hx, hy]
              have := (List.getElem?_inj (at_lt hx) (ascL_nodup r1)).1 h5
              exact hij this
          simp [hno]
      refine .inl ⟨s && !(x.all fun z => decide (z ∈ bitsL X)), ?_, ?_⟩
      · have hstep : m_law24_ExplainDefences_L1 (r, 0) (((N : Int), L), k1) ((a : Int), k2) (bitsL X) (s, (i : Int)) = seqE (loop (m_law24_ExplainDefences_L2 (r, 0) (s, (i : Int))) 0 : Option (Unit ⊕ ((Bool × Int) ⊕ (Bool ⊕ Bool)))) fun _ =>
            (if s = true then some (!(x.all fun z => decide (z ∈ bitsL X))) else some false : Option Bool).bind fun s8 => some (.inl (s8, ((i + 1 : Nat) : Int))) := by
          rw [m_law24_ExplainDefences_L1]
          simp only [at_dec hx, if_true, at_idx hx, Option.bind_some]
          rw [net_Set_ok ((N : Int), L) (by omega) p1.1 p1.2.1]
          simp only [Option.bind_some, Bool.not_true, Bool.false_eq_true, if_false]
          rw [keep_In x (by omega), hin]
          simp only [Option.bind_some, Bool.not_true, Bool.false_eq_true, if_false, net_Admissible _ L hL x (by omega), p1.2.2.2, keep_Inside x (bitsL X) (by omega) (by omega), at_suc hx hlr]
        rw [hstep, hL2]
        cases s <;> simp [seqE]
      · rw [Bool.and_eq_true, hI, take_suc hx, Bool.not_eq_true', List.all_eq_false]
        constructor
        · rintro ⟨⟨h13, h14⟩, z, hz1, hz2⟩
          refine ⟨h13, fun t ht => ?_⟩
          rw [List.mem_append, List.mem_singleton] at ht
          rcases ht with ht | rfl
          · exact h14 t ht
          · intro hall; exact hz2 (by simpa using hall z hz1)
        · rintro ⟨h13, h14⟩
          refine ⟨⟨h13, fun t ht => h14 t (List.mem_append.2 (.inl ht))⟩, ?_⟩
          apply Classical.byContradiction
          intro hno
          exact h14 x (by simp) fun z hz => Classical.byContradiction fun hn => hno ⟨z, hz, by simpa using hn⟩
    · rintro s hI
      rw [List.take_length] at hI
      exact ⟨.inl s, by unfold m_law24_ExplainDefences_L1; simp [len], s, rfl, hI⟩
  obtain ⟨f, hf1, hf2⟩ := hL1
  rw [hf1]
  simp only [seqE, Option.bind_some]
  have hff : f = false := by
    cases f with
    | false => rfl
    | true =>
      obtain ⟨h13, h14⟩ := hf2.1 rfl
      obtain ⟨t, ht1, ht2⟩ := dfM_ex _ (bitsL X) (Nat.le_refl _) (hb2.1 h13)
      exact absurd ht2 (h14 t ((r2 t).2 ht1))
  subst hff
  simp only [Bool.not_false, if_true]
  obtain ⟨c, hc1, hc2⟩ := net_SomeAdmissible N (by omega) L hL a (by omega) [] (by simp)
  rw [hc1]
  simp only [Option.bind_some]
  have heq : (decide (0 < len r) == c) = true := by
    rw [beq_iff_eq, Bool.eq_iff_iff, hc2]
    constructor
    · intro h
      cases hr : r with
      | nil => rw [hr] at h; simp [len] at h
      | cons x r' =>
        obtain ⟨p1, _⟩ := (r2 x).1 (by rw [hr]; simp)
        obtain ⟨hb, hlt⟩ := p1.bits (by omega)
        exact ⟨maskL x, hlt, by rw [maskL_bit (fun y hy => (p1.2.1 y hy).1)]; simpa using p1.2.2.1, by simp, by rw [hb]; exact p1.2.2.2⟩
    · rintro ⟨Z, hZ, hZa, _, hZad⟩
      have hd : dfS N L a (bitsL Z) := ⟨bitsL_asc Z, fun x hx => (by obtain ⟨i, rfl, _, hi⟩ := bitsL_mem.1 hx; have := maskN hZ hi; omega), (bitsL_mem' (by omega)).2 hZa, hZad⟩
      obtain ⟨t, ht1, _⟩ := dfM_ex _ (bitsL Z) (Nat.le_refl _) hd
      have : t ∈ r := (r2 t).2 ht1
      have := List.length_pos_of_mem this
      simp [len]; omega
  rw [heq]
  simp [hw]
end
section
theorem exp_awake : m_law24_awake = some true := (le_law24_awake 100).el true (by kernel_rfl)
theorem p_law24_ExplainAnswers (y0 : T_Graph) (y1 : List Int) (y2 y3 : Int) (_w0 : wProd (wInt .i64) (wList (wProd (wInt .i64) (wInt .i64))) y0) (_w1 : wList (wInt .i64) y1) (_w2 : wInt .i64 y2) (_w3 : wInt .i64 y3) : m_law24_ExplainAnswers y0 y1 y2 y3 = some true := p_ExplainAnswers exp_awake y0 y1 y2 y3
theorem p_law24_ExplainLeast (y0 : List Int) (y1 : Int) (_w0 : wList (wInt .i64) y0) (_w1 : wInt .i64 y1) : m_law24_ExplainLeast y0 y1 = some true := p_ExplainLeast exp_awake y0 y1
theorem p_law24_ExplainDefences (y0 : List Int) (y1 : Int) (_w0 : wList (wInt .i64) y0) (_w1 : wInt .i64 y1) : m_law24_ExplainDefences y0 y1 = some true := p_ExplainDefences exp_awake y0 y1
end

end Go.GD
