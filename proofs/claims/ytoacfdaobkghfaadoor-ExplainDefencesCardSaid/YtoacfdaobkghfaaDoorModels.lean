/- Models of the Go functions, printed by program (gd2). Conditions: none. -/
import Derived.Test.YtoacfdaobkghfaaDoorLib
namespace Go.GD
set_option autoImplicit false

abbrev T_Pair := Int × Int
abbrev T_Graph := Int × (List T_Pair)
abbrev T_network_Net := Int × (List Int) × (List Int)
abbrev T_keep_Src := (List Int) × Int

def tab_math_bits_deBruijn64tab : List Int := [0, 1, 56, 2, 57, 49, 28, 3, 61, 58, 42, 50, 38, 29, 17, 4, 62, 47, 59, 36, 45, 43, 51, 22, 53, 39, 33, 30, 24, 18, 12, 5, 63, 55, 48, 27, 60, 41, 37, 16, 46, 35, 44, 21, 52, 32, 23, 11, 54, 26, 40, 15, 34, 20, 31, 10, 25, 14, 19, 9, 13, 8, 7, 6]

noncomputable def m_math_bits_TrailingZeros64 (y0 : Int) : Option Int :=
  if y0 == 0 then
    some 64
  else
    (idx tab_math_bits_deBruijn64tab (shr .u64 (IntKind.u64.wrap ((band .u64 y0 (IntKind.u64.wrap (0 - y0))) * 285870213051353865)) 58)).bind fun x1 =>
    some (w64 (x1))

noncomputable def m_network_Set_List_L1 (s1 : Int × (List Int)) : Option ((Int × (List Int)) ⊕ (List Int)) :=
  if s1.1 != 0 then
    (m_math_bits_TrailingZeros64 s1.1).bind fun r1 =>
    (app s1.2 ([r1] : List Int)).bind fun x1 =>
    some (.inl (band .u64 s1.1 (IntKind.u64.wrap (s1.1 - 1)), x1))
  else
    some (.inr s1.2)

noncomputable def m_network_Set_List (y0 : Int) : Option (List Int) :=
  loop (m_network_Set_List_L1) (y0, ([] : List Int))

noncomputable def m_network_Net_Attackers_L1 (r1 : (List Int)) (y0 : T_network_Net) (s1 : Int × Int) : Option ((Int × Int) ⊕ Int) :=
  if decide (s1.2 < (len r1)) then
    (idx r1 s1.2).bind fun x1 =>
    (idx y0.2.1 x1).bind fun x2 =>
    some (.inl (bor .u64 s1.1 x2, w64 (s1.2 + 1)))
  else
    some (.inr s1.1)

noncomputable def m_network_Net_Attackers (y0 : T_network_Net) (y1 : Int) : Option Int :=
  (m_network_Set_List y1).bind fun r1 =>
  loop (m_network_Net_Attackers_L1 r1 y0) (0, 0)

noncomputable def m_network_Net_Hit_L1 (r1 : (List Int)) (y0 : T_network_Net) (s1 : Int × Int) : Option ((Int × Int) ⊕ Int) :=
  if decide (s1.2 < (len r1)) then
    (idx r1 s1.2).bind fun x1 =>
    (idx y0.2.2 x1).bind fun x2 =>
    some (.inl (bor .u64 s1.1 x2, w64 (s1.2 + 1)))
  else
    some (.inr s1.1)

noncomputable def m_network_Net_Hit (y0 : T_network_Net) (y1 : Int) : Option Int :=
  (m_network_Set_List y1).bind fun r1 =>
  loop (m_network_Net_Hit_L1 r1 y0) (0, 0)

noncomputable def m_network_Net_Free (y0 : T_network_Net) (y1 : Int) : Option Bool :=
  (m_network_Net_Hit y0 y1).bind fun r1 =>
  some ((band .u64 r1 y1) == 0)

noncomputable def m_network_Net_Admissible (y0 : T_network_Net) (y1 : Int) : Option Bool :=
  (
    (m_network_Net_Free y0 y1).bind fun r1 =>
    if r1 then
      (m_network_Net_Attackers y0 y1).bind fun r2 =>
      (m_network_Net_Hit y0 y1).bind fun r3 =>
      some ((bandNot .u64 r2 r3) == 0)
    else
      some false : Option Bool).bind fun s1 =>
  some s1

noncomputable def m_network_Set_With (y0 : Int) (y1 : Int) : Option Int :=
  (shlK .u64 1 (IntKind.u64.wrap (y1))).bind fun x1 =>
  some (bor .u64 y0 x1)

noncomputable def m_network_Of_L1 (y0 : List Int) (s1 : Int × Int) : Option ((Int × Int) ⊕ Int) :=
  if decide (s1.2 < (len y0)) then
    (idx y0 s1.2).bind fun x1 =>
    (m_network_Set_With s1.1 x1).bind fun r1 =>
    some (.inl (r1, w64 (s1.2 + 1)))
  else
    some (.inr s1.1)

noncomputable def m_network_Of (y0 : List Int) : Option Int :=
  loop (m_network_Of_L1 y0) (0, 0)

noncomputable def m_network_Set_Has (y0 : Int) (y1 : Int) : Option Bool :=
  (shrK .u64 y0 (IntKind.u64.wrap (y1))).bind fun x1 =>
  some ((band .u64 x1 1) == 1)

noncomputable def m_explain_Defences_1 (y0 : List Int) (y1 : Int) (y2 : T_network_Net) (y3 : List Int) : Option (List Int) :=
  (m_network_Of y0).bind fun r1 =>
  (
    (m_network_Set_Has r1 y1).bind fun r2 =>
    if r2 then
      (m_network_Net_Admissible y2 r1).bind fun r3 =>
      some r3
    else
      some false : Option Bool).bind fun s1 =>
  if s1 then
    (app y3 ([r1] : List Int)).bind fun x1 =>
    some x1
  else
    some y3

noncomputable def m_explain_all__explain_Defences_1_L2 (y0 : List Int) (s1 : Int × (List Int)) (s3 : (List Int) × Int) : Option (((List Int) × Int) ⊕ (List Int)) :=
  if decide (s3.2 < (len y0)) then
    (idx y0 s3.2).bind fun x2 =>
    (shrK .i64 s1.1 s3.2).bind fun x3 =>
    if (band .i64 x3 1) == 1 then
      (app s3.1 ([x2] : List Int)).bind fun x4 =>
      some (.inl (x4, w64 (s3.2 + 1)))
    else
      some (.inl (s3.1, w64 (s3.2 + 1)))
  else
    some (.inr s3.1)

noncomputable def m_explain_all__explain_Defences_1_L1 (x1 : Int) (y0 : List Int) (y1 : Int) (y2 : T_network_Net) (s1 : Int × (List Int)) : Option ((Int × (List Int)) ⊕ (List Int)) :=
  if decide (s1.1 < x1) then
    (loop (m_explain_all__explain_Defences_1_L2 y0 s1) (([] : List Int), 0) : Option (List Int)).bind fun s2 =>
    (m_explain_Defences_1 s2 y1 y2 s1.2).bind fun r1 =>
    some (.inl (w64 (s1.1 + 1), r1))
  else
    some (.inr s1.2)

noncomputable def m_explain_all__explain_Defences_1 (y0 : List Int) (y1 : Int) (y2 : T_network_Net) (y3 : List Int) : Option (List Int) :=
  (shlK .i64 1 (len y0)).bind fun x1 =>
  loop (m_explain_all__explain_Defences_1_L1 x1 y0 y1 y2) (0, y3)

noncomputable def m_cmp_isNaN_int (y0 : Int) : Option Bool :=
  some (y0 != y0)

noncomputable def m_cmp_Compare_int (y0 : Int) (y1 : Int) : Option Int :=
  (m_cmp_isNaN_int y0).bind fun r1 =>
  (m_cmp_isNaN_int y1).bind fun r2 =>
  if r1 then
    if r2 then
      some 0
    else
      some (-1)
  else
    if r2 then
      some 1
    else
      if decide (y0 < y1) then
        some (-1)
      else
        if decide (y1 < y0) then
          some 1
        else
          some 0

noncomputable def m_cmp_Or_int_L1 (y0 : List Int) (s1 : Int) : Option (Int ⊕ Int) :=
  if decide (s1 < (len y0)) then
    (idx y0 s1).bind fun x1 =>
    if x1 != 0 then
      some (.inr x1)
    else
      some (.inl (w64 (s1 + 1)))
  else
    some (.inr 0)

noncomputable def m_cmp_Or_int (y0 : List Int) : Option Int :=
  loop (m_cmp_Or_int_L1 y0) 0

noncomputable def m_graph_compare (y0 : T_Pair) (y1 : T_Pair) : Option Int :=
  (m_cmp_Compare_int y0.1 y1.1).bind fun r1 =>
  (m_cmp_Compare_int y0.2 y1.2).bind fun r2 =>
  (m_cmp_Or_int ([r1, r2] : List Int)).bind fun r3 =>
  some r3

noncomputable def m_graph_Validate_L1 (y0 : T_Graph) (s1 : Int) : Option (Int ⊕ Int) :=
  if decide (s1 < (len y0.2)) then
    (idx y0.2 s1).bind fun x1 =>
    if (decide ((if x1.2 < x1.1 then x1.2 else x1.1) < 0)) || (decide (y0.1 ≤ (if x1.2 > x1.1 then x1.2 else x1.1))) then
      some (.inr 1)
    else
      (
        if decide (0 < s1) then
          (idx y0.2 (w64 (s1 - 1))).bind fun x2 =>
          (m_graph_compare x2 x1).bind fun r1 =>
          some (decide (0 ≤ r1))
        else
          some false : Option Bool).bind fun s2 =>
      if s2 then
        some (.inr 8)
      else
        some (.inl (w64 (s1 + 1)))
  else
    some (.inr 0)

noncomputable def m_graph_Validate (y0 : T_Graph) : Option Int :=
  if (decide (y0.1 < 0)) || (decide (40 < y0.1)) then
    some 1
  else
    loop (m_graph_Validate_L1 y0) 0

noncomputable def m_network_New_L1 (y0 : T_Graph) (s3 : Int × Int) : Option ((Int × Int) ⊕ Int) :=
  if decide (s3.1 < y0.1) then
    (m_network_Set_With s3.2 s3.1).bind fun r1 =>
    some (.inl (w64 (s3.1 + 1), r1))
  else
    some (.inr s3.2)

noncomputable def m_network_New_L2 (y0 : T_Graph) (s5 : Int × (List Int) × (List Int)) : Option ((Int × (List Int) × (List Int)) ⊕ ((List Int) × (List Int))) :=
  if decide (s5.1 < (len y0.2)) then
    (idx y0.2 s5.1).bind fun x11 =>
    (idx s5.2.1 x11.2).bind fun x12 =>
    (m_network_Set_With x12 x11.1).bind fun r2 =>
    (idx s5.2.1 x11.2).bind fun _ =>
    (idx s5.2.2 x11.1).bind fun x14 =>
    (m_network_Set_With x14 x11.2).bind fun r3 =>
    (idx s5.2.2 x11.1).bind fun _ =>
    some (.inl (w64 (s5.1 + 1), List.set s5.2.1 (Int.toNat x11.2) r2, List.set s5.2.2 (Int.toNat x11.1) r3))
  else
    some (.inr (s5.2.1, s5.2.2))

noncomputable def m_network_New (y0 : T_Graph) : Option T_network_Net :=
  (
    (mkS y0.1 y0.1 (0 : Int)).bind fun x1 =>
    (mkS y0.1 y0.1 (0 : Int)).bind fun x2 =>
    some (0, x1, x2) : Option T_network_Net).bind fun s1 =>
  (loop (m_network_New_L1 y0) (0, s1.1) : Option Int).bind fun s2 =>
  (loop (m_network_New_L2 y0) (0, s1.2.1, s1.2.2) : Option ((List Int) × (List Int))).bind fun s4 =>
  some (s2, s4.1, s4.2)

noncomputable def m_explain_Defences_2 (y0 : Int) (y1 : Int) : Option Bool :=
  some ((y0 != y1) && ((bandNot .u64 y0 y1) == 0))

noncomputable def m_slices_IndexFunc_Set__explain_Defences_2_L1 (y0 : List Int) (y1 : Int) (s1 : Int) : Option (Int ⊕ Int) :=
  if decide (s1 < (len y0)) then
    (idx y0 s1).bind fun x1 =>
    (m_explain_Defences_2 x1 y1).bind fun r1 =>
    if r1 then
      some (.inr s1)
    else
      some (.inl (w64 (s1 + 1)))
  else
    some (.inr (-1))

noncomputable def m_slices_IndexFunc_Set__explain_Defences_2 (y0 : List Int) (y1 : Int) : Option Int :=
  loop (m_slices_IndexFunc_Set__explain_Defences_2_L1 y0 y1) 0

noncomputable def m_slices_ContainsFunc_Set__explain_Defences_2 (y0 : List Int) (y1 : Int) : Option Bool :=
  (m_slices_IndexFunc_Set__explain_Defences_2 y0 y1).bind fun r1 =>
  some (decide (0 ≤ r1))

noncomputable def m_slices_Compare_int_L1 (y0 : List Int) (y1 : List Int) (s2 : Int) : Option (Int ⊕ (Unit ⊕ Int)) :=
  if decide (s2 < (len y0)) then
    (idx y0 s2).bind fun x1 =>
    if decide ((len y1) ≤ s2) then
      some (.inr (.inr 1))
    else
      (idx y1 s2).bind fun x2 =>
      (m_cmp_Compare_int x1 x2).bind fun r1 =>
      if r1 != 0 then
        some (.inr (.inr r1))
      else
        some (.inl (w64 (s2 + 1)))
  else
    some (.inr (.inl ()))

noncomputable def m_slices_Compare_int (y0 : List Int) (y1 : List Int) : Option Int :=
  seqE (loop (m_slices_Compare_int_L1 y0 y1) 0 : Option (Unit ⊕ Int)) fun _ =>
  if decide ((len y0) < (len y1)) then
    some (-1)
  else
    some 0

noncomputable def m_explain_Defences_3 (y0 : List Int) (y1 : List Int) : Option Int :=
  (m_slices_Compare_int y0 y1).bind fun r1 =>
  some r1

noncomputable def m_slices_SortFunc_int__explain_Defences_3 (y0 : List (List Int)) : Option (List (List Int)) := sortO m_explain_Defences_3 y0

noncomputable def m_explain_Defences_L1 (r4 : (List Int)) (s2 : (List (List Int)) × Int) : Option (((List (List Int)) × Int) ⊕ (List (List Int))) :=
  if decide (s2.2 < (len r4)) then
    (idx r4 s2.2).bind fun x1 =>
    (m_slices_ContainsFunc_Set__explain_Defences_2 r4 x1).bind fun r5 =>
    if !r5 then
      (m_network_Set_List x1).bind fun r6 =>
      (app s2.1 ([r6] : List (List Int))).bind fun x2 =>
      some (.inl (x2, w64 (s2.2 + 1)))
    else
      some (.inl (s2.1, w64 (s2.2 + 1)))
  else
    some (.inr s2.1)

noncomputable def m_explain_Defences (y0 : T_Graph) (y1 : Int) : Option ((List (List Int)) × Int) :=
  (m_graph_Validate y0).bind fun r1 =>
  if r1 != 0 then
    some (([] : List (List Int)), r1)
  else
    if (decide (y1 < 0)) || (decide (y0.1 ≤ y1)) then
      some (([] : List (List Int)), 1)
    else
      if decide (10 < y0.1) then
        some (([] : List (List Int)), 2)
      else
        (m_network_New y0).bind fun r2 =>
        (m_network_Set_List r2.1).bind fun r3 =>
        (m_explain_all__explain_Defences_1 r3 y1 r2 ([] : List Int)).bind fun r4 =>
        (loop (m_explain_Defences_L1 r4) (([] : List (List Int)), 0) : Option (List (List Int))).bind fun s1 =>
        (m_slices_SortFunc_int__explain_Defences_3 s1).bind fun r7 =>
        some (r7, 0)

noncomputable def m_network_Net_Grounded_L2 (r2 : (List Int)) (y0 : T_network_Net) (r1 : Int) (s3 : Int × Int) : Option ((Int × Int) ⊕ Int) :=
  if decide (s3.2 < (len r2)) then
    (idx r2 s3.2).bind fun x1 =>
    (idx y0.2.1 x1).bind fun x2 =>
    if (bandNot .u64 x2 r1) == 0 then
      (m_network_Set_With s3.1 x1).bind fun r3 =>
      some (.inl (r3, w64 (s3.2 + 1)))
    else
      some (.inl (s3.1, w64 (s3.2 + 1)))
  else
    some (.inr s3.1)

noncomputable def m_network_Net_Grounded_L1 (y0 : T_network_Net) (s1 : (List Int) × Int) : Option (((List Int) × Int) ⊕ (List Int)) :=
  (m_network_Net_Hit y0 s1.2).bind fun r1 =>
  (
    (m_network_Set_List y0.1).bind fun r2 =>
    loop (m_network_Net_Grounded_L2 r2 y0 r1) (s1.2, 0) : Option Int).bind fun s2 =>
  if s2 == s1.2 then
    some (.inr s1.1)
  else
    (app s1.1 ([s2] : List Int)).bind fun x3 =>
    some (.inl (x3, s2))

noncomputable def m_network_Net_Grounded (y0 : T_network_Net) : Option (List Int) :=
  loop (m_network_Net_Grounded_L1 y0) (([] : List Int), 0)

noncomputable def m_network_Net_In (y0 : T_network_Net) : Option Int :=
  (m_network_Net_Grounded y0).bind fun r1 =>
  if (len r1) == 0 then
    some 0
  else
    (idx r1 (w64 ((len r1) - 1))).bind fun x1 =>
    some x1

noncomputable def m_network_Net_Stable (y0 : T_network_Net) (y1 : Int) : Option Bool :=
  (
    (m_network_Net_Free y0 y1).bind fun r1 =>
    if r1 then
      (m_network_Net_Hit y0 y1).bind fun r2 =>
      some ((bandNot .u64 (bandNot .u64 y0.1 y1) r2) == 0)
    else
      some false : Option Bool).bind fun s1 =>
  some s1

noncomputable def m_network_Net_Answer_1 (y0 : Int) (y1 : Int) (y2 : T_network_Net) (y3 : Int) (y4 : Bool) (y5 : Bool) : Option (Bool × Bool) :=
  (
    if y1 == 1 then
      (m_network_Net_Admissible y2 y0).bind fun r1 =>
      if r1 then
        some true
      else
        if y1 != 1 then
          (m_network_Net_Stable y2 y0).bind fun r2 =>
          some r2
        else
          some false
    else
      if y1 != 1 then
        (m_network_Net_Stable y2 y0).bind fun r3 =>
        some r3
      else
        some false : Option Bool).bind fun s1 =>
  (
    if s1 then
      (m_network_Set_Has y0 y3).bind fun r4 =>
      some (!(r4 == y4))
    else
      some false : Option Bool).bind fun s2 =>
  if s2 then
    some (false, !y4)
  else
    some (true, y5)

noncomputable def m_network_subsets__network_Net_Answer_1_L1 (y1 : Int) (y2 : T_network_Net) (y3 : Int) (y4 : Bool) (y0 : Int) (s1 : Int × Bool) : Option ((Int × Bool) ⊕ Bool) :=
  (
    (m_network_Net_Answer_1 s1.1 y1 y2 y3 y4 s1.2).bind fun r1 =>
    if !r1.1 then
      some (true, r1.2)
    else
      some (s1.1 == 0, r1.2) : Option (Bool × Bool)).bind fun s2 =>
  if s2.1 then
    some (.inr s2.2)
  else
    some (.inl (band .u64 (IntKind.u64.wrap (s1.1 - 1)) y0, s2.2))

noncomputable def m_network_subsets__network_Net_Answer_1 (y0 : Int) (y1 : Int) (y2 : T_network_Net) (y3 : Int) (y4 : Bool) (y5 : Bool) : Option Bool :=
  loop (m_network_subsets__network_Net_Answer_1_L1 y1 y2 y3 y4 y0) (y0, y5)

noncomputable def m_network_Net_Answer (y0 : T_network_Net) (y1 : Int) (y2 : Int) : Option Bool :=
  if y1 == 4 then
    (m_network_Net_In y0).bind fun r1 =>
    (m_network_Set_Has r1 y2).bind fun r2 =>
    some r2
  else
    (m_network_subsets__network_Net_Answer_1 y0.1 y1 y0 y2 (y1 == 3) (y1 == 3)).bind fun r3 =>
    some r3

noncomputable def m_network_Net_Within_L1 (y0 : T_network_Net) (s1 : T_network_Net) (y1 : Int) (s3 : Int × (List Int) × (List Int)) : Option ((Int × (List Int) × (List Int)) ⊕ ((List Int) × (List Int))) :=
  if decide (s3.1 < (len y0.2.1)) then
    (m_network_Set_Has s1.1 s3.1).bind fun r1 =>
    if r1 then
      (idx y0.2.1 s3.1).bind fun x11 =>
      (idx y0.2.2 s3.1).bind fun x12 =>
      (idx s3.2.1 s3.1).bind fun _ =>
      (idx s3.2.2 s3.1).bind fun _ =>
      some (.inl (w64 (s3.1 + 1), List.set s3.2.1 (Int.toNat s3.1) (band .u64 x11 y1), List.set s3.2.2 (Int.toNat s3.1) (band .u64 x12 y1)))
    else
      some (.inl (w64 (s3.1 + 1), s3.2.1, s3.2.2))
  else
    some (.inr (s3.2.1, s3.2.2))

noncomputable def m_network_Net_Within (y0 : T_network_Net) (y1 : Int) : Option T_network_Net :=
  (
    (mkS (len y0.2.1) (len y0.2.1) (0 : Int)).bind fun x1 =>
    (mkS (len y0.2.1) (len y0.2.1) (0 : Int)).bind fun x2 =>
    some (band .u64 y0.1 y1, x1, x2) : Option T_network_Net).bind fun s1 =>
  (loop (m_network_Net_Within_L1 y0 s1 y1) (0, s1.2.1, s1.2.2) : Option ((List Int) × (List Int))).bind fun s2 =>
  some (s1.1, s2.1, s2.2)

noncomputable def m_explain_Removals_2 (y0 : List Int) (y1 : T_network_Net) (y2 : Int) (y3 : Int) (y4 : Bool) : Option Bool :=
  (m_network_Of y0).bind fun r1 =>
  (m_network_Net_Within y1 (bandNot .u64 y1.1 r1)).bind fun r2 =>
  (m_network_Net_Answer r2 y2 y3).bind fun r3 =>
  some (!(r3 == y4))

noncomputable def m_explain_least_1__explain_Removals_2 (y0 : List Int) (y1 : List (List Int)) (y3 : T_network_Net) (y4 : Int) (y5 : Int) (y6 : Bool) : Option (List (List Int)) :=
  (
    if decide (0 < (len y1)) then
      (idx y1 0).bind fun x1 =>
      if decide ((len x1) < (len y0)) then
        some true
      else
        (m_explain_Removals_2 y0 y3 y4 y5 y6).bind fun r1 =>
        some (!r1)
    else
      (m_explain_Removals_2 y0 y3 y4 y5 y6).bind fun r2 =>
      some (!r2) : Option Bool).bind fun s1 =>
  if s1 then
    some y1
  else
    (
      (
        if decide (0 < (len y1)) then
          (idx y1 0).bind fun x2 =>
          some (decide ((len y0) < (len x2)))
        else
          some false : Option Bool).bind fun s3 =>
      if s3 then
        some ([] : List (List Int))
      else
        some y1 : Option (List (List Int))).bind fun s2 =>
    (app s2 ([y0] : List (List Int))).bind fun x3 =>
    some x3

noncomputable def m_explain_all__explain_least_1_L2 (y0 : List Int) (s1 : Int × (List (List Int))) (s3 : (List Int) × Int) : Option (((List Int) × Int) ⊕ (List Int)) :=
  if decide (s3.2 < (len y0)) then
    (idx y0 s3.2).bind fun x2 =>
    (shrK .i64 s1.1 s3.2).bind fun x3 =>
    if (band .i64 x3 1) == 1 then
      (app s3.1 ([x2] : List Int)).bind fun x4 =>
      some (.inl (x4, w64 (s3.2 + 1)))
    else
      some (.inl (s3.1, w64 (s3.2 + 1)))
  else
    some (.inr s3.1)

noncomputable def m_explain_all__explain_least_1_L1 (x1 : Int) (y0 : List Int) (y3 : T_network_Net) (y4 : Int) (y5 : Int) (y6 : Bool) (s1 : Int × (List (List Int))) : Option ((Int × (List (List Int))) ⊕ (List (List Int))) :=
  if decide (s1.1 < x1) then
    (loop (m_explain_all__explain_least_1_L2 y0 s1) (([] : List Int), 0) : Option (List Int)).bind fun s2 =>
    (m_explain_least_1__explain_Removals_2 s2 s1.2 y3 y4 y5 y6).bind fun r1 =>
    some (.inl (w64 (s1.1 + 1), r1))
  else
    some (.inr s1.2)

noncomputable def m_explain_all__explain_least_1 (y0 : List Int) (y1 : List (List Int)) (y3 : T_network_Net) (y4 : Int) (y5 : Int) (y6 : Bool) : Option (List (List Int)) :=
  (shlK .i64 1 (len y0)).bind fun x1 =>
  loop (m_explain_all__explain_least_1_L1 x1 y0 y3 y4 y5 y6) (0, y1)

noncomputable def m_explain_least_2 (y0 : List Int) (y1 : List Int) : Option Int :=
  (m_slices_Compare_int y0 y1).bind fun r1 =>
  some r1

noncomputable def m_slices_SortFunc_int__explain_least_2 (y0 : List (List Int)) : Option (List (List Int)) := sortO m_explain_least_2 y0

noncomputable def m_explain_least__explain_Removals_2 (y0 : List Int) (y1 : T_network_Net) (y2 : Int) (y3 : Int) (y4 : Bool) : Option (List (List Int)) :=
  (m_explain_all__explain_least_1 y0 ([] : List (List Int)) y1 y2 y3 y4).bind fun r1 =>
  (m_slices_SortFunc_int__explain_least_2 r1).bind fun r2 =>
  some r2

noncomputable def m_network_Question (y0 : Int) : Option Bool :=
  some ((decide (1 ≤ y0)) && (decide (y0 ≤ 4)))

noncomputable def m_explain_Removals_1 (y0 : Int) (y1 : Int) : Option Bool :=
  some (y0 == y1)

noncomputable def m_slices_IndexFunc_int__explain_Removals_1_L1 (y0 : List Int) (y1 : Int) (s1 : Int) : Option (Int ⊕ Int) :=
  if decide (s1 < (len y0)) then
    (idx y0 s1).bind fun x1 =>
    (m_explain_Removals_1 x1 y1).bind fun r1 =>
    if r1 then
      some (.inr s1)
    else
      some (.inl (w64 (s1 + 1)))
  else
    some (.inr (-1))

noncomputable def m_slices_IndexFunc_int__explain_Removals_1 (y0 : List Int) (y1 : Int) : Option Int :=
  loop (m_slices_IndexFunc_int__explain_Removals_1_L1 y0 y1) 0

noncomputable def m_slices_DeleteFunc_int__explain_Removals_1_L1 (y0 : List Int) (y1 : Int) (s2 : (List Int) × Int × Int) : Option (((List Int) × Int × Int) ⊕ ((List Int) × Int)) :=
  if decide (s2.2.2 < (len y0)) then
    (idx s2.1 s2.2.2).bind fun x1 =>
    (m_explain_Removals_1 x1 y1).bind fun r2 =>
    if !r2 then
      (idx s2.1 s2.2.1).bind fun _ =>
      some (.inl (List.set s2.1 (Int.toNat s2.2.1) x1, w64 (s2.2.1 + 1), w64 (s2.2.2 + 1)))
    else
      some (.inl (s2.1, s2.2.1, w64 (s2.2.2 + 1)))
  else
    some (.inr (s2.1, s2.2.1))

noncomputable def m_slices_DeleteFunc_int__explain_Removals_1 (y0 : List Int) (y1 : Int) : Option (List Int) :=
  (m_slices_IndexFunc_int__explain_Removals_1 y0 y1).bind fun r1 =>
  if r1 == (-1) then
    some y0
  else
    (loop (m_slices_DeleteFunc_int__explain_Removals_1_L1 y0 y1) (y0, r1, w64 (r1 + 1)) : Option ((List Int) × Int)).bind fun s1 =>
    (chk (decide (0 ≤ s1.2) && decide (s1.2 ≤ len s1.1))).bind fun _ =>
    (sub (clearFrom s1.1 s1.2 0) 0 s1.2).bind fun x3 =>
    some x3

noncomputable def m_explain_Removals (y0 : T_Graph) (y1 : Int) (y2 : Int) : Option ((List (List Int)) × Int) :=
  (m_graph_Validate y0).bind fun r1 =>
  if r1 != 0 then
    some (([] : List (List Int)), r1)
  else
    (m_network_Question y1).bind fun r2 =>
    if !r2 then
      some (([] : List (List Int)), 4)
    else
      if (decide (y2 < 0)) || (decide (y0.1 ≤ y2)) then
        some (([] : List (List Int)), 1)
      else
        if decide (10 < y0.1) then
          some (([] : List (List Int)), 2)
        else
          (m_network_New y0).bind fun r3 =>
          (m_network_Net_Answer r3 y1 y2).bind fun r4 =>
          (m_network_Set_List r3.1).bind fun r5 =>
          (m_slices_DeleteFunc_int__explain_Removals_1 r5 y2).bind fun r6 =>
          (m_explain_least__explain_Removals_2 r6 r3 y1 y2 r4).bind fun r7 =>
          if (len r7) == 0 then
            some (([] : List (List Int)), 9)
          else
            some (r7, 0)

noncomputable def m_keep_Ints_L1 (y0 : List Int) (y1 : List Int) (s1 : Int) : Option (Int ⊕ Bool) :=
  if decide (s1 < (len y0)) then
    (idx y0 s1).bind fun x1 =>
    (idx y1 s1).bind fun x2 =>
    if x1 != x2 then
      some (.inr false)
    else
      some (.inl (w64 (s1 + 1)))
  else
    some (.inr true)

noncomputable def m_keep_Ints (y0 : List Int) (y1 : List Int) : Option Bool :=
  if (len y0) != (len y1) then
    some false
  else
    loop (m_keep_Ints_L1 y0 y1) 0

noncomputable def m_keep_Lists_L1 (y0 : List (List Int)) (y1 : List (List Int)) (s1 : Int) : Option (Int ⊕ Bool) :=
  if decide (s1 < (len y0)) then
    (idx y0 s1).bind fun x1 =>
    (idx y1 s1).bind fun x2 =>
    (m_keep_Ints x1 x2).bind fun r1 =>
    if !r1 then
      some (.inr false)
    else
      some (.inl (w64 (s1 + 1)))
  else
    some (.inr true)

noncomputable def m_keep_Lists (y0 : List (List Int)) (y1 : List (List Int)) : Option Bool :=
  if (len y0) != (len y1) then
    some false
  else
    loop (m_keep_Lists_L1 y0 y1) 0

noncomputable def m_keep_New (y0 : List Int) : Option T_keep_Src :=
  (sub y0 0 (if 2000 < (len y0) then 2000 else len y0)).bind fun x1 =>
  some (x1, 0)

noncomputable def m_keep_Mod (y0 : Int) (y1 : Int) : Option Int :=
  if decide (y1 < 1) then
    some 0
  else
    (remK y0 y1).bind fun x1 =>
    if decide (x1 < 0) then
      some (w64 (x1 + y1))
    else
      some x1

noncomputable def m_keep_Src_Raw (y0 : T_keep_Src) : Option (Int × Int) :=
  if decide ((len y0.1) ≤ y0.2) then
    some (0, y0.2)
  else
    (idx y0.1 (w64 ((w64 (y0.2 + 1)) - 1))).bind fun x1 =>
    some (x1, w64 (y0.2 + 1))

noncomputable def m_keep_Src_N (y0 : T_keep_Src) (y1 : Int) : Option (Int × Int) :=
  (m_keep_Src_Raw y0).bind fun r1 =>
  (m_keep_Mod r1.1 y1).bind fun r2 =>
  some (r2, r1.2)

noncomputable def m_keep_Src_Range (y0 : T_keep_Src) (y1 : Int) (y2 : Int) : Option (Int × Int) :=
  (m_keep_Src_N y0 (w64 ((w64 (y2 - y1)) + 1))).bind fun r1 =>
  some (w64 (y1 + r1.1), r1.2)

noncomputable def m_law24_awake : Option Bool :=
  (m_explain_Removals (2, ([(0, 1)] : List T_Pair)) 4 1).bind fun r1 =>
  (m_explain_Defences (3, ([(0, 1), (1, 2)] : List T_Pair)) 2).bind fun r2 =>
  (
    if r1.2 == 0 then
      if r2.2 == 0 then
        (m_keep_Lists r1.1 ([([0] : List Int)] : List (List Int))).bind fun r3 =>
        if r3 then
          (m_keep_Lists r2.1 ([([0, 2] : List Int)] : List (List Int))).bind fun r4 =>
          some r4
        else
          some false
      else
        some false
    else
      some false : Option Bool).bind fun s1 =>
  some s1

noncomputable def m_net_Graph_L2 (r1 : Int × Int) (s2 : Int × Int × (List T_Pair)) (r2 : Int × Int) (y0 : T_keep_Src) (s3 : Int × Int × (List T_Pair)) : Option ((Int × Int × (List T_Pair)) ⊕ ((Int × Int × (List T_Pair)) ⊕ (Int × (List T_Pair)))) :=
  if decide (s3.1 < r1.1) then
    (
      if s2.1 == s3.1 then
        some 9
      else
        some r2.1 : Option Int).bind fun s4 =>
    (m_keep_Src_N (y0.1, s3.2.1) s4).bind fun r3 =>
    if r3.1 == 1 then
      (app s3.2.2 ([(s2.1, s3.1)] : List T_Pair)).bind fun x1 =>
      some (.inl (w64 (s3.1 + 1), r3.2, x1))
    else
      some (.inl (w64 (s3.1 + 1), r3.2, s3.2.2))
  else
    some (.inr (.inl (w64 (s2.1 + 1), s3.2.1, s3.2.2)))

noncomputable def m_net_Graph_L1 (r1 : Int × Int) (r2 : Int × Int) (y0 : T_keep_Src) (s2 : Int × Int × (List T_Pair)) : Option ((Int × Int × (List T_Pair)) ⊕ (Int × (List T_Pair))) :=
  if decide (s2.1 < r1.1) then
    loop (m_net_Graph_L2 r1 s2 r2 y0) (0, s2.2.1, s2.2.2)
  else
    some (.inr (s2.2.1, s2.2.2))

noncomputable def m_net_Graph (y0 : T_keep_Src) (y1 : Int) : Option (T_Graph × Int) :=
  (m_keep_Src_Range y0 1 y1).bind fun r1 =>
  (m_keep_Src_Range (y0.1, r1.2) 2 5).bind fun r2 =>
  (loop (m_net_Graph_L1 r1 r2 y0) (0, r2.2, ([] : List T_Pair)) : Option (Int × (List T_Pair))).bind fun s1 =>
  some ((r1.1, s1.2), s1.1)

noncomputable def m_net_Light (y0 : T_Graph) : Option Bool :=
  some (decide ((len y0.2) ≤ 300))

noncomputable def m_net_Has_L1 (y0 : T_Graph) (y1 : Int) (y2 : Int) (s1 : Int) : Option (Int ⊕ Bool) :=
  if decide (s1 < (len y0.2)) then
    (
      (idx y0.2 s1).bind fun x1 =>
      if x1.1 == y1 then
        (idx y0.2 s1).bind fun x2 =>
        some (x2.2 == y2)
      else
        some false : Option Bool).bind fun s2 =>
    if s2 then
      some (.inr true)
    else
      some (.inl (w64 (s1 + 1)))
  else
    some (.inr false)

noncomputable def m_net_Has (y0 : T_Graph) (y1 : Int) (y2 : Int) : Option Bool :=
  loop (m_net_Has_L1 y0 y1 y2) 0

noncomputable def m_net_Attacked_L1 (y1 : List Int) (y0 : T_Graph) (y2 : Int) (s1 : Int) : Option (Int ⊕ Bool) :=
  if decide (s1 < (len y1)) then
    (idx y1 s1).bind fun x1 =>
    (m_net_Has y0 x1 y2).bind fun r1 =>
    if r1 then
      some (.inr true)
    else
      some (.inl (w64 (s1 + 1)))
  else
    some (.inr false)

noncomputable def m_net_Attacked (y0 : T_Graph) (y1 : List Int) (y2 : Int) : Option Bool :=
  loop (m_net_Attacked_L1 y1 y0 y2) 0

noncomputable def m_net_Free_L1 (y1 : List Int) (y0 : T_Graph) (s1 : Int) : Option (Int ⊕ Bool) :=
  if decide (s1 < (len y1)) then
    (idx y1 s1).bind fun x1 =>
    (m_net_Attacked y0 y1 x1).bind fun r1 =>
    if r1 then
      some (.inr false)
    else
      some (.inl (w64 (s1 + 1)))
  else
    some (.inr true)

noncomputable def m_net_Free (y0 : T_Graph) (y1 : List Int) : Option Bool :=
  loop (m_net_Free_L1 y1 y0) 0

noncomputable def m_net_In_L1 (y0 : List Int) (y1 : Int) (s1 : Int) : Option (Int ⊕ Bool) :=
  if decide (s1 < (len y0)) then
    (idx y0 s1).bind fun x1 =>
    if x1 == y1 then
      some (.inr true)
    else
      some (.inl (w64 (s1 + 1)))
  else
    some (.inr false)

noncomputable def m_net_In (y0 : List Int) (y1 : Int) : Option Bool :=
  loop (m_net_In_L1 y0 y1) 0

noncomputable def m_net_Admissible_L1 (y0 : T_Graph) (y1 : List Int) (s2 : Int) : Option (Int ⊕ (Unit ⊕ Bool)) :=
  if decide (s2 < (len y0.2)) then
    (
      (idx y0.2 s2).bind fun x1 =>
      (m_net_In y1 x1.2).bind fun r1 =>
      if r1 then
        (idx y0.2 s2).bind fun x2 =>
        (m_net_Attacked y0 y1 x2.1).bind fun r2 =>
        some (!r2)
      else
        some false : Option Bool).bind fun s3 =>
    if s3 then
      some (.inr (.inr false))
    else
      some (.inl (w64 (s2 + 1)))
  else
    some (.inr (.inl ()))

noncomputable def m_net_Admissible (y0 : T_Graph) (y1 : List Int) : Option Bool :=
  seqE (loop (m_net_Admissible_L1 y0 y1) 0 : Option (Unit ⊕ Bool)) fun _ =>
  (m_net_Free y0 y1).bind fun r3 =>
  some r3

noncomputable def m_ref10_Validate_L1 (y0 : T_Graph) (s1 : Int) : Option (Int ⊕ Int) :=
  if decide (s1 < (len y0.2)) then
    (idx y0.2 s1).bind fun x1 =>
    if (decide (x1.1 < 0)) || ((decide (y0.1 ≤ x1.1)) || ((decide (x1.2 < 0)) || (decide (y0.1 ≤ x1.2)))) then
      some (.inr 1)
    else
      (
        if decide (0 < s1) then
          (idx y0.2 (w64 (s1 - 1))).bind fun x2 =>
          if decide (x1.1 < x2.1) then
            some true
          else
            (idx y0.2 (w64 (s1 - 1))).bind fun x3 =>
            if x3.1 == x1.1 then
              (idx y0.2 (w64 (s1 - 1))).bind fun x4 =>
              some (decide (x1.2 ≤ x4.2))
            else
              some false
        else
          some false : Option Bool).bind fun s2 =>
      if s2 then
        some (.inr 8)
      else
        some (.inl (w64 (s1 + 1)))
  else
    some (.inr 0)

noncomputable def m_ref10_Validate (y0 : T_Graph) : Option Int :=
  if (decide (y0.1 < 0)) || (decide (40 < y0.1)) then
    some 1
  else
    loop (m_ref10_Validate_L1 y0) 0

noncomputable def m_ref24_inside_L1 (y0 : List Int) (y1 : List Int) (s1 : Int) : Option (Int ⊕ Bool) :=
  if decide (s1 < (len y0)) then
    (idx y0 s1).bind fun x1 =>
    (m_net_In y1 x1).bind fun r1 =>
    if !r1 then
      some (.inr false)
    else
      some (.inl (w64 (s1 + 1)))
  else
    some (.inr true)

noncomputable def m_ref24_inside (y0 : List Int) (y1 : List Int) : Option Bool :=
  loop (m_ref24_inside_L1 y0 y1) 0

noncomputable def m_ref24_less_L1 (y0 : List Int) (y1 : List Int) (s2 : Int) : Option (Int ⊕ (Unit ⊕ Bool)) :=
  if (decide (s2 < (len y0))) && (decide (s2 < (len y1))) then
    (idx y0 s2).bind fun x1 =>
    (idx y1 s2).bind fun x2 =>
    if x1 != x2 then
      (idx y0 s2).bind fun x3 =>
      (idx y1 s2).bind fun x4 =>
      some (.inr (.inr (decide (x3 < x4))))
    else
      some (.inl (w64 (s2 + 1)))
  else
    some (.inr (.inl ()))

noncomputable def m_ref24_less (y0 : List Int) (y1 : List Int) : Option Bool :=
  seqE (loop (m_ref24_less_L1 y0 y1) 0 : Option (Unit ⊕ Bool)) fun _ =>
  some (decide ((len y0) < (len y1)))

noncomputable def m_ref24_subsets_L2 (r1 : (List (List Int))) (s1 : (List (List Int)) × Int) (s2 : (List (List Int)) × Int) : Option (((List (List Int)) × Int) ⊕ (((List (List Int)) × Int) ⊕ (List (List Int)))) :=
  if decide (s2.2 < (len r1)) then
    (idx r1 s2.2).bind fun x1 =>
    (app ([s1.2] : List Int) x1).bind fun x2 =>
    (app s2.1 ([x2] : List (List Int))).bind fun x3 =>
    some (.inl (x3, w64 (s2.2 + 1)))
  else
    some (.inr (.inl (s2.1, w64 (s1.2 + 1))))

noncomputable def m_ref24_subsets_L1 (y0 : Int) (rec_ref24_subsets : Int → Int → Int → Option (List (List Int))) (y1 : Int) (s1 : (List (List Int)) × Int) : Option (((List (List Int)) × Int) ⊕ (List (List Int))) :=
  if decide (s1.2 < y0) then
    (rec_ref24_subsets y0 (w64 (y1 - 1)) (w64 (s1.2 + 1))).bind fun r1 =>
    loop (m_ref24_subsets_L2 r1 s1) (s1.1, 0)
  else
    some (.inr s1.1)

noncomputable def F_ref24_subsets (rec_ref24_subsets : Int → Int → Int → Option (List (List Int))) (y0 : Int) (y1 : Int) (y2 : Int) : Option (List (List Int)) :=
  if y1 == 0 then
    some ([([] : List Int)] : List (List Int))
  else
    loop (m_ref24_subsets_L1 y0 rec_ref24_subsets y1) (([] : List (List Int)), y2)

noncomputable def k_ref24_subsets : Nat → Int → Int → Int → Option (List (List Int))
  | 0 => fun _ _ _ => none
  | k + 1 => fun y0 y1 y2 => F_ref24_subsets (k_ref24_subsets k) y0 y1 y2

noncomputable def m_ref24_subsets (y0 : Int) (y1 : Int) (y2 : Int) : Option (List (List Int)) := limM fun k => k_ref24_subsets k y0 y1 y2

noncomputable def m_ref24_Defences_L3 (s3 : (List (List Int)) × Int) (x1 : List Int) (s6 : Bool × Int) : Option ((Bool × Int) ⊕ Bool) :=
  if (decide (s6.2 < (len s3.1))) && s6.1 then
    (idx s3.1 s6.2).bind fun x2 =>
    (m_ref24_inside x2 x1).bind fun r5 =>
    some (.inl (!r5, w64 (s6.2 + 1)))
  else
    some (.inr s6.1)

noncomputable def m_ref24_Defences_L2 (r2 : (List (List Int))) (y1 : Int) (y0 : T_Graph) (s2 : (List (List Int)) × Int) (s3 : (List (List Int)) × Int) : Option (((List (List Int)) × Int) ⊕ (((List (List Int)) × Int) ⊕ (List (List Int)))) :=
  if decide (s3.2 < (len r2)) then
    (idx r2 s3.2).bind fun x1 =>
    (
      (m_net_In x1 y1).bind fun r3 =>
      if r3 then
        (m_net_Admissible y0 x1).bind fun r4 =>
        some r4
      else
        some false : Option Bool).bind fun s4 =>
    (loop (m_ref24_Defences_L3 s3 x1) (s4, 0) : Option Bool).bind fun s5 =>
    if s5 then
      (app s3.1 ([x1] : List (List Int))).bind fun x3 =>
      some (.inl (x3, w64 (s3.2 + 1)))
    else
      some (.inl (s3.1, w64 (s3.2 + 1)))
  else
    some (.inr (.inl (s3.1, w64 (s2.2 + 1))))

noncomputable def m_ref24_Defences_L1 (y0 : T_Graph) (y1 : Int) (s2 : (List (List Int)) × Int) : Option (((List (List Int)) × Int) ⊕ (List (List Int))) :=
  if decide (s2.2 ≤ y0.1) then
    (m_ref24_subsets y0.1 s2.2 0).bind fun r2 =>
    loop (m_ref24_Defences_L2 r2 y1 y0 s2) (s2.1, 0)
  else
    some (.inr s2.1)

noncomputable def m_ref24_Defences_L5 (s7 : (List (List Int)) × Int) (x4 : List Int) (s9 : Int) : Option (Int ⊕ Int) :=
  (
    if decide (s9 < (len s7.1)) then
      (idx s7.1 s9).bind fun x5 =>
      (m_ref24_less x5 x4).bind fun r6 =>
      some r6
    else
      some false : Option Bool).bind fun s10 =>
  if s10 then
    some (.inl (w64 (s9 + 1)))
  else
    some (.inr s9)

noncomputable def m_ref24_Defences_L4 (s1 : (List (List Int))) (s7 : (List (List Int)) × Int) : Option (((List (List Int)) × Int) ⊕ ((List (List Int)) × Int)) :=
  if decide (s7.2 < (len s1)) then
    (idx s1 s7.2).bind fun x4 =>
    (loop (m_ref24_Defences_L5 s7 x4) 0 : Option Int).bind fun s8 =>
    (sub s7.1 s8 (len s7.1)).bind fun x6 =>
    (app ([x4] : List (List Int)) x6).bind fun x7 =>
    (sub s7.1 0 s8).bind fun x8 =>
    (app x8 x7).bind fun x9 =>
    some (.inl (x9, w64 (s7.2 + 1)))
  else
    some (.inr (s7.1, 0))

noncomputable def m_ref24_Defences (y0 : T_Graph) (y1 : Int) : Option ((List (List Int)) × Int) :=
  (m_ref10_Validate y0).bind fun r1 =>
  if r1 != 0 then
    some (([] : List (List Int)), r1)
  else
    if (decide (y1 < 0)) || (decide (y0.1 ≤ y1)) then
      some (([] : List (List Int)), 1)
    else
      if decide (10 < y0.1) then
        some (([] : List (List Int)), 2)
      else
        (loop (m_ref24_Defences_L1 y0 y1) (([] : List (List Int)), 1) : Option (List (List Int))).bind fun s1 =>
        loop (m_ref24_Defences_L4 s1) (([] : List (List Int)), 0)

noncomputable def m_net_Grounded_L1 (y0 : T_Graph) (s3 : (List Int) × Int) : Option (((List Int) × Int) ⊕ (List Int)) :=
  if decide (s3.2 < y0.1) then
    (idx s3.1 s3.2).bind fun _ =>
    some (.inl (List.set s3.1 (Int.toNat s3.2) 3, w64 (s3.2 + 1)))
  else
    some (.inr s3.1)

noncomputable def m_net_Grounded_L4 (y0 : T_Graph) (s6 : (List Int) × Int) (s4 : (List Int) × (List Int) × Int) (s8 : Bool × Int) : Option ((Bool × Int) ⊕ Bool) :=
  if decide (s8.2 < y0.1) then
    (
      if s8.1 then
        (m_net_Has y0 s8.2 s6.2).bind fun r1 =>
        if !r1 then
          some true
        else
          (idx s4.1 s8.2).bind fun x7 =>
          some (x7 == 2)
      else
        some false : Option Bool).bind fun s9 =>
    some (.inl (s9, w64 (s8.2 + 1)))
  else
    some (.inr s8.1)

noncomputable def m_net_Grounded_L3 (y0 : T_Graph) (s4 : (List Int) × (List Int) × Int) (s6 : (List Int) × Int) : Option (((List Int) × Int) ⊕ (List Int)) :=
  if decide (s6.2 < y0.1) then
    (idx s4.1 s6.2).bind fun x6 =>
    (loop (m_net_Grounded_L4 y0 s6 s4) (x6 == 3, 0) : Option Bool).bind fun s7 =>
    if s7 then
      (app s6.1 ([s6.2] : List Int)).bind fun x8 =>
      some (.inl (x8, w64 (s6.2 + 1)))
    else
      some (.inl (s6.1, w64 (s6.2 + 1)))
  else
    some (.inr s6.1)

noncomputable def m_net_Grounded_L5 (s5 : (List Int)) (s4 : (List Int) × (List Int) × Int) (s11 : (List Int) × (List Int) × Int) : Option (((List Int) × (List Int) × Int) ⊕ ((List Int) × (List Int))) :=
  if decide (s11.2.2 < (len s5)) then
    (idx s5 s11.2.2).bind fun x9 =>
    (idx s11.1 x9).bind fun _ =>
    (idx s11.2.1 x9).bind fun _ =>
    some (.inl (List.set s11.1 (Int.toNat x9) 1, List.set s11.2.1 (Int.toNat x9) s4.2.2, w64 (s11.2.2 + 1)))
  else
    some (.inr (s11.1, s11.2.1))

noncomputable def m_net_Grounded_L6 (y0 : T_Graph) (s5 : (List Int)) (s4 : (List Int) × (List Int) × Int) (s12 : (List Int) × (List Int) × Int) : Option (((List Int) × (List Int) × Int) ⊕ (((List Int) × (List Int) × Int) ⊕ ((List Int) × (List Int)))) :=
  if decide (s12.2.2 < y0.1) then
    (
      (idx s12.1 s12.2.2).bind fun x12 =>
      if x12 == 3 then
        (m_net_Attacked y0 s5 s12.2.2).bind fun r2 =>
        some r2
      else
        some false : Option Bool).bind fun s13 =>
    if s13 then
      (idx s12.1 s12.2.2).bind fun _ =>
      (idx s12.2.1 s12.2.2).bind fun _ =>
      some (.inl (List.set s12.1 (Int.toNat s12.2.2) 2, List.set s12.2.1 (Int.toNat s12.2.2) s4.2.2, w64 (s12.2.2 + 1)))
    else
      some (.inl (s12.1, s12.2.1, w64 (s12.2.2 + 1)))
  else
    some (.inr (.inl (s12.1, s12.2.1, w64 (s4.2.2 + 1))))

noncomputable def m_net_Grounded_L2 (y0 : T_Graph) (s4 : (List Int) × (List Int) × Int) : Option (((List Int) × (List Int) × Int) ⊕ ((List Int) × (List Int))) :=
  if decide (s4.2.2 ≤ (w64 (y0.1 + 1))) then
    (loop (m_net_Grounded_L3 y0 s4) (([] : List Int), 0) : Option (List Int)).bind fun s5 =>
    (loop (m_net_Grounded_L5 s5 s4) (s4.1, s4.2.1, 0) : Option ((List Int) × (List Int))).bind fun s10 =>
    loop (m_net_Grounded_L6 y0 s5 s4) (s10.1, s10.2, 0)
  else
    some (.inr (s4.1, s4.2.1))

noncomputable def m_net_Grounded (y0 : T_Graph) : Option ((List Int) × (List Int)) :=
  (
    (mkS y0.1 y0.1 (0 : Int)).bind fun x1 =>
    (mkS y0.1 y0.1 (0 : Int)).bind fun x2 =>
    some (x1, x2) : Option ((List Int) × (List Int))).bind fun s1 =>
  (loop (m_net_Grounded_L1 y0) (s1.1, 0) : Option (List Int)).bind fun s2 =>
  loop (m_net_Grounded_L2 y0) (s2, s1.2, 1)

noncomputable def m_net_Members_L1 (y0 : Int) (s1 : (List Int) × Int) : Option (((List Int) × Int) ⊕ (List Int)) :=
  if decide (s1.2 < 64) then
    (shrK .u64 y0 (IntKind.u64.wrap (s1.2))).bind fun x1 =>
    if (band .u64 x1 1) == 1 then
      (app s1.1 ([s1.2] : List Int)).bind fun x2 =>
      some (.inl (x2, w64 (s1.2 + 1)))
    else
      some (.inl (s1.1, w64 (s1.2 + 1)))
  else
    some (.inr s1.1)

noncomputable def m_net_Members (y0 : Int) : Option (List Int) :=
  loop (m_net_Members_L1 y0) (([] : List Int), 0)

noncomputable def m_net_SomeAdmissible_L2 (r1 : (List Int)) (y2 : List Int) (s3 : Bool × Int) : Option ((Bool × Int) ⊕ Bool) :=
  if decide (s3.2 < (len r1)) then
    (
      if s3.1 then
        some true
      else
        (idx r1 s3.2).bind fun x3 =>
        (m_net_In y2 x3).bind fun r2 =>
        some r2 : Option Bool).bind fun s4 =>
    some (.inl (s4, w64 (s3.2 + 1)))
  else
    some (.inr s3.1)

noncomputable def m_net_SomeAdmissible_L1 (y0 : T_Graph) (y1 : Int) (y2 : List Int) (s1 : Int) : Option (Int ⊕ Bool) :=
  (shlK .u64 1 (IntKind.u64.wrap (y0.1))).bind fun x1 =>
  if decide (s1 < x1) then
    (shrK .u64 s1 (IntKind.u64.wrap (y1))).bind fun x2 =>
    if (band .u64 x2 1) == 0 then
      some (.inl (IntKind.u64.wrap (s1 + 1)))
    else
      (m_net_Members s1).bind fun r1 =>
      (loop (m_net_SomeAdmissible_L2 r1 y2) (false, 0) : Option Bool).bind fun s2 =>
      (
        if !s2 then
          (m_net_Admissible y0 r1).bind fun r3 =>
          some r3
        else
          some false : Option Bool).bind fun s5 =>
      if s5 then
        some (.inr true)
      else
        some (.inl (IntKind.u64.wrap (s1 + 1)))
  else
    some (.inr false)

noncomputable def m_net_SomeAdmissible (y0 : T_Graph) (y1 : Int) (y2 : List Int) : Option Bool :=
  loop (m_net_SomeAdmissible_L1 y0 y1 y2) 0

noncomputable def m_net_Stable_L1 (y0 : T_Graph) (y1 : List Int) (s2 : Int) : Option (Int ⊕ (Unit ⊕ Bool)) :=
  if decide (s2 < y0.1) then
    (
      (m_net_In y1 s2).bind fun r1 =>
      if !r1 then
        (m_net_Attacked y0 y1 s2).bind fun r2 =>
        some (!r2)
      else
        some false : Option Bool).bind fun s3 =>
    if s3 then
      some (.inr (.inr false))
    else
      some (.inl (w64 (s2 + 1)))
  else
    some (.inr (.inl ()))

noncomputable def m_net_Stable (y0 : T_Graph) (y1 : List Int) : Option Bool :=
  seqE (loop (m_net_Stable_L1 y0 y1) 0 : Option (Unit ⊕ Bool)) fun _ =>
  (m_net_Free y0 y1).bind fun r3 =>
  some r3

noncomputable def m_net_Without_L1 (y0 : T_Graph) (y1 : List Int) (s2 : Int × (List T_Pair)) : Option ((Int × (List T_Pair)) ⊕ (List T_Pair)) :=
  if decide (s2.1 < (len y0.2)) then
    (
      (idx y0.2 s2.1).bind fun x1 =>
      (m_net_In y1 x1.1).bind fun r1 =>
      if !r1 then
        (idx y0.2 s2.1).bind fun x2 =>
        (m_net_In y1 x2.2).bind fun r2 =>
        some (!r2)
      else
        some false : Option Bool).bind fun s3 =>
    if s3 then
      (idx y0.2 s2.1).bind fun x3 =>
      (app s2.2 ([x3] : List T_Pair)).bind fun x4 =>
      some (.inl (w64 (s2.1 + 1), x4))
    else
      some (.inl (w64 (s2.1 + 1), s2.2))
  else
    some (.inr s2.2)

noncomputable def m_net_Without (y0 : T_Graph) (y1 : List Int) : Option T_Graph :=
  (loop (m_net_Without_L1 y0 y1) (0, ([] : List T_Pair)) : Option (List T_Pair)).bind fun s1 =>
  some (y0.1, s1)

noncomputable def m_ref23_Accepted_L1 (y0 : T_Graph) (r1 : T_Graph) (y2 : Int) (s2 : Bool × Bool × Int) : Option ((Bool × Bool × Int) ⊕ (Bool × Bool)) :=
  (shlK .u64 1 (IntKind.u64.wrap (y0.1))).bind fun x2 =>
  if decide (s2.2.2 < x2) then
    (m_net_Members s2.2.2).bind fun r5 =>
    (m_net_Stable r1 r5).bind fun r6 =>
    if !r6 then
      some (.inl (s2.1, s2.2.1, IntKind.u64.wrap (s2.2.2 + 1)))
    else
      (m_net_In r5 y2).bind fun r7 =>
      if r7 then
        some (.inl (true, s2.2.1, IntKind.u64.wrap (s2.2.2 + 1)))
      else
        some (.inl (s2.1, false, IntKind.u64.wrap (s2.2.2 + 1)))
  else
    some (.inr (s2.1, s2.2.1))

noncomputable def m_ref23_Accepted (y0 : T_Graph) (y1 : List Int) (y2 : Int) (y3 : Int) : Option Bool :=
  (m_net_Without y0 y1).bind fun r1 =>
  (m_net_In y1 y2).bind fun r2 =>
  if r2 then
    some false
  else
    (m_net_Grounded r1).bind fun r3 =>
    if y3 == 4 then
      (idx r3.1 y2).bind fun x1 =>
      some (x1 == 1)
    else
      if y3 == 1 then
        (m_net_SomeAdmissible r1 y2 y1).bind fun r4 =>
        some r4
      else
        (loop (m_ref23_Accepted_L1 y0 r1 y2) (false, true, 0) : Option (Bool × Bool)).bind fun s1 =>
        if y3 == 2 then
          some s1.1
        else
          some s1.2

noncomputable def m_ref24_Without_L1 (y0 : T_Graph) (y1 : List Int) (s2 : Int × (List T_Pair)) : Option ((Int × (List T_Pair)) ⊕ (List T_Pair)) :=
  if decide (s2.1 < (len y0.2)) then
    (
      (idx y0.2 s2.1).bind fun x1 =>
      (m_net_In y1 x1.1).bind fun r1 =>
      if !r1 then
        (idx y0.2 s2.1).bind fun x2 =>
        (m_net_In y1 x2.2).bind fun r2 =>
        some (!r2)
      else
        some false : Option Bool).bind fun s3 =>
    if s3 then
      (idx y0.2 s2.1).bind fun x3 =>
      (app s2.2 ([x3] : List T_Pair)).bind fun x4 =>
      some (.inl (w64 (s2.1 + 1), x4))
    else
      some (.inl (w64 (s2.1 + 1), s2.2))
  else
    some (.inr s2.2)

noncomputable def m_ref24_Without (y0 : T_Graph) (y1 : List Int) (y2 : Int) (y3 : Int) : Option Bool :=
  (loop (m_ref24_Without_L1 y0 y1) (0, ([] : List T_Pair)) : Option (List T_Pair)).bind fun s1 =>
  (m_ref23_Accepted (y0.1, s1) y1 y3 y2).bind fun r3 =>
  some r3

noncomputable def m_ref24_Removals_L2 (r3 : (List (List Int))) (y2 : Int) (y0 : T_Graph) (y1 : Int) (r2 : Bool) (s3 : (List (List Int)) × Int) : Option (((List (List Int)) × Int) ⊕ (List (List Int))) :=
  if decide (s3.2 < (len r3)) then
    (idx r3 s3.2).bind fun x1 =>
    (
      (m_net_In x1 y2).bind fun r4 =>
      if !r4 then
        (m_ref24_Without y0 x1 y1 y2).bind fun r5 =>
        some (!(r5 == r2))
      else
        some false : Option Bool).bind fun s4 =>
    if s4 then
      (app s3.1 ([x1] : List (List Int))).bind fun x2 =>
      some (.inl (x2, w64 (s3.2 + 1)))
    else
      some (.inl (s3.1, w64 (s3.2 + 1)))
  else
    some (.inr s3.1)

noncomputable def m_ref24_Removals_L1 (y0 : T_Graph) (y2 : Int) (y1 : Int) (r2 : Bool) (s1 : Int) : Option (Int ⊕ ((List (List Int)) × Int)) :=
  if decide (s1 < y0.1) then
    (
      (m_ref24_subsets y0.1 s1 0).bind fun r3 =>
      loop (m_ref24_Removals_L2 r3 y2 y0 y1 r2) (([] : List (List Int)), 0) : Option (List (List Int))).bind fun s2 =>
    if decide (0 < (len s2)) then
      some (.inr (s2, 0))
    else
      some (.inl (w64 (s1 + 1)))
  else
    some (.inr (([] : List (List Int)), 9))

noncomputable def m_ref24_Removals (y0 : T_Graph) (y1 : Int) (y2 : Int) : Option ((List (List Int)) × Int) :=
  (m_ref10_Validate y0).bind fun r1 =>
  if r1 != 0 then
    some (([] : List (List Int)), r1)
  else
    if (decide (y1 < 1)) || (decide (4 < y1)) then
      some (([] : List (List Int)), 4)
    else
      if (decide (y2 < 0)) || (decide (y0.1 ≤ y2)) then
        some (([] : List (List Int)), 1)
      else
        if decide (10 < y0.1) then
          some (([] : List (List Int)), 2)
        else
          (m_ref24_Without y0 ([] : List Int) y1 y2).bind fun r2 =>
          loop (m_ref24_Removals_L1 y0 y2 y1 r2) 1

noncomputable def m_law24_ExplainAnswers_L1 (y0 : T_Graph) (y2 : Int) (y3 : Int) (r4 : T_Graph × Int) (r6 : Int × Int) (r5 : Int × Int) (s3 : Int) : Option (Int ⊕ (Unit ⊕ Bool)) :=
  if decide (s3 < (len ([(y0, y2, y3), (r4.1, r6.1, r5.1), (r4.1, y2, r5.1), (r4.1, r6.1, y3), (y0, r6.1, 0)] : List (T_Graph × Int × Int)))) then
    (idx ([(y0, y2, y3), (r4.1, r6.1, r5.1), (r4.1, y2, r5.1), (r4.1, r6.1, y3), (y0, r6.1, 0)] : List (T_Graph × Int × Int)) s3).bind fun x1 =>
    (m_explain_Removals x1.1 x1.2.1 x1.2.2).bind fun r7 =>
    (m_ref24_Removals x1.1 x1.2.1 x1.2.2).bind fun r8 =>
    (m_explain_Defences x1.1 x1.2.2).bind fun r9 =>
    (m_ref24_Defences x1.1 x1.2.2).bind fun r10 =>
    (
      if r7.2 != r8.2 then
        some true
      else
        if r9.2 != r10.2 then
          some true
        else
          (m_keep_Lists r7.1 r8.1).bind fun r11 =>
          if !r11 then
            some true
          else
            (m_keep_Lists r9.1 r10.1).bind fun r12 =>
            some (!r12) : Option Bool).bind fun s4 =>
    if s4 then
      some (.inr (.inr false))
    else
      some (.inl (w64 (s3 + 1)))
  else
    some (.inr (.inl ()))

noncomputable def m_law24_ExplainAnswers (y0 : T_Graph) (y1 : List Int) (y2 : Int) (y3 : Int) : Option Bool :=
  (
    (m_net_Light y0).bind fun r1 =>
    if !r1 then
      some true
    else
      if decide (7 < y0.1) then
        some (decide (y0.1 ≤ 10))
      else
        some false : Option Bool).bind fun s1 =>
  if s1 then
    m_law24_awake.bind fun r2 =>
    some r2
  else
    (m_keep_New y1).bind fun r3 =>
    (m_net_Graph r3 6).bind fun r4 =>
    (m_keep_Src_N (r3.1, r4.2) r4.1.1).bind fun r5 =>
    (m_keep_Src_Range (r3.1, r5.2) 1 4).bind fun r6 =>
    seqE (loop (m_law24_ExplainAnswers_L1 y0 y2 y3 r4 r6 r5) 0 : Option (Unit ⊕ Bool)) fun _ =>
    m_law24_awake.bind fun r13 =>
    some r13

noncomputable def m_keep_In_L1 (y0 : List Int) (y1 : Int) (s1 : Int) : Option (Int ⊕ Bool) :=
  if decide (s1 < (len y0)) then
    (idx y0 s1).bind fun x1 =>
    if x1 == y1 then
      some (.inr true)
    else
      some (.inl (w64 (s1 + 1)))
  else
    some (.inr false)

noncomputable def m_keep_In (y0 : List Int) (y1 : Int) : Option Bool :=
  loop (m_keep_In_L1 y0 y1) 0

noncomputable def m_net_Set_L1 (y1 : List Int) (y0 : T_Graph) (s1 : Int) : Option (Int ⊕ Bool) :=
  if decide (s1 < (len y1)) then
    (
      (idx y1 s1).bind fun x1 =>
      if decide (x1 < 0) then
        some true
      else
        (idx y1 s1).bind fun x2 =>
        if decide (y0.1 ≤ x2) then
          some true
        else
          if decide (0 < s1) then
            (idx y1 s1).bind fun x3 =>
            (idx y1 (w64 (s1 - 1))).bind fun x4 =>
            some (decide (x3 ≤ x4))
          else
            some false : Option Bool).bind fun s2 =>
    if s2 then
      some (.inr false)
    else
      some (.inl (w64 (s1 + 1)))
  else
    some (.inr true)

noncomputable def m_net_Set (y0 : T_Graph) (y1 : List Int) : Option Bool :=
  loop (m_net_Set_L1 y1 y0) 0

noncomputable def m_law24_ExplainLeast_L1 (r2 : T_Graph × Int) (r3 : Int × Int) (y1 : Int) (s2 : (List Int) × Int) : Option (((List Int) × Int) ⊕ (List Int)) :=
  if decide (s2.2 < r2.1.1) then
    (
      if s2.2 != r3.1 then
        (shrK .i64 y1 (IntKind.u64.wrap (s2.2))).bind fun x1 =>
        some ((band .i64 x1 1) == 1)
      else
        some false : Option Bool).bind fun s3 =>
    if s3 then
      (app s2.1 ([s2.2] : List Int)).bind fun x2 =>
      some (.inl (x2, w64 (s2.2 + 1)))
    else
      some (.inl (s2.1, w64 (s2.2 + 1)))
  else
    some (.inr s2.1)

noncomputable def m_law24_ExplainLeast_L2 (r6 : (List (List Int)) × Int) (r2 : T_Graph × Int) (r3 : Int × Int) (r4 : Int × Int) (r5 : Bool) (s1 : (List Int)) (s6 : Bool × Int) : Option ((Bool × Int) ⊕ (Bool ⊕ Bool)) :=
  if decide (s6.2 < (len r6.1)) then
    (
      (idx r6.1 s6.2).bind fun x3 =>
      (m_net_Set r2.1 x3).bind fun r9 =>
      if !r9 then
        some true
      else
        (idx r6.1 s6.2).bind fun x4 =>
        (m_keep_In x4 r3.1).bind fun r10 =>
        if r10 then
          some true
        else
          (idx r6.1 s6.2).bind fun x5 =>
          (idx r6.1 0).bind fun x6 =>
          if (len x5) != (len x6) then
            some true
          else
            (idx r6.1 s6.2).bind fun x7 =>
            (m_ref24_Without r2.1 x7 r4.1 r3.1).bind fun r11 =>
            some (r11 == r5) : Option Bool).bind fun s7 =>
    if s7 then
      some (.inr (.inr false))
    else
      (
        if s6.1 then
          some true
        else
          (idx r6.1 s6.2).bind fun x8 =>
          (m_keep_Ints x8 s1).bind fun r12 =>
          some r12 : Option Bool).bind fun s8 =>
      some (.inl (s8, w64 (s6.2 + 1)))
  else
    some (.inr (.inl s6.1))

noncomputable def m_law24_ExplainLeast (y0 : List Int) (y1 : Int) : Option Bool :=
  (m_keep_New y0).bind fun r1 =>
  (m_net_Graph r1 7).bind fun r2 =>
  (m_keep_Src_N (r1.1, r2.2) r2.1.1).bind fun r3 =>
  (m_keep_Src_Range (r1.1, r3.2) 1 4).bind fun r4 =>
  (m_ref24_Without r2.1 ([] : List Int) r4.1 r3.1).bind fun r5 =>
  (m_explain_Removals r2.1 r4.1 r3.1).bind fun r6 =>
  (loop (m_law24_ExplainLeast_L1 r2 r3 y1) (([] : List Int), 0) : Option (List Int)).bind fun s1 =>
  (m_ref24_Without r2.1 s1 r4.1 r3.1).bind fun r7 =>
  if r6.2 == 9 then
    (
      if !(!(r7 == r5)) then
        m_law24_awake.bind fun r8 =>
        some r8
      else
        some false : Option Bool).bind fun s4 =>
    some s4
  else
    if (r6.2 != 0) || ((len r6.1) == 0) then
      some false
    else
      seqE (loop (m_law24_ExplainLeast_L2 r6 r2 r3 r4 r5 s1) (false, 0) : Option (Bool ⊕ Bool)) fun s5 =>
      (
        if !(!(r7 == r5)) then
          m_law24_awake.bind fun r13 =>
          some r13
        else
          (idx r6.1 0).bind fun x9 =>
          if decide ((len x9) < (len s1)) then
            m_law24_awake.bind fun r14 =>
            some r14
          else
            (idx r6.1 0).bind fun x10 =>
            if (len s1) == (len x10) then
              if s5 then
                m_law24_awake.bind fun r15 =>
                some r15
              else
                some false
            else
              some false : Option Bool).bind fun s9 =>
      some s9

noncomputable def m_keep_Inside_L1 (y0 : List Int) (y1 : List Int) (s1 : Int) : Option (Int ⊕ Bool) :=
  if decide (s1 < (len y0)) then
    (idx y0 s1).bind fun x1 =>
    (m_keep_In y1 x1).bind fun r1 =>
    if !r1 then
      some (.inr false)
    else
      some (.inl (w64 (s1 + 1)))
  else
    some (.inr true)

noncomputable def m_keep_Inside (y0 : List Int) (y1 : List Int) : Option Bool :=
  loop (m_keep_Inside_L1 y0 y1) 0

noncomputable def m_law24_ExplainDefences_L2 (r4 : (List (List Int)) × Int) (s3 : Bool × Int) (s6 : Int) : Option (Int ⊕ (Unit ⊕ ((Bool × Int) ⊕ (Bool ⊕ Bool)))) :=
  if decide (s6 < (len r4.1)) then
    (
      if s3.2 != s6 then
        (idx r4.1 s3.2).bind fun x5 =>
        (idx r4.1 s6).bind fun x6 =>
        (m_keep_Inside x5 x6).bind fun r11 =>
        some r11
      else
        some false : Option Bool).bind fun s7 =>
    if s7 then
      some (.inr (.inr (.inr (.inr false))))
    else
      some (.inl (w64 (s6 + 1)))
  else
    some (.inr (.inl ()))

noncomputable def m_law24_ExplainDefences_L1 (r4 : (List (List Int)) × Int) (r2 : T_Graph × Int) (r3 : Int × Int) (r5 : (List Int)) (s3 : Bool × Int) : Option ((Bool × Int) ⊕ (Bool ⊕ Bool)) :=
  if decide (s3.2 < (len r4.1)) then
    (
      (idx r4.1 s3.2).bind fun x2 =>
      (m_net_Set r2.1 x2).bind fun r8 =>
      if !r8 then
        some true
      else
        (idx r4.1 s3.2).bind fun x3 =>
        (m_keep_In x3 r3.1).bind fun r9 =>
        if !r9 then
          some true
        else
          (idx r4.1 s3.2).bind fun x4 =>
          (m_net_Admissible r2.1 x4).bind fun r10 =>
          some (!r10) : Option Bool).bind fun s4 =>
    if s4 then
      some (.inr (.inr false))
    else
      seqE (loop (m_law24_ExplainDefences_L2 r4 s3) 0 : Option (Unit ⊕ ((Bool × Int) ⊕ (Bool ⊕ Bool)))) fun _ =>
      (
        if s3.1 then
          (idx r4.1 s3.2).bind fun x7 =>
          (m_keep_Inside x7 r5).bind fun r12 =>
          some (!r12)
        else
          some false : Option Bool).bind fun s8 =>
      some (.inl (s8, w64 (s3.2 + 1)))
  else
    some (.inr (.inl s3.1))

noncomputable def m_law24_ExplainDefences (y0 : List Int) (y1 : Int) : Option Bool :=
  (m_keep_New y0).bind fun r1 =>
  (m_net_Graph r1 8).bind fun r2 =>
  (m_keep_Src_N (r1.1, r2.2) r2.1.1).bind fun r3 =>
  (m_explain_Defences r2.1 r3.1).bind fun r4 =>
  if r4.2 != 0 then
    some false
  else
    (shlK .u64 1 (IntKind.u64.wrap (r2.1.1))).bind fun x1 =>
    (m_net_Members (band .u64 (IntKind.u64.wrap (y1)) (IntKind.u64.wrap (x1 - 1)))).bind fun r5 =>
    (
      (m_keep_In r5 r3.1).bind fun r6 =>
      if r6 then
        (m_net_Admissible r2.1 r5).bind fun r7 =>
        some r7
      else
        some false : Option Bool).bind fun s1 =>
    seqE (loop (m_law24_ExplainDefences_L1 r4 r2 r3 r5) (s1, 0) : Option (Bool ⊕ Bool)) fun s2 =>
    (
      if !s2 then
        (m_net_SomeAdmissible r2.1 r3.1 ([] : List Int)).bind fun r13 =>
        if (decide (0 < (len r4.1))) == r13 then
          m_law24_awake.bind fun r14 =>
          some r14
        else
          some false
      else
        some false : Option Bool).bind fun s9 =>
    some s9

end Go.GD
