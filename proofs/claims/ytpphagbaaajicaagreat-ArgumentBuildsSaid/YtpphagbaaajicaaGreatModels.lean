/- Models of the Go functions, printed by program (gd2). Conditions: none. -/
import Derived.Test.YtpphagbaaajicaaGreatLib
namespace Go.GD
set_option autoImplicit false

abbrev T_Literal := Bool × Str
abbrev T_Premise := T_Literal × Int × Int × Str
abbrev T_Rule := Str × Bool × Int × (List T_Literal) × T_Literal
abbrev T_Promotion := Str × Int × T_Literal
abbrev T_Base := (List T_Premise) × (List T_Rule) × (List T_Promotion)
abbrev T_keep_Src := (List Int) × Int
abbrev T_Argument := Int × Int × (List Int) × T_Literal
abbrev T_argument_builder := T_Base × (List T_Argument) × (List T_Argument) × Int

noncomputable def m_argument_builder_full (y0 : T_argument_builder) : Option Bool :=
  some (decide (40 < (w64 ((len y0.2.1) + (len y0.2.2.1)))))

noncomputable def m_argument_inside (y0 : List T_Argument) (y1 : Int) : Option Bool :=
  some ((decide (0 ≤ y1)) && (decide (y1 < (len y0))))

noncomputable def m_slices_Compact_int_L2 (y0 : List Int) (s1 : Int) (s3 : (List Int) × Int × Int) : Option (((List Int) × Int × Int) ⊕ ((List Int) × Int)) :=
  if decide (s3.2.2 < ((Int.toNat (((List.length y0 : Nat) : Int) - s1) : Nat) : Int)) then
    (idxV s3.1 s1 s3.2.2).bind fun x3 =>
    (idxV s3.1 s1 (w64 (s3.2.2 - 1))).bind fun x4 =>
    if x3 != x4 then
      (idxV s3.1 s1 s3.2.2).bind fun x5 =>
      (idx s3.1 s3.2.1).bind fun _ =>
      some (.inl (List.set s3.1 (Int.toNat s3.2.1) x5, w64 (s3.2.1 + 1), w64 (s3.2.2 + 1)))
    else
      some (.inl (s3.1, s3.2.1, w64 (s3.2.2 + 1)))
  else
    some (.inr (s3.1, s3.2.1))

noncomputable def m_slices_Compact_int_L1 (y0 : List Int) (s1 : Int) : Option (Int ⊕ (List Int)) :=
  if decide (s1 < (len y0)) then
    (idx y0 s1).bind fun x1 =>
    (idx y0 (w64 (s1 - 1))).bind fun x2 =>
    if x1 == x2 then
      (chk (decide (0 ≤ s1) && decide (s1 ≤ len y0))).bind fun _ =>
      (loop (m_slices_Compact_int_L2 y0 s1) (y0, s1, 1) : Option ((List Int) × Int)).bind fun s2 =>
      (chk (decide (0 ≤ s2.2) && decide (s2.2 ≤ len s2.1))).bind fun _ =>
      (sub (clearFrom s2.1 s2.2 0) 0 s2.2).bind fun x7 =>
      some (.inr x7)
    else
      some (.inl (w64 (s1 + 1)))
  else
    some (.inr y0)

noncomputable def m_slices_Compact_int (y0 : List Int) : Option (List Int) :=
  if decide ((len y0) < 2) then
    some y0
  else
    loop (m_slices_Compact_int_L1 y0) 1

noncomputable def m_slices_Sort_int (y0 : List Int) : Option (List Int) := sortI y0

noncomputable def m_argument_Subs_L1 (x1 : T_Argument) (rec_argument_Subs : (List T_Argument) → Int → Option (List Int)) (y0 : List T_Argument) (s2 : (List Int) × Int) : Option (((List Int) × Int) ⊕ (List Int)) :=
  if decide (s2.2 < (len x1.2.2.1)) then
    (idx x1.2.2.1 s2.2).bind fun x2 =>
    (rec_argument_Subs y0 x2).bind fun r2 =>
    (app s2.1 r2).bind fun x3 =>
    some (.inl (x3, w64 (s2.2 + 1)))
  else
    some (.inr s2.1)

noncomputable def F_argument_Subs (rec_argument_Subs : (List T_Argument) → Int → Option (List Int)) (y0 : List T_Argument) (y1 : Int) : Option (List Int) :=
  (m_argument_inside y0 y1).bind fun r1 =>
  if !r1 then
    some ([] : List Int)
  else
    (
      (idx y0 y1).bind fun x1 =>
      loop (m_argument_Subs_L1 x1 rec_argument_Subs y0) (([y1] : List Int), 0) : Option (List Int)).bind fun s1 =>
    (m_slices_Sort_int s1).bind fun r3 =>
    (m_slices_Compact_int r3).bind fun r4 =>
    some r4

noncomputable def k_argument_Subs : Nat → (List T_Argument) → Int → Option (List Int)
  | 0 => fun _ _ => none
  | k + 1 => fun y0 y1 => F_argument_Subs (k_argument_Subs k) y0 y1

noncomputable def m_argument_Subs (y0 : List T_Argument) (y1 : Int) : Option (List Int) := limM fun k => k_argument_Subs k y0 y1

noncomputable def m_argument_Defeasible_L1 (r1 : (List Int)) (y1 : List T_Argument) (y0 : T_Base) (s2 : (List Int) × Int) : Option (((List Int) × Int) ⊕ (List Int)) :=
  if decide (s2.2 < (len r1)) then
    (idx r1 s2.2).bind fun x1 =>
    (idx y1 x1).bind fun x2 =>
    (
      if decide (0 ≤ x2.2.1) then
        (idx y0.2.1 x2.2.1).bind fun x3 =>
        some (!x3.2.1)
      else
        some false : Option Bool).bind fun s3 =>
    if s3 then
      (app s2.1 ([x2.2.1] : List Int)).bind fun x4 =>
      some (.inl (x4, w64 (s2.2 + 1)))
    else
      some (.inl (s2.1, w64 (s2.2 + 1)))
  else
    some (.inr s2.1)

noncomputable def m_argument_Defeasible (y0 : T_Base) (y1 : List T_Argument) (y2 : Int) : Option (List Int) :=
  (
    (m_argument_Subs y1 y2).bind fun r1 =>
    loop (m_argument_Defeasible_L1 r1 y1 y0) (([] : List Int), 0) : Option (List Int)).bind fun s1 =>
  (m_slices_Sort_int s1).bind fun r2 =>
  (m_slices_Compact_int r2).bind fun r3 =>
  some r3

noncomputable def m_argument_run_L1 (x4 : T_Argument) (rec_argument_run : T_Base → (List T_Argument) → Int → Option (List T_Literal)) (y0 : T_Base) (y1 : List T_Argument) (s2 : (List T_Literal) × Int) : Option (((List T_Literal) × Int) ⊕ (List T_Literal)) :=
  if decide (s2.2 < (len x4.2.2.1)) then
    (idx x4.2.2.1 s2.2).bind fun x5 =>
    (rec_argument_run y0 y1 x5).bind fun r1 =>
    (app s2.1 r1).bind fun x6 =>
    some (.inl (x6, w64 (s2.2 + 1)))
  else
    some (.inr s2.1)

noncomputable def F_argument_run (rec_argument_run : T_Base → (List T_Argument) → Int → Option (List T_Literal)) (y0 : T_Base) (y1 : List T_Argument) (y2 : Int) : Option (List T_Literal) :=
  (idx y1 y2).bind fun x1 =>
  (idx y1 y2).bind fun x2 =>
  (
    if decide (0 ≤ x2.2.1) then
      (idx y0.2.1 x2.2.1).bind fun x3 =>
      some x3.2.1
    else
      some false : Option Bool).bind fun s1 =>
  if s1 then
    (idx y1 y2).bind fun x4 =>
    loop (m_argument_run_L1 x4 rec_argument_run y0 y1) (([x1.2.2.2] : List T_Literal), 0)
  else
    some ([x1.2.2.2] : List T_Literal)

noncomputable def k_argument_run : Nat → T_Base → (List T_Argument) → Int → Option (List T_Literal)
  | 0 => fun _ _ _ => none
  | k + 1 => fun y0 y1 y2 => F_argument_run (k_argument_run k) y0 y1 y2

noncomputable def m_argument_run (y0 : T_Base) (y1 : List T_Argument) (y2 : Int) : Option (List T_Literal) := limM fun k => k_argument_run k y0 y1 y2

noncomputable def m_slices_Index_Literal_L1 (y0 : List T_Literal) (y1 : T_Literal) (s1 : Int) : Option (Int ⊕ Int) :=
  if decide (s1 < (len y0)) then
    (idx y0 s1).bind fun x1 =>
    if y1 == x1 then
      some (.inr s1)
    else
      some (.inl (w64 (s1 + 1)))
  else
    some (.inr (-1))

noncomputable def m_slices_Index_Literal (y0 : List T_Literal) (y1 : T_Literal) : Option Int :=
  loop (m_slices_Index_Literal_L1 y0 y1) 0

noncomputable def m_slices_Contains_Literal (y0 : List T_Literal) (y1 : T_Literal) : Option Bool :=
  (m_slices_Index_Literal y0 y1).bind fun r1 =>
  some (decide (0 ≤ r1))

noncomputable def m_literal_Has (y0 : List T_Literal) (y1 : T_Literal) : Option Bool :=
  (m_slices_Contains_Literal y0 y1).bind fun r1 =>
  some r1

noncomputable def m_slices_Index_int_L1 (y0 : List Int) (y1 : Int) (s1 : Int) : Option (Int ⊕ Int) :=
  if decide (s1 < (len y0)) then
    (idx y0 s1).bind fun x1 =>
    if y1 == x1 then
      some (.inr s1)
    else
      some (.inl (w64 (s1 + 1)))
  else
    some (.inr (-1))

noncomputable def m_slices_Index_int (y0 : List Int) (y1 : Int) : Option Int :=
  loop (m_slices_Index_int_L1 y0 y1) 0

noncomputable def m_slices_Contains_int (y0 : List Int) (y1 : Int) : Option Bool :=
  (m_slices_Index_int y0 y1).bind fun r1 =>
  some (decide (0 ≤ r1))

noncomputable def m_argument_within_L1 (y3 : List Int) (y0 : T_Base) (y2 : Int) (y1 : List T_Argument) (s1 : Int) : Option (Int ⊕ Bool) :=
  if decide (s1 < (len y3)) then
    (idx y3 s1).bind fun x1 =>
    (idx y0.2.1 y2).bind fun x2 =>
    if x2.2.1 then
      (idx y0.2.1 y2).bind fun x3 =>
      (m_argument_run y0 y1 x1).bind fun r1 =>
      (m_literal_Has r1 x3.2.2.2.2).bind fun r2 =>
      if r2 then
        some (.inr false)
      else
        some (.inl (w64 (s1 + 1)))
    else
      (m_argument_Defeasible y0 y1 x1).bind fun r3 =>
      (m_slices_Contains_int r3 y2).bind fun r4 =>
      if r4 then
        some (.inr false)
      else
        some (.inl (w64 (s1 + 1)))
  else
    some (.inr true)

noncomputable def m_argument_within (y0 : T_Base) (y1 : List T_Argument) (y2 : Int) (y3 : List Int) : Option Bool :=
  loop (m_argument_within_L1 y3 y0 y2 y1) 0

noncomputable def m_slices_Clone_int (y0 : List Int) : Option (List Int) :=
  (app ([] : List Int) y0).bind fun x1 =>
  some x1

noncomputable def m_argument_builder_apply_1 (y0 : Int) (y2 : T_argument_builder) : Option Bool :=
  some (decide (y2.2.2.2 ≤ y0))

noncomputable def m_slices_IndexFunc_int__argument_builder_apply_1_L1 (y0 : List Int) (y2 : T_argument_builder) (s1 : Int) : Option (Int ⊕ Int) :=
  if decide (s1 < (len y0)) then
    (idx y0 s1).bind fun x1 =>
    (m_argument_builder_apply_1 x1 y2).bind fun r1 =>
    if r1 then
      some (.inr s1)
    else
      some (.inl (w64 (s1 + 1)))
  else
    some (.inr (-1))

noncomputable def m_slices_IndexFunc_int__argument_builder_apply_1 (y0 : List Int) (y2 : T_argument_builder) : Option Int :=
  loop (m_slices_IndexFunc_int__argument_builder_apply_1_L1 y0 y2) 0

noncomputable def m_slices_ContainsFunc_int__argument_builder_apply_1 (y0 : List Int) (y2 : T_argument_builder) : Option Bool :=
  (m_slices_IndexFunc_int__argument_builder_apply_1 y0 y2).bind fun r1 =>
  some (decide (0 ≤ r1))

noncomputable def m_argument_builder_apply_2_L1 (y0 : T_argument_builder) (x1 : T_Rule) (y2 : List Int) (rec_argument_builder_apply_2 : T_argument_builder → Int → (List Int) → Option (List T_Argument)) (y1 : Int) (s2 : Int × (List T_Argument)) : Option ((Int × (List T_Argument)) ⊕ (Unit ⊕ (List T_Argument))) :=
  if decide (s2.1 < (len y0.2.1)) then
    (idx y0.2.1 s2.1).bind fun x2 =>
    (idx x1.2.2.2.1 (len y2)).bind fun x3 =>
    if x2.2.2.2 == x3 then
      (
        (m_slices_Clone_int y2).bind fun r2 =>
        (app r2 ([s2.1] : List Int)).bind fun x4 =>
        (rec_argument_builder_apply_2 (y0.1, y0.2.1, s2.2, y0.2.2.2) y1 x4).bind fun r3 =>
        some r3 : Option (List T_Argument)).bind fun s3 =>
      some (.inl (w64 (s2.1 + 1), s3))
    else
      some (.inl (w64 (s2.1 + 1), s2.2))
  else
    some (.inr (.inr s2.2))

noncomputable def F_argument_builder_apply_2 (rec_argument_builder_apply_2 : T_argument_builder → Int → (List Int) → Option (List T_Argument)) (y0 : T_argument_builder) (y1 : Int) (y2 : List Int) : Option (List T_Argument) :=
  (idx y0.1.2.1 y1).bind fun x1 =>
  (m_argument_builder_full y0).bind fun r1 =>
  if r1 then
    some y0.2.2.1
  else
    seqE (
      if decide ((len y2) < (len x1.2.2.2.1)) then
        loop (m_argument_builder_apply_2_L1 y0 x1 y2 rec_argument_builder_apply_2 y1) (0, y0.2.2.1)
      else
        some (.inl ()) : Option (Unit ⊕ (List T_Argument))) fun _ =>
    (
      (m_slices_ContainsFunc_int__argument_builder_apply_1 y2 y0).bind fun r6 =>
      if r6 then
        (m_argument_within y0.1 y0.2.1 y1 y2).bind fun r7 =>
        some r7
      else
        some false : Option Bool).bind fun s4 =>
    if s4 then
      (idx y0.1.2.1 y1).bind fun x6 =>
      (app y0.2.2.1 ([((-1), y1, y2, x6.2.2.2.2)] : List T_Argument)).bind fun x7 =>
      some x7
    else
      some y0.2.2.1

noncomputable def k_argument_builder_apply_2 : Nat → T_argument_builder → Int → (List Int) → Option (List T_Argument)
  | 0 => fun _ _ _ => none
  | k + 1 => fun y0 y1 y2 => F_argument_builder_apply_2 (k_argument_builder_apply_2 k) y0 y1 y2

noncomputable def m_argument_builder_apply_2 (y0 : T_argument_builder) (y1 : Int) (y2 : List Int) : Option (List T_Argument) := limM fun k => k_argument_builder_apply_2 k y0 y1 y2

noncomputable def m_rulebase_Find_1 (y0 : T_Rule) (y1 : Str) : Option Bool :=
  some (y0.1 == y1)

noncomputable def m_slices_IndexFunc_Rule__rulebase_Find_1_L1 (y0 : List T_Rule) (y1 : Str) (s1 : Int) : Option (Int ⊕ Int) :=
  if decide (s1 < (len y0)) then
    (idx y0 s1).bind fun x1 =>
    (m_rulebase_Find_1 x1 y1).bind fun r1 =>
    if r1 then
      some (.inr s1)
    else
      some (.inl (w64 (s1 + 1)))
  else
    some (.inr (-1))

noncomputable def m_slices_IndexFunc_Rule__rulebase_Find_1 (y0 : List T_Rule) (y1 : Str) : Option Int :=
  loop (m_slices_IndexFunc_Rule__rulebase_Find_1_L1 y0 y1) 0

noncomputable def m_rulebase_Find (y0 : T_Base) (y1 : Str) : Option Int :=
  (m_slices_IndexFunc_Rule__rulebase_Find_1 y0.2.1 y1).bind fun r1 =>
  some r1

noncomputable def m_rulebase_Premise_1 (y0 : T_Premise) (y1 : T_Literal) : Option Bool :=
  some (y0.1 == y1)

noncomputable def m_slices_IndexFunc_Premise__rulebase_Premise_1_L1 (y0 : List T_Premise) (y1 : T_Literal) (s1 : Int) : Option (Int ⊕ Int) :=
  if decide (s1 < (len y0)) then
    (idx y0 s1).bind fun x1 =>
    (m_rulebase_Premise_1 x1 y1).bind fun r1 =>
    if r1 then
      some (.inr s1)
    else
      some (.inl (w64 (s1 + 1)))
  else
    some (.inr (-1))

noncomputable def m_slices_IndexFunc_Premise__rulebase_Premise_1 (y0 : List T_Premise) (y1 : T_Literal) : Option Int :=
  loop (m_slices_IndexFunc_Premise__rulebase_Premise_1_L1 y0 y1) 0

noncomputable def m_rulebase_Premise (y0 : T_Base) (y1 : T_Literal) : Option Int :=
  (m_slices_IndexFunc_Premise__rulebase_Premise_1 y0.1 y1).bind fun r1 =>
  some r1

noncomputable def m_literal_ValidName_L1 (y0 : Str) (s1 : Int) : Option (Int ⊕ Bool) :=
  if decide (s1 < (len y0)) then
    (sidx y0 s1).bind fun x1 =>
    if (decide (97 ≤ x1)) && (decide (x1 ≤ 122)) then
      some (.inl (w64 (s1 + 1)))
    else
      if (decide (0 < s1)) && (if decide (48 ≤ x1) then (decide (x1 ≤ 57)) || (x1 == 95) else x1 == 95) then
        some (.inl (w64 (s1 + 1)))
      else
        some (.inr false)
  else
    some (.inr true)

noncomputable def m_literal_ValidName (y0 : Str) : Option Bool :=
  if ((len y0) == 0) || (decide (12 < (len y0))) then
    some false
  else
    loop (m_literal_ValidName_L1 y0) 0

noncomputable def m_literal_Valid (y0 : T_Literal) : Option Bool :=
  (m_literal_ValidName y0.2).bind fun r1 =>
  some r1

noncomputable def m_rulebase_ranked (y0 : Int) : Option Bool :=
  some ((decide (0 ≤ y0)) && (decide (y0 ≤ 9)))

noncomputable def m_rulebase_sourced (y0 : Str) : Option Bool :=
  (
    if y0 == [] then
      some true
    else
      (m_literal_ValidName y0).bind fun r1 =>
      some r1 : Option Bool).bind fun s1 =>
  some s1

noncomputable def m_rulebase_premise (y0 : T_Premise) : Option Int :=
  seqE (
    (
      if y0.2.1 == 1 then
        some (y0.2.1 == 1)
      else
        some (y0.2.1 == 3) : Option Bool).bind fun s2 =>
    if s2 then
      if y0.2.2.1 != 0 then
        some (.inr 1)
      else
        some (.inl ())
    else
      if y0.2.1 == 2 then
        (m_rulebase_ranked y0.2.2.1).bind fun r1 =>
        if !r1 then
          some (.inr 1)
        else
          some (.inl ())
      else
        some (.inr 4) : Option (Unit ⊕ Int)) fun _ =>
  (
    (m_literal_Valid y0.1).bind fun r2 =>
    if !r2 then
      some true
    else
      (m_rulebase_sourced y0.2.2.2).bind fun r3 =>
      some (!r3) : Option Bool).bind fun s3 =>
  if s3 then
    some 1
  else
    some 0

noncomputable def m_rulebase_promotion (y0 : T_Base) (y1 : T_Promotion) : Option Int :=
  (
    (m_rulebase_ranked y1.2.1).bind fun r1 =>
    if !r1 then
      some true
    else
      (m_literal_Valid y1.2.2).bind fun r2 =>
      some (!r2) : Option Bool).bind fun s1 =>
  if s1 then
    some 1
  else
    (m_rulebase_Find y0 y1.1).bind fun r3 =>
    if decide (r3 < 0) then
      some 6
    else
      (idx y0.2.1 r3).bind fun x1 =>
      if x1.2.1 then
        some 4
      else
        some 0

noncomputable def m_cmp_isNaN_string (y0 : Str) : Option Bool :=
  some (!(y0 == y0))

noncomputable def m_cmp_Compare_string (y0 : Str) (y1 : Str) : Option Int :=
  (m_cmp_isNaN_string y0).bind fun r1 =>
  (m_cmp_isNaN_string y1).bind fun r2 =>
  if r1 then
    if r2 then
      some 0
    else
      some (-1)
  else
    if r2 then
      some 1
    else
      if sless y0 y1 then
        some (-1)
      else
        if !(sless y0 y1 || y0 == y1) then
          some 1
        else
          some 0

noncomputable def m_literal_Compare (y0 : T_Literal) (y1 : T_Literal) : Option Int :=
  (m_cmp_Compare_string y0.2 y1.2).bind fun r1 =>
  if (r1 != 0) || (y0.1 == y1.1) then
    some r1
  else
    if y1.1 then
      some (-1)
    else
      some 1

noncomputable def m_rulebase_rule_L1 (y0 : T_Rule) (s3 : Int) : Option (Int ⊕ (Unit ⊕ Int)) :=
  if decide (s3 < (len y0.2.2.2.1)) then
    (idx y0.2.2.2.1 s3).bind fun x1 =>
    (m_literal_Valid x1).bind fun r4 =>
    if !r4 then
      some (.inr (.inr 1))
    else
      some (.inl (w64 (s3 + 1)))
  else
    some (.inr (.inl ()))

noncomputable def m_rulebase_rule_L2 (y0 : T_Rule) (s4 : Int) : Option (Int ⊕ Int) :=
  if decide (s4 < (len y0.2.2.2.1)) then
    (idx y0.2.2.2.1 (w64 (s4 - 1))).bind fun x2 =>
    (idx y0.2.2.2.1 s4).bind fun x3 =>
    (m_literal_Compare x2 x3).bind fun r5 =>
    if decide (0 ≤ r5) then
      some (.inr 8)
    else
      some (.inl (w64 (s4 + 1)))
  else
    some (.inr 0)

noncomputable def m_rulebase_rule (y0 : T_Rule) : Option Int :=
  if decide (4 < (len y0.2.2.2.1)) then
    some 2
  else
    (
      (m_literal_ValidName y0.1).bind fun r1 =>
      if !r1 then
        some true
      else
        (m_literal_Valid y0.2.2.2.2).bind fun r2 =>
        if !r2 then
          some true
        else
          (m_rulebase_ranked y0.2.2.1).bind fun r3 =>
          if !r3 then
            some true
          else
            if y0.2.1 then
              some (y0.2.2.1 != 0)
            else
              some false : Option Bool).bind fun s1 =>
    if s1 then
      some 1
    else
      seqE (loop (m_rulebase_rule_L1 y0) 0 : Option (Unit ⊕ Int)) fun _ =>
      loop (m_rulebase_rule_L2 y0) 1

noncomputable def m_rulebase_Validate_L1 (y0 : T_Base) (s2 : Int) : Option (Int ⊕ (Unit ⊕ Int)) :=
  if decide (s2 < (len y0.1)) then
    (idx y0.1 s2).bind fun x1 =>
    (m_rulebase_premise x1).bind fun r1 =>
    if r1 != 0 then
      some (.inr (.inr r1))
    else
      (m_rulebase_Premise y0 x1.1).bind fun r2 =>
      if decide (r2 < s2) then
        some (.inr (.inr 5))
      else
        some (.inl (w64 (s2 + 1)))
  else
    some (.inr (.inl ()))

noncomputable def m_rulebase_Validate_L2 (y0 : T_Base) (s4 : Int) : Option (Int ⊕ (Unit ⊕ Int)) :=
  if decide (s4 < (len y0.2.1)) then
    (idx y0.2.1 s4).bind fun x2 =>
    (m_rulebase_rule x2).bind fun r3 =>
    if r3 != 0 then
      some (.inr (.inr r3))
    else
      (m_rulebase_Find y0 x2.1).bind fun r4 =>
      if decide (r4 < s4) then
        some (.inr (.inr 5))
      else
        some (.inl (w64 (s4 + 1)))
  else
    some (.inr (.inl ()))

noncomputable def m_rulebase_Validate_L3 (y0 : T_Base) (s5 : Int) : Option (Int ⊕ Int) :=
  if decide (s5 < (len y0.2.2)) then
    (idx y0.2.2 s5).bind fun x3 =>
    (m_rulebase_promotion y0 x3).bind fun r5 =>
    if r5 != 0 then
      some (.inr r5)
    else
      some (.inl (w64 (s5 + 1)))
  else
    some (.inr 0)

noncomputable def m_rulebase_Validate (y0 : T_Base) : Option Int :=
  if (decide (16 < (len y0.1))) || ((decide (24 < (len y0.2.1))) || (decide (8 < (len y0.2.2)))) then
    some 2
  else
    seqE (loop (m_rulebase_Validate_L1 y0) 0 : Option (Unit ⊕ Int)) fun _ =>
    seqE (loop (m_rulebase_Validate_L2 y0) 0 : Option (Unit ⊕ Int)) fun _ =>
    loop (m_rulebase_Validate_L3 y0) 0

noncomputable def m_argument_Build_L1 (y0 : T_Base) (s2 : Int × (List T_Argument)) : Option ((Int × (List T_Argument)) ⊕ (List T_Argument)) :=
  if decide (s2.1 < (len y0.1)) then
    (idx y0.1 s2.1).bind fun x1 =>
    (app s2.2 ([(s2.1, (-1), ([] : List Int), x1.1)] : List T_Argument)).bind fun x2 =>
    some (.inl (w64 (s2.1 + 1), x2))
  else
    some (.inr s2.2)

noncomputable def m_argument_Build_L3 (y0 : T_Base) (s4 : Int × (List T_Argument) × (List T_Argument) × Int) (s6 : Int × (List T_Argument)) : Option ((Int × (List T_Argument)) ⊕ ((List T_Argument) ⊕ ((Int × (List T_Argument) × (List T_Argument) × Int) ⊕ ((List T_Argument) × (List T_Argument) × Int)))) :=
  if decide (s6.1 < (len y0.2.1)) then
    (idx y0.2.1 s6.1).bind fun x3 =>
    (
      if decide (0 < (len x3.2.2.2.1)) then
        (m_argument_builder_apply_2 (y0, s4.2.1, s6.2, s4.2.2.2) s6.1 ([] : List Int)).bind fun r2 =>
        some r2
      else
        if s4.1 == 1 then
          (app s6.2 ([((-1), s6.1, ([] : List Int), x3.2.2.2.2)] : List T_Argument)).bind fun x4 =>
          some x4
        else
          some s6.2 : Option (List T_Argument)).bind fun s7 =>
    (m_argument_builder_full (y0, s4.2.1, s7, s4.2.2.2)).bind fun r3 =>
    if r3 then
      some (.inr (.inr (.inr (s4.2.1, s7, s4.2.2.2))))
    else
      some (.inl (w64 (s6.1 + 1), s7))
  else
    some (.inr (.inl s6.2))

noncomputable def m_argument_Build_L2 (y0 : T_Base) (s4 : Int × (List T_Argument) × (List T_Argument) × Int) : Option ((Int × (List T_Argument) × (List T_Argument) × Int) ⊕ ((List T_Argument) × (List T_Argument) × Int)) :=
  seqE (loop (m_argument_Build_L3 y0 s4) (0, ([] : List T_Argument)) : Option ((List T_Argument) ⊕ ((Int × (List T_Argument) × (List T_Argument) × Int) ⊕ ((List T_Argument) × (List T_Argument) × Int)))) fun s5 =>
  if (len s5) == 0 then
    some (.inr (s4.2.1, s5, s4.2.2.2))
  else
    (app s4.2.1 s5).bind fun x5 =>
    some (.inl (w64 (s4.1 + 1), x5, s5, len s4.2.1))

noncomputable def m_argument_Build (y0 : T_Base) : Option ((List T_Argument) × Int) :=
  (m_rulebase_Validate y0).bind fun r1 =>
  if r1 != 0 then
    some (([] : List T_Argument), r1)
  else
    (loop (m_argument_Build_L1 y0) (0, ([] : List T_Argument)) : Option (List T_Argument)).bind fun s1 =>
    (loop (m_argument_Build_L2 y0) (1, s1, ([] : List T_Argument), 0) : Option ((List T_Argument) × (List T_Argument) × Int)).bind fun s3 =>
    (m_argument_builder_full (y0, s3.1, s3.2.1, s3.2.2)).bind fun r4 =>
    if r4 then
      some (([] : List T_Argument), 2)
    else
      some (s3.1, 0)

noncomputable def m_keep_New (y0 : List Int) : Option T_keep_Src :=
  (sub y0 0 (if 2000 < (len y0) then 2000 else len y0)).bind fun x1 =>
  some (x1, 0)

noncomputable def m_keep_SmallBase_L1 (y0 : T_Base) (s2 : Int) : Option (Int ⊕ (Unit ⊕ Bool)) :=
  if decide (s2 < (len y0.1)) then
    (idx y0.1 s2).bind fun x1 =>
    if (decide (50 < (len x1.1.2))) || (decide (50 < (len x1.2.2.2))) then
      some (.inr (.inr false))
    else
      some (.inl (w64 (s2 + 1)))
  else
    some (.inr (.inl ()))

noncomputable def m_keep_SmallBase_L3 (x2 : T_Rule) (s4 : Int) (s5 : Int) : Option (Int ⊕ (Int ⊕ (Unit ⊕ Bool))) :=
  if decide (s5 < (len x2.2.2.2.1)) then
    (idx x2.2.2.2.1 s5).bind fun x3 =>
    if decide (50 < (len x3.2)) then
      some (.inr (.inr (.inr false)))
    else
      some (.inl (w64 (s5 + 1)))
  else
    some (.inr (.inl (w64 (s4 + 1))))

noncomputable def m_keep_SmallBase_L2 (y0 : T_Base) (s4 : Int) : Option (Int ⊕ (Unit ⊕ Bool)) :=
  if decide (s4 < (len y0.2.1)) then
    (idx y0.2.1 s4).bind fun x2 =>
    if (decide (8 < (len x2.2.2.2.1))) || ((decide (50 < (len x2.1))) || (decide (50 < (len x2.2.2.2.2.2)))) then
      some (.inr (.inr false))
    else
      loop (m_keep_SmallBase_L3 x2 s4) 0
  else
    some (.inr (.inl ()))

noncomputable def m_keep_SmallBase_L4 (y0 : T_Base) (s6 : Int) : Option (Int ⊕ Bool) :=
  if decide (s6 < (len y0.2.2)) then
    (idx y0.2.2 s6).bind fun x4 =>
    if (decide (50 < (len x4.1))) || (decide (50 < (len x4.2.2.2))) then
      some (.inr false)
    else
      some (.inl (w64 (s6 + 1)))
  else
    some (.inr true)

noncomputable def m_keep_SmallBase (y0 : T_Base) : Option Bool :=
  if (decide (30 < (len y0.1))) || ((decide (30 < (len y0.2.1))) || (decide (20 < (len y0.2.2)))) then
    some false
  else
    seqE (loop (m_keep_SmallBase_L1 y0) 0 : Option (Unit ⊕ Bool)) fun _ =>
    seqE (loop (m_keep_SmallBase_L2 y0) 0 : Option (Unit ⊕ Bool)) fun _ =>
    loop (m_keep_SmallBase_L4 y0) 0

noncomputable def m_keep_Mod (y0 : Int) (y1 : Int) : Option Int :=
  if decide (y1 < 1) then
    some 0
  else
    (remK y0 y1).bind fun x1 =>
    if decide (x1 < 0) then
      some (w64 (x1 + y1))
    else
      some x1

noncomputable def m_keep_RuleName (y0 : Int) : Option Str :=
  (m_keep_Mod y0 26).bind fun r1 =>
  (cat [114] (strOf ([IntKind.u8.wrap (w64 (97 + r1))] : List Int))).bind fun x1 =>
  some x1

noncomputable def m_keep_Src_Raw (y0 : T_keep_Src) : Option (Int × Int) :=
  if decide ((len y0.1) ≤ y0.2) then
    some (0, y0.2)
  else
    (idx y0.1 (w64 ((w64 (y0.2 + 1)) - 1))).bind fun x1 =>
    some (x1, w64 (y0.2 + 1))

noncomputable def m_keep_Src_N (y0 : T_keep_Src) (y1 : Int) : Option (Int × Int) :=
  (m_keep_Src_Raw y0).bind fun r1 =>
  (m_keep_Mod r1.1 y1).bind fun r2 =>
  some (r2, r1.2)

noncomputable def m_keep_Src_Literal (y0 : T_keep_Src) (y1 : Int) : Option (T_Literal × Int) :=
  (m_keep_Src_N y0 (w64 (2 * y1))).bind fun r1 =>
  (quoK .i64 r1.1 2).bind fun x1 =>
  some (((band .i64 r1.1 1) == 1, strOf ([IntKind.u8.wrap (w64 (97 + x1))] : List Int)), r1.2)

noncomputable def m_keep_Src_Literals_L1 (y0 : T_keep_Src) (y2 : Int) (s1 : (List T_Literal) × Int × Int) : Option (((List T_Literal) × Int × Int) ⊕ ((List T_Literal) × Int)) :=
  if decide (0 < s1.2.1) then
    (m_keep_Src_Literal (y0.1, s1.2.2) y2).bind fun r2 =>
    (app s1.1 ([r2.1] : List T_Literal)).bind fun x1 =>
    some (.inl (x1, w64 (s1.2.1 - 1), r2.2))
  else
    some (.inr (s1.1, s1.2.2))

noncomputable def m_keep_Src_Literals (y0 : T_keep_Src) (y1 : Int) (y2 : Int) : Option ((List T_Literal) × Int) :=
  (m_keep_Src_N y0 (w64 (y1 + 1))).bind fun r1 =>
  loop (m_keep_Src_Literals_L1 y0 y2) (([] : List T_Literal), r1.1, r1.2)

noncomputable def m_keep_Src_Pick (y0 : T_keep_Src) (y1 : List Int) : Option (Int × Int) :=
  (m_keep_Src_N y0 (len y1)).bind fun r1 =>
  (idx y1 r1.1).bind fun x1 =>
  some (x1, r1.2)

noncomputable def m_keep_Src_Text (y0 : T_keep_Src) (y1 : List Str) : Option (Str × Int) :=
  (m_keep_Src_N y0 (len y1)).bind fun r1 =>
  (idx y1 r1.1).bind fun x1 =>
  some (x1, r1.2)

noncomputable def m_keep_sorted_L2 (s1 : (List T_Literal) × Int) (x1 : T_Literal) (s3 : Int) : Option (Int ⊕ Int) :=
  (
    if decide (s3 < (len s1.1)) then
      (idx s1.1 s3).bind fun x2 =>
      if sless x2.2 x1.2 then
        some true
      else
        (idx s1.1 s3).bind fun x3 =>
        if x3.2 == x1.2 then
          (idx s1.1 s3).bind fun x4 =>
          if !x4.1 then
            some x1.1
          else
            some false
        else
          some false
    else
      some false : Option Bool).bind fun s4 =>
  if s4 then
    some (.inl (w64 (s3 + 1)))
  else
    some (.inr s3)

noncomputable def m_keep_sorted_L1 (y0 : List T_Literal) (s1 : (List T_Literal) × Int) : Option (((List T_Literal) × Int) ⊕ (List T_Literal)) :=
  if decide (s1.2 < (len y0)) then
    (idx y0 s1.2).bind fun x1 =>
    (loop (m_keep_sorted_L2 s1 x1) 0 : Option Int).bind fun s2 =>
    (
      if decide (s2 < (len s1.1)) then
        (idx s1.1 s2).bind fun x5 =>
        some (x5 == x1)
      else
        some false : Option Bool).bind fun s5 =>
    if s5 then
      some (.inl (s1.1, w64 (s1.2 + 1)))
    else
      (app s1.1 ([(false, [])] : List T_Literal)).bind fun x6 =>
      (chk (decide (0 ≤ (w64 (s2 + 1))) && decide ((w64 (s2 + 1)) ≤ len x6))).bind fun _ =>
      (chk (decide (0 ≤ s2) && decide (s2 ≤ len x6))).bind fun _ =>
      (idx (copyAt x6 (w64 (s2 + 1)) (List.drop (Int.toNat s2) x6)) s2).bind fun _ =>
      some (.inl (List.set (copyAt x6 (w64 (s2 + 1)) (List.drop (Int.toNat s2) x6)) (Int.toNat s2) x1, w64 (s1.2 + 1)))
  else
    some (.inr s1.1)

noncomputable def m_keep_sorted (y0 : List T_Literal) : Option (List T_Literal) :=
  loop (m_keep_sorted_L1 y0) (([] : List T_Literal), 0)

noncomputable def m_keep_Src_Base_L2 (s2 : Int × Int × (List T_Premise)) (r2 : T_Literal × Int) (s5 : Bool × Int) : Option ((Bool × Int) ⊕ Bool) :=
  if decide (s5.2 < (len s2.2.2)) then
    (idx s2.2.2 s5.2).bind fun x1 =>
    some (.inl (s5.1 || (x1.1 == r2.1), w64 (s5.2 + 1)))
  else
    some (.inr s5.1)

noncomputable def m_keep_Src_Base_L1 (y0 : T_keep_Src) (y1 : Int) (s2 : Int × Int × (List T_Premise)) : Option ((Int × Int × (List T_Premise)) ⊕ (Int × (List T_Premise))) :=
  if decide (0 < s2.1) then
    (m_keep_Src_Literal (y0.1, s2.2.1) y1).bind fun r2 =>
    (m_keep_Src_Pick (y0.1, r2.2) ([1, 2, 2, 2, 3] : List Int)).bind fun r3 =>
    (m_keep_Src_Text (y0.1, r3.2) ([[], [], [97, 110, 110], [98, 111, 98]] : List Str)).bind fun r4 =>
    (
      if r3.1 == 2 then
        (m_keep_Src_N (y0.1, r4.2) 4).bind fun r5 =>
        some (r5.2, r5.1)
      else
        some (r4.2, 0) : Option (Int × Int)).bind fun s3 =>
    (loop (m_keep_Src_Base_L2 s2 r2) (false, 0) : Option Bool).bind fun s4 =>
    if !s4 then
      (app s2.2.2 ([(r2.1, r3.1, s3.2, r4.1)] : List T_Premise)).bind fun x2 =>
      some (.inl (w64 (s2.1 - 1), s3.1, x2))
    else
      some (.inl (w64 (s2.1 - 1), s3.1, s2.2.2))
  else
    some (.inr (s2.2.1, s2.2.2))

noncomputable def m_keep_Src_Base_L3 (y0 : T_keep_Src) (y1 : Int) (y3 : Int) (s7 : Int × Int × (List T_Rule)) : Option ((Int × Int × (List T_Rule)) ⊕ (Int × (List T_Rule))) :=
  if decide (0 < s7.1) then
    (m_keep_RuleName (len s7.2.2)).bind fun r7 =>
    (m_keep_Src_N (y0.1, s7.2.1) 3).bind fun r8 =>
    (m_keep_Src_Literals (y0.1, r8.2) 2 y1).bind fun r9 =>
    (m_keep_sorted r9.1).bind fun r10 =>
    (m_keep_Src_Literal (y0.1, r9.2) y1).bind fun r11 =>
    (
      if !(r8.1 == 0) then
        (m_keep_Src_N (y0.1, r11.2) 4).bind fun r12 =>
        some (r12.2, r12.1)
      else
        some (r11.2, 0) : Option (Int × Int)).bind fun s8 =>
    (
      (m_keep_Src_N (y0.1, s8.1) 6).bind fun r13 =>
      if r13.1 == 5 then
        (m_keep_Src_N (y0.1, r13.2) 4).bind fun r14 =>
        (m_keep_Src_N (y0.1, r14.2) y3).bind fun r15 =>
        (m_keep_RuleName r15.1).bind fun r16 =>
        some (r15.2, decide (0 < r14.1), r16)
      else
        some (r13.2, r11.1.1, r11.1.2) : Option (Int × Bool × Str)).bind fun s9 =>
    (app s7.2.2 ([(r7, r8.1 == 0, s8.2, r10, (s9.2.1, s9.2.2))] : List T_Rule)).bind fun x3 =>
    some (.inl (w64 (s7.1 - 1), s9.1, x3))
  else
    some (.inr (s7.2.1, s7.2.2))

noncomputable def m_keep_Src_Base_L4 (s6 : Int × (List T_Rule)) (y0 : T_keep_Src) (y1 : Int) (s11 : Int × Int × (List T_Promotion)) : Option ((Int × Int × (List T_Promotion)) ⊕ (Int × (List T_Promotion))) :=
  if (decide (0 < s11.1)) && (decide (0 < (len s6.2))) then
    (
      (m_keep_Src_N (y0.1, s11.2.1) (len s6.2)).bind fun r18 =>
      (idx s6.2 r18.1).bind fun x4 =>
      some (r18.2, x4) : Option (Int × T_Rule)).bind fun s12 =>
    if !s12.2.2.1 then
      (m_keep_Src_N (y0.1, s12.1) 10).bind fun r20 =>
      (m_keep_Src_Literal (y0.1, r20.2) y1).bind fun r21 =>
      (app s11.2.2 ([(s12.2.1, r20.1, r21.1)] : List T_Promotion)).bind fun x6 =>
      some (.inl (w64 (s11.1 - 1), r21.2, x6))
    else
      some (.inl (w64 (s11.1 - 1), s12.1, s11.2.2))
  else
    some (.inr (s11.2.1, s11.2.2))

noncomputable def m_keep_Src_Base (y0 : T_keep_Src) (y1 : Int) (y2 : Int) (y3 : Int) : Option (T_Base × Int) :=
  (
    (m_keep_Src_N y0 (w64 (y2 + 1))).bind fun r1 =>
    loop (m_keep_Src_Base_L1 y0 y1) (r1.1, r1.2, ([] : List T_Premise)) : Option (Int × (List T_Premise))).bind fun s1 =>
  (
    (m_keep_Src_N (y0.1, s1.1) (w64 (y3 + 1))).bind fun r6 =>
    loop (m_keep_Src_Base_L3 y0 y1 y3) (r6.1, r6.2, ([] : List T_Rule)) : Option (Int × (List T_Rule))).bind fun s6 =>
  (
    (m_keep_Src_N (y0.1, s6.1) 3).bind fun r17 =>
    loop (m_keep_Src_Base_L4 s6 y0 y1) (r17.1, r17.2, ([] : List T_Promotion)) : Option (Int × (List T_Promotion))).bind fun s10 =>
  some ((s1.2, s6.2, s10.2), s10.1)

noncomputable def m_keep_Src_Odd (y0 : T_keep_Src) : Option (T_Literal × Int) :=
  (m_keep_Src_N y0 2).bind fun r1 =>
  (m_keep_Src_Text (y0.1, r1.2) ([[], [97], [65], [97, 49, 95], [49, 97], [95, 97], [97, 98, 99, 100, 101, 102, 103, 104, 105, 106, 107, 108], [97, 98, 99, 100, 101, 102, 103, 104, 105, 106, 107, 108, 109], [97, 126], [126, 97], [97, 32, 98]] : List Str)).bind fun r2 =>
  some ((r1.1 == 1, r2.1), r2.2)

noncomputable def m_keep_Src_SpoiltBase_L1 (y1 : T_Base) (s3 : Int × (List T_Rule)) : Option ((Int × (List T_Rule)) ⊕ (List T_Rule)) :=
  if decide (s3.1 < (len y1.2.1)) then
    (idx y1.2.1 s3.1).bind fun x27 =>
    (app ([] : List T_Literal) x27.2.2.2.1).bind fun x28 =>
    (app s3.2 [(x27.1, x27.2.1, x27.2.2.1, x28, x27.2.2.2.2)]).bind fun x29 =>
    some (.inl (w64 (s3.1 + 1), x29))
  else
    some (.inr s3.2)

noncomputable def m_keep_Src_SpoiltBase (y0 : T_keep_Src) (y1 : T_Base) : Option (T_Base × Int) :=
  (
    (app ([] : List T_Premise) y1.1).bind fun x1 =>
    (app ([] : List T_Promotion) y1.2.2).bind fun x2 =>
    some (x1, ([] : List T_Rule), x2) : Option T_Base).bind fun s1 =>
  (loop (m_keep_Src_SpoiltBase_L1 y1) (0, s1.2.1) : Option (List T_Rule)).bind fun s2 =>
  (m_keep_Src_N y0 (len s1.1)).bind fun r1 =>
  (
    if decide (0 < (len s1.1)) then
      (m_keep_Src_N (y0.1, r1.2) 3).bind fun r2 =>
      some (r2.1 == 0, r2.2)
    else
      some (false, r1.2) : Option (Bool × Int)).bind fun s4 =>
  if s4.1 then
    (
      (m_keep_Src_N (y0.1, s4.2) 5).bind fun r3 =>
      if r3.1 == 0 then
        (m_keep_Src_N (y0.1, r3.2) 6).bind fun r4 =>
        (idx s1.1 r1.1).bind fun x30 =>
        some (r4.2, List.set s1.1 (Int.toNat r1.1) (x30.1, w64 (r4.1 - 1), x30.2.2.1, x30.2.2.2), s2)
      else
        if r3.1 == 1 then
          (m_keep_Src_Pick (y0.1, r3.2) ([(-1), 0, 9, 10] : List Int)).bind fun r5 =>
          (idx s1.1 r1.1).bind fun x31 =>
          some (r5.2, List.set s1.1 (Int.toNat r1.1) (x31.1, x31.2.1, r5.1, x31.2.2.2), s2)
        else
          if r3.1 == 2 then
            (m_keep_Src_Odd (y0.1, r3.2)).bind fun r6 =>
            (idx s1.1 r1.1).bind fun x32 =>
            some (r6.2, List.set s1.1 (Int.toNat r1.1) (r6.1, x32.2.1, x32.2.2.1, x32.2.2.2), s2)
          else
            if r3.1 == 3 then
              (m_keep_Src_Text (y0.1, r3.2) ([[65], [], [97]] : List Str)).bind fun r7 =>
              (idx s1.1 r1.1).bind fun x33 =>
              some (r7.2, List.set s1.1 (Int.toNat r1.1) (x33.1, x33.2.1, x33.2.2.1, r7.1), s2)
            else
              (idx s1.1 0).bind fun x34 =>
              (idx s1.1 r1.1).bind fun x35 =>
              some (r3.2, List.set s1.1 (Int.toNat r1.1) (x34.1, x35.2.1, x35.2.2.1, x35.2.2.2), s2) : Option (Int × (List T_Premise) × (List T_Rule))).bind fun s5 =>
    some ((s5.2.1, s5.2.2, s1.2.2), s5.1)
  else
    (m_keep_Src_N (y0.1, s4.2) (len s2)).bind fun r8 =>
    (
      if decide (0 < (len s2)) then
        (m_keep_Src_N (y0.1, r8.2) 3).bind fun r9 =>
        some (decide (0 < r9.1), r9.2)
      else
        some (false, r8.2) : Option (Bool × Int)).bind fun s6 =>
    if s6.1 then
      (
        (m_keep_Src_N (y0.1, s6.2) 7).bind fun r10 =>
        if r10.1 == 0 then
          (m_keep_Src_Text (y0.1, r10.2) ([[], [114, 97], [82], [114, 98]] : List Str)).bind fun r11 =>
          (idx s2 r8.1).bind fun x36 =>
          some (r11.2, List.set s2 (Int.toNat r8.1) (r11.1, x36.2.1, x36.2.2.1, x36.2.2.2.1, x36.2.2.2.2))
        else
          if r10.1 == 1 then
            (m_keep_Src_Pick (y0.1, r10.2) ([(-1), 0, 1, 9, 10] : List Int)).bind fun r12 =>
            (idx s2 r8.1).bind fun x37 =>
            some (r12.2, List.set s2 (Int.toNat r8.1) (x37.1, x37.2.1, r12.1, x37.2.2.2.1, x37.2.2.2.2))
          else
            if r10.1 == 2 then
              (idx s2 r8.1).bind fun x38 =>
              (idx s2 r8.1).bind fun x39 =>
              some (r10.2, List.set s2 (Int.toNat r8.1) (x39.1, !x38.2.1, x39.2.2.1, x39.2.2.2.1, x39.2.2.2.2))
            else
              if r10.1 == 3 then
                (m_keep_Src_Odd (y0.1, r10.2)).bind fun r13 =>
                (idx s2 r8.1).bind fun x40 =>
                some (r13.2, List.set s2 (Int.toNat r8.1) (x40.1, x40.2.1, x40.2.2.1, x40.2.2.2.1, r13.1))
              else
                if r10.1 == 4 then
                  (idx s2 r8.1).bind fun x41 =>
                  (idx s2 r8.1).bind fun _ =>
                  (m_keep_Src_Literal (y0.1, r10.2) 3).bind fun r14 =>
                  (app x41.2.2.2.1 ([r14.1] : List T_Literal)).bind fun x43 =>
                  (idx s2 r8.1).bind fun _ =>
                  some (r14.2, List.set s2 (Int.toNat r8.1) (x41.1, x41.2.1, x41.2.2.1, x43, x41.2.2.2.2))
                else
                  if r10.1 == 5 then
                    (m_keep_Src_Literals (y0.1, r10.2) 6 4).bind fun r15 =>
                    (idx s2 r8.1).bind fun x45 =>
                    some (r15.2, List.set s2 (Int.toNat r8.1) (x45.1, x45.2.1, x45.2.2.1, r15.1, x45.2.2.2.2))
                  else
                    (idx s2 r8.1).bind fun x46 =>
                    (app s2 ([x46] : List T_Rule)).bind fun x47 =>
                    some (r10.2, x47) : Option (Int × (List T_Rule))).bind fun s7 =>
      some ((s1.1, s7.2, s1.2.2), s7.1)
    else
      (
        (m_keep_Src_Text (y0.1, s6.2) ([[114, 97], [114, 98], [120], []] : List Str)).bind fun r16 =>
        (m_keep_Src_Pick (y0.1, r16.2) ([(-1), 0, 9, 10] : List Int)).bind fun r17 =>
        (m_keep_Src_Literal (y0.1, r17.2) 3).bind fun r18 =>
        (app s1.2.2 ([(r16.1, r17.1, r18.1)] : List T_Promotion)).bind fun x48 =>
        some (r18.2, x48) : Option (Int × (List T_Promotion))).bind fun s8 =>
      some ((s1.1, s2, s8.2), s8.1)

noncomputable def m_slices_Clone_Literal (y0 : List T_Literal) : Option (List T_Literal) :=
  (app ([] : List T_Literal) y0).bind fun x1 =>
  some x1

noncomputable def m_slices_Compact_Literal_L2 (y0 : List T_Literal) (s1 : Int) (s3 : (List T_Literal) × Int × Int) : Option (((List T_Literal) × Int × Int) ⊕ ((List T_Literal) × Int)) :=
  if decide (s3.2.2 < ((Int.toNat (((List.length y0 : Nat) : Int) - s1) : Nat) : Int)) then
    (idxV s3.1 s1 s3.2.2).bind fun x3 =>
    (idxV s3.1 s1 (w64 (s3.2.2 - 1))).bind fun x4 =>
    if !(x3 == x4) then
      (idxV s3.1 s1 s3.2.2).bind fun x5 =>
      (idx s3.1 s3.2.1).bind fun _ =>
      some (.inl (List.set s3.1 (Int.toNat s3.2.1) x5, w64 (s3.2.1 + 1), w64 (s3.2.2 + 1)))
    else
      some (.inl (s3.1, s3.2.1, w64 (s3.2.2 + 1)))
  else
    some (.inr (s3.1, s3.2.1))

noncomputable def m_slices_Compact_Literal_L1 (y0 : List T_Literal) (s1 : Int) : Option (Int ⊕ (List T_Literal)) :=
  if decide (s1 < (len y0)) then
    (idx y0 s1).bind fun x1 =>
    (idx y0 (w64 (s1 - 1))).bind fun x2 =>
    if x1 == x2 then
      (chk (decide (0 ≤ s1) && decide (s1 ≤ len y0))).bind fun _ =>
      (loop (m_slices_Compact_Literal_L2 y0 s1) (y0, s1, 1) : Option ((List T_Literal) × Int)).bind fun s2 =>
      (chk (decide (0 ≤ s2.2) && decide (s2.2 ≤ len s2.1))).bind fun _ =>
      (sub (clearFrom s2.1 s2.2 (false, [])) 0 s2.2).bind fun x7 =>
      some (.inr x7)
    else
      some (.inl (w64 (s1 + 1)))
  else
    some (.inr y0)

noncomputable def m_slices_Compact_Literal (y0 : List T_Literal) : Option (List T_Literal) :=
  if decide ((len y0) < 2) then
    some y0
  else
    loop (m_slices_Compact_Literal_L1 y0) 1

noncomputable def m_slices_SortFunc_Literal__literal_Compare (y0 : List T_Literal) : Option (List T_Literal) := sortF m_literal_Compare y0

noncomputable def m_literal_Normal (y0 : List T_Literal) : Option (List T_Literal) :=
  (m_slices_Clone_Literal y0).bind fun r1 =>
  (m_slices_SortFunc_Literal__literal_Compare r1).bind fun r2 =>
  (m_slices_Compact_Literal r2).bind fun r3 =>
  some r3

noncomputable def m_argument_Conclusions_L1 (y1 : List Int) (y0 : List T_Argument) (s2 : (List T_Literal) × Int) : Option (((List T_Literal) × Int) ⊕ (List T_Literal)) :=
  if decide (s2.2 < (len y1)) then
    (idx y1 s2.2).bind fun x1 =>
    (m_argument_inside y0 x1).bind fun r1 =>
    if r1 then
      (idx y0 x1).bind fun x2 =>
      (app s2.1 ([x2.2.2.2] : List T_Literal)).bind fun x3 =>
      some (.inl (x3, w64 (s2.2 + 1)))
    else
      some (.inl (s2.1, w64 (s2.2 + 1)))
  else
    some (.inr s2.1)

noncomputable def m_argument_Conclusions (y0 : List T_Argument) (y1 : List Int) : Option (List T_Literal) :=
  (loop (m_argument_Conclusions_L1 y1 y0) (([] : List T_Literal), 0) : Option (List T_Literal)).bind fun s1 =>
  (m_literal_Normal s1).bind fun r2 =>
  some r2

noncomputable def m_argument_Last_L1 (x5 : T_Argument) (rec_argument_Last : T_Base → (List T_Argument) → Int → Option (List Int)) (y0 : T_Base) (y1 : List T_Argument) (s3 : (List Int) × Int) : Option (((List Int) × Int) ⊕ (List Int)) :=
  if decide (s3.2 < (len x5.2.2.1)) then
    (idx x5.2.2.1 s3.2).bind fun x6 =>
    (rec_argument_Last y0 y1 x6).bind fun r2 =>
    (app s3.1 r2).bind fun x7 =>
    some (.inl (x7, w64 (s3.2 + 1)))
  else
    some (.inr s3.1)

noncomputable def F_argument_Last (rec_argument_Last : T_Base → (List T_Argument) → Int → Option (List Int)) (y0 : T_Base) (y1 : List T_Argument) (y2 : Int) : Option (List Int) :=
  (
    (m_argument_inside y1 y2).bind fun r1 =>
    if !r1 then
      some true
    else
      (idx y1 y2).bind fun x1 =>
      some (decide (x1.2.1 < 0)) : Option Bool).bind fun s1 =>
  if s1 then
    some ([] : List Int)
  else
    (idx y1 y2).bind fun x2 =>
    (idx y0.2.1 x2.2.1).bind fun x3 =>
    if !x3.2.1 then
      (idx y1 y2).bind fun x4 =>
      some ([x4.2.1] : List Int)
    else
      (
        (idx y1 y2).bind fun x5 =>
        loop (m_argument_Last_L1 x5 rec_argument_Last y0 y1) (([] : List Int), 0) : Option (List Int)).bind fun s2 =>
      (m_slices_Sort_int s2).bind fun r3 =>
      (m_slices_Compact_int r3).bind fun r4 =>
      some r4

noncomputable def k_argument_Last : Nat → T_Base → (List T_Argument) → Int → Option (List Int)
  | 0 => fun _ _ _ => none
  | k + 1 => fun y0 y1 y2 => F_argument_Last (k_argument_Last k) y0 y1 y2

noncomputable def m_argument_Last (y0 : T_Base) (y1 : List T_Argument) (y2 : Int) : Option (List Int) := limM fun k => k_argument_Last k y0 y1 y2

noncomputable def m_keep_Ints_L1 (y0 : List Int) (y1 : List Int) (s1 : Int) : Option (Int ⊕ Bool) :=
  if decide (s1 < (len y0)) then
    (idx y0 s1).bind fun x1 =>
    (idx y1 s1).bind fun x2 =>
    if x1 != x2 then
      some (.inr false)
    else
      some (.inl (w64 (s1 + 1)))
  else
    some (.inr true)

noncomputable def m_keep_Ints (y0 : List Int) (y1 : List Int) : Option Bool :=
  if (len y0) != (len y1) then
    some false
  else
    loop (m_keep_Ints_L1 y0 y1) 0

noncomputable def m_law07_loop : Option T_Base :=
  some (([((false, [112]), 2, 0, [])] : List T_Premise), ([([100], false, 0, ([(false, [112])] : List T_Literal), (false, [113])), ([115], true, 0, ([(false, [113])] : List T_Literal), (false, [112]))] : List T_Rule), ([] : List T_Promotion))

noncomputable def m_law07_awake : Option Bool :=
  m_law07_loop.bind fun r1 =>
  (m_argument_Build r1).bind fun r2 =>
  (
    if r2.2 == 0 then
      if (len r2.1) == 3 then
        (idx r2.1 2).bind fun x1 =>
        if x1.2.1 == 1 then
          (idx r2.1 2).bind fun x2 =>
          (m_keep_Ints x2.2.2.1 ([1] : List Int)).bind fun r3 =>
          if r3 then
            (m_argument_Subs r2.1 2).bind fun r4 =>
            (m_keep_Ints r4 ([0, 1, 2] : List Int)).bind fun r5 =>
            if r5 then
              (m_argument_Last r1 r2.1 2).bind fun r6 =>
              (m_keep_Ints r6 ([0] : List Int)).bind fun r7 =>
              if r7 then
                (m_argument_Conclusions r2.1 ([0, 1, 2] : List Int)).bind fun r8 =>
                some ((len r8) == 2)
              else
                some false
            else
              some false
          else
            some false
        else
          some false
      else
        some false
    else
      some false : Option Bool).bind fun s1 =>
  some s1

noncomputable def m_ref01_ValidName_L1 (y0 : Str) (s2 : Int) : Option (Int ⊕ Bool) :=
  if decide (s2 < (len y0)) then
    (
      (sidx y0 s2).bind fun x3 =>
      if decide (x3 < 97) then
        (sidx y0 s2).bind fun x4 =>
        if decide (x4 < 48) then
          (sidx y0 s2).bind fun x5 =>
          some (x5 != 95)
        else
          (sidx y0 s2).bind fun x6 =>
          if decide (57 < x6) then
            (sidx y0 s2).bind fun x7 =>
            some (x7 != 95)
          else
            some false
      else
        (sidx y0 s2).bind fun x8 =>
        if decide (122 < x8) then
          (sidx y0 s2).bind fun x9 =>
          if decide (x9 < 48) then
            (sidx y0 s2).bind fun x10 =>
            some (x10 != 95)
          else
            (sidx y0 s2).bind fun x11 =>
            if decide (57 < x11) then
              (sidx y0 s2).bind fun x12 =>
              some (x12 != 95)
            else
              some false
        else
          some false : Option Bool).bind fun s3 =>
    if s3 then
      some (.inr false)
    else
      some (.inl (w64 (s2 + 1)))
  else
    some (.inr true)

noncomputable def m_ref01_ValidName (y0 : Str) : Option Bool :=
  (
    if decide ((len y0) < 1) then
      some true
    else
      if decide (12 < (len y0)) then
        some true
      else
        (sidx y0 0).bind fun x1 =>
        if decide (x1 < 97) then
          some true
        else
          (sidx y0 0).bind fun x2 =>
          some (decide (122 < x2)) : Option Bool).bind fun s1 =>
  if s1 then
    some false
  else
    loop (m_ref01_ValidName_L1 y0) 0

noncomputable def m_ref01_Valid (y0 : T_Literal) : Option Bool :=
  (m_ref01_ValidName y0.2).bind fun r1 =>
  some r1

noncomputable def m_ref05_Find_L1 (y0 : T_Base) (y1 : Str) (s1 : Int) : Option (Int ⊕ Int) :=
  if decide (s1 < (len y0.2.1)) then
    (idx y0.2.1 s1).bind fun x1 =>
    if x1.1 == y1 then
      some (.inr s1)
    else
      some (.inl (w64 (s1 + 1)))
  else
    some (.inr (-1))

noncomputable def m_ref05_Find (y0 : T_Base) (y1 : Str) : Option Int :=
  loop (m_ref05_Find_L1 y0 y1) 0

noncomputable def m_ref05_Premise_L1 (y0 : T_Base) (y1 : T_Literal) (s1 : Int) : Option (Int ⊕ Int) :=
  if decide (s1 < (len y0.1)) then
    (idx y0.1 s1).bind fun x1 =>
    if x1.1 == y1 then
      some (.inr s1)
    else
      some (.inl (w64 (s1 + 1)))
  else
    some (.inr (-1))

noncomputable def m_ref05_Premise (y0 : T_Base) (y1 : T_Literal) : Option Int :=
  loop (m_ref05_Premise_L1 y0 y1) 0

noncomputable def m_ref05_rank (y0 : Int) : Option Bool :=
  some ((decide (0 ≤ y0)) && (decide (y0 ≤ 9)))

noncomputable def m_ref05_premise (y0 : T_Premise) : Option Int :=
  if (decide (y0.2.1 < 1)) || (decide (3 < y0.2.1)) then
    some 4
  else
    (
      (m_ref01_Valid y0.1).bind fun r1 =>
      if !r1 then
        some true
      else
        (m_ref05_rank y0.2.2.1).bind fun r2 =>
        if !r2 then
          some true
        else
          if y0.2.1 != 2 then
            if y0.2.2.1 != 0 then
              some true
            else
              if !(y0.2.2.2 == []) then
                (m_ref01_ValidName y0.2.2.2).bind fun r3 =>
                some (!r3)
              else
                some false
          else
            if !(y0.2.2.2 == []) then
              (m_ref01_ValidName y0.2.2.2).bind fun r4 =>
              some (!r4)
            else
              some false : Option Bool).bind fun s1 =>
    if s1 then
      some 1
    else
      some 0

noncomputable def m_ref01_Compare (y0 : T_Literal) (y1 : T_Literal) : Option Int :=
  if y0 == y1 then
    some 0
  else
    if (sless y0.2 y1.2) || ((y0.2 == y1.2) && y1.1) then
      some (-1)
    else
      some 1

noncomputable def m_ref05_rule_L1 (y0 : T_Rule) (s3 : Bool × Int) : Option ((Bool × Int) ⊕ Bool) :=
  if decide (s3.2 < (len y0.2.2.2.1)) then
    (
      if s3.1 then
        (idx y0.2.2.2.1 s3.2).bind fun x1 =>
        (m_ref01_Valid x1).bind fun r5 =>
        some r5
      else
        some false : Option Bool).bind fun s4 =>
    some (.inl (s4, w64 (s3.2 + 1)))
  else
    some (.inr s3.1)

noncomputable def m_ref05_rule_L2 (y0 : T_Rule) (s5 : Int) : Option (Int ⊕ Int) :=
  if decide (s5 < (len y0.2.2.2.1)) then
    (idx y0.2.2.2.1 (w64 (s5 - 1))).bind fun x2 =>
    (idx y0.2.2.2.1 s5).bind fun x3 =>
    (m_ref01_Compare x2 x3).bind fun r6 =>
    if decide (0 ≤ r6) then
      some (.inr 8)
    else
      some (.inl (w64 (s5 + 1)))
  else
    some (.inr 0)

noncomputable def m_ref05_rule (y0 : T_Rule) : Option Int :=
  if decide (4 < (len y0.2.2.2.1)) then
    some 2
  else
    (
      (m_ref01_ValidName y0.1).bind fun r1 =>
      if r1 then
        (m_ref05_rank y0.2.2.1).bind fun r2 =>
        if r2 then
          if !y0.2.1 then
            (m_ref01_Valid y0.2.2.2.2).bind fun r3 =>
            some r3
          else
            if y0.2.2.1 == 0 then
              (m_ref01_Valid y0.2.2.2.2).bind fun r4 =>
              some r4
            else
              some false
        else
          some false
      else
        some false : Option Bool).bind fun s1 =>
    (loop (m_ref05_rule_L1 y0) (s1, 0) : Option Bool).bind fun s2 =>
    if !s2 then
      some 1
    else
      loop (m_ref05_rule_L2 y0) 1

noncomputable def m_ref05_Validate_L1 (y0 : T_Base) (s2 : Int) : Option (Int ⊕ (Unit ⊕ Int)) :=
  if decide (s2 < (len y0.1)) then
    (idx y0.1 s2).bind fun x1 =>
    (m_ref05_premise x1).bind fun r1 =>
    if r1 != 0 then
      some (.inr (.inr r1))
    else
      (idx y0.1 s2).bind fun x2 =>
      (m_ref05_Premise y0 x2.1).bind fun r2 =>
      if decide (r2 < s2) then
        some (.inr (.inr 5))
      else
        some (.inl (w64 (s2 + 1)))
  else
    some (.inr (.inl ()))

noncomputable def m_ref05_Validate_L2 (y0 : T_Base) (s4 : Int) : Option (Int ⊕ (Unit ⊕ Int)) :=
  if decide (s4 < (len y0.2.1)) then
    (idx y0.2.1 s4).bind fun x3 =>
    (m_ref05_rule x3).bind fun r3 =>
    if r3 != 0 then
      some (.inr (.inr r3))
    else
      (idx y0.2.1 s4).bind fun x4 =>
      (m_ref05_Find y0 x4.1).bind fun r4 =>
      if decide (r4 < s4) then
        some (.inr (.inr 5))
      else
        some (.inl (w64 (s4 + 1)))
  else
    some (.inr (.inl ()))

noncomputable def m_ref05_Validate_L3 (y0 : T_Base) (s5 : Int) : Option (Int ⊕ Int) :=
  if decide (s5 < (len y0.2.2)) then
    (idx y0.2.2 s5).bind fun x5 =>
    (
      (m_ref05_rank x5.2.1).bind fun r5 =>
      if !r5 then
        some true
      else
        (m_ref01_Valid x5.2.2).bind fun r6 =>
        some (!r6) : Option Bool).bind fun s6 =>
    if s6 then
      some (.inr 1)
    else
      (m_ref05_Find y0 x5.1).bind fun r7 =>
      if decide (r7 < 0) then
        some (.inr 6)
      else
        (idx y0.2.1 r7).bind fun x6 =>
        if x6.2.1 then
          some (.inr 4)
        else
          some (.inl (w64 (s5 + 1)))
  else
    some (.inr 0)

noncomputable def m_ref05_Validate (y0 : T_Base) : Option Int :=
  if (decide (16 < (len y0.1))) || ((decide (24 < (len y0.2.1))) || (decide (8 < (len y0.2.2)))) then
    some 2
  else
    seqE (loop (m_ref05_Validate_L1 y0) 0 : Option (Unit ⊕ Int)) fun _ =>
    seqE (loop (m_ref05_Validate_L2 y0) 0 : Option (Unit ⊕ Int)) fun _ =>
    loop (m_ref05_Validate_L3 y0) 0

noncomputable def m_ref01_Has_L1 (y0 : List T_Literal) (y1 : T_Literal) (s1 : Int) : Option (Int ⊕ Bool) :=
  if decide (s1 < (len y0)) then
    (idx y0 s1).bind fun x1 =>
    if x1 == y1 then
      some (.inr true)
    else
      some (.inl (w64 (s1 + 1)))
  else
    some (.inr false)

noncomputable def m_ref01_Has (y0 : List T_Literal) (y1 : T_Literal) : Option Bool :=
  loop (m_ref01_Has_L1 y0 y1) 0

noncomputable def m_ref07_insert_L1 (y0 : List Int) (y1 : Int) (s2 : Int) : Option (Int ⊕ Int) :=
  (
    if decide (s2 < (len y0)) then
      (idx y0 s2).bind fun x1 =>
      some (decide (x1 < y1))
    else
      some false : Option Bool).bind fun s3 =>
  if s3 then
    some (.inl (w64 (s2 + 1)))
  else
    some (.inr s2)

noncomputable def m_ref07_insert (y0 : List Int) (y1 : Int) : Option (List Int) :=
  (loop (m_ref07_insert_L1 y0 y1) 0 : Option Int).bind fun s1 =>
  (
    if decide (s1 < (len y0)) then
      (idx y0 s1).bind fun x2 =>
      some (x2 == y1)
    else
      some false : Option Bool).bind fun s4 =>
  if s4 then
    some y0
  else
    (sub y0 0 s1).bind fun x3 =>
    (app ([] : List Int) x3).bind fun x4 =>
    (sub y0 s1 (len y0)).bind fun x5 =>
    (app x4 ([y1] : List Int)).bind fun x6 =>
    (app x6 x5).bind fun x7 =>
    some x7

noncomputable def m_ref07_union_L1 (y1 : List Int) (s1 : (List Int) × Int) : Option (((List Int) × Int) ⊕ (List Int)) :=
  if decide (s1.2 < (len y1)) then
    (idx y1 s1.2).bind fun x1 =>
    (m_ref07_insert s1.1 x1).bind fun r1 =>
    some (.inl (r1, w64 (s1.2 + 1)))
  else
    some (.inr s1.1)

noncomputable def m_ref07_union (y0 : List Int) (y1 : List Int) : Option (List Int) :=
  loop (m_ref07_union_L1 y1) (y0, 0)

noncomputable def m_ref07_Subs_L1 (y0 : List T_Argument) (y1 : Int) (rec_ref07_Subs : (List T_Argument) → Int → Option (List Int)) (s1 : (List Int) × Int) : Option (((List Int) × Int) ⊕ (List Int)) :=
  (idx y0 y1).bind fun x1 =>
  if decide (s1.2 < (len x1.2.2.1)) then
    (idx y0 y1).bind fun x2 =>
    (idx x2.2.2.1 s1.2).bind fun x3 =>
    (rec_ref07_Subs y0 x3).bind fun r1 =>
    (m_ref07_union s1.1 r1).bind fun r2 =>
    some (.inl (r2, w64 (s1.2 + 1)))
  else
    some (.inr s1.1)

noncomputable def F_ref07_Subs (rec_ref07_Subs : (List T_Argument) → Int → Option (List Int)) (y0 : List T_Argument) (y1 : Int) : Option (List Int) :=
  if (decide (y1 < 0)) || (decide ((len y0) ≤ y1)) then
    some ([] : List Int)
  else
    loop (m_ref07_Subs_L1 y0 y1 rec_ref07_Subs) (([y1] : List Int), 0)

noncomputable def k_ref07_Subs : Nat → (List T_Argument) → Int → Option (List Int)
  | 0 => fun _ _ => none
  | k + 1 => fun y0 y1 => F_ref07_Subs (k_ref07_Subs k) y0 y1

noncomputable def m_ref07_Subs (y0 : List T_Argument) (y1 : Int) : Option (List Int) := limM fun k => k_ref07_Subs k y0 y1

noncomputable def m_ref07_Defeasible_L1 (r1 : (List Int)) (y1 : List T_Argument) (y0 : T_Base) (s1 : (List Int) × Int) : Option (((List Int) × Int) ⊕ (List Int)) :=
  if decide (s1.2 < (len r1)) then
    (idx r1 s1.2).bind fun x1 =>
    (
      (idx y1 x1).bind fun x2 =>
      if decide (0 ≤ x2.2.1) then
        (idx y1 x1).bind fun x3 =>
        (idx y0.2.1 x3.2.1).bind fun x4 =>
        some (!x4.2.1)
      else
        some false : Option Bool).bind fun s2 =>
    if s2 then
      (idx y1 x1).bind fun x5 =>
      (m_ref07_insert s1.1 x5.2.1).bind fun r2 =>
      some (.inl (r2, w64 (s1.2 + 1)))
    else
      some (.inl (s1.1, w64 (s1.2 + 1)))
  else
    some (.inr s1.1)

noncomputable def m_ref07_Defeasible (y0 : T_Base) (y1 : List T_Argument) (y2 : Int) : Option (List Int) :=
  (m_ref07_Subs y1 y2).bind fun r1 =>
  loop (m_ref07_Defeasible_L1 r1 y1 y0) (([] : List Int), 0)

noncomputable def m_ref07_Run_L1 (y1 : List T_Argument) (y2 : Int) (rec_ref07_Run : T_Base → (List T_Argument) → Int → Option (List T_Literal)) (y0 : T_Base) (s2 : (List T_Literal) × Int) : Option (((List T_Literal) × Int) ⊕ (List T_Literal)) :=
  (idx y1 y2).bind fun x5 =>
  if decide (s2.2 < (len x5.2.2.1)) then
    (idx y1 y2).bind fun x6 =>
    (idx x6.2.2.1 s2.2).bind fun x7 =>
    (rec_ref07_Run y0 y1 x7).bind fun r1 =>
    (app s2.1 r1).bind fun x8 =>
    some (.inl (x8, w64 (s2.2 + 1)))
  else
    some (.inr s2.1)

noncomputable def F_ref07_Run (rec_ref07_Run : T_Base → (List T_Argument) → Int → Option (List T_Literal)) (y0 : T_Base) (y1 : List T_Argument) (y2 : Int) : Option (List T_Literal) :=
  (idx y1 y2).bind fun x1 =>
  (
    (idx y1 y2).bind fun x2 =>
    if decide (0 ≤ x2.2.1) then
      (idx y1 y2).bind fun x3 =>
      (idx y0.2.1 x3.2.1).bind fun x4 =>
      some x4.2.1
    else
      some false : Option Bool).bind fun s1 =>
  if s1 then
    loop (m_ref07_Run_L1 y1 y2 rec_ref07_Run y0) (([x1.2.2.2] : List T_Literal), 0)
  else
    some ([x1.2.2.2] : List T_Literal)

noncomputable def k_ref07_Run : Nat → T_Base → (List T_Argument) → Int → Option (List T_Literal)
  | 0 => fun _ _ _ => none
  | k + 1 => fun y0 y1 y2 => F_ref07_Run (k_ref07_Run k) y0 y1 y2

noncomputable def m_ref07_Run (y0 : T_Base) (y1 : List T_Argument) (y2 : Int) : Option (List T_Literal) := limM fun k => k_ref07_Run k y0 y1 y2

noncomputable def m_ref07_in_L1 (y0 : List Int) (y1 : Int) (s1 : Int) : Option (Int ⊕ Bool) :=
  if decide (s1 < (len y0)) then
    (idx y0 s1).bind fun x1 =>
    if x1 == y1 then
      some (.inr true)
    else
      some (.inl (w64 (s1 + 1)))
  else
    some (.inr false)

noncomputable def m_ref07_in (y0 : List Int) (y1 : Int) : Option Bool :=
  loop (m_ref07_in_L1 y0 y1) 0

noncomputable def m_ref07_Within_L1 (y3 : List Int) (x1 : T_Rule) (y0 : T_Base) (y1 : List T_Argument) (y2 : Int) (s1 : Int) : Option (Int ⊕ Bool) :=
  if decide (s1 < (len y3)) then
    (
      if x1.2.1 then
        (idx y3 s1).bind fun x2 =>
        (m_ref07_Run y0 y1 x2).bind fun r1 =>
        (m_ref01_Has r1 x1.2.2.2.2).bind fun r2 =>
        if r2 then
          some true
        else
          if !x1.2.1 then
            (idx y3 s1).bind fun x3 =>
            (m_ref07_Defeasible y0 y1 x3).bind fun r3 =>
            (m_ref07_in r3 y2).bind fun r4 =>
            some r4
          else
            some false
      else
        if !x1.2.1 then
          (idx y3 s1).bind fun x4 =>
          (m_ref07_Defeasible y0 y1 x4).bind fun r5 =>
          (m_ref07_in r5 y2).bind fun r6 =>
          some r6
        else
          some false : Option Bool).bind fun s2 =>
    if s2 then
      some (.inr false)
    else
      some (.inl (w64 (s1 + 1)))
  else
    some (.inr true)

noncomputable def m_ref07_Within (y0 : T_Base) (y1 : List T_Argument) (y2 : Int) (y3 : List Int) : Option Bool :=
  (idx y0.2.1 y2).bind fun x1 =>
  loop (m_ref07_Within_L1 y3 x1 y0 y1 y2) 0

noncomputable def m_ref07_choices_2_L1 (y1 : Int) (y0 : List T_Argument) (y2 : List T_Literal) (y3 : List Int) (rec_ref07_choices_2 : (List T_Argument) → Int → (List T_Literal) → (List Int) → Option (List (List Int))) (s1 : (List (List Int)) × Int) : Option (((List (List Int)) × Int) ⊕ (List (List Int))) :=
  if decide (s1.2 < y1) then
    (idx y0 s1.2).bind fun x2 =>
    (idx y2 (len y3)).bind fun x3 =>
    if x2.2.2.2 == x3 then
      (sub y3 0 (len y3)).bind fun x4 =>
      (app x4 ([s1.2] : List Int)).bind fun x5 =>
      (rec_ref07_choices_2 y0 y1 y2 x5).bind fun r1 =>
      (app s1.1 r1).bind fun x6 =>
      some (.inl (x6, w64 (s1.2 + 1)))
    else
      some (.inl (s1.1, w64 (s1.2 + 1)))
  else
    some (.inr s1.1)

noncomputable def F_ref07_choices_2 (rec_ref07_choices_2 : (List T_Argument) → Int → (List T_Literal) → (List Int) → Option (List (List Int))) (y0 : List T_Argument) (y1 : Int) (y2 : List T_Literal) (y3 : List Int) : Option (List (List Int)) :=
  if (len y3) == (len y2) then
    (app ([] : List Int) y3).bind fun x1 =>
    some ([x1] : List (List Int))
  else
    loop (m_ref07_choices_2_L1 y1 y0 y2 y3 rec_ref07_choices_2) (([] : List (List Int)), 0)

noncomputable def k_ref07_choices_2 : Nat → (List T_Argument) → Int → (List T_Literal) → (List Int) → Option (List (List Int))
  | 0 => fun _ _ _ _ => none
  | k + 1 => fun y0 y1 y2 y3 => F_ref07_choices_2 (k_ref07_choices_2 k) y0 y1 y2 y3

noncomputable def m_ref07_choices_2 (y0 : List T_Argument) (y1 : Int) (y2 : List T_Literal) (y3 : List Int) : Option (List (List Int)) := limM fun k => k_ref07_choices_2 k y0 y1 y2 y3

noncomputable def m_ref07_recent_L1 (y0 : List Int) (y1 : Int) (s1 : Int) : Option (Int ⊕ Bool) :=
  if decide (s1 < (len y0)) then
    (idx y0 s1).bind fun x1 =>
    if decide (y1 ≤ x1) then
      some (.inr true)
    else
      some (.inl (w64 (s1 + 1)))
  else
    some (.inr false)

noncomputable def m_ref07_recent (y0 : List Int) (y1 : Int) : Option Bool :=
  loop (m_ref07_recent_L1 y0 y1) 0

noncomputable def m_ref07_Build_L1 (y0 : T_Base) (s2 : (List T_Argument) × Int) : Option (((List T_Argument) × Int) ⊕ (List T_Argument)) :=
  if decide (s2.2 < (len y0.1)) then
    (idx y0.1 s2.2).bind fun x1 =>
    (app s2.1 ([(s2.2, (-1), ([] : List Int), x1.1)] : List T_Argument)).bind fun x2 =>
    some (.inl (x2, w64 (s2.2 + 1)))
  else
    some (.inr s2.1)

noncomputable def m_ref07_Build_L4 (r2 : (List (List Int))) (s3 : (List T_Argument) × Int × Int) (y0 : T_Base) (s4 : (List T_Argument) × Int) (s5 : (List T_Argument) × Int) : Option (((List T_Argument) × Int) ⊕ (((List T_Argument) × Int) ⊕ (((List T_Argument) × Int × Int) ⊕ ((List T_Argument) × Int)))) :=
  if decide (s5.2 < (len r2)) then
    (idx r2 s5.2).bind fun x4 =>
    (
      (m_ref07_recent x4 s3.2.1).bind fun r3 =>
      if !r3 then
        if decide (1 < s3.2.2) then
          some true
        else
          if decide (0 < (len x4)) then
            some true
          else
            (m_ref07_Within y0 s5.1 s4.2 x4).bind fun r4 =>
            some (!r4)
      else
        (m_ref07_Within y0 s5.1 s4.2 x4).bind fun r5 =>
        some (!r5) : Option Bool).bind fun s6 =>
    if s6 then
      some (.inl (s5.1, w64 (s5.2 + 1)))
    else
      (idx y0.2.1 s4.2).bind fun x5 =>
      (app s5.1 ([((-1), s4.2, x4, x5.2.2.2.2)] : List T_Argument)).bind fun x6 =>
      if decide (40 < (len x6)) then
        some (.inr (.inr (.inr (([] : List T_Argument), 2))))
      else
        some (.inl (x6, w64 (s5.2 + 1)))
  else
    some (.inr (.inl (s5.1, w64 (s4.2 + 1))))

noncomputable def m_ref07_Build_L3 (y0 : T_Base) (s3 : (List T_Argument) × Int × Int) (s4 : (List T_Argument) × Int) : Option (((List T_Argument) × Int) ⊕ (((List T_Argument) × Int × Int) ⊕ ((List T_Argument) × Int))) :=
  if decide (s4.2 < (len y0.2.1)) then
    (idx y0.2.1 s4.2).bind fun x3 =>
    (m_ref07_choices_2 s4.1 (len s3.1) x3.2.2.2.1 ([] : List Int)).bind fun r2 =>
    loop (m_ref07_Build_L4 r2 s3 y0 s4) (s4.1, 0)
  else
    some (.inr (.inl (s4.1, len s3.1, w64 (s3.2.2 + 1))))

noncomputable def m_ref07_Build_L2 (y0 : T_Base) (s3 : (List T_Argument) × Int × Int) : Option (((List T_Argument) × Int × Int) ⊕ ((List T_Argument) × Int)) :=
  if (s3.2.2 == 1) || (decide (s3.2.1 < (len s3.1))) then
    loop (m_ref07_Build_L3 y0 s3) (s3.1, 0)
  else
    some (.inr (s3.1, 0))

noncomputable def m_ref07_Build (y0 : T_Base) : Option ((List T_Argument) × Int) :=
  (m_ref05_Validate y0).bind fun r1 =>
  if r1 != 0 then
    some (([] : List T_Argument), r1)
  else
    (loop (m_ref07_Build_L1 y0) (([] : List T_Argument), 0) : Option (List T_Argument)).bind fun s1 =>
    loop (m_ref07_Build_L2 y0) (s1, 0, 1)

noncomputable def m_ref07_Ints_L1 (y0 : List Int) (y1 : List Int) (s1 : Int) : Option (Int ⊕ Bool) :=
  if decide (s1 < (len y0)) then
    (idx y0 s1).bind fun x1 =>
    (idx y1 s1).bind fun x2 =>
    if x1 != x2 then
      some (.inr false)
    else
      some (.inl (w64 (s1 + 1)))
  else
    some (.inr true)

noncomputable def m_ref07_Ints (y0 : List Int) (y1 : List Int) : Option Bool :=
  if (len y0) != (len y1) then
    some false
  else
    loop (m_ref07_Ints_L1 y0 y1) 0

noncomputable def m_ref07_Same_L1 (y0 : List T_Argument) (y1 : List T_Argument) (s1 : Int) : Option (Int ⊕ Bool) :=
  if decide (s1 < (len y0)) then
    (
      (idx y0 s1).bind fun x1 =>
      (idx y1 s1).bind fun x2 =>
      if x1.1 != x2.1 then
        some true
      else
        (idx y0 s1).bind fun x3 =>
        (idx y1 s1).bind fun x4 =>
        if x3.2.1 != x4.2.1 then
          some true
        else
          (idx y0 s1).bind fun x5 =>
          (idx y1 s1).bind fun x6 =>
          if !(x5.2.2.2 == x6.2.2.2) then
            some true
          else
            (idx y0 s1).bind fun x7 =>
            (idx y1 s1).bind fun x8 =>
            (m_ref07_Ints x7.2.2.1 x8.2.2.1).bind fun r1 =>
            some (!r1) : Option Bool).bind fun s2 =>
    if s2 then
      some (.inr false)
    else
      some (.inl (w64 (s1 + 1)))
  else
    some (.inr true)

noncomputable def m_ref07_Same (y0 : List T_Argument) (y1 : List T_Argument) : Option Bool :=
  if (len y0) != (len y1) then
    some false
  else
    loop (m_ref07_Same_L1 y0 y1) 0

noncomputable def m_law07_ArgumentBuilds_L1 (y0 : T_Base) (r3 : T_Base × Int) (r4 : T_Base × Int) (r5 : T_Base × Int) (s3 : Int) : Option (Int ⊕ (Unit ⊕ Bool)) :=
  if decide (s3 < (len ([y0, r3.1, r4.1, r5.1] : List T_Base))) then
    (idx ([y0, r3.1, r4.1, r5.1] : List T_Base) s3).bind fun x1 =>
    (m_argument_Build x1).bind fun r6 =>
    (m_ref07_Build x1).bind fun r7 =>
    (
      if r6.2 != r7.2 then
        some true
      else
        (m_ref07_Same r6.1 r7.1).bind fun r8 =>
        some (!r8) : Option Bool).bind fun s4 =>
    if s4 then
      some (.inr (.inr false))
    else
      some (.inl (w64 (s3 + 1)))
  else
    some (.inr (.inl ()))

noncomputable def m_law07_ArgumentBuilds (y0 : T_Base) (y1 : List Int) : Option Bool :=
  (
    (m_keep_SmallBase y0).bind fun r1 =>
    if !r1 then
      some true
    else
      if decide (12 < (len y0.2.1)) then
        some true
      else
        some (decide (12 < (len y0.1))) : Option Bool).bind fun s1 =>
  if s1 then
    some true
  else
    (m_keep_New y1).bind fun r2 =>
    (m_keep_Src_Base r2 4 5 7).bind fun r3 =>
    seqE (
      (m_keep_Src_SpoiltBase (r2.1, r3.2) r3.1).bind fun r4 =>
      (m_keep_Src_Base (r2.1, r4.2) 3 3 6).bind fun r5 =>
      loop (m_law07_ArgumentBuilds_L1 y0 r3 r4 r5) 0 : Option (Unit ⊕ Bool)) fun _ =>
    m_law07_awake.bind fun r9 =>
    some r9

end Go.GD
