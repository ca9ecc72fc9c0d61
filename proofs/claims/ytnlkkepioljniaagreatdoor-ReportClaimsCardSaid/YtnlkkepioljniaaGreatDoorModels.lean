/- Models of the Go functions, printed by program (gd2). Conditions: none. -/
import Derived.Test.YtnlkkepioljniaaGreatDoorFrm
namespace Go.GD
set_option autoImplicit false

abbrev T_keep_Src := (List Int) × Int
abbrev T_Literal := Bool × Str
abbrev T_Premise := T_Literal × Int × Int × Str
abbrev T_Rule := Str × Bool × Int × (List T_Literal) × T_Literal
abbrev T_Promotion := Str × Int × T_Literal
abbrev T_Base := (List T_Premise) × (List T_Rule) × (List T_Promotion)
abbrev T_Ordering := Int × Int
abbrev T_Argument := Int × Int × (List Int) × T_Literal
abbrev T_Attack := Int × Int × Int × Int
abbrev T_Pair := Int × Int
abbrev T_Graph := Int × (List T_Pair)
abbrev T_Compiled := T_Base × (List T_Argument) × (List T_Attack) × T_Graph
abbrev T_Order := (List Str) × (List Int)

def tab_formula_words : List Str := [[], [], [], [], [], [32, 38, 32], [32, 124, 32], [32, 45, 62, 32], [32, 60, 45, 62, 32]]

def tab_math_bits_deBruijn64tab : List Int := [0, 1, 56, 2, 57, 49, 28, 3, 61, 58, 42, 50, 38, 29, 17, 4, 62, 47, 59, 36, 45, 43, 51, 22, 53, 39, 33, 30, 24, 18, 12, 5, 63, 55, 48, 27, 60, 41, 37, 16, 46, 35, 44, 21, 52, 32, 23, 11, 54, 26, 40, 15, 34, 20, 31, 10, 25, 14, 19, 9, 13, 8, 7, 6]

noncomputable def m_keep_New (y0 : List Int) : Option T_keep_Src :=
  (sub y0 0 (if 2000 < (len y0) then 2000 else len y0)).bind fun x1 =>
  some (x1, 0)

noncomputable def m_keep_Mod (y0 : Int) (y1 : Int) : Option Int :=
  if decide (y1 < 1) then
    some 0
  else
    (remK y0 y1).bind fun x1 =>
    if decide (x1 < 0) then
      some (w64 (x1 + y1))
    else
      some x1

noncomputable def m_keep_RuleName (y0 : Int) : Option Str :=
  (m_keep_Mod y0 26).bind fun r1 =>
  (cat [114] (strOf ([IntKind.u8.wrap (w64 (97 + r1))] : List Int))).bind fun x1 =>
  some x1

noncomputable def m_keep_Src_Raw (y0 : T_keep_Src) : Option (Int × Int) :=
  if decide ((len y0.1) ≤ y0.2) then
    some (0, y0.2)
  else
    (idx y0.1 (w64 ((w64 (y0.2 + 1)) - 1))).bind fun x1 =>
    some (x1, w64 (y0.2 + 1))

noncomputable def m_keep_Src_N (y0 : T_keep_Src) (y1 : Int) : Option (Int × Int) :=
  (m_keep_Src_Raw y0).bind fun r1 =>
  (m_keep_Mod r1.1 y1).bind fun r2 =>
  some (r2, r1.2)

noncomputable def m_keep_Src_Literal (y0 : T_keep_Src) (y1 : Int) : Option (T_Literal × Int) :=
  (m_keep_Src_N y0 (w64 (2 * y1))).bind fun r1 =>
  (quoK .i64 r1.1 2).bind fun x1 =>
  some (((band .i64 r1.1 1) == 1, strOf ([IntKind.u8.wrap (w64 (97 + x1))] : List Int)), r1.2)

noncomputable def m_keep_Src_Literals_L1 (y0 : T_keep_Src) (y2 : Int) (s1 : (List T_Literal) × Int × Int) : Option (((List T_Literal) × Int × Int) ⊕ ((List T_Literal) × Int)) :=
  if decide (0 < s1.2.1) then
    (m_keep_Src_Literal (y0.1, s1.2.2) y2).bind fun r2 =>
    (app s1.1 ([r2.1] : List T_Literal)).bind fun x1 =>
    some (.inl (x1, w64 (s1.2.1 - 1), r2.2))
  else
    some (.inr (s1.1, s1.2.2))

noncomputable def m_keep_Src_Literals (y0 : T_keep_Src) (y1 : Int) (y2 : Int) : Option ((List T_Literal) × Int) :=
  (m_keep_Src_N y0 (w64 (y1 + 1))).bind fun r1 =>
  loop (m_keep_Src_Literals_L1 y0 y2) (([] : List T_Literal), r1.1, r1.2)

noncomputable def m_keep_Src_Pick (y0 : T_keep_Src) (y1 : List Int) : Option (Int × Int) :=
  (m_keep_Src_N y0 (len y1)).bind fun r1 =>
  (idx y1 r1.1).bind fun x1 =>
  some (x1, r1.2)

noncomputable def m_keep_Src_Text (y0 : T_keep_Src) (y1 : List Str) : Option (Str × Int) :=
  (m_keep_Src_N y0 (len y1)).bind fun r1 =>
  (idx y1 r1.1).bind fun x1 =>
  some (x1, r1.2)

noncomputable def m_keep_sorted_L2 (s1 : (List T_Literal) × Int) (x1 : T_Literal) (s3 : Int) : Option (Int ⊕ Int) :=
  (
    if decide (s3 < (len s1.1)) then
      (idx s1.1 s3).bind fun x2 =>
      if sless x2.2 x1.2 then
        some true
      else
        (idx s1.1 s3).bind fun x3 =>
        if x3.2 == x1.2 then
          (idx s1.1 s3).bind fun x4 =>
          if !x4.1 then
            some x1.1
          else
            some false
        else
          some false
    else
      some false : Option Bool).bind fun s4 =>
  if s4 then
    some (.inl (w64 (s3 + 1)))
  else
    some (.inr s3)

noncomputable def m_keep_sorted_L1 (y0 : List T_Literal) (s1 : (List T_Literal) × Int) : Option (((List T_Literal) × Int) ⊕ (List T_Literal)) :=
  if decide (s1.2 < (len y0)) then
    (idx y0 s1.2).bind fun x1 =>
    (loop (m_keep_sorted_L2 s1 x1) 0 : Option Int).bind fun s2 =>
    (
      if decide (s2 < (len s1.1)) then
        (idx s1.1 s2).bind fun x5 =>
        some (x5 == x1)
      else
        some false : Option Bool).bind fun s5 =>
    if s5 then
      some (.inl (s1.1, w64 (s1.2 + 1)))
    else
      (app s1.1 ([(false, [])] : List T_Literal)).bind fun x6 =>
      (chk (decide (0 ≤ (w64 (s2 + 1))) && decide ((w64 (s2 + 1)) ≤ len x6))).bind fun _ =>
      (chk (decide (0 ≤ s2) && decide (s2 ≤ len x6))).bind fun _ =>
      (idx (copyAt x6 (w64 (s2 + 1)) (List.drop (Int.toNat s2) x6)) s2).bind fun _ =>
      some (.inl (List.set (copyAt x6 (w64 (s2 + 1)) (List.drop (Int.toNat s2) x6)) (Int.toNat s2) x1, w64 (s1.2 + 1)))
  else
    some (.inr s1.1)

noncomputable def m_keep_sorted (y0 : List T_Literal) : Option (List T_Literal) :=
  loop (m_keep_sorted_L1 y0) (([] : List T_Literal), 0)

noncomputable def m_keep_Src_Base_L2 (s2 : Int × Int × (List T_Premise)) (r2 : T_Literal × Int) (s5 : Bool × Int) : Option ((Bool × Int) ⊕ Bool) :=
  if decide (s5.2 < (len s2.2.2)) then
    (idx s2.2.2 s5.2).bind fun x1 =>
    some (.inl (s5.1 || (x1.1 == r2.1), w64 (s5.2 + 1)))
  else
    some (.inr s5.1)

noncomputable def m_keep_Src_Base_L1 (y0 : T_keep_Src) (y1 : Int) (s2 : Int × Int × (List T_Premise)) : Option ((Int × Int × (List T_Premise)) ⊕ (Int × (List T_Premise))) :=
  if decide (0 < s2.1) then
    (m_keep_Src_Literal (y0.1, s2.2.1) y1).bind fun r2 =>
    (m_keep_Src_Pick (y0.1, r2.2) ([1, 2, 2, 2, 3] : List Int)).bind fun r3 =>
    (m_keep_Src_Text (y0.1, r3.2) ([[], [], [97, 110, 110], [98, 111, 98]] : List Str)).bind fun r4 =>
    (
      if r3.1 == 2 then
        (m_keep_Src_N (y0.1, r4.2) 4).bind fun r5 =>
        some (r5.2, r5.1)
      else
        some (r4.2, 0) : Option (Int × Int)).bind fun s3 =>
    (loop (m_keep_Src_Base_L2 s2 r2) (false, 0) : Option Bool).bind fun s4 =>
    if !s4 then
      (app s2.2.2 ([(r2.1, r3.1, s3.2, r4.1)] : List T_Premise)).bind fun x2 =>
      some (.inl (w64 (s2.1 - 1), s3.1, x2))
    else
      some (.inl (w64 (s2.1 - 1), s3.1, s2.2.2))
  else
    some (.inr (s2.2.1, s2.2.2))

noncomputable def m_keep_Src_Base_L3 (y0 : T_keep_Src) (y1 : Int) (y3 : Int) (s7 : Int × Int × (List T_Rule)) : Option ((Int × Int × (List T_Rule)) ⊕ (Int × (List T_Rule))) :=
  if decide (0 < s7.1) then
    (m_keep_RuleName (len s7.2.2)).bind fun r7 =>
    (m_keep_Src_N (y0.1, s7.2.1) 3).bind fun r8 =>
    (m_keep_Src_Literals (y0.1, r8.2) 2 y1).bind fun r9 =>
    (m_keep_sorted r9.1).bind fun r10 =>
    (m_keep_Src_Literal (y0.1, r9.2) y1).bind fun r11 =>
    (
      if !(r8.1 == 0) then
        (m_keep_Src_N (y0.1, r11.2) 4).bind fun r12 =>
        some (r12.2, r12.1)
      else
        some (r11.2, 0) : Option (Int × Int)).bind fun s8 =>
    (
      (m_keep_Src_N (y0.1, s8.1) 6).bind fun r13 =>
      if r13.1 == 5 then
        (m_keep_Src_N (y0.1, r13.2) 4).bind fun r14 =>
        (m_keep_Src_N (y0.1, r14.2) y3).bind fun r15 =>
        (m_keep_RuleName r15.1).bind fun r16 =>
        some (r15.2, decide (0 < r14.1), r16)
      else
        some (r13.2, r11.1.1, r11.1.2) : Option (Int × Bool × Str)).bind fun s9 =>
    (app s7.2.2 ([(r7, r8.1 == 0, s8.2, r10, (s9.2.1, s9.2.2))] : List T_Rule)).bind fun x3 =>
    some (.inl (w64 (s7.1 - 1), s9.1, x3))
  else
    some (.inr (s7.2.1, s7.2.2))

noncomputable def m_keep_Src_Base_L4 (s6 : Int × (List T_Rule)) (y0 : T_keep_Src) (y1 : Int) (s11 : Int × Int × (List T_Promotion)) : Option ((Int × Int × (List T_Promotion)) ⊕ (Int × (List T_Promotion))) :=
  if (decide (0 < s11.1)) && (decide (0 < (len s6.2))) then
    (
      (m_keep_Src_N (y0.1, s11.2.1) (len s6.2)).bind fun r18 =>
      (idx s6.2 r18.1).bind fun x4 =>
      some (r18.2, x4) : Option (Int × T_Rule)).bind fun s12 =>
    if !s12.2.2.1 then
      (m_keep_Src_N (y0.1, s12.1) 10).bind fun r20 =>
      (m_keep_Src_Literal (y0.1, r20.2) y1).bind fun r21 =>
      (app s11.2.2 ([(s12.2.1, r20.1, r21.1)] : List T_Promotion)).bind fun x6 =>
      some (.inl (w64 (s11.1 - 1), r21.2, x6))
    else
      some (.inl (w64 (s11.1 - 1), s12.1, s11.2.2))
  else
    some (.inr (s11.2.1, s11.2.2))

noncomputable def m_keep_Src_Base (y0 : T_keep_Src) (y1 : Int) (y2 : Int) (y3 : Int) : Option (T_Base × Int) :=
  (
    (m_keep_Src_N y0 (w64 (y2 + 1))).bind fun r1 =>
    loop (m_keep_Src_Base_L1 y0 y1) (r1.1, r1.2, ([] : List T_Premise)) : Option (Int × (List T_Premise))).bind fun s1 =>
  (
    (m_keep_Src_N (y0.1, s1.1) (w64 (y3 + 1))).bind fun r6 =>
    loop (m_keep_Src_Base_L3 y0 y1 y3) (r6.1, r6.2, ([] : List T_Rule)) : Option (Int × (List T_Rule))).bind fun s6 =>
  (
    (m_keep_Src_N (y0.1, s6.1) 3).bind fun r17 =>
    loop (m_keep_Src_Base_L4 s6 y0 y1) (r17.1, r17.2, ([] : List T_Promotion)) : Option (Int × (List T_Promotion))).bind fun s10 =>
  some ((s1.2, s6.2, s10.2), s10.1)

noncomputable def m_keep_Src_Range (y0 : T_keep_Src) (y1 : Int) (y2 : Int) : Option (Int × Int) :=
  (m_keep_Src_N y0 (w64 ((w64 (y2 - y1)) + 1))).bind fun r1 =>
  some (w64 (y1 + r1.1), r1.2)

noncomputable def m_keep_Voc_L1 (y0 : Int) (s1 : (List Str) × Int) : Option (((List Str) × Int) ⊕ (List Str)) :=
  if decide (s1.2 < y0) then
    (app s1.1 ([strOf ([IntKind.u8.wrap (w64 (97 + s1.2))] : List Int)] : List Str)).bind fun x1 =>
    some (.inl (x1, w64 (s1.2 + 1)))
  else
    some (.inr s1.1)

noncomputable def m_keep_Voc (y0 : Int) : Option (List Str) :=
  loop (m_keep_Voc_L1 y0) (([] : List Str), 0)

noncomputable def m_ref42_Same_L1 (y0 : List Str) (y1 : List Str) (s1 : Int) : Option (Int ⊕ Bool) :=
  if decide (s1 < (len y0)) then
    (idx y0 s1).bind fun x1 =>
    (idx y1 s1).bind fun x2 =>
    if !(x1 == x2) then
      some (.inr false)
    else
      some (.inl (w64 (s1 + 1)))
  else
    some (.inr true)

noncomputable def m_ref42_Same (y0 : List Str) (y1 : List Str) : Option Bool :=
  if (len y0) != (len y1) then
    some false
  else
    loop (m_ref42_Same_L1 y0 y1) 0

noncomputable def m_formula_Depth_L1 (y0 : T_Formula) (rec_formula_Depth : T_Formula → Option Int) (s1 : Int × Int) : Option ((Int × Int) ⊕ Int) :=
  if decide (s1.2 < (len ((fv y0).2.2))) then
    (idx ((fv y0).2.2) s1.2).bind fun x1 =>
    (rec_formula_Depth x1).bind fun r1 =>
    some (.inl (if (w64 (1 + r1)) > s1.1 then w64 (1 + r1) else s1.1, w64 (s1.2 + 1)))
  else
    some (.inr s1.1)

noncomputable def F_formula_Depth (rec_formula_Depth : T_Formula → Option Int) (y0 : T_Formula) : Option Int :=
  loop (m_formula_Depth_L1 y0 rec_formula_Depth) (0, 0)

noncomputable def k_formula_Depth : Nat → T_Formula → Option Int
  | 0 => fun _ => none
  | k + 1 => fun y0 => F_formula_Depth (k_formula_Depth k) y0

noncomputable def m_formula_Depth (y0 : T_Formula) : Option Int := limM fun k => k_formula_Depth k y0

noncomputable def m_formula_Size_L1 (y0 : T_Formula) (rec_formula_Size : T_Formula → Option Int) (s1 : Int × Int) : Option ((Int × Int) ⊕ Int) :=
  if decide (s1.2 < (len ((fv y0).2.2))) then
    (idx ((fv y0).2.2) s1.2).bind fun x1 =>
    (rec_formula_Size x1).bind fun r1 =>
    some (.inl (w64 (s1.1 + r1), w64 (s1.2 + 1)))
  else
    some (.inr s1.1)

noncomputable def F_formula_Size (rec_formula_Size : T_Formula → Option Int) (y0 : T_Formula) : Option Int :=
  loop (m_formula_Size_L1 y0 rec_formula_Size) (1, 0)

noncomputable def k_formula_Size : Nat → T_Formula → Option Int
  | 0 => fun _ => none
  | k + 1 => fun y0 => F_formula_Size (k_formula_Size k) y0

noncomputable def m_formula_Size (y0 : T_Formula) : Option Int := limM fun k => k_formula_Size k y0

noncomputable def m_formula_counted (y0 : T_Formula) : Option Bool :=
  (
    if ((fv y0).1) == 1 then
      some (((fv y0).1) == 1)
    else
      if ((fv y0).1) == 2 then
        some (((fv y0).1) == 2)
      else
        some (((fv y0).1) == 3) : Option Bool).bind fun s1 =>
  if s1 then
    some ((len ((fv y0).2.2)) == 0)
  else
    if ((fv y0).1) == 4 then
      some ((len ((fv y0).2.2)) == 1)
    else
      (
        if ((fv y0).1) == 5 then
          some (((fv y0).1) == 5)
        else
          some (((fv y0).1) == 6) : Option Bool).bind fun s2 =>
      if s2 then
        some ((decide (2 ≤ (len ((fv y0).2.2)))) && (decide ((len ((fv y0).2.2)) ≤ 6)))
      else
        (
          if ((fv y0).1) == 7 then
            some (((fv y0).1) == 7)
          else
            some (((fv y0).1) == 8) : Option Bool).bind fun s3 =>
        if s3 then
          some ((len ((fv y0).2.2)) == 2)
        else
          some false

noncomputable def m_formula_all__formula_counted_L1 (y0 : T_Formula) (rec_formula_all__formula_counted : T_Formula → Option Bool) (s1 : Int) : Option (Int ⊕ Bool) :=
  if decide (s1 < (len ((fv y0).2.2))) then
    (idx ((fv y0).2.2) s1).bind fun x1 =>
    (rec_formula_all__formula_counted x1).bind fun r2 =>
    if !r2 then
      some (.inr false)
    else
      some (.inl (w64 (s1 + 1)))
  else
    some (.inr true)

noncomputable def F_formula_all__formula_counted (rec_formula_all__formula_counted : T_Formula → Option Bool) (y0 : T_Formula) : Option Bool :=
  (m_formula_counted y0).bind fun r1 =>
  if !r1 then
    some false
  else
    loop (m_formula_all__formula_counted_L1 y0 rec_formula_all__formula_counted) 0

noncomputable def k_formula_all__formula_counted : Nat → T_Formula → Option Bool
  | 0 => fun _ => none
  | k + 1 => fun y0 => F_formula_all__formula_counted (k_formula_all__formula_counted k) y0

noncomputable def m_formula_all__formula_counted (y0 : T_Formula) : Option Bool := limM fun k => k_formula_all__formula_counted k y0

noncomputable def m_literal_ValidName_L1 (y0 : Str) (s1 : Int) : Option (Int ⊕ Bool) :=
  if decide (s1 < (len y0)) then
    (sidx y0 s1).bind fun x1 =>
    if (decide (97 ≤ x1)) && (decide (x1 ≤ 122)) then
      some (.inl (w64 (s1 + 1)))
    else
      if (decide (0 < s1)) && (if decide (48 ≤ x1) then (decide (x1 ≤ 57)) || (x1 == 95) else x1 == 95) then
        some (.inl (w64 (s1 + 1)))
      else
        some (.inr false)
  else
    some (.inr true)

noncomputable def m_literal_ValidName (y0 : Str) : Option Bool :=
  if ((len y0) == 0) || (decide (12 < (len y0))) then
    some false
  else
    loop (m_literal_ValidName_L1 y0) 0

noncomputable def m_formula_named (y0 : T_Formula) : Option Bool :=
  if ((fv y0).1) == 3 then
    (m_literal_ValidName ((fv y0).2.1)).bind fun r1 =>
    some r1
  else
    some (((fv y0).2.1) == [])

noncomputable def m_formula_all__formula_named_L1 (y0 : T_Formula) (rec_formula_all__formula_named : T_Formula → Option Bool) (s1 : Int) : Option (Int ⊕ Bool) :=
  if decide (s1 < (len ((fv y0).2.2))) then
    (idx ((fv y0).2.2) s1).bind fun x1 =>
    (rec_formula_all__formula_named x1).bind fun r2 =>
    if !r2 then
      some (.inr false)
    else
      some (.inl (w64 (s1 + 1)))
  else
    some (.inr true)

noncomputable def F_formula_all__formula_named (rec_formula_all__formula_named : T_Formula → Option Bool) (y0 : T_Formula) : Option Bool :=
  (m_formula_named y0).bind fun r1 =>
  if !r1 then
    some false
  else
    loop (m_formula_all__formula_named_L1 y0 rec_formula_all__formula_named) 0

noncomputable def k_formula_all__formula_named : Nat → T_Formula → Option Bool
  | 0 => fun _ => none
  | k + 1 => fun y0 => F_formula_all__formula_named (k_formula_all__formula_named k) y0

noncomputable def m_formula_all__formula_named (y0 : T_Formula) : Option Bool := limM fun k => k_formula_all__formula_named k y0

noncomputable def m_formula_Validate (y0 : T_Formula) : Option Int :=
  (
    (m_formula_Size y0).bind fun r1 =>
    if decide (600 < r1) then
      some true
    else
      (m_formula_Depth y0).bind fun r2 =>
      some (decide (20 < r2)) : Option Bool).bind fun s1 =>
  if s1 then
    some 2
  else
    (m_formula_all__formula_counted y0).bind fun r3 =>
    if !r3 then
      some 4
    else
      (m_formula_all__formula_named y0).bind fun r4 =>
      if !r4 then
        some 3
      else
        some 0

noncomputable def m_formula_needed (y0 : T_Formula) (y1 : Int) : Option Int :=
  (
    if ((fv y0).1) == 4 then
      some (((fv y0).1) == 4)
    else
      some (((fv y0).1) == 5) : Option Bool).bind fun s1 =>
  if s1 then
    some 5
  else
    if ((fv y0).1) == 6 then
      some 4
    else
      if ((fv y0).1) == 7 then
        some (w64 (3 - y1))
      else
        some 2

noncomputable def m_formula_strength (y0 : T_Formula) : Option Int :=
  if ((fv y0).1) == 8 then
    some 1
  else
    if ((fv y0).1) == 7 then
      some 2
    else
      if ((fv y0).1) == 6 then
        some 3
      else
        if ((fv y0).1) == 5 then
          some 4
        else
          some 5

noncomputable def m_strings_Builder_WriteByte (y0 : Str) (y1 : Int) : Option (Unit × Str) :=
  (some () : Option Unit).bind fun _ =>
  (chk (decide (0 ≤ y1) && decide (y1 < 256) && decide (len y0 + 1 < 4294967296))).bind fun _ =>
  some ((), y0 ++ [UInt8.ofNat y1.toNat])

noncomputable def m_strings_Builder_WriteString (y0 : Str) (y1 : Str) : Option (Int × Unit × Str) := wstrM y0 y1

noncomputable def m_formula_write_L1 (y1 : T_Formula) (rec_formula_write : Str → T_Formula → Option Str) (s2 : Int × Str) : Option ((Int × Str) ⊕ Str) :=
  if decide (s2.1 < (len ((fv y1).2.2))) then
    (idx ((fv y1).2.2) s2.1).bind fun x1 =>
    (
      if decide (0 < s2.1) then
        (idx tab_formula_words ((fv y1).1)).bind fun x2 =>
        (m_strings_Builder_WriteString s2.2 x2).bind fun r5 =>
        some r5.2.2
      else
        some s2.2 : Option Str).bind fun s3 =>
    (m_formula_strength x1).bind fun r6 =>
    (m_formula_needed y1 s2.1).bind fun r7 =>
    if decide (r6 < r7) then
      (m_strings_Builder_WriteByte s3 40).bind fun r8 =>
      (rec_formula_write r8.2 x1).bind fun r9 =>
      (m_strings_Builder_WriteByte r9 41).bind fun r10 =>
      some (.inl (w64 (s2.1 + 1), r10.2))
    else
      (rec_formula_write s3 x1).bind fun r11 =>
      some (.inl (w64 (s2.1 + 1), r11))
  else
    some (.inr s2.2)

noncomputable def F_formula_write (rec_formula_write : Str → T_Formula → Option Str) (y0 : Str) (y1 : T_Formula) : Option Str :=
  (
    if ((fv y1).1) == 1 then
      (m_strings_Builder_WriteByte y0 49).bind fun r1 =>
      some r1.2
    else
      if ((fv y1).1) == 2 then
        (m_strings_Builder_WriteByte y0 48).bind fun r2 =>
        some r2.2
      else
        if ((fv y1).1) == 3 then
          (m_strings_Builder_WriteString y0 ((fv y1).2.1)).bind fun r3 =>
          some r3.2.2
        else
          if ((fv y1).1) == 4 then
            (m_strings_Builder_WriteByte y0 126).bind fun r4 =>
            some r4.2
          else
            some y0 : Option Str).bind fun s1 =>
  loop (m_formula_write_L1 y1 rec_formula_write) (0, s1)

noncomputable def k_formula_write : Nat → Str → T_Formula → Option Str
  | 0 => fun _ _ => none
  | k + 1 => fun y0 y1 => F_formula_write (k_formula_write k) y0 y1

noncomputable def m_formula_write (y0 : Str) (y1 : T_Formula) : Option Str := limM fun k => k_formula_write k y0 y1

noncomputable def m_strings_Builder_Len (y0 : Str) : Option Int := some (len y0)

noncomputable def m_strings_Builder_String (y0 : Str) : Option Str := some y0

noncomputable def m_formula_Format (y0 : T_Formula) : Option (Str × Int) :=
  (m_formula_Validate y0).bind fun r1 =>
  if r1 != 0 then
    some ([], r1)
  else
    (m_formula_write ([] : Str) y0).bind fun r2 =>
    (m_strings_Builder_Len r2).bind fun r3 =>
    if decide (4096 < r3) then
      some ([], 2)
    else
      (m_strings_Builder_String r2).bind fun r4 =>
      some (r4, 0)

noncomputable def m_slices_Index_bool_L1 (y0 : List Bool) (y1 : Bool) (s1 : Int) : Option (Int ⊕ Int) :=
  if decide (s1 < (len y0)) then
    (idx y0 s1).bind fun x1 =>
    if y1 == x1 then
      some (.inr s1)
    else
      some (.inl (w64 (s1 + 1)))
  else
    some (.inr (-1))

noncomputable def m_slices_Index_bool (y0 : List Bool) (y1 : Bool) : Option Int :=
  loop (m_slices_Index_bool_L1 y0 y1) 0

noncomputable def m_slices_Contains_bool (y0 : List Bool) (y1 : Bool) : Option Bool :=
  (m_slices_Index_bool y0 y1).bind fun r1 =>
  some (decide (0 ≤ r1))

noncomputable def m_world_Valid_L1 (y0 : List Str) (s1 : Int) : Option (Int ⊕ Bool) :=
  if decide (s1 < (len y0)) then
    (idx y0 s1).bind fun x1 =>
    (
      (m_literal_ValidName x1).bind fun r1 =>
      if !r1 then
        some true
      else
        if decide (0 < s1) then
          (idx y0 (w64 (s1 - 1))).bind fun x2 =>
          some (!(sless x2 x1))
        else
          some false : Option Bool).bind fun s2 =>
    if s2 then
      some (.inr false)
    else
      some (.inl (w64 (s1 + 1)))
  else
    some (.inr true)

noncomputable def m_world_Valid (y0 : List Str) : Option Bool :=
  if decide (6 < (len y0)) then
    some false
  else
    loop (m_world_Valid_L1 y0) 0

noncomputable def m_order_Validate_L1 (y0 : T_Order) (x2 : List Bool) (s3 : (List Bool) × Int × Int) : Option (((List Bool) × Int × Int) ⊕ (((List Bool) × Int) ⊕ Int)) :=
  if decide (s3.2.2 < (len y0.2)) then
    (idx y0.2 s3.2.2).bind fun x3 =>
    if (decide (x3 < 0)) || (decide ((len x2) ≤ x3)) then
      some (.inr (.inr 8))
    else
      (idx s3.1 x3).bind fun _ =>
      some (.inl (List.set s3.1 (Int.toNat x3) true, if x3 > s3.2.1 then x3 else s3.2.1, w64 (s3.2.2 + 1)))
  else
    some (.inr (.inl (s3.1, s3.2.1)))

noncomputable def m_order_Validate (y0 : T_Order) : Option Int :=
  (
    (m_world_Valid y0.1).bind fun r1 =>
    if !r1 then
      some true
    else
      (shlK .i64 1 (len y0.1)).bind fun x1 =>
      some ((len y0.2) != x1) : Option Bool).bind fun s1 =>
  if s1 then
    some 1
  else
    (mkS (len y0.2) (len y0.2) (false : Bool)).bind fun x2 =>
    seqE (loop (m_order_Validate_L1 y0 x2) (x2, 0, 0) : Option (((List Bool) × Int) ⊕ Int)) fun s2 =>
    (sub s2.1 0 s2.2).bind fun x5 =>
    (m_slices_Contains_bool x5 false).bind fun r2 =>
    if r2 then
      some 8
    else
      some 0

noncomputable def m_slices_Max_int_L1 (y0 : List Int) (s2 : Int × Int) : Option ((Int × Int) ⊕ Int) :=
  if decide (s2.2 < (len y0)) then
    (idx y0 s2.2).bind fun x2 =>
    some (.inl (if x2 > s2.1 then x2 else s2.1, w64 (s2.2 + 1)))
  else
    some (.inr s2.1)

noncomputable def m_slices_Max_int (y0 : List Int) : Option Int :=
  (
    if decide ((len y0) < 1) then
      none
    else
      some () : Option Unit).bind fun _ =>
  (idx y0 0).bind fun x1 =>
  loop (m_slices_Max_int_L1 y0) (x1, 1)

noncomputable def m_order_Levels_L1 (y0 : T_Order) (s1 : (List Int) × Int) : Option (((List Int) × Int) ⊕ (List Int)) :=
  if decide (s1.2 < (len y0.2)) then
    (idx y0.2 s1.2).bind fun x2 =>
    (idx s1.1 x2).bind fun x3 =>
    (shlK .u64 1 (IntKind.u64.wrap (s1.2))).bind fun x4 =>
    (idx s1.1 x2).bind fun _ =>
    some (.inl (List.set s1.1 (Int.toNat x2) (bor .u64 x3 x4), w64 (s1.2 + 1)))
  else
    some (.inr s1.1)

noncomputable def m_order_Levels (y0 : T_Order) : Option (List Int) :=
  (m_order_Validate y0).bind fun r1 =>
  if r1 != 0 then
    some ([] : List Int)
  else
    (m_slices_Max_int y0.2).bind fun r2 =>
    (mkS (w64 (r2 + 1)) (w64 (r2 + 1)) (0 : Int)).bind fun x1 =>
    loop (m_order_Levels_L1 y0) (x1, 0)

noncomputable def m_internal_strconv_small (y0 : Int) : Option Str :=
  if decide (y0 < 10) then
    (sub [48, 49, 50, 51, 52, 53, 54, 55, 56, 57, 97, 98, 99, 100, 101, 102, 103, 104, 105, 106, 107, 108, 109, 110, 111, 112, 113, 114, 115, 116, 117, 118, 119, 120, 121, 122] y0 (w64 (y0 + 1))).bind fun x1 =>
    some x1
  else
    (sub [48, 48, 48, 49, 48, 50, 48, 51, 48, 52, 48, 53, 48, 54, 48, 55, 48, 56, 48, 57, 49, 48, 49, 49, 49, 50, 49, 51, 49, 52, 49, 53, 49, 54, 49, 55, 49, 56, 49, 57, 50, 48, 50, 49, 50, 50, 50, 51, 50, 52, 50, 53, 50, 54, 50, 55, 50, 56, 50, 57, 51, 48, 51, 49, 51, 50, 51, 51, 51, 52, 51, 53, 51, 54, 51, 55, 51, 56, 51, 57, 52, 48, 52, 49, 52, 50, 52, 51, 52, 52, 52, 53, 52, 54, 52, 55, 52, 56, 52, 57, 53, 48, 53, 49, 53, 50, 53, 51, 53, 52, 53, 53, 53, 54, 53, 55, 53, 56, 53, 57, 54, 48, 54, 49, 54, 50, 54, 51, 54, 52, 54, 53, 54, 54, 54, 55, 54, 56, 54, 57, 55, 48, 55, 49, 55, 50, 55, 51, 55, 52, 55, 53, 55, 54, 55, 55, 55, 56, 55, 57, 56, 48, 56, 49, 56, 50, 56, 51, 56, 52, 56, 53, 56, 54, 56, 55, 56, 56, 56, 57, 57, 48, 57, 49, 57, 50, 57, 51, 57, 52, 57, 53, 57, 54, 57, 55, 57, 56, 57, 57] (w64 (y0 * 2)) (w64 ((w64 (y0 * 2)) + 2))).bind fun x2 =>
    some x2

noncomputable def m_internal_strconv_FormatInt (y0 : Int) (y1 : Int) : Option Str :=
  if y1 == 10 then
    if (decide (0 ≤ y0)) && (decide (y0 < 100)) then
      (m_internal_strconv_small y0).bind fun r1 =>
      some r1
    else
      none
  else
    none

noncomputable def m_internal_strconv_Itoa (y0 : Int) : Option Str :=
  (m_internal_strconv_FormatInt y0 10).bind fun r1 =>
  some r1

noncomputable def m_strconv_Itoa (y0 : Int) : Option Str :=
  (m_internal_strconv_Itoa y0).bind fun r1 =>
  some r1

noncomputable def m_report_number (y0 : Int) : Option Str :=
  (m_strconv_Itoa y0).bind fun r1 =>
  some r1

noncomputable def m_world_whole (y0 : Int) : Option Int :=
  (shlK .u64 1 y0).bind fun x1 =>
  (shrK .u64 18446744073709551615 (IntKind.u64.wrap (64 - x1))).bind fun x2 =>
  some x2

noncomputable def m_world_All (y0 : List Str) : Option Int :=
  (m_world_Valid y0).bind fun r1 =>
  if !r1 then
    some 0
  else
    (m_world_whole (len y0)).bind fun r2 =>
    some r2

noncomputable def m_world_split_L1 (y0 : Int) (s1 : Int × Int × Int) : Option ((Int × Int × Int) ⊕ (Int × Int)) :=
  if decide (s1.2.2 < 32) then
    (shrK .u64 y0 (w64 (2 * s1.2.2))).bind fun x1 =>
    (shlK .u64 (band .u64 x1 1) s1.2.2).bind fun x2 =>
    (shrK .u64 y0 (w64 ((w64 (2 * s1.2.2)) + 1))).bind fun x3 =>
    (shlK .u64 (band .u64 x3 1) s1.2.2).bind fun x4 =>
    some (.inl (bor .u64 s1.1 x4, bor .u64 s1.2.1 x2, w64 (s1.2.2 + 1)))
  else
    some (.inr (s1.1, s1.2.1))

noncomputable def m_world_split (y0 : Int) : Option (Int × Int) :=
  loop (m_world_split_L1 y0) (0, 0, 0)

noncomputable def m_world_two (y0 : Int) (y1 : T_Formula) (y2 : T_Formula) : Option T_Formula :=
  some (fm (y0, [], ([y1, y2] : List T_Formula)))

noncomputable def F_world_theory (rec_world_theory : (List Str) → Int → Option T_Formula) (y0 : List Str) (y1 : Int) : Option T_Formula :=
  (m_world_whole (len y0)).bind fun r1 =>
  if y1 == 0 then
    some (fm (2, [], ([] : List T_Formula)))
  else
    if y1 == r1 then
      some (fm (1, [], ([] : List T_Formula)))
    else
      (sub y0 1 (len y0)).bind fun x1 =>
      (m_world_split y1).bind fun r2 =>
      if r2.1 == r2.2 then
        (rec_world_theory x1 r2.1).bind fun r3 =>
        some r3
      else
        (idx y0 0).bind fun x2 =>
        (idx y0 0).bind fun x3 =>
        (m_world_whole (len x1)).bind fun r4 =>
        if (r2.1 == r4) && (r2.2 == 0) then
          some (fm (3, x2, ([] : List T_Formula)))
        else
          if r2.1 == r4 then
            (rec_world_theory x1 r2.2).bind fun r5 =>
            (m_world_two 6 (fm (3, x2, ([] : List T_Formula))) r5).bind fun r6 =>
            some r6
          else
            if (r2.1 == 0) && (r2.2 == r4) then
              some (fm (4, [], ([fm (3, x3, ([] : List T_Formula))] : List T_Formula)))
            else
              if r2.1 == 0 then
                (rec_world_theory x1 r2.2).bind fun r7 =>
                (m_world_two 5 (fm (4, [], ([fm (3, x3, ([] : List T_Formula))] : List T_Formula))) r7).bind fun r8 =>
                some r8
              else
                if r2.2 == r4 then
                  (rec_world_theory x1 r2.1).bind fun r9 =>
                  (m_world_two 6 (fm (4, [], ([fm (3, x3, ([] : List T_Formula))] : List T_Formula))) r9).bind fun r10 =>
                  some r10
                else
                  if r2.2 == 0 then
                    (rec_world_theory x1 r2.1).bind fun r11 =>
                    (m_world_two 5 (fm (3, x2, ([] : List T_Formula))) r11).bind fun r12 =>
                    some r12
                  else
                    (rec_world_theory x1 r2.1).bind fun r13 =>
                    (m_world_two 5 (fm (3, x2, ([] : List T_Formula))) r13).bind fun r14 =>
                    (rec_world_theory x1 r2.2).bind fun r15 =>
                    (m_world_two 5 (fm (4, [], ([fm (3, x3, ([] : List T_Formula))] : List T_Formula))) r15).bind fun r16 =>
                    (m_world_two 6 r14 r16).bind fun r17 =>
                    some r17

noncomputable def k_world_theory : Nat → (List Str) → Int → Option T_Formula
  | 0 => fun _ _ => none
  | k + 1 => fun y0 y1 => F_world_theory (k_world_theory k) y0 y1

noncomputable def m_world_theory (y0 : List Str) (y1 : Int) : Option T_Formula := limM fun k => k_world_theory k y0 y1

noncomputable def m_world_Theory (y0 : List Str) (y1 : Int) : Option (T_Formula × Int) :=
  (m_world_Valid y0).bind fun r1 =>
  if !r1 then
    some (fm (0, [], ([] : List T_Formula)), 1)
  else
    (m_world_All y0).bind fun r2 =>
    (m_world_theory y0 (band .u64 y1 r2)).bind fun r3 =>
    some (r3, 0)

noncomputable def m_report_Order_L1 (r1 : (List Int)) (y0 : T_Order) (s1 : (List Str) × Int) : Option (((List Str) × Int) ⊕ (List Str)) :=
  if decide (s1.2 < (len r1)) then
    (idx r1 s1.2).bind fun x1 =>
    (m_world_Theory y0.1 x1).bind fun r2 =>
    (m_formula_Format r2.1).bind fun r3 =>
    (m_report_number s1.2).bind fun r4 =>
    (cat r4 [58, 32]).bind fun x2 =>
    (cat x2 r3.1).bind fun x3 =>
    (app s1.1 ([x3] : List Str)).bind fun x4 =>
    some (.inl (x4, w64 (s1.2 + 1)))
  else
    some (.inr s1.1)

noncomputable def m_report_Order (y0 : T_Order) : Option (List Str) :=
  (m_order_Levels y0).bind fun r1 =>
  loop (m_report_Order_L1 r1 y0) (([] : List Str), 0)

noncomputable def m_law42_awake : Option Bool :=
  (m_keep_Voc 2).bind fun r1 =>
  (m_report_Order (r1, ([2, 1, 2, 0] : List Int))).bind fun r2 =>
  (m_keep_Voc 2).bind fun r3 =>
  (idx r3 0).bind fun x1 =>
  (m_keep_Voc 2).bind fun r4 =>
  (idx r4 1).bind fun x2 =>
  (cat [48, 58, 32] x1).bind fun x3 =>
  (cat x3 [32, 38, 32]).bind fun x4 =>
  (cat x4 x2).bind fun x5 =>
  (cat [49, 58, 32] x1).bind fun x6 =>
  (cat x6 [32, 38, 32, 126]).bind fun x7 =>
  (cat x7 x2).bind fun x8 =>
  (cat [50, 58, 32, 126] x1).bind fun x9 =>
  (m_ref42_Same r2 ([x5, x8, x9] : List Str)).bind fun r5 =>
  some r5

noncomputable def m_net_Has_L1 (y0 : T_Graph) (y1 : Int) (y2 : Int) (s1 : Int) : Option (Int ⊕ Bool) :=
  if decide (s1 < (len y0.2)) then
    (
      (idx y0.2 s1).bind fun x1 =>
      if x1.1 == y1 then
        (idx y0.2 s1).bind fun x2 =>
        some (x2.2 == y2)
      else
        some false : Option Bool).bind fun s2 =>
    if s2 then
      some (.inr true)
    else
      some (.inl (w64 (s1 + 1)))
  else
    some (.inr false)

noncomputable def m_net_Has (y0 : T_Graph) (y1 : Int) (y2 : Int) : Option Bool :=
  loop (m_net_Has_L1 y0 y1 y2) 0

noncomputable def m_net_Attacked_L1 (y1 : List Int) (y0 : T_Graph) (y2 : Int) (s1 : Int) : Option (Int ⊕ Bool) :=
  if decide (s1 < (len y1)) then
    (idx y1 s1).bind fun x1 =>
    (m_net_Has y0 x1 y2).bind fun r1 =>
    if r1 then
      some (.inr true)
    else
      some (.inl (w64 (s1 + 1)))
  else
    some (.inr false)

noncomputable def m_net_Attacked (y0 : T_Graph) (y1 : List Int) (y2 : Int) : Option Bool :=
  loop (m_net_Attacked_L1 y1 y0 y2) 0

noncomputable def m_net_Grounded_L1 (y0 : T_Graph) (s3 : (List Int) × Int) : Option (((List Int) × Int) ⊕ (List Int)) :=
  if decide (s3.2 < y0.1) then
    (idx s3.1 s3.2).bind fun _ =>
    some (.inl (List.set s3.1 (Int.toNat s3.2) 3, w64 (s3.2 + 1)))
  else
    some (.inr s3.1)

noncomputable def m_net_Grounded_L4 (y0 : T_Graph) (s6 : (List Int) × Int) (s4 : (List Int) × (List Int) × Int) (s8 : Bool × Int) : Option ((Bool × Int) ⊕ Bool) :=
  if decide (s8.2 < y0.1) then
    (
      if s8.1 then
        (m_net_Has y0 s8.2 s6.2).bind fun r1 =>
        if !r1 then
          some true
        else
          (idx s4.1 s8.2).bind fun x7 =>
          some (x7 == 2)
      else
        some false : Option Bool).bind fun s9 =>
    some (.inl (s9, w64 (s8.2 + 1)))
  else
    some (.inr s8.1)

noncomputable def m_net_Grounded_L3 (y0 : T_Graph) (s4 : (List Int) × (List Int) × Int) (s6 : (List Int) × Int) : Option (((List Int) × Int) ⊕ (List Int)) :=
  if decide (s6.2 < y0.1) then
    (idx s4.1 s6.2).bind fun x6 =>
    (loop (m_net_Grounded_L4 y0 s6 s4) (x6 == 3, 0) : Option Bool).bind fun s7 =>
    if s7 then
      (app s6.1 ([s6.2] : List Int)).bind fun x8 =>
      some (.inl (x8, w64 (s6.2 + 1)))
    else
      some (.inl (s6.1, w64 (s6.2 + 1)))
  else
    some (.inr s6.1)

noncomputable def m_net_Grounded_L5 (s5 : (List Int)) (s4 : (List Int) × (List Int) × Int) (s11 : (List Int) × (List Int) × Int) : Option (((List Int) × (List Int) × Int) ⊕ ((List Int) × (List Int))) :=
  if decide (s11.2.2 < (len s5)) then
    (idx s5 s11.2.2).bind fun x9 =>
    (idx s11.1 x9).bind fun _ =>
    (idx s11.2.1 x9).bind fun _ =>
    some (.inl (List.set s11.1 (Int.toNat x9) 1, List.set s11.2.1 (Int.toNat x9) s4.2.2, w64 (s11.2.2 + 1)))
  else
    some (.inr (s11.1, s11.2.1))

noncomputable def m_net_Grounded_L6 (y0 : T_Graph) (s5 : (List Int)) (s4 : (List Int) × (List Int) × Int) (s12 : (List Int) × (List Int) × Int) : Option (((List Int) × (List Int) × Int) ⊕ (((List Int) × (List Int) × Int) ⊕ ((List Int) × (List Int)))) :=
  if decide (s12.2.2 < y0.1) then
    (
      (idx s12.1 s12.2.2).bind fun x12 =>
      if x12 == 3 then
        (m_net_Attacked y0 s5 s12.2.2).bind fun r2 =>
        some r2
      else
        some false : Option Bool).bind fun s13 =>
    if s13 then
      (idx s12.1 s12.2.2).bind fun _ =>
      (idx s12.2.1 s12.2.2).bind fun _ =>
      some (.inl (List.set s12.1 (Int.toNat s12.2.2) 2, List.set s12.2.1 (Int.toNat s12.2.2) s4.2.2, w64 (s12.2.2 + 1)))
    else
      some (.inl (s12.1, s12.2.1, w64 (s12.2.2 + 1)))
  else
    some (.inr (.inl (s12.1, s12.2.1, w64 (s4.2.2 + 1))))

noncomputable def m_net_Grounded_L2 (y0 : T_Graph) (s4 : (List Int) × (List Int) × Int) : Option (((List Int) × (List Int) × Int) ⊕ ((List Int) × (List Int))) :=
  if decide (s4.2.2 ≤ (w64 (y0.1 + 1))) then
    (loop (m_net_Grounded_L3 y0 s4) (([] : List Int), 0) : Option (List Int)).bind fun s5 =>
    (loop (m_net_Grounded_L5 s5 s4) (s4.1, s4.2.1, 0) : Option ((List Int) × (List Int))).bind fun s10 =>
    loop (m_net_Grounded_L6 y0 s5 s4) (s10.1, s10.2, 0)
  else
    some (.inr (s4.1, s4.2.1))

noncomputable def m_net_Grounded (y0 : T_Graph) : Option ((List Int) × (List Int)) :=
  (
    (mkS y0.1 y0.1 (0 : Int)).bind fun x1 =>
    (mkS y0.1 y0.1 (0 : Int)).bind fun x2 =>
    some (x1, x2) : Option ((List Int) × (List Int))).bind fun s1 =>
  (loop (m_net_Grounded_L1 y0) (s1.1, 0) : Option (List Int)).bind fun s2 =>
  loop (m_net_Grounded_L2 y0) (s2, s1.2, 1)

noncomputable def m_ref01_ValidName_L1 (y0 : Str) (s2 : Int) : Option (Int ⊕ Bool) :=
  if decide (s2 < (len y0)) then
    (
      (sidx y0 s2).bind fun x3 =>
      if decide (x3 < 97) then
        (sidx y0 s2).bind fun x4 =>
        if decide (x4 < 48) then
          (sidx y0 s2).bind fun x5 =>
          some (x5 != 95)
        else
          (sidx y0 s2).bind fun x6 =>
          if decide (57 < x6) then
            (sidx y0 s2).bind fun x7 =>
            some (x7 != 95)
          else
            some false
      else
        (sidx y0 s2).bind fun x8 =>
        if decide (122 < x8) then
          (sidx y0 s2).bind fun x9 =>
          if decide (x9 < 48) then
            (sidx y0 s2).bind fun x10 =>
            some (x10 != 95)
          else
            (sidx y0 s2).bind fun x11 =>
            if decide (57 < x11) then
              (sidx y0 s2).bind fun x12 =>
              some (x12 != 95)
            else
              some false
        else
          some false : Option Bool).bind fun s3 =>
    if s3 then
      some (.inr false)
    else
      some (.inl (w64 (s2 + 1)))
  else
    some (.inr true)

noncomputable def m_ref01_ValidName (y0 : Str) : Option Bool :=
  (
    if decide ((len y0) < 1) then
      some true
    else
      if decide (12 < (len y0)) then
        some true
      else
        (sidx y0 0).bind fun x1 =>
        if decide (x1 < 97) then
          some true
        else
          (sidx y0 0).bind fun x2 =>
          some (decide (122 < x2)) : Option Bool).bind fun s1 =>
  if s1 then
    some false
  else
    loop (m_ref01_ValidName_L1 y0) 0

noncomputable def m_ref01_Valid (y0 : T_Literal) : Option Bool :=
  (m_ref01_ValidName y0.2).bind fun r1 =>
  some r1

noncomputable def m_ref01_Format (y0 : T_Literal) : Option Str :=
  (m_ref01_Valid y0).bind fun r1 =>
  if !r1 then
    some []
  else
    if y0.1 then
      (cat [126] y0.2).bind fun x1 =>
      some x1
    else
      some y0.2

noncomputable def m_ref01_Compare (y0 : T_Literal) (y1 : T_Literal) : Option Int :=
  if y0 == y1 then
    some 0
  else
    if (sless y0.2 y1.2) || ((y0.2 == y1.2) && y1.1) then
      some (-1)
    else
      some 1

noncomputable def m_ref01_Insert_L1 (y0 : List T_Literal) (y1 : T_Literal) (s2 : Int) : Option (Int ⊕ Int) :=
  (
    if decide (s2 < (len y0)) then
      (idx y0 s2).bind fun x1 =>
      (m_ref01_Compare x1 y1).bind fun r1 =>
      some (decide (r1 < 0))
    else
      some false : Option Bool).bind fun s3 =>
  if s3 then
    some (.inl (w64 (s2 + 1)))
  else
    some (.inr s2)

noncomputable def m_ref01_Insert (y0 : List T_Literal) (y1 : T_Literal) : Option (List T_Literal) :=
  (loop (m_ref01_Insert_L1 y0 y1) 0 : Option Int).bind fun s1 =>
  (
    if decide (s1 < (len y0)) then
      (idx y0 s1).bind fun x2 =>
      some (x2 == y1)
    else
      some false : Option Bool).bind fun s4 =>
  if s4 then
    some y0
  else
    (sub y0 0 s1).bind fun x3 =>
    (app ([] : List T_Literal) x3).bind fun x4 =>
    (sub y0 s1 (len y0)).bind fun x5 =>
    (app x4 ([y1] : List T_Literal)).bind fun x6 =>
    (app x6 x5).bind fun x7 =>
    some x7

noncomputable def m_ref01_Normal_L1 (y0 : List T_Literal) (s1 : (List T_Literal) × Int) : Option (((List T_Literal) × Int) ⊕ (List T_Literal)) :=
  if decide (s1.2 < (len y0)) then
    (idx y0 s1.2).bind fun x1 =>
    (m_ref01_Insert s1.1 x1).bind fun r1 =>
    some (.inl (r1, w64 (s1.2 + 1)))
  else
    some (.inr s1.1)

noncomputable def m_ref01_Normal (y0 : List T_Literal) : Option (List T_Literal) :=
  loop (m_ref01_Normal_L1 y0) (([] : List T_Literal), 0)

noncomputable def m_ref01_Has_L1 (y0 : List T_Literal) (y1 : T_Literal) (s1 : Int) : Option (Int ⊕ Bool) :=
  if decide (s1 < (len y0)) then
    (idx y0 s1).bind fun x1 =>
    if x1 == y1 then
      some (.inr true)
    else
      some (.inl (w64 (s1 + 1)))
  else
    some (.inr false)

noncomputable def m_ref01_Has (y0 : List T_Literal) (y1 : T_Literal) : Option Bool :=
  loop (m_ref01_Has_L1 y0 y1) 0

noncomputable def m_ref05_Copy_L1 (y0 : T_Base) (s3 : Int × (List T_Rule)) : Option ((Int × (List T_Rule)) ⊕ (List T_Rule)) :=
  if decide (s3.1 < (len y0.2.1)) then
    (idx y0.2.1 s3.1).bind fun x27 =>
    (app ([] : List T_Literal) x27.2.2.2.1).bind fun x28 =>
    (app s3.2 ([(x27.1, x27.2.1, x27.2.2.1, x28, x27.2.2.2.2)] : List T_Rule)).bind fun x29 =>
    some (.inl (w64 (s3.1 + 1), x29))
  else
    some (.inr s3.2)

noncomputable def m_ref05_Copy (y0 : T_Base) : Option T_Base :=
  (
    (app ([] : List T_Premise) y0.1).bind fun x1 =>
    (app ([] : List T_Promotion) y0.2.2).bind fun x2 =>
    some (x1, ([] : List T_Rule), x2) : Option T_Base).bind fun s1 =>
  (loop (m_ref05_Copy_L1 y0) (0, s1.2.1) : Option (List T_Rule)).bind fun s2 =>
  some (s1.1, s2, s1.2.2)

noncomputable def m_ref05_Promote_L2 (y0 : T_Base) (s2 : Int × (List T_Rule)) (y1 : List T_Literal) (s3 : Int × (List T_Rule)) : Option ((Int × (List T_Rule)) ⊕ ((Int × (List T_Rule)) ⊕ (List T_Rule))) :=
  if decide (s3.1 < (len y0.2.2)) then
    (idx y0.2.2 s3.1).bind fun x1 =>
    (
      (idx s3.2 s2.1).bind fun x2 =>
      if x1.1 == x2.1 then
        (idx s3.2 s2.1).bind fun x3 =>
        if !x3.2.1 then
          (m_ref01_Has y1 x1.2.2).bind fun r2 =>
          some r2
        else
          some false
      else
        some false : Option Bool).bind fun s4 =>
    if s4 then
      (idx s3.2 s2.1).bind fun x4 =>
      some (.inl (w64 (s3.1 + 1), List.set s3.2 (Int.toNat s2.1) (x4.1, x4.2.1, x1.2.1, x4.2.2.2.1, x4.2.2.2.2)))
    else
      some (.inl (w64 (s3.1 + 1), s3.2))
  else
    some (.inr (.inl (w64 (s2.1 + 1), s3.2)))

noncomputable def m_ref05_Promote_L1 (y0 : T_Base) (y1 : List T_Literal) (s2 : Int × (List T_Rule)) : Option ((Int × (List T_Rule)) ⊕ (List T_Rule)) :=
  if decide (s2.1 < (len s2.2)) then
    loop (m_ref05_Promote_L2 y0 s2 y1) (0, s2.2)
  else
    some (.inr s2.2)

noncomputable def m_ref05_Promote (y0 : T_Base) (y1 : List T_Literal) : Option T_Base :=
  (m_ref05_Copy y0).bind fun r1 =>
  (loop (m_ref05_Promote_L1 y0 y1) (0, r1.2.1) : Option (List T_Rule)).bind fun s1 =>
  some (r1.1, s1, r1.2.2)

noncomputable def m_ref05_Find_L1 (y0 : T_Base) (y1 : Str) (s1 : Int) : Option (Int ⊕ Int) :=
  if decide (s1 < (len y0.2.1)) then
    (idx y0.2.1 s1).bind fun x1 =>
    if x1.1 == y1 then
      some (.inr s1)
    else
      some (.inl (w64 (s1 + 1)))
  else
    some (.inr (-1))

noncomputable def m_ref05_Find (y0 : T_Base) (y1 : Str) : Option Int :=
  loop (m_ref05_Find_L1 y0 y1) 0

noncomputable def m_ref05_Premise_L1 (y0 : T_Base) (y1 : T_Literal) (s1 : Int) : Option (Int ⊕ Int) :=
  if decide (s1 < (len y0.1)) then
    (idx y0.1 s1).bind fun x1 =>
    if x1.1 == y1 then
      some (.inr s1)
    else
      some (.inl (w64 (s1 + 1)))
  else
    some (.inr (-1))

noncomputable def m_ref05_Premise (y0 : T_Base) (y1 : T_Literal) : Option Int :=
  loop (m_ref05_Premise_L1 y0 y1) 0

noncomputable def m_ref05_rank (y0 : Int) : Option Bool :=
  some ((decide (0 ≤ y0)) && (decide (y0 ≤ 9)))

noncomputable def m_ref05_premise (y0 : T_Premise) : Option Int :=
  if (decide (y0.2.1 < 1)) || (decide (3 < y0.2.1)) then
    some 4
  else
    (
      (m_ref01_Valid y0.1).bind fun r1 =>
      if !r1 then
        some true
      else
        (m_ref05_rank y0.2.2.1).bind fun r2 =>
        if !r2 then
          some true
        else
          if y0.2.1 != 2 then
            if y0.2.2.1 != 0 then
              some true
            else
              if !(y0.2.2.2 == []) then
                (m_ref01_ValidName y0.2.2.2).bind fun r3 =>
                some (!r3)
              else
                some false
          else
            if !(y0.2.2.2 == []) then
              (m_ref01_ValidName y0.2.2.2).bind fun r4 =>
              some (!r4)
            else
              some false : Option Bool).bind fun s1 =>
    if s1 then
      some 1
    else
      some 0

noncomputable def m_ref05_rule_L1 (y0 : T_Rule) (s3 : Bool × Int) : Option ((Bool × Int) ⊕ Bool) :=
  if decide (s3.2 < (len y0.2.2.2.1)) then
    (
      if s3.1 then
        (idx y0.2.2.2.1 s3.2).bind fun x1 =>
        (m_ref01_Valid x1).bind fun r5 =>
        some r5
      else
        some false : Option Bool).bind fun s4 =>
    some (.inl (s4, w64 (s3.2 + 1)))
  else
    some (.inr s3.1)

noncomputable def m_ref05_rule_L2 (y0 : T_Rule) (s5 : Int) : Option (Int ⊕ Int) :=
  if decide (s5 < (len y0.2.2.2.1)) then
    (idx y0.2.2.2.1 (w64 (s5 - 1))).bind fun x2 =>
    (idx y0.2.2.2.1 s5).bind fun x3 =>
    (m_ref01_Compare x2 x3).bind fun r6 =>
    if decide (0 ≤ r6) then
      some (.inr 8)
    else
      some (.inl (w64 (s5 + 1)))
  else
    some (.inr 0)

noncomputable def m_ref05_rule (y0 : T_Rule) : Option Int :=
  if decide (4 < (len y0.2.2.2.1)) then
    some 2
  else
    (
      (m_ref01_ValidName y0.1).bind fun r1 =>
      if r1 then
        (m_ref05_rank y0.2.2.1).bind fun r2 =>
        if r2 then
          if !y0.2.1 then
            (m_ref01_Valid y0.2.2.2.2).bind fun r3 =>
            some r3
          else
            if y0.2.2.1 == 0 then
              (m_ref01_Valid y0.2.2.2.2).bind fun r4 =>
              some r4
            else
              some false
        else
          some false
      else
        some false : Option Bool).bind fun s1 =>
    (loop (m_ref05_rule_L1 y0) (s1, 0) : Option Bool).bind fun s2 =>
    if !s2 then
      some 1
    else
      loop (m_ref05_rule_L2 y0) 1

noncomputable def m_ref05_Validate_L1 (y0 : T_Base) (s2 : Int) : Option (Int ⊕ (Unit ⊕ Int)) :=
  if decide (s2 < (len y0.1)) then
    (idx y0.1 s2).bind fun x1 =>
    (m_ref05_premise x1).bind fun r1 =>
    if r1 != 0 then
      some (.inr (.inr r1))
    else
      (idx y0.1 s2).bind fun x2 =>
      (m_ref05_Premise y0 x2.1).bind fun r2 =>
      if decide (r2 < s2) then
        some (.inr (.inr 5))
      else
        some (.inl (w64 (s2 + 1)))
  else
    some (.inr (.inl ()))

noncomputable def m_ref05_Validate_L2 (y0 : T_Base) (s4 : Int) : Option (Int ⊕ (Unit ⊕ Int)) :=
  if decide (s4 < (len y0.2.1)) then
    (idx y0.2.1 s4).bind fun x3 =>
    (m_ref05_rule x3).bind fun r3 =>
    if r3 != 0 then
      some (.inr (.inr r3))
    else
      (idx y0.2.1 s4).bind fun x4 =>
      (m_ref05_Find y0 x4.1).bind fun r4 =>
      if decide (r4 < s4) then
        some (.inr (.inr 5))
      else
        some (.inl (w64 (s4 + 1)))
  else
    some (.inr (.inl ()))

noncomputable def m_ref05_Validate_L3 (y0 : T_Base) (s5 : Int) : Option (Int ⊕ Int) :=
  if decide (s5 < (len y0.2.2)) then
    (idx y0.2.2 s5).bind fun x5 =>
    (
      (m_ref05_rank x5.2.1).bind fun r5 =>
      if !r5 then
        some true
      else
        (m_ref01_Valid x5.2.2).bind fun r6 =>
        some (!r6) : Option Bool).bind fun s6 =>
    if s6 then
      some (.inr 1)
    else
      (m_ref05_Find y0 x5.1).bind fun r7 =>
      if decide (r7 < 0) then
        some (.inr 6)
      else
        (idx y0.2.1 r7).bind fun x6 =>
        if x6.2.1 then
          some (.inr 4)
        else
          some (.inl (w64 (s5 + 1)))
  else
    some (.inr 0)

noncomputable def m_ref05_Validate (y0 : T_Base) : Option Int :=
  if (decide (16 < (len y0.1))) || ((decide (24 < (len y0.2.1))) || (decide (8 < (len y0.2.2)))) then
    some 2
  else
    seqE (loop (m_ref05_Validate_L1 y0) 0 : Option (Unit ⊕ Int)) fun _ =>
    seqE (loop (m_ref05_Validate_L2 y0) 0 : Option (Unit ⊕ Int)) fun _ =>
    loop (m_ref05_Validate_L3 y0) 0

noncomputable def m_ref07_insert_L1 (y0 : List Int) (y1 : Int) (s2 : Int) : Option (Int ⊕ Int) :=
  (
    if decide (s2 < (len y0)) then
      (idx y0 s2).bind fun x1 =>
      some (decide (x1 < y1))
    else
      some false : Option Bool).bind fun s3 =>
  if s3 then
    some (.inl (w64 (s2 + 1)))
  else
    some (.inr s2)

noncomputable def m_ref07_insert (y0 : List Int) (y1 : Int) : Option (List Int) :=
  (loop (m_ref07_insert_L1 y0 y1) 0 : Option Int).bind fun s1 =>
  (
    if decide (s1 < (len y0)) then
      (idx y0 s1).bind fun x2 =>
      some (x2 == y1)
    else
      some false : Option Bool).bind fun s4 =>
  if s4 then
    some y0
  else
    (sub y0 0 s1).bind fun x3 =>
    (app ([] : List Int) x3).bind fun x4 =>
    (sub y0 s1 (len y0)).bind fun x5 =>
    (app x4 ([y1] : List Int)).bind fun x6 =>
    (app x6 x5).bind fun x7 =>
    some x7

noncomputable def m_ref07_union_L1 (y1 : List Int) (s1 : (List Int) × Int) : Option (((List Int) × Int) ⊕ (List Int)) :=
  if decide (s1.2 < (len y1)) then
    (idx y1 s1.2).bind fun x1 =>
    (m_ref07_insert s1.1 x1).bind fun r1 =>
    some (.inl (r1, w64 (s1.2 + 1)))
  else
    some (.inr s1.1)

noncomputable def m_ref07_union (y0 : List Int) (y1 : List Int) : Option (List Int) :=
  loop (m_ref07_union_L1 y1) (y0, 0)

noncomputable def m_ref07_Subs_L1 (y0 : List T_Argument) (y1 : Int) (rec_ref07_Subs : (List T_Argument) → Int → Option (List Int)) (s1 : (List Int) × Int) : Option (((List Int) × Int) ⊕ (List Int)) :=
  (idx y0 y1).bind fun x1 =>
  if decide (s1.2 < (len x1.2.2.1)) then
    (idx y0 y1).bind fun x2 =>
    (idx x2.2.2.1 s1.2).bind fun x3 =>
    (rec_ref07_Subs y0 x3).bind fun r1 =>
    (m_ref07_union s1.1 r1).bind fun r2 =>
    some (.inl (r2, w64 (s1.2 + 1)))
  else
    some (.inr s1.1)

noncomputable def F_ref07_Subs (rec_ref07_Subs : (List T_Argument) → Int → Option (List Int)) (y0 : List T_Argument) (y1 : Int) : Option (List Int) :=
  if (decide (y1 < 0)) || (decide ((len y0) ≤ y1)) then
    some ([] : List Int)
  else
    loop (m_ref07_Subs_L1 y0 y1 rec_ref07_Subs) (([y1] : List Int), 0)

noncomputable def k_ref07_Subs : Nat → (List T_Argument) → Int → Option (List Int)
  | 0 => fun _ _ => none
  | k + 1 => fun y0 y1 => F_ref07_Subs (k_ref07_Subs k) y0 y1

noncomputable def m_ref07_Subs (y0 : List T_Argument) (y1 : Int) : Option (List Int) := limM fun k => k_ref07_Subs k y0 y1

noncomputable def m_ref07_Defeasible_L1 (r1 : (List Int)) (y1 : List T_Argument) (y0 : T_Base) (s1 : (List Int) × Int) : Option (((List Int) × Int) ⊕ (List Int)) :=
  if decide (s1.2 < (len r1)) then
    (idx r1 s1.2).bind fun x1 =>
    (
      (idx y1 x1).bind fun x2 =>
      if decide (0 ≤ x2.2.1) then
        (idx y1 x1).bind fun x3 =>
        (idx y0.2.1 x3.2.1).bind fun x4 =>
        some (!x4.2.1)
      else
        some false : Option Bool).bind fun s2 =>
    if s2 then
      (idx y1 x1).bind fun x5 =>
      (m_ref07_insert s1.1 x5.2.1).bind fun r2 =>
      some (.inl (r2, w64 (s1.2 + 1)))
    else
      some (.inl (s1.1, w64 (s1.2 + 1)))
  else
    some (.inr s1.1)

noncomputable def m_ref07_Defeasible (y0 : T_Base) (y1 : List T_Argument) (y2 : Int) : Option (List Int) :=
  (m_ref07_Subs y1 y2).bind fun r1 =>
  loop (m_ref07_Defeasible_L1 r1 y1 y0) (([] : List Int), 0)

noncomputable def m_ref07_Run_L1 (y1 : List T_Argument) (y2 : Int) (rec_ref07_Run : T_Base → (List T_Argument) → Int → Option (List T_Literal)) (y0 : T_Base) (s2 : (List T_Literal) × Int) : Option (((List T_Literal) × Int) ⊕ (List T_Literal)) :=
  (idx y1 y2).bind fun x5 =>
  if decide (s2.2 < (len x5.2.2.1)) then
    (idx y1 y2).bind fun x6 =>
    (idx x6.2.2.1 s2.2).bind fun x7 =>
    (rec_ref07_Run y0 y1 x7).bind fun r1 =>
    (app s2.1 r1).bind fun x8 =>
    some (.inl (x8, w64 (s2.2 + 1)))
  else
    some (.inr s2.1)

noncomputable def F_ref07_Run (rec_ref07_Run : T_Base → (List T_Argument) → Int → Option (List T_Literal)) (y0 : T_Base) (y1 : List T_Argument) (y2 : Int) : Option (List T_Literal) :=
  (idx y1 y2).bind fun x1 =>
  (
    (idx y1 y2).bind fun x2 =>
    if decide (0 ≤ x2.2.1) then
      (idx y1 y2).bind fun x3 =>
      (idx y0.2.1 x3.2.1).bind fun x4 =>
      some x4.2.1
    else
      some false : Option Bool).bind fun s1 =>
  if s1 then
    loop (m_ref07_Run_L1 y1 y2 rec_ref07_Run y0) (([x1.2.2.2] : List T_Literal), 0)
  else
    some ([x1.2.2.2] : List T_Literal)

noncomputable def k_ref07_Run : Nat → T_Base → (List T_Argument) → Int → Option (List T_Literal)
  | 0 => fun _ _ _ => none
  | k + 1 => fun y0 y1 y2 => F_ref07_Run (k_ref07_Run k) y0 y1 y2

noncomputable def m_ref07_Run (y0 : T_Base) (y1 : List T_Argument) (y2 : Int) : Option (List T_Literal) := limM fun k => k_ref07_Run k y0 y1 y2

noncomputable def m_ref07_in_L1 (y0 : List Int) (y1 : Int) (s1 : Int) : Option (Int ⊕ Bool) :=
  if decide (s1 < (len y0)) then
    (idx y0 s1).bind fun x1 =>
    if x1 == y1 then
      some (.inr true)
    else
      some (.inl (w64 (s1 + 1)))
  else
    some (.inr false)

noncomputable def m_ref07_in (y0 : List Int) (y1 : Int) : Option Bool :=
  loop (m_ref07_in_L1 y0 y1) 0

noncomputable def m_ref07_Within_L1 (y3 : List Int) (x1 : T_Rule) (y0 : T_Base) (y1 : List T_Argument) (y2 : Int) (s1 : Int) : Option (Int ⊕ Bool) :=
  if decide (s1 < (len y3)) then
    (
      if x1.2.1 then
        (idx y3 s1).bind fun x2 =>
        (m_ref07_Run y0 y1 x2).bind fun r1 =>
        (m_ref01_Has r1 x1.2.2.2.2).bind fun r2 =>
        if r2 then
          some true
        else
          if !x1.2.1 then
            (idx y3 s1).bind fun x3 =>
            (m_ref07_Defeasible y0 y1 x3).bind fun r3 =>
            (m_ref07_in r3 y2).bind fun r4 =>
            some r4
          else
            some false
      else
        if !x1.2.1 then
          (idx y3 s1).bind fun x4 =>
          (m_ref07_Defeasible y0 y1 x4).bind fun r5 =>
          (m_ref07_in r5 y2).bind fun r6 =>
          some r6
        else
          some false : Option Bool).bind fun s2 =>
    if s2 then
      some (.inr false)
    else
      some (.inl (w64 (s1 + 1)))
  else
    some (.inr true)

noncomputable def m_ref07_Within (y0 : T_Base) (y1 : List T_Argument) (y2 : Int) (y3 : List Int) : Option Bool :=
  (idx y0.2.1 y2).bind fun x1 =>
  loop (m_ref07_Within_L1 y3 x1 y0 y1 y2) 0

noncomputable def m_ref07_choices_2_L1 (y1 : Int) (y0 : List T_Argument) (y2 : List T_Literal) (y3 : List Int) (rec_ref07_choices_2 : (List T_Argument) → Int → (List T_Literal) → (List Int) → Option (List (List Int))) (s1 : (List (List Int)) × Int) : Option (((List (List Int)) × Int) ⊕ (List (List Int))) :=
  if decide (s1.2 < y1) then
    (idx y0 s1.2).bind fun x2 =>
    (idx y2 (len y3)).bind fun x3 =>
    if x2.2.2.2 == x3 then
      (sub y3 0 (len y3)).bind fun x4 =>
      (app x4 ([s1.2] : List Int)).bind fun x5 =>
      (rec_ref07_choices_2 y0 y1 y2 x5).bind fun r1 =>
      (app s1.1 r1).bind fun x6 =>
      some (.inl (x6, w64 (s1.2 + 1)))
    else
      some (.inl (s1.1, w64 (s1.2 + 1)))
  else
    some (.inr s1.1)

noncomputable def F_ref07_choices_2 (rec_ref07_choices_2 : (List T_Argument) → Int → (List T_Literal) → (List Int) → Option (List (List Int))) (y0 : List T_Argument) (y1 : Int) (y2 : List T_Literal) (y3 : List Int) : Option (List (List Int)) :=
  if (len y3) == (len y2) then
    (app ([] : List Int) y3).bind fun x1 =>
    some ([x1] : List (List Int))
  else
    loop (m_ref07_choices_2_L1 y1 y0 y2 y3 rec_ref07_choices_2) (([] : List (List Int)), 0)

noncomputable def k_ref07_choices_2 : Nat → (List T_Argument) → Int → (List T_Literal) → (List Int) → Option (List (List Int))
  | 0 => fun _ _ _ _ => none
  | k + 1 => fun y0 y1 y2 y3 => F_ref07_choices_2 (k_ref07_choices_2 k) y0 y1 y2 y3

noncomputable def m_ref07_choices_2 (y0 : List T_Argument) (y1 : Int) (y2 : List T_Literal) (y3 : List Int) : Option (List (List Int)) := limM fun k => k_ref07_choices_2 k y0 y1 y2 y3

noncomputable def m_ref07_recent_L1 (y0 : List Int) (y1 : Int) (s1 : Int) : Option (Int ⊕ Bool) :=
  if decide (s1 < (len y0)) then
    (idx y0 s1).bind fun x1 =>
    if decide (y1 ≤ x1) then
      some (.inr true)
    else
      some (.inl (w64 (s1 + 1)))
  else
    some (.inr false)

noncomputable def m_ref07_recent (y0 : List Int) (y1 : Int) : Option Bool :=
  loop (m_ref07_recent_L1 y0 y1) 0

noncomputable def m_ref07_Build_L1 (y0 : T_Base) (s2 : (List T_Argument) × Int) : Option (((List T_Argument) × Int) ⊕ (List T_Argument)) :=
  if decide (s2.2 < (len y0.1)) then
    (idx y0.1 s2.2).bind fun x1 =>
    (app s2.1 ([(s2.2, (-1), ([] : List Int), x1.1)] : List T_Argument)).bind fun x2 =>
    some (.inl (x2, w64 (s2.2 + 1)))
  else
    some (.inr s2.1)

noncomputable def m_ref07_Build_L4 (r2 : (List (List Int))) (s3 : (List T_Argument) × Int × Int) (y0 : T_Base) (s4 : (List T_Argument) × Int) (s5 : (List T_Argument) × Int) : Option (((List T_Argument) × Int) ⊕ (((List T_Argument) × Int) ⊕ (((List T_Argument) × Int × Int) ⊕ ((List T_Argument) × Int)))) :=
  if decide (s5.2 < (len r2)) then
    (idx r2 s5.2).bind fun x4 =>
    (
      (m_ref07_recent x4 s3.2.1).bind fun r3 =>
      if !r3 then
        if decide (1 < s3.2.2) then
          some true
        else
          if decide (0 < (len x4)) then
            some true
          else
            (m_ref07_Within y0 s5.1 s4.2 x4).bind fun r4 =>
            some (!r4)
      else
        (m_ref07_Within y0 s5.1 s4.2 x4).bind fun r5 =>
        some (!r5) : Option Bool).bind fun s6 =>
    if s6 then
      some (.inl (s5.1, w64 (s5.2 + 1)))
    else
      (idx y0.2.1 s4.2).bind fun x5 =>
      (app s5.1 ([((-1), s4.2, x4, x5.2.2.2.2)] : List T_Argument)).bind fun x6 =>
      if decide (40 < (len x6)) then
        some (.inr (.inr (.inr (([] : List T_Argument), 2))))
      else
        some (.inl (x6, w64 (s5.2 + 1)))
  else
    some (.inr (.inl (s5.1, w64 (s4.2 + 1))))

noncomputable def m_ref07_Build_L3 (y0 : T_Base) (s3 : (List T_Argument) × Int × Int) (s4 : (List T_Argument) × Int) : Option (((List T_Argument) × Int) ⊕ (((List T_Argument) × Int × Int) ⊕ ((List T_Argument) × Int))) :=
  if decide (s4.2 < (len y0.2.1)) then
    (idx y0.2.1 s4.2).bind fun x3 =>
    (m_ref07_choices_2 s4.1 (len s3.1) x3.2.2.2.1 ([] : List Int)).bind fun r2 =>
    loop (m_ref07_Build_L4 r2 s3 y0 s4) (s4.1, 0)
  else
    some (.inr (.inl (s4.1, len s3.1, w64 (s3.2.2 + 1))))

noncomputable def m_ref07_Build_L2 (y0 : T_Base) (s3 : (List T_Argument) × Int × Int) : Option (((List T_Argument) × Int × Int) ⊕ ((List T_Argument) × Int)) :=
  if (s3.2.2 == 1) || (decide (s3.2.1 < (len s3.1))) then
    loop (m_ref07_Build_L3 y0 s3) (s3.1, 0)
  else
    some (.inr (s3.1, 0))

noncomputable def m_ref07_Build (y0 : T_Base) : Option ((List T_Argument) × Int) :=
  (m_ref05_Validate y0).bind fun r1 =>
  if r1 != 0 then
    some (([] : List T_Argument), r1)
  else
    (loop (m_ref07_Build_L1 y0) (([] : List T_Argument), 0) : Option (List T_Argument)).bind fun s1 =>
    loop (m_ref07_Build_L2 y0) (s1, 0, 1)

noncomputable def m_ref07_Conclusions_L1 (y1 : List Int) (y0 : List T_Argument) (s1 : (List T_Literal) × Int) : Option (((List T_Literal) × Int) ⊕ (List T_Literal)) :=
  if decide (s1.2 < (len y1)) then
    (
      (idx y1 s1.2).bind fun x1 =>
      if decide (0 ≤ x1) then
        (idx y1 s1.2).bind fun x2 =>
        some (decide (x2 < (len y0)))
      else
        some false : Option Bool).bind fun s2 =>
    if s2 then
      (idx y1 s1.2).bind fun x3 =>
      (idx y0 x3).bind fun x4 =>
      (m_ref01_Insert s1.1 x4.2.2.2).bind fun r1 =>
      some (.inl (r1, w64 (s1.2 + 1)))
    else
      some (.inl (s1.1, w64 (s1.2 + 1)))
  else
    some (.inr s1.1)

noncomputable def m_ref07_Conclusions (y0 : List T_Argument) (y1 : List Int) : Option (List T_Literal) :=
  loop (m_ref07_Conclusions_L1 y1 y0) (([] : List T_Literal), 0)

noncomputable def m_ref07_Premises_L1 (r1 : (List Int)) (y0 : List T_Argument) (s1 : (List Int) × Int) : Option (((List Int) × Int) ⊕ (List Int)) :=
  if decide (s1.2 < (len r1)) then
    (idx r1 s1.2).bind fun x1 =>
    (idx y0 x1).bind fun x2 =>
    if decide (0 ≤ x2.1) then
      (idx y0 x1).bind fun x3 =>
      (m_ref07_insert s1.1 x3.1).bind fun r2 =>
      some (.inl (r2, w64 (s1.2 + 1)))
    else
      some (.inl (s1.1, w64 (s1.2 + 1)))
  else
    some (.inr s1.1)

noncomputable def m_ref07_Premises (y0 : List T_Argument) (y1 : Int) : Option (List Int) :=
  (m_ref07_Subs y0 y1).bind fun r1 =>
  loop (m_ref07_Premises_L1 r1 y0) (([] : List Int), 0)

noncomputable def m_ref08_Assumes_L1 (r1 : (List Int)) (y0 : T_Base) (s1 : Int) : Option (Int ⊕ Bool) :=
  if decide (s1 < (len r1)) then
    (idx r1 s1).bind fun x1 =>
    (idx y0.1 x1).bind fun x2 =>
    if x2.2.1 == 3 then
      some (.inr true)
    else
      some (.inl (w64 (s1 + 1)))
  else
    some (.inr false)

noncomputable def m_ref08_Assumes (y0 : T_Base) (y1 : List T_Argument) (y2 : Int) : Option Bool :=
  (m_ref07_Premises y1 y2).bind fun r1 =>
  loop (m_ref08_Assumes_L1 r1 y0) 0

noncomputable def m_ref07_Last_L1 (y1 : List T_Argument) (y2 : Int) (rec_ref07_Last : T_Base → (List T_Argument) → Int → Option (List Int)) (y0 : T_Base) (s2 : (List Int) × Int) : Option (((List Int) × Int) ⊕ (List Int)) :=
  (idx y1 y2).bind fun x5 =>
  if decide (s2.2 < (len x5.2.2.1)) then
    (idx y1 y2).bind fun x6 =>
    (idx x6.2.2.1 s2.2).bind fun x7 =>
    (rec_ref07_Last y0 y1 x7).bind fun r1 =>
    (m_ref07_union s2.1 r1).bind fun r2 =>
    some (.inl (r2, w64 (s2.2 + 1)))
  else
    some (.inr s2.1)

noncomputable def F_ref07_Last (rec_ref07_Last : T_Base → (List T_Argument) → Int → Option (List Int)) (y0 : T_Base) (y1 : List T_Argument) (y2 : Int) : Option (List Int) :=
  (
    if decide (y2 < 0) then
      some true
    else
      if decide ((len y1) ≤ y2) then
        some true
      else
        (idx y1 y2).bind fun x1 =>
        some (decide (x1.2.1 < 0)) : Option Bool).bind fun s1 =>
  if s1 then
    some ([] : List Int)
  else
    (idx y1 y2).bind fun x2 =>
    (idx y0.2.1 x2.2.1).bind fun x3 =>
    if !x3.2.1 then
      (idx y1 y2).bind fun x4 =>
      some ([x4.2.1] : List Int)
    else
      loop (m_ref07_Last_L1 y1 y2 rec_ref07_Last y0) (([] : List Int), 0)

noncomputable def k_ref07_Last : Nat → T_Base → (List T_Argument) → Int → Option (List Int)
  | 0 => fun _ _ _ => none
  | k + 1 => fun y0 y1 y2 => F_ref07_Last (k_ref07_Last k) y0 y1 y2

noncomputable def m_ref07_Last (y0 : T_Base) (y1 : List T_Argument) (y2 : Int) : Option (List Int) := limM fun k => k_ref07_Last k y0 y1 y2

noncomputable def m_ref08_LastRanks_L1 (r1 : (List Int)) (y0 : T_Base) (s1 : (List Int) × Int) : Option (((List Int) × Int) ⊕ (List Int)) :=
  if decide (s1.2 < (len r1)) then
    (idx r1 s1.2).bind fun x1 =>
    (idx y0.2.1 x1).bind fun x2 =>
    (app s1.1 ([x2.2.2.1] : List Int)).bind fun x3 =>
    some (.inl (x3, w64 (s1.2 + 1)))
  else
    some (.inr s1.1)

noncomputable def m_ref08_LastRanks (y0 : T_Base) (y1 : List T_Argument) (y2 : Int) : Option (List Int) :=
  (m_ref07_Last y0 y1 y2).bind fun r1 =>
  loop (m_ref08_LastRanks_L1 r1 y0) (([] : List Int), 0)

noncomputable def m_ref08_PremiseRanks_L1 (r1 : (List Int)) (y0 : T_Base) (s1 : (List Int) × Int) : Option (((List Int) × Int) ⊕ (List Int)) :=
  if decide (s1.2 < (len r1)) then
    (idx r1 s1.2).bind fun x1 =>
    (idx y0.1 x1).bind fun x2 =>
    if x2.2.1 == 2 then
      (idx y0.1 x1).bind fun x3 =>
      (app s1.1 ([x3.2.2.1] : List Int)).bind fun x4 =>
      some (.inl (x4, w64 (s1.2 + 1)))
    else
      if x2.2.1 == 3 then
        (app s1.1 ([(-1)] : List Int)).bind fun x5 =>
        some (.inl (x5, w64 (s1.2 + 1)))
      else
        some (.inl (s1.1, w64 (s1.2 + 1)))
  else
    some (.inr s1.1)

noncomputable def m_ref08_PremiseRanks (y0 : T_Base) (y1 : List T_Argument) (y2 : Int) : Option (List Int) :=
  (m_ref07_Premises y1 y2).bind fun r1 =>
  loop (m_ref08_PremiseRanks_L1 r1 y0) (([] : List Int), 0)

noncomputable def m_ref08_RuleRanks_L1 (r1 : (List Int)) (y0 : T_Base) (s1 : (List Int) × Int) : Option (((List Int) × Int) ⊕ (List Int)) :=
  if decide (s1.2 < (len r1)) then
    (idx r1 s1.2).bind fun x1 =>
    (idx y0.2.1 x1).bind fun x2 =>
    (app s1.1 ([x2.2.2.1] : List Int)).bind fun x3 =>
    some (.inl (x3, w64 (s1.2 + 1)))
  else
    some (.inr s1.1)

noncomputable def m_ref08_RuleRanks (y0 : T_Base) (y1 : List T_Argument) (y2 : Int) : Option (List Int) :=
  (m_ref07_Defeasible y0 y1 y2).bind fun r1 =>
  loop (m_ref08_RuleRanks_L1 r1 y0) (([] : List Int), 0)

noncomputable def m_ref08_extremes_L1 (y0 : List Int) (s1 : Int × Int × Int) : Option ((Int × Int × Int) ⊕ (Int × Int)) :=
  if decide (s1.2.2 < (len y0)) then
    (idx y0 s1.2.2).bind fun x3 =>
    (idx y0 s1.2.2).bind fun x4 =>
    some (.inl (if x3 < s1.1 then x3 else s1.1, if x4 > s1.2.1 then x4 else s1.2.1, w64 (s1.2.2 + 1)))
  else
    some (.inr (s1.1, s1.2.1))

noncomputable def m_ref08_extremes (y0 : List Int) : Option (Int × Int) :=
  (idx y0 0).bind fun x1 =>
  (idx y0 0).bind fun x2 =>
  loop (m_ref08_extremes_L1 y0) (x1, x2, 1)

noncomputable def m_ref08_SetLess (y0 : List Int) (y1 : List Int) (y2 : Int) : Option Bool :=
  if if y2 != 1 then (y2 != 2) || ((len y0) == 0) else (len y0) == 0 then
    some false
  else
    if (len y1) == 0 then
      some true
    else
      (m_ref08_extremes y0).bind fun r1 =>
      (m_ref08_extremes y1).bind fun r2 =>
      if y2 == 1 then
        some (decide (r1.1 < r2.1))
      else
        some (decide (r1.2 < r2.2))

noncomputable def m_ref08_Less (y0 : T_Base) (y1 : List T_Argument) (y2 : Int) (y3 : Int) (y4 : T_Ordering) : Option Bool :=
  (
    if decide (y2 < 0) then
      some true
    else
      if decide ((len y1) ≤ y2) then
        some true
      else
        if decide (y3 < 0) then
          some true
        else
          if decide ((len y1) ≤ y3) then
            some true
          else
            (m_ref08_Assumes y0 y1 y3).bind fun r1 =>
            some r1 : Option Bool).bind fun s1 =>
  if s1 then
    some false
  else
    (m_ref08_PremiseRanks y0 y1 y2).bind fun r2 =>
    (m_ref08_PremiseRanks y0 y1 y3).bind fun r3 =>
    (m_ref08_SetLess r2 r3 y4.2).bind fun r4 =>
    if y4.1 == 1 then
      (m_ref08_LastRanks y0 y1 y2).bind fun r5 =>
      (m_ref08_LastRanks y0 y1 y3).bind fun r6 =>
      (
        (m_ref08_SetLess r5 r6 y4.2).bind fun r7 =>
        if r7 then
          some true
        else
          if (len r5) == 0 then
            if (len r6) == 0 then
              some r4
            else
              some false
          else
            some false : Option Bool).bind fun s2 =>
      some s2
    else
      if y4.1 == 2 then
        (m_ref08_RuleRanks y0 y1 y2).bind fun r8 =>
        (m_ref08_RuleRanks y0 y1 y3).bind fun r9 =>
        if ((len r8) == 0) && ((len r9) == 0) then
          some r4
        else
          (m_ref08_SetLess r8 r9 y4.2).bind fun r10 =>
          (
            (m_ref08_PremiseRanks y0 y1 y2).bind fun r11 =>
            if (len r11) == 0 then
              (m_ref08_PremiseRanks y0 y1 y3).bind fun r12 =>
              some ((len r12) == 0)
            else
              some false : Option Bool).bind fun s3 =>
          if s3 then
            some r10
          else
            some (r4 && r10)
      else
        some false

noncomputable def m_ref01_Complement (y0 : T_Literal) : Option T_Literal :=
  some (!y0.1, y0.2)

noncomputable def m_ref09_attacks (y0 : T_Base) (y1 : List T_Argument) (y2 : Int) (y3 : Int) (y4 : Int) : Option Bool :=
  (idx y1 y2).bind fun x1 =>
  (idx y1 y3).bind fun x2 =>
  (m_ref01_Complement x2.2.2.2).bind fun r1 =>
  (idx y1 y3).bind fun x3 =>
  if decide (x3.2.1 < 0) then
    (
      if y4 == 1 then
        (idx y1 y3).bind fun x4 =>
        (idx y0.1 x4.1).bind fun x5 =>
        if x5.2.1 != 1 then
          some (x1.2.2.2 == r1)
        else
          some false
      else
        some false : Option Bool).bind fun s1 =>
    some s1
  else
    (idx y1 y3).bind fun x6 =>
    (idx y0.2.1 x6.2.1).bind fun x7 =>
    if y4 == 2 then
      some ((!x7.2.1) && (x1.2.2.2 == r1))
    else
      if y4 == 3 then
        (
          if !x7.2.1 then
            (idx y1 y2).bind fun x8 =>
            some (x8.2.2.2 == (true, x7.1))
          else
            some false : Option Bool).bind fun s2 =>
        some s2
      else
        some false

noncomputable def m_ref09_Attacks_L4 (y0 : T_Base) (y1 : List T_Argument) (s1 : (List T_Attack) × Int) (x1 : Int) (s2 : (List T_Attack) × Int) (s3 : (List T_Attack) × Int) (s4 : (List T_Attack) × Int) : Option (((List T_Attack) × Int) ⊕ (((List T_Attack) × Int) ⊕ (((List T_Attack) × Int) ⊕ (((List T_Attack) × Int) ⊕ (List T_Attack))))) :=
  if decide (s4.2 ≤ 3) then
    (m_ref09_attacks y0 y1 s1.2 x1 s4.2).bind fun r2 =>
    if r2 then
      (app s4.1 ([(s1.2, s2.2, x1, s4.2)] : List T_Attack)).bind fun x2 =>
      some (.inl (x2, w64 (s4.2 + 1)))
    else
      some (.inl (s4.1, w64 (s4.2 + 1)))
  else
    some (.inr (.inl (s4.1, w64 (s3.2 + 1))))

noncomputable def m_ref09_Attacks_L3 (r1 : (List Int)) (y0 : T_Base) (y1 : List T_Argument) (s1 : (List T_Attack) × Int) (s2 : (List T_Attack) × Int) (s3 : (List T_Attack) × Int) : Option (((List T_Attack) × Int) ⊕ (((List T_Attack) × Int) ⊕ (((List T_Attack) × Int) ⊕ (List T_Attack)))) :=
  if decide (s3.2 < (len r1)) then
    (idx r1 s3.2).bind fun x1 =>
    loop (m_ref09_Attacks_L4 y0 y1 s1 x1 s2 s3) (s3.1, 1)
  else
    some (.inr (.inl (s3.1, w64 (s2.2 + 1))))

noncomputable def m_ref09_Attacks_L2 (y1 : List T_Argument) (y0 : T_Base) (s1 : (List T_Attack) × Int) (s2 : (List T_Attack) × Int) : Option (((List T_Attack) × Int) ⊕ (((List T_Attack) × Int) ⊕ (List T_Attack))) :=
  if decide (s2.2 < (len y1)) then
    (m_ref07_Subs y1 s2.2).bind fun r1 =>
    loop (m_ref09_Attacks_L3 r1 y0 y1 s1 s2) (s2.1, 0)
  else
    some (.inr (.inl (s2.1, w64 (s1.2 + 1))))

noncomputable def m_ref09_Attacks_L1 (y1 : List T_Argument) (y0 : T_Base) (s1 : (List T_Attack) × Int) : Option (((List T_Attack) × Int) ⊕ (List T_Attack)) :=
  if decide (s1.2 < (len y1)) then
    loop (m_ref09_Attacks_L2 y1 y0 s1) (s1.1, 0)
  else
    some (.inr s1.1)

noncomputable def m_ref09_Attacks (y0 : T_Base) (y1 : List T_Argument) : Option (List T_Attack) :=
  loop (m_ref09_Attacks_L1 y1 y0) (([] : List T_Attack), 0)

noncomputable def m_ref09_Defeats_L1 (r1 : (List T_Attack)) (y0 : T_Base) (y1 : List T_Argument) (y2 : T_Ordering) (s1 : (List T_Attack) × Int) : Option (((List T_Attack) × Int) ⊕ (List T_Attack)) :=
  if decide (s1.2 < (len r1)) then
    (
      (idx r1 s1.2).bind fun x1 =>
      if x1.2.2.2 == 3 then
        some true
      else
        (idx r1 s1.2).bind fun x2 =>
        (idx r1 s1.2).bind fun x3 =>
        (m_ref08_Less y0 y1 x2.1 x3.2.2.1 y2).bind fun r2 =>
        some (!r2) : Option Bool).bind fun s2 =>
    if s2 then
      (idx r1 s1.2).bind fun x4 =>
      (app s1.1 ([x4] : List T_Attack)).bind fun x5 =>
      some (.inl (x5, w64 (s1.2 + 1)))
    else
      some (.inl (s1.1, w64 (s1.2 + 1)))
  else
    some (.inr s1.1)

noncomputable def m_ref09_Defeats (y0 : T_Base) (y1 : List T_Argument) (y2 : T_Ordering) : Option (List T_Attack) :=
  (m_ref09_Attacks y0 y1).bind fun r1 =>
  loop (m_ref09_Defeats_L1 r1 y0 y1 y2) (([] : List T_Attack), 0)

noncomputable def m_ref09_Graph_L1 (y1 : List T_Attack) (y0 : Int) (s2 : Int) : Option (Int ⊕ (Unit ⊕ (T_Graph × Int))) :=
  if decide (s2 < (len y1)) then
    (
      (idx y1 s2).bind fun x1 =>
      if decide (x1.1 < 0) then
        some true
      else
        (idx y1 s2).bind fun x2 =>
        if decide (y0 ≤ x2.1) then
          some true
        else
          (idx y1 s2).bind fun x3 =>
          if decide (x3.2.1 < 0) then
            some true
          else
            (idx y1 s2).bind fun x4 =>
            some (decide (y0 ≤ x4.2.1)) : Option Bool).bind fun s3 =>
    if s3 then
      some (.inr (.inr ((0, ([] : List T_Pair)), 1)))
    else
      some (.inl (w64 (s2 + 1)))
  else
    some (.inr (.inl ()))

noncomputable def m_ref09_Graph_L4 (y1 : List T_Attack) (s5 : Int × (List T_Pair)) (s6 : Int × (List T_Pair)) (s8 : Bool × Int) : Option ((Bool × Int) ⊕ Bool) :=
  if decide (s8.2 < (len y1)) then
    (
      if s8.1 then
        some true
      else
        (idx y1 s8.2).bind fun x5 =>
        if x5.1 == s5.1 then
          (idx y1 s8.2).bind fun x6 =>
          some (x6.2.1 == s6.1)
        else
          some false : Option Bool).bind fun s9 =>
    some (.inl (s9, w64 (s8.2 + 1)))
  else
    some (.inr s8.1)

noncomputable def m_ref09_Graph_L3 (y0 : Int) (y1 : List T_Attack) (s5 : Int × (List T_Pair)) (s6 : Int × (List T_Pair)) : Option ((Int × (List T_Pair)) ⊕ ((Int × (List T_Pair)) ⊕ (List T_Pair))) :=
  if decide (s6.1 < y0) then
    (loop (m_ref09_Graph_L4 y1 s5 s6) (false, 0) : Option Bool).bind fun s7 =>
    if s7 then
      (app s6.2 ([(s5.1, s6.1)] : List T_Pair)).bind fun x7 =>
      some (.inl (w64 (s6.1 + 1), x7))
    else
      some (.inl (w64 (s6.1 + 1), s6.2))
  else
    some (.inr (.inl (w64 (s5.1 + 1), s6.2)))

noncomputable def m_ref09_Graph_L2 (y0 : Int) (y1 : List T_Attack) (s5 : Int × (List T_Pair)) : Option ((Int × (List T_Pair)) ⊕ (List T_Pair)) :=
  if decide (s5.1 < y0) then
    loop (m_ref09_Graph_L3 y0 y1 s5) (0, s5.2)
  else
    some (.inr s5.2)

noncomputable def m_ref09_Graph (y0 : Int) (y1 : List T_Attack) : Option (T_Graph × Int) :=
  if (decide (y0 < 0)) || (decide (40 < y0)) then
    some ((0, ([] : List T_Pair)), 1)
  else
    seqE (loop (m_ref09_Graph_L1 y1 y0) 0 : Option (Unit ⊕ (T_Graph × Int))) fun _ =>
    (loop (m_ref09_Graph_L2 y0 y1) (0, ([] : List T_Pair)) : Option (List T_Pair)).bind fun s4 =>
    some ((y0, s4), 0)

noncomputable def m_ref11_With_L1 (y0 : List Int) (y1 : Int) (s1 : (List Int) × Int) : Option (((List Int) × Int) ⊕ (List Int)) :=
  if decide (s1.2 < (len y0)) then
    (idx y0 s1.2).bind fun x1 =>
    if x1 == y1 then
      (app s1.1 ([s1.2] : List Int)).bind fun x2 =>
      some (.inl (x2, w64 (s1.2 + 1)))
    else
      some (.inl (s1.1, w64 (s1.2 + 1)))
  else
    some (.inr s1.1)

noncomputable def m_ref11_With (y0 : List Int) (y1 : Int) : Option (List Int) :=
  loop (m_ref11_With_L1 y0 y1) (([] : List Int), 0)

noncomputable def m_ref10_Validate_L1 (y0 : T_Graph) (s1 : Int) : Option (Int ⊕ Int) :=
  if decide (s1 < (len y0.2)) then
    (idx y0.2 s1).bind fun x1 =>
    if (decide (x1.1 < 0)) || ((decide (y0.1 ≤ x1.1)) || ((decide (x1.2 < 0)) || (decide (y0.1 ≤ x1.2)))) then
      some (.inr 1)
    else
      (
        if decide (0 < s1) then
          (idx y0.2 (w64 (s1 - 1))).bind fun x2 =>
          if decide (x1.1 < x2.1) then
            some true
          else
            (idx y0.2 (w64 (s1 - 1))).bind fun x3 =>
            if x3.1 == x1.1 then
              (idx y0.2 (w64 (s1 - 1))).bind fun x4 =>
              some (decide (x1.2 ≤ x4.2))
            else
              some false
        else
          some false : Option Bool).bind fun s2 =>
      if s2 then
        some (.inr 8)
      else
        some (.inl (w64 (s1 + 1)))
  else
    some (.inr 0)

noncomputable def m_ref10_Validate (y0 : T_Graph) : Option Int :=
  if (decide (y0.1 < 0)) || (decide (40 < y0.1)) then
    some 1
  else
    loop (m_ref10_Validate_L1 y0) 0

noncomputable def m_ref10_Valid (y0 : T_Graph) : Option T_Graph :=
  (m_ref10_Validate y0).bind fun r1 =>
  if r1 != 0 then
    some (0, ([] : List T_Pair))
  else
    some y0

noncomputable def m_ref10_Attackers_L1 (r1 : T_Graph) (y1 : Int) (s1 : (List Int) × Int) : Option (((List Int) × Int) ⊕ (List Int)) :=
  if decide (s1.2 < (len r1.2)) then
    (idx r1.2 s1.2).bind fun x1 =>
    if x1.2 == y1 then
      (idx r1.2 s1.2).bind fun x2 =>
      (app s1.1 ([x2.1] : List Int)).bind fun x3 =>
      some (.inl (x3, w64 (s1.2 + 1)))
    else
      some (.inl (s1.1, w64 (s1.2 + 1)))
  else
    some (.inr s1.1)

noncomputable def m_ref10_Attackers (y0 : T_Graph) (y1 : Int) : Option (List Int) :=
  (m_ref10_Valid y0).bind fun r1 =>
  loop (m_ref10_Attackers_L1 r1 y1) (([] : List Int), 0)

noncomputable def m_ref12_build_L1 (y0 : T_Graph) (s2 : (List Int) × (List Int) × Int) : Option (((List Int) × (List Int) × Int) ⊕ ((List Int) × (List Int))) :=
  if decide (s2.2.2 < y0.1) then
    (app s2.1 ([3] : List Int)).bind fun x1 =>
    (app s2.2.1 ([0] : List Int)).bind fun x2 =>
    some (.inl (x1, x2, w64 (s2.2.2 + 1)))
  else
    some (.inr (s2.1, s2.2.1))

noncomputable def m_ref12_build_L4 (r1 : (List Int)) (x3 : List Int) (s7 : Bool × Int) : Option ((Bool × Int) ⊕ Bool) :=
  if decide (s7.2 < (len r1)) then
    (idx r1 s7.2).bind fun x5 =>
    (
      if s7.1 then
        (idx x3 x5).bind fun x6 =>
        some (x6 == 2)
      else
        some false : Option Bool).bind fun s8 =>
    some (.inl (s8, w64 (s7.2 + 1)))
  else
    some (.inr s7.1)

noncomputable def m_ref12_build_L3 (y0 : T_Graph) (x3 : List Int) (s3 : (List Int) × (List Int) × Int) (s5 : (List Int) × (List Int) × Bool × Int) : Option (((List Int) × (List Int) × Bool × Int) ⊕ ((List Int) × (List Int) × Bool)) :=
  if decide (s5.2.2.2 < y0.1) then
    (idx x3 s5.2.2.2).bind fun x4 =>
    (
      (m_ref10_Attackers y0 s5.2.2.2).bind fun r1 =>
      loop (m_ref12_build_L4 r1 x3) (x4 == 3, 0) : Option Bool).bind fun s6 =>
    if s6 then
      (idx s5.1 s5.2.2.2).bind fun _ =>
      (idx s5.2.1 s5.2.2.2).bind fun _ =>
      some (.inl (List.set s5.1 (Int.toNat s5.2.2.2) 1, List.set s5.2.1 (Int.toNat s5.2.2.2) s3.2.2, true, w64 (s5.2.2.2 + 1)))
    else
      some (.inl (s5.1, s5.2.1, s5.2.2.1, w64 (s5.2.2.2 + 1)))
  else
    some (.inr (s5.1, s5.2.1, s5.2.2.1))

noncomputable def m_ref12_build_L6 (r2 : (List Int)) (s10 : (List Int) × (List Int) × Int) (s3 : (List Int) × (List Int) × Int) (s11 : (List Int) × (List Int) × Int) : Option (((List Int) × (List Int) × Int) ⊕ (((List Int) × (List Int) × Int) ⊕ ((List Int) × (List Int)))) :=
  if decide (s11.2.2 < (len r2)) then
    (idx r2 s11.2.2).bind fun x9 =>
    (
      (idx s11.1 s10.2.2).bind fun x10 =>
      if x10 == 3 then
        (idx s11.1 x9).bind fun x11 =>
        if x11 == 1 then
          (idx s11.2.1 x9).bind fun x12 =>
          some (x12 == s3.2.2)
        else
          some false
      else
        some false : Option Bool).bind fun s12 =>
    if s12 then
      (idx s11.1 s10.2.2).bind fun _ =>
      (idx s11.2.1 s10.2.2).bind fun _ =>
      some (.inl (List.set s11.1 (Int.toNat s10.2.2) 2, List.set s11.2.1 (Int.toNat s10.2.2) s3.2.2, w64 (s11.2.2 + 1)))
    else
      some (.inl (s11.1, s11.2.1, w64 (s11.2.2 + 1)))
  else
    some (.inr (.inl (s11.1, s11.2.1, w64 (s10.2.2 + 1))))

noncomputable def m_ref12_build_L5 (y0 : T_Graph) (s3 : (List Int) × (List Int) × Int) (s10 : (List Int) × (List Int) × Int) : Option (((List Int) × (List Int) × Int) ⊕ ((List Int) × (List Int))) :=
  if decide (s10.2.2 < y0.1) then
    (m_ref10_Attackers y0 s10.2.2).bind fun r2 =>
    loop (m_ref12_build_L6 r2 s10 s3) (s10.1, s10.2.1, 0)
  else
    some (.inr (s10.1, s10.2.1))

noncomputable def m_ref12_build_L2 (y0 : T_Graph) (s3 : (List Int) × (List Int) × Int) : Option (((List Int) × (List Int) × Int) ⊕ ((List Int) × (List Int))) :=
  (app ([] : List Int) s3.1).bind fun x3 =>
  (loop (m_ref12_build_L3 y0 x3 s3) (s3.1, s3.2.1, false, 0) : Option ((List Int) × (List Int) × Bool)).bind fun s4 =>
  (loop (m_ref12_build_L5 y0 s3) (s4.1, s4.2.1, 0) : Option ((List Int) × (List Int))).bind fun s9 =>
  if !s4.2.2 then
    some (.inr (s9.1, s9.2))
  else
    some (.inl (s9.1, s9.2, w64 (s3.2.2 + 1)))

noncomputable def m_ref12_build (y0 : T_Graph) : Option ((List Int) × (List Int)) :=
  (loop (m_ref12_build_L1 y0) (([] : List Int), ([] : List Int), 0) : Option ((List Int) × (List Int))).bind fun s1 =>
  loop (m_ref12_build_L2 y0) (s1.1, s1.2, 1)

noncomputable def m_ref12_Label (y0 : T_Graph) : Option (List Int) :=
  (m_ref12_build y0).bind fun r1 =>
  some r1.1

noncomputable def m_ref20_Compile (y0 : T_Base) (y1 : T_Ordering) : Option (T_Compiled × Int) :=
  (m_ref07_Build y0).bind fun r1 =>
  if r1.2 != 0 then
    some (((([] : List T_Premise), ([] : List T_Rule), ([] : List T_Promotion)), ([] : List T_Argument), ([] : List T_Attack), (0, ([] : List T_Pair))), r1.2)
  else
    if if y1.1 != 1 then (y1.1 != 2) || ((y1.2 != 1) && (y1.2 != 2)) else (y1.2 != 1) && (y1.2 != 2) then
      some (((([] : List T_Premise), ([] : List T_Rule), ([] : List T_Promotion)), ([] : List T_Argument), ([] : List T_Attack), (0, ([] : List T_Pair))), 4)
    else
      (m_ref09_Defeats y0 r1.1 y1).bind fun r2 =>
      (m_ref09_Graph (len r1.1) r2).bind fun r3 =>
      (m_ref12_Label r3.1).bind fun r4 =>
      (m_ref11_With r4 1).bind fun r5 =>
      (m_ref07_Conclusions r1.1 r5).bind fun r6 =>
      (m_ref05_Promote y0 r6).bind fun r7 =>
      (m_ref09_Defeats r7 r1.1 y1).bind fun r8 =>
      (m_ref09_Graph (len r1.1) r8).bind fun r9 =>
      some ((r7, r1.1, r8, r9.1), 0)

noncomputable def m_ref42_Claims_L1 (y0 : T_Compiled) (s2 : (List T_Literal) × Int) : Option (((List T_Literal) × Int) ⊕ (List T_Literal)) :=
  if decide (s2.2 < (len y0.2.1)) then
    (idx y0.2.1 s2.2).bind fun x1 =>
    (app s2.1 ([x1.2.2.2] : List T_Literal)).bind fun x2 =>
    some (.inl (x2, w64 (s2.2 + 1)))
  else
    some (.inr s2.1)

noncomputable def m_ref42_Claims_L3 (y0 : T_Compiled) (x3 : T_Literal) (r1 : (List Int)) (s5 : Bool × Bool × Int) : Option ((Bool × Bool × Int) ⊕ (Bool × Bool)) :=
  if decide (s5.2.2 < (len y0.2.1)) then
    (idx y0.2.1 s5.2.2).bind fun x4 =>
    if x4.2.2.2 == x3 then
      (
        if s5.1 then
          some true
        else
          (idx r1 s5.2.2).bind fun x5 =>
          some (x5 == 1) : Option Bool).bind fun s6 =>
      (
        if s5.2.1 then
          (idx r1 s5.2.2).bind fun x6 =>
          some (x6 == 2)
        else
          some false : Option Bool).bind fun s7 =>
      some (.inl (s6, s7, w64 (s5.2.2 + 1)))
    else
      some (.inl (s5.1, s5.2.1, w64 (s5.2.2 + 1)))
  else
    some (.inr (s5.1, s5.2.1))

noncomputable def m_ref42_Claims_L2 (r2 : (List T_Literal)) (y0 : T_Compiled) (r1 : (List Int)) (s3 : (List Str) × Int) : Option (((List Str) × Int) ⊕ (List Str)) :=
  if decide (s3.2 < (len r2)) then
    (idx r2 s3.2).bind fun x3 =>
    (loop (m_ref42_Claims_L3 y0 x3 r1) (false, true, 0) : Option (Bool × Bool)).bind fun s4 =>
    (
      if s4.1 then
        some [32, 97, 99, 99, 101, 112, 116, 101, 100]
      else
        if s4.2 then
          some [32, 114, 101, 106, 101, 99, 116, 101, 100]
        else
          some [32, 111, 112, 101, 110] : Option Str).bind fun s8 =>
    (m_ref01_Format x3).bind fun r3 =>
    (cat r3 s8).bind fun x7 =>
    (app s3.1 ([x7] : List Str)).bind fun x8 =>
    some (.inl (x8, w64 (s3.2 + 1)))
  else
    some (.inr s3.1)

noncomputable def m_ref42_Claims (y0 : T_Compiled) : Option (List Str) :=
  (m_ref12_Label y0.2.2.2).bind fun r1 =>
  (loop (m_ref42_Claims_L1 y0) (([] : List T_Literal), 0) : Option (List T_Literal)).bind fun s1 =>
  (m_ref01_Normal s1).bind fun r2 =>
  loop (m_ref42_Claims_L2 r2 y0 r1) (([] : List Str), 0)

noncomputable def m_math_bits_TrailingZeros64 (y0 : Int) : Option Int :=
  if y0 == 0 then
    some 64
  else
    (idx tab_math_bits_deBruijn64tab (shr .u64 (IntKind.u64.wrap ((band .u64 y0 (IntKind.u64.wrap (0 - y0))) * 285870213051353865)) 58)).bind fun x1 =>
    some (w64 (x1))

noncomputable def m_graph_list_L1 (s1 : Int × (List Int)) : Option ((Int × (List Int)) ⊕ (List Int)) :=
  if s1.1 != 0 then
    (m_math_bits_TrailingZeros64 s1.1).bind fun r1 =>
    (app s1.2 ([r1] : List Int)).bind fun x1 =>
    some (.inl (band .u64 s1.1 (IntKind.u64.wrap (s1.1 - 1)), x1))
  else
    some (.inr s1.2)

noncomputable def m_graph_list (y0 : Int) : Option (List Int) :=
  loop (m_graph_list_L1) (y0, ([] : List Int))

noncomputable def m_graph_masks_L1 (y0 : T_Graph) (s1 : (List Int) × Int) : Option (((List Int) × Int) ⊕ (List Int)) :=
  if decide (s1.2 < (len y0.2)) then
    (idx y0.2 s1.2).bind fun x2 =>
    (idx s1.1 x2.1).bind fun x3 =>
    (shlK .u64 1 x2.2).bind fun x4 =>
    (idx s1.1 x2.1).bind fun _ =>
    some (.inl (List.set s1.1 (Int.toNat x2.1) (bor .u64 x3 x4), w64 (s1.2 + 1)))
  else
    some (.inr s1.1)

noncomputable def m_graph_masks (y0 : T_Graph) : Option (List Int) :=
  (mkS y0.1 y0.1 (0 : Int)).bind fun x1 =>
  loop (m_graph_masks_L1 y0) (x1, 0)

noncomputable def m_cmp_isNaN_int (y0 : Int) : Option Bool :=
  some (y0 != y0)

noncomputable def m_cmp_Compare_int (y0 : Int) (y1 : Int) : Option Int :=
  (m_cmp_isNaN_int y0).bind fun r1 =>
  (m_cmp_isNaN_int y1).bind fun r2 =>
  if r1 then
    if r2 then
      some 0
    else
      some (-1)
  else
    if r2 then
      some 1
    else
      if decide (y0 < y1) then
        some (-1)
      else
        if decide (y1 < y0) then
          some 1
        else
          some 0

noncomputable def m_cmp_Or_int_L1 (y0 : List Int) (s1 : Int) : Option (Int ⊕ Int) :=
  if decide (s1 < (len y0)) then
    (idx y0 s1).bind fun x1 =>
    if x1 != 0 then
      some (.inr x1)
    else
      some (.inl (w64 (s1 + 1)))
  else
    some (.inr 0)

noncomputable def m_cmp_Or_int (y0 : List Int) : Option Int :=
  loop (m_cmp_Or_int_L1 y0) 0

noncomputable def m_graph_compare (y0 : T_Pair) (y1 : T_Pair) : Option Int :=
  (m_cmp_Compare_int y0.1 y1.1).bind fun r1 =>
  (m_cmp_Compare_int y0.2 y1.2).bind fun r2 =>
  (m_cmp_Or_int ([r1, r2] : List Int)).bind fun r3 =>
  some r3

noncomputable def m_graph_Validate_L1 (y0 : T_Graph) (s1 : Int) : Option (Int ⊕ Int) :=
  if decide (s1 < (len y0.2)) then
    (idx y0.2 s1).bind fun x1 =>
    if (decide ((if x1.2 < x1.1 then x1.2 else x1.1) < 0)) || (decide (y0.1 ≤ (if x1.2 > x1.1 then x1.2 else x1.1))) then
      some (.inr 1)
    else
      (
        if decide (0 < s1) then
          (idx y0.2 (w64 (s1 - 1))).bind fun x2 =>
          (m_graph_compare x2 x1).bind fun r1 =>
          some (decide (0 ≤ r1))
        else
          some false : Option Bool).bind fun s2 =>
      if s2 then
        some (.inr 8)
      else
        some (.inl (w64 (s1 + 1)))
  else
    some (.inr 0)

noncomputable def m_graph_Validate (y0 : T_Graph) : Option Int :=
  if (decide (y0.1 < 0)) || (decide (40 < y0.1)) then
    some 1
  else
    loop (m_graph_Validate_L1 y0) 0

noncomputable def m_graph_proper (y0 : T_Graph) : Option T_Graph :=
  (m_graph_Validate y0).bind fun r1 =>
  if r1 != 0 then
    some (0, ([] : List T_Pair))
  else
    some y0

noncomputable def m_graph_Attacked (y0 : T_Graph) (y1 : Int) : Option (List Int) :=
  (m_graph_proper y0).bind fun r1 =>
  if (decide (y1 < 0)) || (decide (r1.1 ≤ y1)) then
    some ([] : List Int)
  else
    (m_graph_masks r1).bind fun r2 =>
    (idx r2 y1).bind fun x1 =>
    (m_graph_list x1).bind fun r3 =>
    some r3

noncomputable def m_math_bits_Mul64 (y0 : Int) (y1 : Int) : Option (Int × Int) :=
  some (IntKind.u64.wrap ((IntKind.u64.wrap ((IntKind.u64.wrap ((shr .u64 y0 32) * (shr .u64 y1 32))) + (shr .u64 (IntKind.u64.wrap ((IntKind.u64.wrap ((shr .u64 y0 32) * (band .u64 y1 4294967295))) + (shr .u64 (IntKind.u64.wrap ((band .u64 y0 4294967295) * (band .u64 y1 4294967295))) 32))) 32))) + (shr .u64 (IntKind.u64.wrap ((band .u64 (IntKind.u64.wrap ((IntKind.u64.wrap ((shr .u64 y0 32) * (band .u64 y1 4294967295))) + (shr .u64 (IntKind.u64.wrap ((band .u64 y0 4294967295) * (band .u64 y1 4294967295))) 32))) 4294967295) + (IntKind.u64.wrap ((band .u64 y0 4294967295) * (shr .u64 y1 32))))) 32)), IntKind.u64.wrap (y0 * y1))

noncomputable def m_math_bits_Mul (y0 : Int) (y1 : Int) : Option (Int × Int) :=
  (m_math_bits_Mul64 y0 y1).bind fun r1 =>
  some (r1.1, r1.2)

noncomputable def m_slices_Repeat_int_L1 (x1 : List Int) (s3 : (List Int) × Int) : Option (((List Int) × Int) ⊕ (List Int)) :=
  if decide (s3.2 < (len x1)) then
    (chk (decide (0 ≤ s3.2) && decide (s3.2 ≤ len s3.1))).bind fun _ =>
    (sub s3.1 0 s3.2).bind fun x2 =>
    some (.inl (copyAt s3.1 s3.2 x2, w64 (s3.2 + ((Nat.min (List.length x2) (Int.toNat (((List.length x1 : Nat) : Int) - s3.2)) : Nat) : Int))))
  else
    some (.inr s3.1)

noncomputable def m_slices_Repeat_int (y0 : List Int) (y1 : Int) : Option (List Int) :=
  (
    if decide (y1 < 0) then
      none
    else
      some () : Option Unit).bind fun _ =>
  (m_math_bits_Mul (IntKind.u64.wrap (len y0)) (IntKind.u64.wrap (y1))).bind fun r1 =>
  (
    if (decide (0 < r1.1)) || (decide (9223372036854775807 < r1.2)) then
      none
    else
      some () : Option Unit).bind fun _ =>
  (mkS (w64 (r1.2)) (w64 (r1.2)) (0 : Int)).bind fun x1 =>
  loop (m_slices_Repeat_int_L1 x1) (copyAt x1 0 y0, ((Nat.min (List.length y0) (List.length x1) : Nat) : Int))

noncomputable def m_grounded_build_L1 (y0 : T_Graph) (s3 : Int × (List Int)) : Option ((Int × (List Int)) ⊕ (List Int)) :=
  if decide (s3.1 < (len y0.2)) then
    (idx y0.2 s3.1).bind fun x4 =>
    (chk (decide (0 ≤ x4.2) && decide (x4.2 < 40))).bind fun _ =>
    (chk (decide (0 ≤ x4.2) && decide (x4.2 < 40))).bind fun _ =>
    some (.inl (w64 (s3.1 + 1), aput 40 s3.2 x4.2 (w64 ((aget s3.2 x4.2) + 1))))
  else
    some (.inr s3.2)

noncomputable def m_grounded_build_L2 (y0 : T_Graph) (s2 : (List Int)) (s5 : (List Int) × Int) : Option (((List Int) × Int) ⊕ (List Int)) :=
  if decide (s5.2 < y0.1) then
    (chk (decide (0 ≤ s5.2) && decide (s5.2 < 40))).bind fun _ =>
    if (aget s2 s5.2) == 0 then
      (app s5.1 ([s5.2] : List Int)).bind fun x5 =>
      some (.inl (x5, w64 (s5.2 + 1)))
    else
      some (.inl (s5.1, w64 (s5.2 + 1)))
  else
    some (.inr s5.1)

noncomputable def m_grounded_build_L4 (s6 : (List Int) × (List Int) × (List Int) × Int × (List Int)) (s8 : (List Int) × (List Int) × Int) : Option (((List Int) × (List Int) × Int) ⊕ ((List Int) × (List Int))) :=
  if decide (s8.2.2 < (len s6.2.2.1)) then
    (idx s6.2.2.1 s8.2.2).bind fun x6 =>
    (idx s8.1 x6).bind fun _ =>
    (idx s8.2.1 x6).bind fun _ =>
    some (.inl (List.set s8.1 (Int.toNat x6) 1, List.set s8.2.1 (Int.toNat x6) s6.2.2.2.1, w64 (s8.2.2 + 1)))
  else
    some (.inr (s8.1, s8.2.1))

noncomputable def m_grounded_build_L7 (r5 : (List Int)) (s10 : (List Int) × (List Int) × (List Int) × Int × (List Int)) (x10 : Int) (s6 : (List Int) × (List Int) × (List Int) × Int × (List Int)) (s11 : (List Int) × Int × (List Int)) : Option (((List Int) × Int × (List Int)) ⊕ (((List Int) × (List Int) × (List Int) × Int × (List Int)) ⊕ (((List Int) × (List Int) × (List Int) × Int × (List Int)) ⊕ (((List Int) × (List Int) × (List Int) × Int × (List Int)) ⊕ ((List Int) × (List Int)))))) :=
  if decide (s11.2.1 < (len r5)) then
    (idx r5 s11.2.1).bind fun x14 =>
    (chk (decide (0 ≤ x14) && decide (x14 < 40))).bind fun _ =>
    (chk (decide (0 ≤ x14) && decide (x14 < 40))).bind fun _ =>
    (
      (chk (decide (0 ≤ x14) && decide (x14 < 40))).bind fun _ =>
      if (aget (aput 40 s11.2.2 x14 (w64 ((aget s11.2.2 x14) - 1))) x14) == 0 then
        (idx (List.set s10.1 (Int.toNat x10) 2) x14).bind fun x15 =>
        some (x15 == 3)
      else
        some false : Option Bool).bind fun s12 =>
    if s12 then
      (app s11.1 ([x14] : List Int)).bind fun x16 =>
      some (.inl (x16, w64 (s11.2.1 + 1), aput 40 s11.2.2 x14 (w64 ((aget s11.2.2 x14) - 1))))
    else
      some (.inl (s11.1, w64 (s11.2.1 + 1), aput 40 s11.2.2 x14 (w64 ((aget s11.2.2 x14) - 1))))
  else
    some (.inr (.inl (List.set s10.1 (Int.toNat x10) 2, List.set s10.2.1 (Int.toNat x10) s6.2.2.2.1, s11.1, w64 (s10.2.2.2.1 + 1), s11.2.2)))

noncomputable def m_grounded_build_L6 (r4 : (List Int)) (y0 : T_Graph) (s6 : (List Int) × (List Int) × (List Int) × Int × (List Int)) (s9 : (List Int) × (List Int) × (List Int) × Int × (List Int)) (s10 : (List Int) × (List Int) × (List Int) × Int × (List Int)) : Option (((List Int) × (List Int) × (List Int) × Int × (List Int)) ⊕ (((List Int) × (List Int) × (List Int) × Int × (List Int)) ⊕ (((List Int) × (List Int) × (List Int) × Int × (List Int)) ⊕ ((List Int) × (List Int))))) :=
  if decide (s10.2.2.2.1 < (len r4)) then
    (idx r4 s10.2.2.2.1).bind fun x10 =>
    (idx s10.1 x10).bind fun x11 =>
    if x11 != 3 then
      some (.inl (s10.1, s10.2.1, s10.2.2.1, w64 (s10.2.2.2.1 + 1), s10.2.2.2.2))
    else
      (idx s10.1 x10).bind fun _ =>
      (idx s10.2.1 x10).bind fun _ =>
      (m_graph_Attacked y0 x10).bind fun r5 =>
      loop (m_grounded_build_L7 r5 s10 x10 s6) (s10.2.2.1, 0, s10.2.2.2.2)
  else
    some (.inr (.inl (s10.1, s10.2.1, s10.2.2.1, w64 (s9.2.2.2.1 + 1), s10.2.2.2.2)))

noncomputable def m_grounded_build_L5 (s6 : (List Int) × (List Int) × (List Int) × Int × (List Int)) (y0 : T_Graph) (s9 : (List Int) × (List Int) × (List Int) × Int × (List Int)) : Option (((List Int) × (List Int) × (List Int) × Int × (List Int)) ⊕ (((List Int) × (List Int) × (List Int) × Int × (List Int)) ⊕ ((List Int) × (List Int)))) :=
  if decide (s9.2.2.2.1 < (len s6.2.2.1)) then
    (idx s6.2.2.1 s9.2.2.2.1).bind fun x9 =>
    (m_graph_Attacked y0 x9).bind fun r4 =>
    loop (m_grounded_build_L6 r4 y0 s6 s9) (s9.1, s9.2.1, s9.2.2.1, 0, s9.2.2.2.2)
  else
    some (.inr (.inl (s9.1, s9.2.1, s9.2.2.1, w64 (s6.2.2.2.1 + 1), s9.2.2.2.2)))

noncomputable def m_grounded_build_L3 (y0 : T_Graph) (s6 : (List Int) × (List Int) × (List Int) × Int × (List Int)) : Option (((List Int) × (List Int) × (List Int) × Int × (List Int)) ⊕ ((List Int) × (List Int))) :=
  if decide (0 < (len s6.2.2.1)) then
    (loop (m_grounded_build_L4 s6) (s6.1, s6.2.1, 0) : Option ((List Int) × (List Int))).bind fun s7 =>
    loop (m_grounded_build_L5 s6 y0) (s7.1, s7.2, ([] : List Int), 0, s6.2.2.2.2)
  else
    some (.inr (s6.1, s6.2.1))

noncomputable def m_grounded_build (y0 : T_Graph) : Option ((List Int) × (List Int)) :=
  (
    (m_slices_Repeat_int ([3] : List Int) y0.1).bind fun r1 =>
    (mkS y0.1 y0.1 (0 : Int)).bind fun x1 =>
    some (r1, x1) : Option ((List Int) × (List Int))).bind fun s1 =>
  (loop (m_grounded_build_L1 y0) (0, (List.replicate 40 (0 : Int))) : Option (List Int)).bind fun s2 =>
  (loop (m_grounded_build_L2 y0 s2) (([] : List Int), 0) : Option (List Int)).bind fun s4 =>
  loop (m_grounded_build_L3 y0) (s1.1, s1.2, s4, 1, s2)

noncomputable def m_grounded_Label (y0 : T_Graph) : Option (List Int) :=
  (m_grounded_build y0).bind fun r1 =>
  some r1.1

noncomputable def m_literal_Valid (y0 : T_Literal) : Option Bool :=
  (m_literal_ValidName y0.2).bind fun r1 =>
  some r1

noncomputable def m_literal_Format (y0 : T_Literal) : Option Str :=
  (m_literal_Valid y0).bind fun r1 =>
  if !r1 then
    some []
  else
    if y0.1 then
      (cat [126] y0.2).bind fun x1 =>
      some x1
    else
      some y0.2

noncomputable def m_slices_Clone_Literal (y0 : List T_Literal) : Option (List T_Literal) :=
  (app ([] : List T_Literal) y0).bind fun x1 =>
  some x1

noncomputable def m_slices_Compact_Literal_L2 (y0 : List T_Literal) (s1 : Int) (s3 : (List T_Literal) × Int × Int) : Option (((List T_Literal) × Int × Int) ⊕ ((List T_Literal) × Int)) :=
  if decide (s3.2.2 < ((Int.toNat (((List.length y0 : Nat) : Int) - s1) : Nat) : Int)) then
    (idxV s3.1 s1 s3.2.2).bind fun x3 =>
    (idxV s3.1 s1 (w64 (s3.2.2 - 1))).bind fun x4 =>
    if !(x3 == x4) then
      (idxV s3.1 s1 s3.2.2).bind fun x5 =>
      (idx s3.1 s3.2.1).bind fun _ =>
      some (.inl (List.set s3.1 (Int.toNat s3.2.1) x5, w64 (s3.2.1 + 1), w64 (s3.2.2 + 1)))
    else
      some (.inl (s3.1, s3.2.1, w64 (s3.2.2 + 1)))
  else
    some (.inr (s3.1, s3.2.1))

noncomputable def m_slices_Compact_Literal_L1 (y0 : List T_Literal) (s1 : Int) : Option (Int ⊕ (List T_Literal)) :=
  if decide (s1 < (len y0)) then
    (idx y0 s1).bind fun x1 =>
    (idx y0 (w64 (s1 - 1))).bind fun x2 =>
    if x1 == x2 then
      (chk (decide (0 ≤ s1) && decide (s1 ≤ len y0))).bind fun _ =>
      (loop (m_slices_Compact_Literal_L2 y0 s1) (y0, s1, 1) : Option ((List T_Literal) × Int)).bind fun s2 =>
      (chk (decide (0 ≤ s2.2) && decide (s2.2 ≤ len s2.1))).bind fun _ =>
      (sub (clearFrom s2.1 s2.2 (false, [])) 0 s2.2).bind fun x7 =>
      some (.inr x7)
    else
      some (.inl (w64 (s1 + 1)))
  else
    some (.inr y0)

noncomputable def m_slices_Compact_Literal (y0 : List T_Literal) : Option (List T_Literal) :=
  if decide ((len y0) < 2) then
    some y0
  else
    loop (m_slices_Compact_Literal_L1 y0) 1

noncomputable def m_cmp_isNaN_string (y0 : Str) : Option Bool :=
  some (!(y0 == y0))

noncomputable def m_cmp_Compare_string (y0 : Str) (y1 : Str) : Option Int :=
  (m_cmp_isNaN_string y0).bind fun r1 =>
  (m_cmp_isNaN_string y1).bind fun r2 =>
  if r1 then
    if r2 then
      some 0
    else
      some (-1)
  else
    if r2 then
      some 1
    else
      if sless y0 y1 then
        some (-1)
      else
        if !(sless y0 y1 || y0 == y1) then
          some 1
        else
          some 0

noncomputable def m_literal_Compare (y0 : T_Literal) (y1 : T_Literal) : Option Int :=
  (m_cmp_Compare_string y0.2 y1.2).bind fun r1 =>
  if (r1 != 0) || (y0.1 == y1.1) then
    some r1
  else
    if y1.1 then
      some (-1)
    else
      some 1

noncomputable def m_slices_SortFunc_Literal__literal_Compare (y0 : List T_Literal) : Option (List T_Literal) := sortF m_literal_Compare y0

noncomputable def m_literal_Normal (y0 : List T_Literal) : Option (List T_Literal) :=
  (m_slices_Clone_Literal y0).bind fun r1 =>
  (m_slices_SortFunc_Literal__literal_Compare r1).bind fun r2 =>
  (m_slices_Compact_Literal r2).bind fun r3 =>
  some r3

noncomputable def m_report_Claims_L1 (y0 : T_Compiled) (s2 : (List T_Literal) × Int) : Option (((List T_Literal) × Int) ⊕ (List T_Literal)) :=
  if decide (s2.2 < (len y0.2.1)) then
    (idx y0.2.1 s2.2).bind fun x1 =>
    (app s2.1 ([x1.2.2.2] : List T_Literal)).bind fun x2 =>
    some (.inl (x2, w64 (s2.2 + 1)))
  else
    some (.inr s2.1)

noncomputable def m_report_Claims_L3 (y0 : T_Compiled) (x3 : T_Literal) (r1 : (List Int)) (s5 : Str × Int) : Option ((Str × Int) ⊕ Str) :=
  if decide (s5.2 < (len y0.2.1)) then
    (idx y0.2.1 s5.2).bind fun x4 =>
    if (!(x4.2.2.2 == x3)) || ((decide ((len r1) ≤ s5.2)) || (s5.1 == [97, 99, 99, 101, 112, 116, 101, 100])) then
      some (.inl (s5.1, w64 (s5.2 + 1)))
    else
      (idx r1 s5.2).bind fun x5 =>
      if x5 == 1 then
        some (.inl ([97, 99, 99, 101, 112, 116, 101, 100], w64 (s5.2 + 1)))
      else
        (idx r1 s5.2).bind fun x6 =>
        if x6 != 2 then
          some (.inl ([111, 112, 101, 110], w64 (s5.2 + 1)))
        else
          some (.inl (s5.1, w64 (s5.2 + 1)))
  else
    some (.inr s5.1)

noncomputable def m_report_Claims_L2 (r2 : (List T_Literal)) (y0 : T_Compiled) (r1 : (List Int)) (s3 : (List Str) × Int) : Option (((List Str) × Int) ⊕ (List Str)) :=
  if decide (s3.2 < (len r2)) then
    (idx r2 s3.2).bind fun x3 =>
    (loop (m_report_Claims_L3 y0 x3 r1) ([114, 101, 106, 101, 99, 116, 101, 100], 0) : Option Str).bind fun s4 =>
    (m_literal_Format x3).bind fun r3 =>
    (cat r3 [32]).bind fun x7 =>
    (cat x7 s4).bind fun x8 =>
    (app s3.1 ([x8] : List Str)).bind fun x9 =>
    some (.inl (x9, w64 (s3.2 + 1)))
  else
    some (.inr s3.1)

noncomputable def m_report_Claims (y0 : T_Compiled) : Option (List Str) :=
  (m_grounded_Label y0.2.2.2).bind fun r1 =>
  (loop (m_report_Claims_L1 y0) (([] : List T_Literal), 0) : Option (List T_Literal)).bind fun s1 =>
  (m_literal_Normal s1).bind fun r2 =>
  loop (m_report_Claims_L2 r2 y0 r1) (([] : List Str), 0)

noncomputable def m_law42_ReportClaims_L1 (s1 : Int × T_Compiled) (s3 : (List T_Literal) × Int) : Option (((List T_Literal) × Int) ⊕ (List T_Literal)) :=
  if decide (s3.2 < (len s1.2.2.1)) then
    (idx s1.2.2.1 s3.2).bind fun x1 =>
    (app s3.1 ([x1.2.2.2] : List T_Literal)).bind fun x2 =>
    some (.inl (x2, w64 (s3.2 + 1)))
  else
    some (.inr s3.1)

noncomputable def m_law42_ReportClaims_L3 (s1 : Int × T_Compiled) (r12 : (List T_Literal)) (s6 : Int) (r11 : (List Int) × (List Int)) (s8 : Int × Int × Int × Int) : Option ((Int × Int × Int × Int) ⊕ (Int × Int)) :=
  if decide (s8.2.2.2 < (len s1.2.2.1)) then
    (idx s1.2.2.1 s8.2.2.2).bind fun x3 =>
    (idx r12 s6).bind fun x4 =>
    if x3.2.2.2 == x4 then
      (idx r11.1 s8.2.2.2).bind fun x5 =>
      if x5 == 1 then
        some (.inl (w64 (s8.1 + 1), s8.2.1, s8.2.2.1, w64 (s8.2.2.2 + 1)))
      else
        if x5 == 2 then
          some (.inl (s8.1, w64 (s8.2.1 + 1), s8.2.2.1, w64 (s8.2.2.2 + 1)))
        else
          some (.inl (s8.1, s8.2.1, w64 (s8.2.2.1 + 1), w64 (s8.2.2.2 + 1)))
    else
      some (.inl (s8.1, s8.2.1, s8.2.2.1, w64 (s8.2.2.2 + 1)))
  else
    some (.inr (s8.1, s8.2.2.1))

noncomputable def m_law42_ReportClaims_L2 (r12 : (List T_Literal)) (s1 : Int × T_Compiled) (r11 : (List Int) × (List Int)) (r10 : (List Str)) (s6 : Int) : Option (Int ⊕ (Unit ⊕ Bool)) :=
  if decide (s6 < (len r12)) then
    (loop (m_law42_ReportClaims_L3 s1 r12 s6 r11) (0, 0, 0, 0) : Option (Int × Int)).bind fun s7 =>
    (
      if decide (0 < s7.1) then
        some [97, 99, 99, 101, 112, 116, 101, 100]
      else
        if s7.2 == 0 then
          some [114, 101, 106, 101, 99, 116, 101, 100]
        else
          some [111, 112, 101, 110] : Option Str).bind fun s9 =>
    (idx r10 s6).bind fun x6 =>
    (idx r12 s6).bind fun x7 =>
    (m_ref01_Format x7).bind fun r15 =>
    (cat r15 [32]).bind fun x8 =>
    (cat x8 s9).bind fun x9 =>
    if !(x6 == x9) then
      some (.inr (.inr false))
    else
      some (.inl (w64 (s6 + 1)))
  else
    some (.inr (.inl ()))

noncomputable def m_law42_ReportClaims (y0 : List Int) : Option Bool :=
  (m_keep_New y0).bind fun r1 =>
  (m_keep_Src_Range r1 1 2).bind fun r2 =>
  (m_keep_Src_Range (r1.1, r2.2) 1 2).bind fun r3 =>
  (
    (m_keep_Src_Base (r1.1, r3.2) 3 4 5).bind fun r4 =>
    (m_ref20_Compile r4.1 (r2.1, r3.1)).bind fun r5 =>
    some (r5.2, r5.1) : Option (Int × T_Compiled)).bind fun s1 =>
  if s1.1 != 0 then
    m_law42_awake.bind fun r9 =>
    some r9
  else
    (m_report_Claims s1.2).bind fun r10 =>
    (m_net_Grounded s1.2.2.2.2).bind fun r11 =>
    (loop (m_law42_ReportClaims_L1 s1) (([] : List T_Literal), 0) : Option (List T_Literal)).bind fun s2 =>
    (m_ref01_Normal s2).bind fun r12 =>
    (
      if (len r10) != (len r12) then
        some true
      else
        (m_ref42_Claims s1.2).bind fun r13 =>
        (m_ref42_Same r10 r13).bind fun r14 =>
        some (!r14) : Option Bool).bind fun s4 =>
    if s4 then
      some false
    else
      seqE (loop (m_law42_ReportClaims_L2 r12 s1 r11 r10) 0 : Option (Unit ⊕ Bool)) fun _ =>
      m_law42_awake.bind fun r16 =>
      some r16

end Go.GD
