/- Models of the Go functions, printed by program (gd2). Conditions: none. -/
import Derived.Test.YteleongkifgjhaaGreatDoorFrm
namespace Go.GD
set_option autoImplicit false

abbrev T_Order := (List Str) × (List Int)
abbrev T_keep_Src := (List Int) × Int
abbrev T_ref02_reader := Str × Int × Int
abbrev T_Literal := Bool × Str
abbrev T_Commitment := T_Literal × Bool × Bool × (List T_Literal)
abbrev T_Speech := Int × Int × Int × T_Literal × (List T_Literal)

def tab_formula_words : List Str := [[], [], [], [], [], [32, 38, 32], [32, 124, 32], [32, 45, 62, 32], [32, 60, 45, 62, 32]]

noncomputable def m_keep_New (y0 : List Int) : Option T_keep_Src :=
  (sub y0 0 (if 2000 < (len y0) then 2000 else len y0)).bind fun x1 =>
  some (x1, 0)

noncomputable def m_keep_Mod (y0 : Int) (y1 : Int) : Option Int :=
  if decide (y1 < 1) then
    some 0
  else
    (remK y0 y1).bind fun x1 =>
    if decide (x1 < 0) then
      some (w64 (x1 + y1))
    else
      some x1

noncomputable def m_keep_Src_Raw (y0 : T_keep_Src) : Option (Int × Int) :=
  if decide ((len y0.1) ≤ y0.2) then
    some (0, y0.2)
  else
    (idx y0.1 (w64 ((w64 (y0.2 + 1)) - 1))).bind fun x1 =>
    some (x1, w64 (y0.2 + 1))

noncomputable def m_keep_Src_N (y0 : T_keep_Src) (y1 : Int) : Option (Int × Int) :=
  (m_keep_Src_Raw y0).bind fun r1 =>
  (m_keep_Mod r1.1 y1).bind fun r2 =>
  some (r2, r1.2)

noncomputable def m_keep_Src_Range (y0 : T_keep_Src) (y1 : Int) (y2 : Int) : Option (Int × Int) :=
  (m_keep_Src_N y0 (w64 ((w64 (y2 - y1)) + 1))).bind fun r1 =>
  some (w64 (y1 + r1.1), r1.2)

noncomputable def m_keep_Voc_L1 (y0 : Int) (s1 : (List Str) × Int) : Option (((List Str) × Int) ⊕ (List Str)) :=
  if decide (s1.2 < y0) then
    (app s1.1 ([strOf ([IntKind.u8.wrap (w64 (97 + s1.2))] : List Int)] : List Str)).bind fun x1 =>
    some (.inl (x1, w64 (s1.2 + 1)))
  else
    some (.inr s1.1)

noncomputable def m_keep_Voc (y0 : Int) : Option (List Str) :=
  loop (m_keep_Voc_L1 y0) (([] : List Str), 0)

noncomputable def m_ref42_Same_L1 (y0 : List Str) (y1 : List Str) (s1 : Int) : Option (Int ⊕ Bool) :=
  if decide (s1 < (len y0)) then
    (idx y0 s1).bind fun x1 =>
    (idx y1 s1).bind fun x2 =>
    if !(x1 == x2) then
      some (.inr false)
    else
      some (.inl (w64 (s1 + 1)))
  else
    some (.inr true)

noncomputable def m_ref42_Same (y0 : List Str) (y1 : List Str) : Option Bool :=
  if (len y0) != (len y1) then
    some false
  else
    loop (m_ref42_Same_L1 y0 y1) 0

noncomputable def m_formula_Depth_L1 (y0 : T_Formula) (rec_formula_Depth : T_Formula → Option Int) (s1 : Int × Int) : Option ((Int × Int) ⊕ Int) :=
  if decide (s1.2 < (len ((fv y0).2.2))) then
    (idx ((fv y0).2.2) s1.2).bind fun x1 =>
    (rec_formula_Depth x1).bind fun r1 =>
    some (.inl (if (w64 (1 + r1)) > s1.1 then w64 (1 + r1) else s1.1, w64 (s1.2 + 1)))
  else
    some (.inr s1.1)

noncomputable def F_formula_Depth (rec_formula_Depth : T_Formula → Option Int) (y0 : T_Formula) : Option Int :=
  loop (m_formula_Depth_L1 y0 rec_formula_Depth) (0, 0)

noncomputable def k_formula_Depth : Nat → T_Formula → Option Int
  | 0 => fun _ => none
  | k + 1 => fun y0 => F_formula_Depth (k_formula_Depth k) y0

noncomputable def m_formula_Depth (y0 : T_Formula) : Option Int := limM fun k => k_formula_Depth k y0

noncomputable def m_formula_Size_L1 (y0 : T_Formula) (rec_formula_Size : T_Formula → Option Int) (s1 : Int × Int) : Option ((Int × Int) ⊕ Int) :=
  if decide (s1.2 < (len ((fv y0).2.2))) then
    (idx ((fv y0).2.2) s1.2).bind fun x1 =>
    (rec_formula_Size x1).bind fun r1 =>
    some (.inl (w64 (s1.1 + r1), w64 (s1.2 + 1)))
  else
    some (.inr s1.1)

noncomputable def F_formula_Size (rec_formula_Size : T_Formula → Option Int) (y0 : T_Formula) : Option Int :=
  loop (m_formula_Size_L1 y0 rec_formula_Size) (1, 0)

noncomputable def k_formula_Size : Nat → T_Formula → Option Int
  | 0 => fun _ => none
  | k + 1 => fun y0 => F_formula_Size (k_formula_Size k) y0

noncomputable def m_formula_Size (y0 : T_Formula) : Option Int := limM fun k => k_formula_Size k y0

noncomputable def m_formula_counted (y0 : T_Formula) : Option Bool :=
  (
    if ((fv y0).1) == 1 then
      some (((fv y0).1) == 1)
    else
      if ((fv y0).1) == 2 then
        some (((fv y0).1) == 2)
      else
        some (((fv y0).1) == 3) : Option Bool).bind fun s1 =>
  if s1 then
    some ((len ((fv y0).2.2)) == 0)
  else
    if ((fv y0).1) == 4 then
      some ((len ((fv y0).2.2)) == 1)
    else
      (
        if ((fv y0).1) == 5 then
          some (((fv y0).1) == 5)
        else
          some (((fv y0).1) == 6) : Option Bool).bind fun s2 =>
      if s2 then
        some ((decide (2 ≤ (len ((fv y0).2.2)))) && (decide ((len ((fv y0).2.2)) ≤ 6)))
      else
        (
          if ((fv y0).1) == 7 then
            some (((fv y0).1) == 7)
          else
            some (((fv y0).1) == 8) : Option Bool).bind fun s3 =>
        if s3 then
          some ((len ((fv y0).2.2)) == 2)
        else
          some false

noncomputable def m_formula_all__formula_counted_L1 (y0 : T_Formula) (rec_formula_all__formula_counted : T_Formula → Option Bool) (s1 : Int) : Option (Int ⊕ Bool) :=
  if decide (s1 < (len ((fv y0).2.2))) then
    (idx ((fv y0).2.2) s1).bind fun x1 =>
    (rec_formula_all__formula_counted x1).bind fun r2 =>
    if !r2 then
      some (.inr false)
    else
      some (.inl (w64 (s1 + 1)))
  else
    some (.inr true)

noncomputable def F_formula_all__formula_counted (rec_formula_all__formula_counted : T_Formula → Option Bool) (y0 : T_Formula) : Option Bool :=
  (m_formula_counted y0).bind fun r1 =>
  if !r1 then
    some false
  else
    loop (m_formula_all__formula_counted_L1 y0 rec_formula_all__formula_counted) 0

noncomputable def k_formula_all__formula_counted : Nat → T_Formula → Option Bool
  | 0 => fun _ => none
  | k + 1 => fun y0 => F_formula_all__formula_counted (k_formula_all__formula_counted k) y0

noncomputable def m_formula_all__formula_counted (y0 : T_Formula) : Option Bool := limM fun k => k_formula_all__formula_counted k y0

noncomputable def m_literal_ValidName_L1 (y0 : Str) (s1 : Int) : Option (Int ⊕ Bool) :=
  if decide (s1 < (len y0)) then
    (sidx y0 s1).bind fun x1 =>
    if (decide (97 ≤ x1)) && (decide (x1 ≤ 122)) then
      some (.inl (w64 (s1 + 1)))
    else
      if (decide (0 < s1)) && (if decide (48 ≤ x1) then (decide (x1 ≤ 57)) || (x1 == 95) else x1 == 95) then
        some (.inl (w64 (s1 + 1)))
      else
        some (.inr false)
  else
    some (.inr true)

noncomputable def m_literal_ValidName (y0 : Str) : Option Bool :=
  if ((len y0) == 0) || (decide (12 < (len y0))) then
    some false
  else
    loop (m_literal_ValidName_L1 y0) 0

noncomputable def m_formula_named (y0 : T_Formula) : Option Bool :=
  if ((fv y0).1) == 3 then
    (m_literal_ValidName ((fv y0).2.1)).bind fun r1 =>
    some r1
  else
    some (((fv y0).2.1) == [])

noncomputable def m_formula_all__formula_named_L1 (y0 : T_Formula) (rec_formula_all__formula_named : T_Formula → Option Bool) (s1 : Int) : Option (Int ⊕ Bool) :=
  if decide (s1 < (len ((fv y0).2.2))) then
    (idx ((fv y0).2.2) s1).bind fun x1 =>
    (rec_formula_all__formula_named x1).bind fun r2 =>
    if !r2 then
      some (.inr false)
    else
      some (.inl (w64 (s1 + 1)))
  else
    some (.inr true)

noncomputable def F_formula_all__formula_named (rec_formula_all__formula_named : T_Formula → Option Bool) (y0 : T_Formula) : Option Bool :=
  (m_formula_named y0).bind fun r1 =>
  if !r1 then
    some false
  else
    loop (m_formula_all__formula_named_L1 y0 rec_formula_all__formula_named) 0

noncomputable def k_formula_all__formula_named : Nat → T_Formula → Option Bool
  | 0 => fun _ => none
  | k + 1 => fun y0 => F_formula_all__formula_named (k_formula_all__formula_named k) y0

noncomputable def m_formula_all__formula_named (y0 : T_Formula) : Option Bool := limM fun k => k_formula_all__formula_named k y0

noncomputable def m_formula_Validate (y0 : T_Formula) : Option Int :=
  (
    (m_formula_Size y0).bind fun r1 =>
    if decide (600 < r1) then
      some true
    else
      (m_formula_Depth y0).bind fun r2 =>
      some (decide (20 < r2)) : Option Bool).bind fun s1 =>
  if s1 then
    some 2
  else
    (m_formula_all__formula_counted y0).bind fun r3 =>
    if !r3 then
      some 4
    else
      (m_formula_all__formula_named y0).bind fun r4 =>
      if !r4 then
        some 3
      else
        some 0

noncomputable def m_formula_needed (y0 : T_Formula) (y1 : Int) : Option Int :=
  (
    if ((fv y0).1) == 4 then
      some (((fv y0).1) == 4)
    else
      some (((fv y0).1) == 5) : Option Bool).bind fun s1 =>
  if s1 then
    some 5
  else
    if ((fv y0).1) == 6 then
      some 4
    else
      if ((fv y0).1) == 7 then
        some (w64 (3 - y1))
      else
        some 2

noncomputable def m_formula_strength (y0 : T_Formula) : Option Int :=
  if ((fv y0).1) == 8 then
    some 1
  else
    if ((fv y0).1) == 7 then
      some 2
    else
      if ((fv y0).1) == 6 then
        some 3
      else
        if ((fv y0).1) == 5 then
          some 4
        else
          some 5

noncomputable def m_strings_Builder_WriteByte (y0 : Str) (y1 : Int) : Option (Unit × Str) :=
  (some () : Option Unit).bind fun _ =>
  (chk (decide (0 ≤ y1) && decide (y1 < 256) && decide (len y0 + 1 < 4294967296))).bind fun _ =>
  some ((), y0 ++ [UInt8.ofNat y1.toNat])

noncomputable def m_strings_Builder_WriteString (y0 : Str) (y1 : Str) : Option (Int × Unit × Str) := wstrM y0 y1

noncomputable def m_formula_write_L1 (y1 : T_Formula) (rec_formula_write : Str → T_Formula → Option Str) (s2 : Int × Str) : Option ((Int × Str) ⊕ Str) :=
  if decide (s2.1 < (len ((fv y1).2.2))) then
    (idx ((fv y1).2.2) s2.1).bind fun x1 =>
    (
      if decide (0 < s2.1) then
        (idx tab_formula_words ((fv y1).1)).bind fun x2 =>
        (m_strings_Builder_WriteString s2.2 x2).bind fun r5 =>
        some r5.2.2
      else
        some s2.2 : Option Str).bind fun s3 =>
    (m_formula_strength x1).bind fun r6 =>
    (m_formula_needed y1 s2.1).bind fun r7 =>
    if decide (r6 < r7) then
      (m_strings_Builder_WriteByte s3 40).bind fun r8 =>
      (rec_formula_write r8.2 x1).bind fun r9 =>
      (m_strings_Builder_WriteByte r9 41).bind fun r10 =>
      some (.inl (w64 (s2.1 + 1), r10.2))
    else
      (rec_formula_write s3 x1).bind fun r11 =>
      some (.inl (w64 (s2.1 + 1), r11))
  else
    some (.inr s2.2)

noncomputable def F_formula_write (rec_formula_write : Str → T_Formula → Option Str) (y0 : Str) (y1 : T_Formula) : Option Str :=
  (
    if ((fv y1).1) == 1 then
      (m_strings_Builder_WriteByte y0 49).bind fun r1 =>
      some r1.2
    else
      if ((fv y1).1) == 2 then
        (m_strings_Builder_WriteByte y0 48).bind fun r2 =>
        some r2.2
      else
        if ((fv y1).1) == 3 then
          (m_strings_Builder_WriteString y0 ((fv y1).2.1)).bind fun r3 =>
          some r3.2.2
        else
          if ((fv y1).1) == 4 then
            (m_strings_Builder_WriteByte y0 126).bind fun r4 =>
            some r4.2
          else
            some y0 : Option Str).bind fun s1 =>
  loop (m_formula_write_L1 y1 rec_formula_write) (0, s1)

noncomputable def k_formula_write : Nat → Str → T_Formula → Option Str
  | 0 => fun _ _ => none
  | k + 1 => fun y0 y1 => F_formula_write (k_formula_write k) y0 y1

noncomputable def m_formula_write (y0 : Str) (y1 : T_Formula) : Option Str := limM fun k => k_formula_write k y0 y1

noncomputable def m_strings_Builder_Len (y0 : Str) : Option Int := some (len y0)

noncomputable def m_strings_Builder_String (y0 : Str) : Option Str := some y0

noncomputable def m_formula_Format (y0 : T_Formula) : Option (Str × Int) :=
  (m_formula_Validate y0).bind fun r1 =>
  if r1 != 0 then
    some ([], r1)
  else
    (m_formula_write ([] : Str) y0).bind fun r2 =>
    (m_strings_Builder_Len r2).bind fun r3 =>
    if decide (4096 < r3) then
      some ([], 2)
    else
      (m_strings_Builder_String r2).bind fun r4 =>
      some (r4, 0)

noncomputable def m_slices_Index_bool_L1 (y0 : List Bool) (y1 : Bool) (s1 : Int) : Option (Int ⊕ Int) :=
  if decide (s1 < (len y0)) then
    (idx y0 s1).bind fun x1 =>
    if y1 == x1 then
      some (.inr s1)
    else
      some (.inl (w64 (s1 + 1)))
  else
    some (.inr (-1))

noncomputable def m_slices_Index_bool (y0 : List Bool) (y1 : Bool) : Option Int :=
  loop (m_slices_Index_bool_L1 y0 y1) 0

noncomputable def m_slices_Contains_bool (y0 : List Bool) (y1 : Bool) : Option Bool :=
  (m_slices_Index_bool y0 y1).bind fun r1 =>
  some (decide (0 ≤ r1))

noncomputable def m_world_Valid_L1 (y0 : List Str) (s1 : Int) : Option (Int ⊕ Bool) :=
  if decide (s1 < (len y0)) then
    (idx y0 s1).bind fun x1 =>
    (
      (m_literal_ValidName x1).bind fun r1 =>
      if !r1 then
        some true
      else
        if decide (0 < s1) then
          (idx y0 (w64 (s1 - 1))).bind fun x2 =>
          some (!(sless x2 x1))
        else
          some false : Option Bool).bind fun s2 =>
    if s2 then
      some (.inr false)
    else
      some (.inl (w64 (s1 + 1)))
  else
    some (.inr true)

noncomputable def m_world_Valid (y0 : List Str) : Option Bool :=
  if decide (6 < (len y0)) then
    some false
  else
    loop (m_world_Valid_L1 y0) 0

noncomputable def m_order_Validate_L1 (y0 : T_Order) (x2 : List Bool) (s3 : (List Bool) × Int × Int) : Option (((List Bool) × Int × Int) ⊕ (((List Bool) × Int) ⊕ Int)) :=
  if decide (s3.2.2 < (len y0.2)) then
    (idx y0.2 s3.2.2).bind fun x3 =>
    if (decide (x3 < 0)) || (decide ((len x2) ≤ x3)) then
      some (.inr (.inr 8))
    else
      (idx s3.1 x3).bind fun _ =>
      some (.inl (List.set s3.1 (Int.toNat x3) true, if x3 > s3.2.1 then x3 else s3.2.1, w64 (s3.2.2 + 1)))
  else
    some (.inr (.inl (s3.1, s3.2.1)))

noncomputable def m_order_Validate (y0 : T_Order) : Option Int :=
  (
    (m_world_Valid y0.1).bind fun r1 =>
    if !r1 then
      some true
    else
      (shlK .i64 1 (len y0.1)).bind fun x1 =>
      some ((len y0.2) != x1) : Option Bool).bind fun s1 =>
  if s1 then
    some 1
  else
    (mkS (len y0.2) (len y0.2) (false : Bool)).bind fun x2 =>
    seqE (loop (m_order_Validate_L1 y0 x2) (x2, 0, 0) : Option (((List Bool) × Int) ⊕ Int)) fun s2 =>
    (sub s2.1 0 s2.2).bind fun x5 =>
    (m_slices_Contains_bool x5 false).bind fun r2 =>
    if r2 then
      some 8
    else
      some 0

noncomputable def m_slices_Max_int_L1 (y0 : List Int) (s2 : Int × Int) : Option ((Int × Int) ⊕ Int) :=
  if decide (s2.2 < (len y0)) then
    (idx y0 s2.2).bind fun x2 =>
    some (.inl (if x2 > s2.1 then x2 else s2.1, w64 (s2.2 + 1)))
  else
    some (.inr s2.1)

noncomputable def m_slices_Max_int (y0 : List Int) : Option Int :=
  (
    if decide ((len y0) < 1) then
      none
    else
      some () : Option Unit).bind fun _ =>
  (idx y0 0).bind fun x1 =>
  loop (m_slices_Max_int_L1 y0) (x1, 1)

noncomputable def m_order_Levels_L1 (y0 : T_Order) (s1 : (List Int) × Int) : Option (((List Int) × Int) ⊕ (List Int)) :=
  if decide (s1.2 < (len y0.2)) then
    (idx y0.2 s1.2).bind fun x2 =>
    (idx s1.1 x2).bind fun x3 =>
    (shlK .u64 1 (IntKind.u64.wrap (s1.2))).bind fun x4 =>
    (idx s1.1 x2).bind fun _ =>
    some (.inl (List.set s1.1 (Int.toNat x2) (bor .u64 x3 x4), w64 (s1.2 + 1)))
  else
    some (.inr s1.1)

noncomputable def m_order_Levels (y0 : T_Order) : Option (List Int) :=
  (m_order_Validate y0).bind fun r1 =>
  if r1 != 0 then
    some ([] : List Int)
  else
    (m_slices_Max_int y0.2).bind fun r2 =>
    (mkS (w64 (r2 + 1)) (w64 (r2 + 1)) (0 : Int)).bind fun x1 =>
    loop (m_order_Levels_L1 y0) (x1, 0)

noncomputable def m_internal_strconv_small (y0 : Int) : Option Str :=
  if decide (y0 < 10) then
    (sub [48, 49, 50, 51, 52, 53, 54, 55, 56, 57, 97, 98, 99, 100, 101, 102, 103, 104, 105, 106, 107, 108, 109, 110, 111, 112, 113, 114, 115, 116, 117, 118, 119, 120, 121, 122] y0 (w64 (y0 + 1))).bind fun x1 =>
    some x1
  else
    (sub [48, 48, 48, 49, 48, 50, 48, 51, 48, 52, 48, 53, 48, 54, 48, 55, 48, 56, 48, 57, 49, 48, 49, 49, 49, 50, 49, 51, 49, 52, 49, 53, 49, 54, 49, 55, 49, 56, 49, 57, 50, 48, 50, 49, 50, 50, 50, 51, 50, 52, 50, 53, 50, 54, 50, 55, 50, 56, 50, 57, 51, 48, 51, 49, 51, 50, 51, 51, 51, 52, 51, 53, 51, 54, 51, 55, 51, 56, 51, 57, 52, 48, 52, 49, 52, 50, 52, 51, 52, 52, 52, 53, 52, 54, 52, 55, 52, 56, 52, 57, 53, 48, 53, 49, 53, 50, 53, 51, 53, 52, 53, 53, 53, 54, 53, 55, 53, 56, 53, 57, 54, 48, 54, 49, 54, 50, 54, 51, 54, 52, 54, 53, 54, 54, 54, 55, 54, 56, 54, 57, 55, 48, 55, 49, 55, 50, 55, 51, 55, 52, 55, 53, 55, 54, 55, 55, 55, 56, 55, 57, 56, 48, 56, 49, 56, 50, 56, 51, 56, 52, 56, 53, 56, 54, 56, 55, 56, 56, 56, 57, 57, 48, 57, 49, 57, 50, 57, 51, 57, 52, 57, 53, 57, 54, 57, 55, 57, 56, 57, 57] (w64 (y0 * 2)) (w64 ((w64 (y0 * 2)) + 2))).bind fun x2 =>
    some x2

noncomputable def m_internal_strconv_FormatInt (y0 : Int) (y1 : Int) : Option Str :=
  if y1 == 10 then
    if (decide (0 ≤ y0)) && (decide (y0 < 100)) then
      (m_internal_strconv_small y0).bind fun r1 =>
      some r1
    else
      none
  else
    none

noncomputable def m_internal_strconv_Itoa (y0 : Int) : Option Str :=
  (m_internal_strconv_FormatInt y0 10).bind fun r1 =>
  some r1

noncomputable def m_strconv_Itoa (y0 : Int) : Option Str :=
  (m_internal_strconv_Itoa y0).bind fun r1 =>
  some r1

noncomputable def m_report_number (y0 : Int) : Option Str :=
  (m_strconv_Itoa y0).bind fun r1 =>
  some r1

noncomputable def m_world_whole (y0 : Int) : Option Int :=
  (shlK .u64 1 y0).bind fun x1 =>
  (shrK .u64 18446744073709551615 (IntKind.u64.wrap (64 - x1))).bind fun x2 =>
  some x2

noncomputable def m_world_All (y0 : List Str) : Option Int :=
  (m_world_Valid y0).bind fun r1 =>
  if !r1 then
    some 0
  else
    (m_world_whole (len y0)).bind fun r2 =>
    some r2

noncomputable def m_world_split_L1 (y0 : Int) (s1 : Int × Int × Int) : Option ((Int × Int × Int) ⊕ (Int × Int)) :=
  if decide (s1.2.2 < 32) then
    (shrK .u64 y0 (w64 (2 * s1.2.2))).bind fun x1 =>
    (shlK .u64 (band .u64 x1 1) s1.2.2).bind fun x2 =>
    (shrK .u64 y0 (w64 ((w64 (2 * s1.2.2)) + 1))).bind fun x3 =>
    (shlK .u64 (band .u64 x3 1) s1.2.2).bind fun x4 =>
    some (.inl (bor .u64 s1.1 x4, bor .u64 s1.2.1 x2, w64 (s1.2.2 + 1)))
  else
    some (.inr (s1.1, s1.2.1))

noncomputable def m_world_split (y0 : Int) : Option (Int × Int) :=
  loop (m_world_split_L1 y0) (0, 0, 0)

noncomputable def m_world_two (y0 : Int) (y1 : T_Formula) (y2 : T_Formula) : Option T_Formula :=
  some (fm (y0, [], ([y1, y2] : List T_Formula)))

noncomputable def F_world_theory (rec_world_theory : (List Str) → Int → Option T_Formula) (y0 : List Str) (y1 : Int) : Option T_Formula :=
  (m_world_whole (len y0)).bind fun r1 =>
  if y1 == 0 then
    some (fm (2, [], ([] : List T_Formula)))
  else
    if y1 == r1 then
      some (fm (1, [], ([] : List T_Formula)))
    else
      (sub y0 1 (len y0)).bind fun x1 =>
      (m_world_split y1).bind fun r2 =>
      if r2.1 == r2.2 then
        (rec_world_theory x1 r2.1).bind fun r3 =>
        some r3
      else
        (idx y0 0).bind fun x2 =>
        (idx y0 0).bind fun x3 =>
        (m_world_whole (len x1)).bind fun r4 =>
        if (r2.1 == r4) && (r2.2 == 0) then
          some (fm (3, x2, ([] : List T_Formula)))
        else
          if r2.1 == r4 then
            (rec_world_theory x1 r2.2).bind fun r5 =>
            (m_world_two 6 (fm (3, x2, ([] : List T_Formula))) r5).bind fun r6 =>
            some r6
          else
            if (r2.1 == 0) && (r2.2 == r4) then
              some (fm (4, [], ([fm (3, x3, ([] : List T_Formula))] : List T_Formula)))
            else
              if r2.1 == 0 then
                (rec_world_theory x1 r2.2).bind fun r7 =>
                (m_world_two 5 (fm (4, [], ([fm (3, x3, ([] : List T_Formula))] : List T_Formula))) r7).bind fun r8 =>
                some r8
              else
                if r2.2 == r4 then
                  (rec_world_theory x1 r2.1).bind fun r9 =>
                  (m_world_two 6 (fm (4, [], ([fm (3, x3, ([] : List T_Formula))] : List T_Formula))) r9).bind fun r10 =>
                  some r10
                else
                  if r2.2 == 0 then
                    (rec_world_theory x1 r2.1).bind fun r11 =>
                    (m_world_two 5 (fm (3, x2, ([] : List T_Formula))) r11).bind fun r12 =>
                    some r12
                  else
                    (rec_world_theory x1 r2.1).bind fun r13 =>
                    (m_world_two 5 (fm (3, x2, ([] : List T_Formula))) r13).bind fun r14 =>
                    (rec_world_theory x1 r2.2).bind fun r15 =>
                    (m_world_two 5 (fm (4, [], ([fm (3, x3, ([] : List T_Formula))] : List T_Formula))) r15).bind fun r16 =>
                    (m_world_two 6 r14 r16).bind fun r17 =>
                    some r17

noncomputable def k_world_theory : Nat → (List Str) → Int → Option T_Formula
  | 0 => fun _ _ => none
  | k + 1 => fun y0 y1 => F_world_theory (k_world_theory k) y0 y1

noncomputable def m_world_theory (y0 : List Str) (y1 : Int) : Option T_Formula := limM fun k => k_world_theory k y0 y1

noncomputable def m_world_Theory (y0 : List Str) (y1 : Int) : Option (T_Formula × Int) :=
  (m_world_Valid y0).bind fun r1 =>
  if !r1 then
    some (fm (0, [], ([] : List T_Formula)), 1)
  else
    (m_world_All y0).bind fun r2 =>
    (m_world_theory y0 (band .u64 y1 r2)).bind fun r3 =>
    some (r3, 0)

noncomputable def m_report_Order_L1 (r1 : (List Int)) (y0 : T_Order) (s1 : (List Str) × Int) : Option (((List Str) × Int) ⊕ (List Str)) :=
  if decide (s1.2 < (len r1)) then
    (idx r1 s1.2).bind fun x1 =>
    (m_world_Theory y0.1 x1).bind fun r2 =>
    (m_formula_Format r2.1).bind fun r3 =>
    (m_report_number s1.2).bind fun r4 =>
    (cat r4 [58, 32]).bind fun x2 =>
    (cat x2 r3.1).bind fun x3 =>
    (app s1.1 ([x3] : List Str)).bind fun x4 =>
    some (.inl (x4, w64 (s1.2 + 1)))
  else
    some (.inr s1.1)

noncomputable def m_report_Order (y0 : T_Order) : Option (List Str) :=
  (m_order_Levels y0).bind fun r1 =>
  loop (m_report_Order_L1 r1 y0) (([] : List Str), 0)

noncomputable def m_law42_awake : Option Bool :=
  (m_keep_Voc 2).bind fun r1 =>
  (m_report_Order (r1, ([2, 1, 2, 0] : List Int))).bind fun r2 =>
  (m_keep_Voc 2).bind fun r3 =>
  (idx r3 0).bind fun x1 =>
  (m_keep_Voc 2).bind fun r4 =>
  (idx r4 1).bind fun x2 =>
  (cat [48, 58, 32] x1).bind fun x3 =>
  (cat x3 [32, 38, 32]).bind fun x4 =>
  (cat x4 x2).bind fun x5 =>
  (cat [49, 58, 32] x1).bind fun x6 =>
  (cat x6 [32, 38, 32, 126]).bind fun x7 =>
  (cat x7 x2).bind fun x8 =>
  (cat [50, 58, 32, 126] x1).bind fun x9 =>
  (m_ref42_Same r2 ([x5, x8, x9] : List Str)).bind fun r5 =>
  some r5

noncomputable def m_ref02_Depth_L1 (y0 : T_Formula) (rec_ref02_Depth : T_Formula → Option Int) (s1 : Int × Int) : Option ((Int × Int) ⊕ Int) :=
  if decide (s1.2 < (len ((fv y0).2.2))) then
    (idx ((fv y0).2.2) s1.2).bind fun x1 =>
    (rec_ref02_Depth x1).bind fun r1 =>
    some (.inl (if (w64 (1 + r1)) > s1.1 then w64 (1 + r1) else s1.1, w64 (s1.2 + 1)))
  else
    some (.inr s1.1)

noncomputable def F_ref02_Depth (rec_ref02_Depth : T_Formula → Option Int) (y0 : T_Formula) : Option Int :=
  loop (m_ref02_Depth_L1 y0 rec_ref02_Depth) (0, 0)

noncomputable def k_ref02_Depth : Nat → T_Formula → Option Int
  | 0 => fun _ => none
  | k + 1 => fun y0 => F_ref02_Depth (k_ref02_Depth k) y0

noncomputable def m_ref02_Depth (y0 : T_Formula) : Option Int := limM fun k => k_ref02_Depth k y0

noncomputable def m_ref02_Size_L1 (y0 : T_Formula) (rec_ref02_Size : T_Formula → Option Int) (s1 : Int × Int) : Option ((Int × Int) ⊕ Int) :=
  if decide (s1.2 < (len ((fv y0).2.2))) then
    (idx ((fv y0).2.2) s1.2).bind fun x1 =>
    (rec_ref02_Size x1).bind fun r1 =>
    some (.inl (w64 (s1.1 + r1), w64 (s1.2 + 1)))
  else
    some (.inr s1.1)

noncomputable def F_ref02_Size (rec_ref02_Size : T_Formula → Option Int) (y0 : T_Formula) : Option Int :=
  loop (m_ref02_Size_L1 y0 rec_ref02_Size) (1, 0)

noncomputable def k_ref02_Size : Nat → T_Formula → Option Int
  | 0 => fun _ => none
  | k + 1 => fun y0 => F_ref02_Size (k_ref02_Size k) y0

noncomputable def m_ref02_Size (y0 : T_Formula) : Option Int := limM fun k => k_ref02_Size k y0

noncomputable def m_ref02_kinds_L1 (y0 : T_Formula) (rec_ref02_kinds : T_Formula → Option Bool) (s5 : Bool × Int) : Option ((Bool × Int) ⊕ Bool) :=
  if decide (s5.2 < (len ((fv y0).2.2))) then
    (
      if s5.1 then
        (idx ((fv y0).2.2) s5.2).bind fun x1 =>
        (rec_ref02_kinds x1).bind fun r1 =>
        some r1
      else
        some false : Option Bool).bind fun s6 =>
    some (.inl (s6, w64 (s5.2 + 1)))
  else
    some (.inr s5.1)

noncomputable def F_ref02_kinds (rec_ref02_kinds : T_Formula → Option Bool) (y0 : T_Formula) : Option Bool :=
  (
    (
      if ((fv y0).1) == 1 then
        some (((fv y0).1) == 1)
      else
        if ((fv y0).1) == 2 then
          some (((fv y0).1) == 2)
        else
          some (((fv y0).1) == 3) : Option Bool).bind fun s2 =>
    if s2 then
      some ((len ((fv y0).2.2)) == 0)
    else
      if ((fv y0).1) == 4 then
        some ((len ((fv y0).2.2)) == 1)
      else
        (
          if ((fv y0).1) == 5 then
            some (((fv y0).1) == 5)
          else
            some (((fv y0).1) == 6) : Option Bool).bind fun s3 =>
        if s3 then
          some ((decide (2 ≤ (len ((fv y0).2.2)))) && (decide ((len ((fv y0).2.2)) ≤ 6)))
        else
          (
            if ((fv y0).1) == 7 then
              some (((fv y0).1) == 7)
            else
              some (((fv y0).1) == 8) : Option Bool).bind fun s4 =>
          if s4 then
            some ((len ((fv y0).2.2)) == 2)
          else
            some false : Option Bool).bind fun s1 =>
  loop (m_ref02_kinds_L1 y0 rec_ref02_kinds) (s1, 0)

noncomputable def k_ref02_kinds : Nat → T_Formula → Option Bool
  | 0 => fun _ => none
  | k + 1 => fun y0 => F_ref02_kinds (k_ref02_kinds k) y0

noncomputable def m_ref02_kinds (y0 : T_Formula) : Option Bool := limM fun k => k_ref02_kinds k y0

noncomputable def m_ref01_ValidName_L1 (y0 : Str) (s2 : Int) : Option (Int ⊕ Bool) :=
  if decide (s2 < (len y0)) then
    (
      (sidx y0 s2).bind fun x3 =>
      if decide (x3 < 97) then
        (sidx y0 s2).bind fun x4 =>
        if decide (x4 < 48) then
          (sidx y0 s2).bind fun x5 =>
          some (x5 != 95)
        else
          (sidx y0 s2).bind fun x6 =>
          if decide (57 < x6) then
            (sidx y0 s2).bind fun x7 =>
            some (x7 != 95)
          else
            some false
      else
        (sidx y0 s2).bind fun x8 =>
        if decide (122 < x8) then
          (sidx y0 s2).bind fun x9 =>
          if decide (x9 < 48) then
            (sidx y0 s2).bind fun x10 =>
            some (x10 != 95)
          else
            (sidx y0 s2).bind fun x11 =>
            if decide (57 < x11) then
              (sidx y0 s2).bind fun x12 =>
              some (x12 != 95)
            else
              some false
        else
          some false : Option Bool).bind fun s3 =>
    if s3 then
      some (.inr false)
    else
      some (.inl (w64 (s2 + 1)))
  else
    some (.inr true)

noncomputable def m_ref01_ValidName (y0 : Str) : Option Bool :=
  (
    if decide ((len y0) < 1) then
      some true
    else
      if decide (12 < (len y0)) then
        some true
      else
        (sidx y0 0).bind fun x1 =>
        if decide (x1 < 97) then
          some true
        else
          (sidx y0 0).bind fun x2 =>
          some (decide (122 < x2)) : Option Bool).bind fun s1 =>
  if s1 then
    some false
  else
    loop (m_ref01_ValidName_L1 y0) 0

noncomputable def m_ref02_word (y0 : Int) : Option Bool :=
  some (if decide (97 ≤ y0) then (decide (y0 ≤ 122)) || (if decide (48 ≤ y0) then (decide (y0 ≤ 57)) || (y0 == 95) else y0 == 95) else if decide (48 ≤ y0) then (decide (y0 ≤ 57)) || (y0 == 95) else y0 == 95)

noncomputable def m_ref02_reader_token_L1 (y0 : T_ref02_reader) (s2 : Int) : Option (Int ⊕ Int) :=
  (
    if decide (s2 < (len y0.1)) then
      (sidx y0.1 s2).bind fun x1 =>
      some (x1 == 32)
    else
      some false : Option Bool).bind fun s3 =>
  if s3 then
    some (.inl (w64 (s2 + 1)))
  else
    some (.inr s2)

noncomputable def m_ref02_reader_token_L2 (y0 : T_ref02_reader) (s5 : Int) : Option (Int ⊕ Int) :=
  (
    if decide (s5 < (len y0.1)) then
      (sidx y0.1 s5).bind fun x2 =>
      (m_ref02_word x2).bind fun r1 =>
      if r1 then
        some true
      else
        (sidx y0.1 s5).bind fun x3 =>
        if decide (65 ≤ x3) then
          (sidx y0.1 s5).bind fun x4 =>
          some (decide (x4 ≤ 90))
        else
          some false
    else
      some false : Option Bool).bind fun s6 =>
  if s6 then
    some (.inl (w64 (s5 + 1)))
  else
    some (.inr s5)

noncomputable def m_ref02_reader_token_L3 (y0 : T_ref02_reader) (s1 : Int) (s8 : Int) : Option (Int ⊕ (Str × Int)) :=
  if decide (s8 < (len ([[126], [38], [124], [45, 62], [60, 45, 62], [40], [41]] : List Str))) then
    (idx ([[126], [38], [124], [45, 62], [60, 45, 62], [40], [41]] : List Str) s8).bind fun x6 =>
    (
      if decide ((len x6) ≤ (w64 ((len y0.1) - s1))) then
        (sub y0.1 s1 (w64 (s1 + (len x6)))).bind fun x7 =>
        some (x7 == x6)
      else
        some false : Option Bool).bind fun s9 =>
    if s9 then
      some (.inr (x6, s1))
    else
      some (.inl (w64 (s8 + 1)))
  else
    some (.inr ([63], s1))

noncomputable def m_ref02_reader_token (y0 : T_ref02_reader) : Option (Str × Int) :=
  (loop (m_ref02_reader_token_L1 y0) y0.2.1 : Option Int).bind fun s1 =>
  if s1 == (len y0.1) then
    some ([], s1)
  else
    (loop (m_ref02_reader_token_L2 y0) s1 : Option Int).bind fun s4 =>
    if decide (s1 < s4) then
      (sub y0.1 s1 s4).bind fun x5 =>
      (
        if x5 == [48] then
          some true
        else
          if x5 == [49] then
            some true
          else
            (m_ref01_ValidName x5).bind fun r2 =>
            some r2 : Option Bool).bind fun s7 =>
      if s7 then
        some (x5, s1)
      else
        some ([63], s1)
    else
      loop (m_ref02_reader_token_L3 y0 s1) 0

noncomputable def m_ref02_reader_fail (y0 : T_ref02_reader) : Option (T_Formula × Int) :=
  (
    if decide (y0.2.2 < 0) then
      (m_ref02_reader_token y0).bind fun r1 =>
      some r1.2
    else
      some y0.2.2 : Option Int).bind fun s1 =>
  some (fm (0, [], ([] : List T_Formula)), s1)

noncomputable def m_ref02_reader_take (y0 : T_ref02_reader) (y1 : Str) : Option (Bool × Int) :=
  (m_ref02_reader_token y0).bind fun r1 =>
  if (!(r1.1 == y1)) || (decide (0 ≤ y0.2.2)) then
    some (false, y0.2.1)
  else
    some (true, w64 (r1.2 + (len y1)))

noncomputable def m_ref02_reader_and_L1 (y0 : T_ref02_reader) (rec_ref02_reader_unary : T_ref02_reader → Option (T_Formula × Int × Int)) (s2 : (List T_Formula) × Int × Int) : Option (((List T_Formula) × Int × Int) ⊕ ((List T_Formula) × Int × Int)) :=
  (m_ref02_reader_take (y0.1, s2.2.1, s2.2.2) [38]).bind fun r2 =>
  if r2.1 then
    (rec_ref02_reader_unary (y0.1, r2.2, s2.2.2)).bind fun r3 =>
    (app s2.1 ([r3.1] : List T_Formula)).bind fun x1 =>
    some (.inl (x1, r3.2.1, r3.2.2))
  else
    some (.inr (s2.1, r2.2, s2.2.2))

noncomputable def F_ref02_reader_and (rec_ref02_reader_and : T_ref02_reader → Option (T_Formula × Int × Int)) (rec_ref02_reader_iff : T_ref02_reader → Option (T_Formula × Int × Int)) (rec_ref02_reader_implies : T_ref02_reader → Option (T_Formula × Int × Int)) (rec_ref02_reader_or : T_ref02_reader → Option (T_Formula × Int × Int)) (rec_ref02_reader_unary : T_ref02_reader → Option (T_Formula × Int × Int)) (y0 : T_ref02_reader) : Option (T_Formula × Int × Int) :=
  (rec_ref02_reader_unary y0).bind fun r1 =>
  (loop (m_ref02_reader_and_L1 y0 rec_ref02_reader_unary) (([r1.1] : List T_Formula), r1.2.1, r1.2.2) : Option ((List T_Formula) × Int × Int)).bind fun s1 =>
  if (len s1.1) == 1 then
    (idx s1.1 0).bind fun x2 =>
    some (x2, s1.2.1, s1.2.2)
  else
    some (fm (5, [], s1.1), s1.2.1, s1.2.2)

noncomputable def F_ref02_reader_iff (rec_ref02_reader_and : T_ref02_reader → Option (T_Formula × Int × Int)) (rec_ref02_reader_iff : T_ref02_reader → Option (T_Formula × Int × Int)) (rec_ref02_reader_implies : T_ref02_reader → Option (T_Formula × Int × Int)) (rec_ref02_reader_or : T_ref02_reader → Option (T_Formula × Int × Int)) (rec_ref02_reader_unary : T_ref02_reader → Option (T_Formula × Int × Int)) (y0 : T_ref02_reader) : Option (T_Formula × Int × Int) :=
  (rec_ref02_reader_implies y0).bind fun r1 =>
  (m_ref02_reader_take (y0.1, r1.2.1, r1.2.2) [60, 45, 62]).bind fun r2 =>
  if r2.1 then
    (rec_ref02_reader_implies (y0.1, r2.2, r1.2.2)).bind fun r3 =>
    some (fm (8, [], ([r1.1, r3.1] : List T_Formula)), r3.2.1, r3.2.2)
  else
    some (r1.1, r2.2, r1.2.2)

noncomputable def F_ref02_reader_implies (rec_ref02_reader_and : T_ref02_reader → Option (T_Formula × Int × Int)) (rec_ref02_reader_iff : T_ref02_reader → Option (T_Formula × Int × Int)) (rec_ref02_reader_implies : T_ref02_reader → Option (T_Formula × Int × Int)) (rec_ref02_reader_or : T_ref02_reader → Option (T_Formula × Int × Int)) (rec_ref02_reader_unary : T_ref02_reader → Option (T_Formula × Int × Int)) (y0 : T_ref02_reader) : Option (T_Formula × Int × Int) :=
  (rec_ref02_reader_or y0).bind fun r1 =>
  (m_ref02_reader_take (y0.1, r1.2.1, r1.2.2) [45, 62]).bind fun r2 =>
  if r2.1 then
    (rec_ref02_reader_implies (y0.1, r2.2, r1.2.2)).bind fun r3 =>
    some (fm (7, [], ([r1.1, r3.1] : List T_Formula)), r3.2.1, r3.2.2)
  else
    some (r1.1, r2.2, r1.2.2)

noncomputable def m_ref02_reader_or_L1 (y0 : T_ref02_reader) (rec_ref02_reader_and : T_ref02_reader → Option (T_Formula × Int × Int)) (s2 : (List T_Formula) × Int × Int) : Option (((List T_Formula) × Int × Int) ⊕ ((List T_Formula) × Int × Int)) :=
  (m_ref02_reader_take (y0.1, s2.2.1, s2.2.2) [124]).bind fun r2 =>
  if r2.1 then
    (rec_ref02_reader_and (y0.1, r2.2, s2.2.2)).bind fun r3 =>
    (app s2.1 ([r3.1] : List T_Formula)).bind fun x1 =>
    some (.inl (x1, r3.2.1, r3.2.2))
  else
    some (.inr (s2.1, r2.2, s2.2.2))

noncomputable def F_ref02_reader_or (rec_ref02_reader_and : T_ref02_reader → Option (T_Formula × Int × Int)) (rec_ref02_reader_iff : T_ref02_reader → Option (T_Formula × Int × Int)) (rec_ref02_reader_implies : T_ref02_reader → Option (T_Formula × Int × Int)) (rec_ref02_reader_or : T_ref02_reader → Option (T_Formula × Int × Int)) (rec_ref02_reader_unary : T_ref02_reader → Option (T_Formula × Int × Int)) (y0 : T_ref02_reader) : Option (T_Formula × Int × Int) :=
  (rec_ref02_reader_and y0).bind fun r1 =>
  (loop (m_ref02_reader_or_L1 y0 rec_ref02_reader_and) (([r1.1] : List T_Formula), r1.2.1, r1.2.2) : Option ((List T_Formula) × Int × Int)).bind fun s1 =>
  if (len s1.1) == 1 then
    (idx s1.1 0).bind fun x2 =>
    some (x2, s1.2.1, s1.2.2)
  else
    some (fm (6, [], s1.1), s1.2.1, s1.2.2)

noncomputable def F_ref02_reader_unary (rec_ref02_reader_and : T_ref02_reader → Option (T_Formula × Int × Int)) (rec_ref02_reader_iff : T_ref02_reader → Option (T_Formula × Int × Int)) (rec_ref02_reader_implies : T_ref02_reader → Option (T_Formula × Int × Int)) (rec_ref02_reader_or : T_ref02_reader → Option (T_Formula × Int × Int)) (rec_ref02_reader_unary : T_ref02_reader → Option (T_Formula × Int × Int)) (y0 : T_ref02_reader) : Option (T_Formula × Int × Int) :=
  (m_ref02_reader_take y0 [126]).bind fun r1 =>
  if r1.1 then
    (rec_ref02_reader_unary (y0.1, r1.2, y0.2.2)).bind fun r2 =>
    some (fm (4, [], ([r2.1] : List T_Formula)), r2.2.1, r2.2.2)
  else
    (m_ref02_reader_take (y0.1, r1.2, y0.2.2) [40]).bind fun r3 =>
    if r3.1 then
      (rec_ref02_reader_iff (y0.1, r3.2, y0.2.2)).bind fun r4 =>
      (
        if decide (r4.2.2 < 0) then
          (m_ref02_reader_take (y0.1, r4.2.1, r4.2.2) [41]).bind fun r5 =>
          some (!r5.1, r5.2)
        else
          some (false, r4.2.1) : Option (Bool × Int)).bind fun s1 =>
      if s1.1 then
        (m_ref02_reader_fail (y0.1, s1.2, r4.2.2)).bind fun r6 =>
        some (r6.1, s1.2, r6.2)
      else
        some (r4.1, s1.2, r4.2.2)
    else
      (m_ref02_reader_token (y0.1, r3.2, y0.2.2)).bind fun r7 =>
      (
        if r7.1 == [] then
          some true
        else
          (sidx r7.1 0).bind fun x1 =>
          (m_ref02_word x1).bind fun r8 =>
          if !r8 then
            some true
          else
            some (decide (0 ≤ y0.2.2)) : Option Bool).bind fun s2 =>
      if s2 then
        (m_ref02_reader_fail (y0.1, r3.2, y0.2.2)).bind fun r9 =>
        some (r9.1, r3.2, r9.2)
      else
        if r7.1 == [49] then
          some (fm (1, [], ([] : List T_Formula)), w64 (r7.2 + (len r7.1)), y0.2.2)
        else
          if r7.1 == [48] then
            some (fm (2, [], ([] : List T_Formula)), w64 (r7.2 + (len r7.1)), y0.2.2)
          else
            some (fm (3, r7.1, ([] : List T_Formula)), w64 (r7.2 + (len r7.1)), y0.2.2)

mutual
noncomputable def k_ref02_reader_and : Nat → T_ref02_reader → Option (T_Formula × Int × Int)
  | 0 => fun _ => none
  | k + 1 => fun y0 => F_ref02_reader_and (k_ref02_reader_and k) (k_ref02_reader_iff k) (k_ref02_reader_implies k) (k_ref02_reader_or k) (k_ref02_reader_unary k) y0
noncomputable def k_ref02_reader_iff : Nat → T_ref02_reader → Option (T_Formula × Int × Int)
  | 0 => fun _ => none
  | k + 1 => fun y0 => F_ref02_reader_iff (k_ref02_reader_and k) (k_ref02_reader_iff k) (k_ref02_reader_implies k) (k_ref02_reader_or k) (k_ref02_reader_unary k) y0
noncomputable def k_ref02_reader_implies : Nat → T_ref02_reader → Option (T_Formula × Int × Int)
  | 0 => fun _ => none
  | k + 1 => fun y0 => F_ref02_reader_implies (k_ref02_reader_and k) (k_ref02_reader_iff k) (k_ref02_reader_implies k) (k_ref02_reader_or k) (k_ref02_reader_unary k) y0
noncomputable def k_ref02_reader_or : Nat → T_ref02_reader → Option (T_Formula × Int × Int)
  | 0 => fun _ => none
  | k + 1 => fun y0 => F_ref02_reader_or (k_ref02_reader_and k) (k_ref02_reader_iff k) (k_ref02_reader_implies k) (k_ref02_reader_or k) (k_ref02_reader_unary k) y0
noncomputable def k_ref02_reader_unary : Nat → T_ref02_reader → Option (T_Formula × Int × Int)
  | 0 => fun _ => none
  | k + 1 => fun y0 => F_ref02_reader_unary (k_ref02_reader_and k) (k_ref02_reader_iff k) (k_ref02_reader_implies k) (k_ref02_reader_or k) (k_ref02_reader_unary k) y0
end

noncomputable def m_ref02_reader_and (y0 : T_ref02_reader) : Option (T_Formula × Int × Int) := limM fun k => k_ref02_reader_and k y0

noncomputable def m_ref02_reader_iff (y0 : T_ref02_reader) : Option (T_Formula × Int × Int) := limM fun k => k_ref02_reader_iff k y0

noncomputable def m_ref02_reader_implies (y0 : T_ref02_reader) : Option (T_Formula × Int × Int) := limM fun k => k_ref02_reader_implies k y0

noncomputable def m_ref02_reader_or (y0 : T_ref02_reader) : Option (T_Formula × Int × Int) := limM fun k => k_ref02_reader_or k y0

noncomputable def m_ref02_reader_unary (y0 : T_ref02_reader) : Option (T_Formula × Int × Int) := limM fun k => k_ref02_reader_unary k y0

noncomputable def m_ref02_Parse (y0 : Str) : Option (T_Formula × Int × Int) :=
  if decide (4096 < (len y0)) then
    some (fm (0, [], ([] : List T_Formula)), 0, 2)
  else
    (m_ref02_reader_iff (y0, 0, (-1))).bind fun r1 =>
    (
      (m_ref02_reader_token (y0, r1.2.1, r1.2.2)).bind fun r2 =>
      if !(r2.1 == []) then
        (m_ref02_reader_fail (y0, r1.2.1, r1.2.2)).bind fun r3 =>
        some r3.2
      else
        some r1.2.2 : Option Int).bind fun s1 =>
    if decide (0 ≤ s1) then
      some (fm (0, [], ([] : List T_Formula)), s1, 3)
    else
      (
        (m_ref02_Size r1.1).bind fun r4 =>
        if decide (600 < r4) then
          some true
        else
          (m_ref02_Depth r1.1).bind fun r5 =>
          if decide (20 < r5) then
            some true
          else
            (m_ref02_kinds r1.1).bind fun r6 =>
            some (!r6) : Option Bool).bind fun s2 =>
      if s2 then
        some (fm (0, [], ([] : List T_Formula)), 0, 2)
      else
        some (r1.1, 0, 0)

noncomputable def m_ref02_insert_L1 (y0 : List Str) (y1 : Str) (s2 : Int) : Option (Int ⊕ Int) :=
  (
    if decide (s2 < (len y0)) then
      (idx y0 s2).bind fun x1 =>
      some (sless x1 y1)
    else
      some false : Option Bool).bind fun s3 =>
  if s3 then
    some (.inl (w64 (s2 + 1)))
  else
    some (.inr s2)

noncomputable def m_ref02_insert (y0 : List Str) (y1 : Str) : Option (List Str) :=
  (loop (m_ref02_insert_L1 y0 y1) 0 : Option Int).bind fun s1 =>
  (
    if decide (s1 < (len y0)) then
      (idx y0 s1).bind fun x2 =>
      some (x2 == y1)
    else
      some false : Option Bool).bind fun s4 =>
  if s4 then
    some y0
  else
    (sub y0 0 s1).bind fun x3 =>
    (app ([] : List Str) x3).bind fun x4 =>
    (sub y0 s1 (len y0)).bind fun x5 =>
    (app x4 ([y1] : List Str)).bind fun x6 =>
    (app x6 x5).bind fun x7 =>
    some x7

noncomputable def m_ref02_collect_L1 (y1 : T_Formula) (rec_ref02_collect : (List Str) → T_Formula → Option (List Str)) (s2 : (List Str) × Int) : Option (((List Str) × Int) ⊕ (List Str)) :=
  if decide (s2.2 < (len ((fv y1).2.2))) then
    (idx ((fv y1).2.2) s2.2).bind fun x1 =>
    (rec_ref02_collect s2.1 x1).bind fun r2 =>
    some (.inl (r2, w64 (s2.2 + 1)))
  else
    some (.inr s2.1)

noncomputable def F_ref02_collect (rec_ref02_collect : (List Str) → T_Formula → Option (List Str)) (y0 : List Str) (y1 : T_Formula) : Option (List Str) :=
  (
    if (((fv y1).1) == 3) && ((len ((fv y1).2.2)) == 0) then
      (m_ref02_insert y0 ((fv y1).2.1)).bind fun r1 =>
      some r1
    else
      some y0 : Option (List Str)).bind fun s1 =>
  loop (m_ref02_collect_L1 y1 rec_ref02_collect) (s1, 0)

noncomputable def k_ref02_collect : Nat → (List Str) → T_Formula → Option (List Str)
  | 0 => fun _ _ => none
  | k + 1 => fun y0 y1 => F_ref02_collect (k_ref02_collect k) y0 y1

noncomputable def m_ref02_collect (y0 : List Str) (y1 : T_Formula) : Option (List Str) := limM fun k => k_ref02_collect k y0 y1

noncomputable def m_ref02_Atoms (y0 : T_Formula) : Option (List Str) :=
  (m_ref02_collect ([] : List Str) y0).bind fun r1 =>
  some r1

noncomputable def m_ref02_names_L1 (y0 : T_Formula) (rec_ref02_names : T_Formula → Option Bool) (s2 : Bool × Int) : Option ((Bool × Int) ⊕ Bool) :=
  if decide (s2.2 < (len ((fv y0).2.2))) then
    (
      if s2.1 then
        (idx ((fv y0).2.2) s2.2).bind fun x1 =>
        (rec_ref02_names x1).bind fun r2 =>
        some r2
      else
        some false : Option Bool).bind fun s3 =>
    some (.inl (s3, w64 (s2.2 + 1)))
  else
    some (.inr s2.1)

noncomputable def F_ref02_names (rec_ref02_names : T_Formula → Option Bool) (y0 : T_Formula) : Option Bool :=
  (
    if ((fv y0).1) == 3 then
      (m_ref01_ValidName ((fv y0).2.1)).bind fun r1 =>
      some r1
    else
      some (((fv y0).2.1) == []) : Option Bool).bind fun s1 =>
  loop (m_ref02_names_L1 y0 rec_ref02_names) (s1, 0)

noncomputable def k_ref02_names : Nat → T_Formula → Option Bool
  | 0 => fun _ => none
  | k + 1 => fun y0 => F_ref02_names (k_ref02_names k) y0

noncomputable def m_ref02_names (y0 : T_Formula) : Option Bool := limM fun k => k_ref02_names k y0

noncomputable def m_ref02_value_L1 (y1 : List Str) (y0 : T_Formula) (s1 : Int) : Option (Int ⊕ Bool) :=
  if decide (s1 < (len y1)) then
    (idx y1 s1).bind fun x1 =>
    if x1 == ((fv y0).2.1) then
      some (.inr true)
    else
      some (.inl (w64 (s1 + 1)))
  else
    some (.inr false)

noncomputable def m_ref02_value_L2 (y0 : T_Formula) (rec_ref02_value : T_Formula → (List Str) → Option Bool) (y1 : List Str) (s2 : Int) : Option (Int ⊕ Bool) :=
  if decide (s2 < (len ((fv y0).2.2))) then
    (idx ((fv y0).2.2) s2).bind fun x3 =>
    (rec_ref02_value x3 y1).bind fun r2 =>
    if !r2 then
      some (.inr false)
    else
      some (.inl (w64 (s2 + 1)))
  else
    some (.inr true)

noncomputable def m_ref02_value_L3 (y0 : T_Formula) (rec_ref02_value : T_Formula → (List Str) → Option Bool) (y1 : List Str) (s3 : Int) : Option (Int ⊕ Bool) :=
  if decide (s3 < (len ((fv y0).2.2))) then
    (idx ((fv y0).2.2) s3).bind fun x4 =>
    (rec_ref02_value x4 y1).bind fun r3 =>
    if r3 then
      some (.inr true)
    else
      some (.inl (w64 (s3 + 1)))
  else
    some (.inr false)

noncomputable def F_ref02_value (rec_ref02_value : T_Formula → (List Str) → Option Bool) (y0 : T_Formula) (y1 : List Str) : Option Bool :=
  if ((fv y0).1) == 1 then
    some true
  else
    if ((fv y0).1) == 3 then
      loop (m_ref02_value_L1 y1 y0) 0
    else
      if ((fv y0).1) == 4 then
        (idx ((fv y0).2.2) 0).bind fun x2 =>
        (rec_ref02_value x2 y1).bind fun r1 =>
        some (!r1)
      else
        if ((fv y0).1) == 5 then
          loop (m_ref02_value_L2 y0 rec_ref02_value y1) 0
        else
          if ((fv y0).1) == 6 then
            loop (m_ref02_value_L3 y0 rec_ref02_value y1) 0
          else
            if ((fv y0).1) == 7 then
              (
                (idx ((fv y0).2.2) 0).bind fun x5 =>
                (rec_ref02_value x5 y1).bind fun r4 =>
                if !r4 then
                  some true
                else
                  (idx ((fv y0).2.2) 1).bind fun x6 =>
                  (rec_ref02_value x6 y1).bind fun r5 =>
                  some r5 : Option Bool).bind fun s4 =>
              some s4
            else
              if ((fv y0).1) == 8 then
                (idx ((fv y0).2.2) 0).bind fun x7 =>
                (idx ((fv y0).2.2) 1).bind fun x8 =>
                (rec_ref02_value x7 y1).bind fun r6 =>
                (rec_ref02_value x8 y1).bind fun r7 =>
                some (r6 == r7)
              else
                some false

noncomputable def k_ref02_value : Nat → T_Formula → (List Str) → Option Bool
  | 0 => fun _ _ => none
  | k + 1 => fun y0 y1 => F_ref02_value (k_ref02_value k) y0 y1

noncomputable def m_ref02_value (y0 : T_Formula) (y1 : List Str) : Option Bool := limM fun k => k_ref02_value k y0 y1

noncomputable def m_ref02_Eval (y0 : T_Formula) (y1 : List Str) : Option Bool :=
  (
    (m_ref02_kinds y0).bind fun r1 =>
    if r1 then
      (m_ref02_names y0).bind fun r2 =>
      if r2 then
        (m_ref02_value y0 y1).bind fun r3 =>
        some r3
      else
        some false
    else
      some false : Option Bool).bind fun s1 =>
  some s1

noncomputable def m_ref02_Validate (y0 : T_Formula) : Option Int :=
  (
    (m_ref02_Size y0).bind fun r1 =>
    if decide (600 < r1) then
      some true
    else
      (m_ref02_Depth y0).bind fun r2 =>
      some (decide (20 < r2)) : Option Bool).bind fun s1 =>
  if s1 then
    some 2
  else
    (m_ref02_kinds y0).bind fun r3 =>
    if !r3 then
      some 4
    else
      (m_ref02_names y0).bind fun r4 =>
      if !r4 then
        some 3
      else
        some 0

noncomputable def m_ref03_Valid_L1 (y0 : List Str) (s2 : Int) : Option (Int ⊕ (Unit ⊕ Bool)) :=
  if decide (s2 < (len y0)) then
    (
      (idx y0 s2).bind fun x1 =>
      (m_ref01_ValidName x1).bind fun r1 =>
      if !r1 then
        some true
      else
        if decide (0 < s2) then
          (idx y0 s2).bind fun x2 =>
          (idx y0 (w64 (s2 - 1))).bind fun x3 =>
          some (sless x2 x3 || x2 == x3)
        else
          some false : Option Bool).bind fun s3 =>
    if s3 then
      some (.inr (.inr false))
    else
      some (.inl (w64 (s2 + 1)))
  else
    some (.inr (.inl ()))

noncomputable def m_ref03_Valid (y0 : List Str) : Option Bool :=
  seqE (loop (m_ref03_Valid_L1 y0) 0 : Option (Unit ⊕ Bool)) fun _ =>
  some (decide ((len y0) ≤ 6))

noncomputable def m_ref03_Yes_L1 (y0 : List Str) (y1 : Int) (s1 : (List Str) × Int) : Option (((List Str) × Int) ⊕ (List Str)) :=
  if decide (s1.2 < (len y0)) then
    (shrK .i64 y1 (IntKind.u64.wrap (s1.2))).bind fun x1 =>
    if (band .i64 x1 1) == 1 then
      (idx y0 s1.2).bind fun x2 =>
      (app s1.1 ([x2] : List Str)).bind fun x3 =>
      some (.inl (x3, w64 (s1.2 + 1)))
    else
      some (.inl (s1.1, w64 (s1.2 + 1)))
  else
    some (.inr s1.1)

noncomputable def m_ref03_Yes (y0 : List Str) (y1 : Int) : Option (List Str) :=
  loop (m_ref03_Yes_L1 y0 y1) (([] : List Str), 0)

noncomputable def m_ref03_count (y0 : List Str) : Option Int :=
  (shlK .i64 1 (IntKind.u64.wrap (len y0))).bind fun x1 =>
  some x1

noncomputable def m_ref03_index_L1 (y0 : List Str) (y1 : Str) (s1 : Int) : Option (Int ⊕ Int) :=
  if decide (s1 < (len y0)) then
    (idx y0 s1).bind fun x1 =>
    if x1 == y1 then
      some (.inr s1)
    else
      some (.inl (w64 (s1 + 1)))
  else
    some (.inr (-1))

noncomputable def m_ref03_index (y0 : List Str) (y1 : Str) : Option Int :=
  loop (m_ref03_index_L1 y0 y1) 0

noncomputable def m_ref03_Models_L1 (r3 : (List Str)) (y0 : List Str) (s2 : Int) : Option (Int ⊕ (Unit ⊕ (Int × Int))) :=
  if decide (s2 < (len r3)) then
    (idx r3 s2).bind fun x1 =>
    (m_ref03_index y0 x1).bind fun r4 =>
    if decide (r4 < 0) then
      some (.inr (.inr (0, 6)))
    else
      some (.inl (w64 (s2 + 1)))
  else
    some (.inr (.inl ()))

noncomputable def m_ref03_Models_L2 (y0 : List Str) (y1 : T_Formula) (s3 : Int × Int) : Option ((Int × Int) ⊕ (Int × Int)) :=
  (m_ref03_count y0).bind fun r5 =>
  if decide (s3.2 < r5) then
    (m_ref03_Yes y0 s3.2).bind fun r6 =>
    (m_ref02_Eval y1 r6).bind fun r7 =>
    if r7 then
      (shlK .u64 1 (IntKind.u64.wrap (s3.2))).bind fun x2 =>
      some (.inl (bor .u64 s3.1 x2, w64 (s3.2 + 1)))
    else
      some (.inl (s3.1, w64 (s3.2 + 1)))
  else
    some (.inr (s3.1, 0))

noncomputable def m_ref03_Models (y0 : List Str) (y1 : T_Formula) : Option (Int × Int) :=
  (m_ref03_Valid y0).bind fun r1 =>
  if !r1 then
    some (0, 1)
  else
    (m_ref02_Validate y1).bind fun r2 =>
    if r2 != 0 then
      some (0, r2)
    else
      (m_ref02_Atoms y1).bind fun r3 =>
      seqE (loop (m_ref03_Models_L1 r3 y0) 0 : Option (Unit ⊕ (Int × Int))) fun _ =>
      loop (m_ref03_Models_L2 y0 y1) (0, 0)

noncomputable def m_ref31_Most_L1 (y0 : T_Order) (s1 : Int × Int) : Option ((Int × Int) ⊕ Int) :=
  if decide (s1.2 < (len y0.2)) then
    (idx y0.2 s1.2).bind fun x1 =>
    some (.inl (if x1 > s1.1 then x1 else s1.1, w64 (s1.2 + 1)))
  else
    some (.inr s1.1)

noncomputable def m_ref31_Most (y0 : T_Order) : Option Int :=
  loop (m_ref31_Most_L1 y0) (0, 0)

noncomputable def m_keep_In_L1 (y0 : List Int) (y1 : Int) (s1 : Int) : Option (Int ⊕ Bool) :=
  if decide (s1 < (len y0)) then
    (idx y0 s1).bind fun x1 =>
    if x1 == y1 then
      some (.inr true)
    else
      some (.inl (w64 (s1 + 1)))
  else
    some (.inr false)

noncomputable def m_keep_In (y0 : List Int) (y1 : Int) : Option Bool :=
  loop (m_keep_In_L1 y0 y1) 0

noncomputable def m_ref31_Validate_L1 (y0 : T_Order) (s3 : Int × Int) : Option ((Int × Int) ⊕ (Int ⊕ Int)) :=
  if decide (s3.2 < (len y0.2)) then
    (
      (idx y0.2 s3.2).bind fun x2 =>
      if decide (x2 < 0) then
        some true
      else
        (idx y0.2 s3.2).bind fun x3 =>
        some (decide ((len y0.2) ≤ x3)) : Option Bool).bind fun s4 =>
    if s4 then
      some (.inr (.inr 8))
    else
      (idx y0.2 s3.2).bind fun x4 =>
      some (.inl (if x4 > s3.1 then x4 else s3.1, w64 (s3.2 + 1)))
  else
    some (.inr (.inl s3.1))

noncomputable def m_ref31_Validate_L2 (s2 : Int) (y0 : T_Order) (s5 : Int) : Option (Int ⊕ Int) :=
  if decide (s5 < s2) then
    (m_keep_In y0.2 s5).bind fun r2 =>
    if !r2 then
      some (.inr 8)
    else
      some (.inl (w64 (s5 + 1)))
  else
    some (.inr 0)

noncomputable def m_ref31_Validate (y0 : T_Order) : Option Int :=
  (
    (m_ref03_Valid y0.1).bind fun r1 =>
    if !r1 then
      some true
    else
      (shlK .i64 1 (IntKind.u64.wrap (len y0.1))).bind fun x1 =>
      some ((len y0.2) != x1) : Option Bool).bind fun s1 =>
  if s1 then
    some 1
  else
    seqE (loop (m_ref31_Validate_L1 y0) (0, 0) : Option (Int ⊕ Int)) fun s2 =>
    loop (m_ref31_Validate_L2 s2 y0) 0

noncomputable def m_ref31_Where_L1 (y0 : T_Order) (y1 : Int) (y2 : Int) (s1 : Int × Int) : Option ((Int × Int) ⊕ Int) :=
  if decide (s1.2 < (len y0.2)) then
    (
      (idx y0.2 s1.2).bind fun x1 =>
      if decide (y1 ≤ x1) then
        (idx y0.2 s1.2).bind fun x2 =>
        some (decide (x2 ≤ y2))
      else
        some false : Option Bool).bind fun s2 =>
    if s2 then
      (shlK .u64 1 (IntKind.u64.wrap (s1.2))).bind fun x3 =>
      some (.inl (bor .u64 s1.1 x3, w64 (s1.2 + 1)))
    else
      some (.inl (s1.1, w64 (s1.2 + 1)))
  else
    some (.inr s1.1)

noncomputable def m_ref31_Where (y0 : T_Order) (y1 : Int) (y2 : Int) : Option Int :=
  loop (m_ref31_Where_L1 y0 y1 y2) (0, 0)

noncomputable def m_ref31_Levels_L1 (y0 : T_Order) (s1 : (List Int) × Int) : Option (((List Int) × Int) ⊕ (List Int)) :=
  (m_ref31_Most y0).bind fun r2 =>
  if decide (s1.2 ≤ r2) then
    (m_ref31_Where y0 s1.2 s1.2).bind fun r3 =>
    (app s1.1 ([r3] : List Int)).bind fun x1 =>
    some (.inl (x1, w64 (s1.2 + 1)))
  else
    some (.inr s1.1)

noncomputable def m_ref31_Levels (y0 : T_Order) : Option (List Int) :=
  (m_ref31_Validate y0).bind fun r1 =>
  if r1 != 0 then
    some ([] : List Int)
  else
    loop (m_ref31_Levels_L1 y0) (([] : List Int), 0)

noncomputable def m_ref31_Normal_L2 (y1 : List Int) (s4 : Int × (List Int)) (s6 : (List Int) × Int) : Option (((List Int) × Int) ⊕ (List Int)) :=
  if decide (s6.2 < (len y1)) then
    (
      (idx y1 s6.2).bind fun x22 =>
      (idx y1 s4.1).bind fun x23 =>
      if decide (x22 < x23) then
        (idx y1 s6.2).bind fun x24 =>
        (m_keep_In s6.1 x24).bind fun r2 =>
        some (!r2)
      else
        some false : Option Bool).bind fun s7 =>
    if s7 then
      (idx y1 s6.2).bind fun x25 =>
      (app s6.1 ([x25] : List Int)).bind fun x26 =>
      some (.inl (x26, w64 (s6.2 + 1)))
    else
      some (.inl (s6.1, w64 (s6.2 + 1)))
  else
    some (.inr s6.1)

noncomputable def m_ref31_Normal_L1 (y1 : List Int) (s4 : Int × (List Int)) : Option ((Int × (List Int)) ⊕ (List Int)) :=
  if decide (s4.1 < (len y1)) then
    (loop (m_ref31_Normal_L2 y1 s4) (([] : List Int), 0) : Option (List Int)).bind fun s5 =>
    (idx s4.2 s4.1).bind fun _ =>
    some (.inl (w64 (s4.1 + 1), List.set s4.2 (Int.toNat s4.1) (len s5)))
  else
    some (.inr s4.2)

noncomputable def m_ref31_Normal (y0 : List Str) (y1 : List Int) : Option (T_Order × Int) :=
  (
    (m_ref03_Valid y0).bind fun r1 =>
    if !r1 then
      some true
    else
      (shlK .i64 1 (IntKind.u64.wrap (len y0))).bind fun x1 =>
      some ((len y1) != x1) : Option Bool).bind fun s1 =>
  if s1 then
    some ((([] : List Str), ([] : List Int)), 1)
  else
    (
      (app ([] : List Str) y0).bind fun x2 =>
      (mkS (len y1) (len y1) (0 : Int)).bind fun x3 =>
      some (x2, x3) : Option T_Order).bind fun s2 =>
    (loop (m_ref31_Normal_L1 y1) (0, s2.2) : Option (List Int)).bind fun s3 =>
    some ((s2.1, s3), 0)

noncomputable def m_ref31_Some_L1 (x2 : List Int) (y0 : T_keep_Src) (r1 : Int × Int) (s2 : (List Int) × Int × Int) : Option (((List Int) × Int × Int) ⊕ ((List Int) × Int)) :=
  if decide (s2.2.1 < (len x2)) then
    (m_keep_Src_N (y0.1, s2.2.2) r1.1).bind fun r2 =>
    (idx s2.1 s2.2.1).bind fun _ =>
    some (.inl (List.set s2.1 (Int.toNat s2.2.1) r2.1, w64 (s2.2.1 + 1), r2.2))
  else
    some (.inr (s2.1, s2.2.2))

noncomputable def m_ref31_Some (y0 : T_keep_Src) (y1 : Int) : Option (T_Order × Int) :=
  (shlK .i64 1 (IntKind.u64.wrap (y1))).bind fun x1 =>
  (mkS x1 x1 (0 : Int)).bind fun x2 =>
  (m_keep_Src_Range y0 1 6).bind fun r1 =>
  (loop (m_ref31_Some_L1 x2 y0 r1) (x2, 0, r1.2) : Option ((List Int) × Int)).bind fun s1 =>
  (m_keep_Voc y1).bind fun r3 =>
  (m_ref31_Normal r3 s1.1).bind fun r4 =>
  some (r4.1, s1.2)

noncomputable def m_ref02_strength (y0 : T_Formula) : Option Int :=
  if ((fv y0).1) == 8 then
    some 1
  else
    if ((fv y0).1) == 7 then
      some 2
    else
      if ((fv y0).1) == 6 then
        some 3
      else
        if ((fv y0).1) == 5 then
          some 4
        else
          some 5

noncomputable def F_ref02_argument (rec_ref02_argument : T_Formula → Int → Option Str) (rec_ref02_joined : (List T_Formula) → Str → Int → Option Str) (rec_ref02_text : T_Formula → Option Str) (y0 : T_Formula) (y1 : Int) : Option Str :=
  (m_ref02_strength y0).bind fun r1 =>
  if decide (r1 < y1) then
    (rec_ref02_text y0).bind fun r2 =>
    (cat [40] r2).bind fun x1 =>
    (cat x1 [41]).bind fun x2 =>
    some x2
  else
    (rec_ref02_text y0).bind fun r3 =>
    some r3

noncomputable def m_ref02_joined_L1 (y0 : List T_Formula) (y1 : Str) (rec_ref02_argument : T_Formula → Int → Option Str) (y2 : Int) (s1 : Str × Int) : Option ((Str × Int) ⊕ Str) :=
  if decide (s1.2 < (len y0)) then
    (cat s1.1 y1).bind fun x2 =>
    (idx y0 s1.2).bind fun x3 =>
    (rec_ref02_argument x3 y2).bind fun r2 =>
    (cat x2 r2).bind fun x4 =>
    some (.inl (x4, w64 (s1.2 + 1)))
  else
    some (.inr s1.1)

noncomputable def F_ref02_joined (rec_ref02_argument : T_Formula → Int → Option Str) (rec_ref02_joined : (List T_Formula) → Str → Int → Option Str) (rec_ref02_text : T_Formula → Option Str) (y0 : List T_Formula) (y1 : Str) (y2 : Int) : Option Str :=
  (idx y0 0).bind fun x1 =>
  (rec_ref02_argument x1 y2).bind fun r1 =>
  loop (m_ref02_joined_L1 y0 y1 rec_ref02_argument y2) (r1, 1)

noncomputable def F_ref02_text (rec_ref02_argument : T_Formula → Int → Option Str) (rec_ref02_joined : (List T_Formula) → Str → Int → Option Str) (rec_ref02_text : T_Formula → Option Str) (y0 : T_Formula) : Option Str :=
  if ((fv y0).1) == 1 then
    some [49]
  else
    if ((fv y0).1) == 2 then
      some [48]
    else
      if ((fv y0).1) == 3 then
        some ((fv y0).2.1)
      else
        if ((fv y0).1) == 4 then
          (idx ((fv y0).2.2) 0).bind fun x1 =>
          (rec_ref02_argument x1 5).bind fun r1 =>
          (cat [126] r1).bind fun x2 =>
          some x2
        else
          if ((fv y0).1) == 5 then
            (rec_ref02_joined ((fv y0).2.2) [32, 38, 32] 5).bind fun r2 =>
            some r2
          else
            if ((fv y0).1) == 6 then
              (rec_ref02_joined ((fv y0).2.2) [32, 124, 32] 4).bind fun r3 =>
              some r3
            else
              if ((fv y0).1) == 7 then
                (idx ((fv y0).2.2) 0).bind fun x3 =>
                (idx ((fv y0).2.2) 1).bind fun x4 =>
                (rec_ref02_argument x3 3).bind fun r4 =>
                (cat r4 [32, 45, 62, 32]).bind fun x5 =>
                (rec_ref02_argument x4 2).bind fun r5 =>
                (cat x5 r5).bind fun x6 =>
                some x6
              else
                (rec_ref02_joined ((fv y0).2.2) [32, 60, 45, 62, 32] 2).bind fun r6 =>
                some r6

mutual
noncomputable def k_ref02_argument : Nat → T_Formula → Int → Option Str
  | 0 => fun _ _ => none
  | k + 1 => fun y0 y1 => F_ref02_argument (k_ref02_argument k) (k_ref02_joined k) (k_ref02_text k) y0 y1
noncomputable def k_ref02_joined : Nat → (List T_Formula) → Str → Int → Option Str
  | 0 => fun _ _ _ => none
  | k + 1 => fun y0 y1 y2 => F_ref02_joined (k_ref02_argument k) (k_ref02_joined k) (k_ref02_text k) y0 y1 y2
noncomputable def k_ref02_text : Nat → T_Formula → Option Str
  | 0 => fun _ => none
  | k + 1 => fun y0 => F_ref02_text (k_ref02_argument k) (k_ref02_joined k) (k_ref02_text k) y0
end

noncomputable def m_ref02_argument (y0 : T_Formula) (y1 : Int) : Option Str := limM fun k => k_ref02_argument k y0 y1

noncomputable def m_ref02_joined (y0 : List T_Formula) (y1 : Str) (y2 : Int) : Option Str := limM fun k => k_ref02_joined k y0 y1 y2

noncomputable def m_ref02_text (y0 : T_Formula) : Option Str := limM fun k => k_ref02_text k y0

noncomputable def m_ref02_Format (y0 : T_Formula) : Option (Str × Int) :=
  (m_ref02_Validate y0).bind fun r1 =>
  if r1 != 0 then
    some ([], r1)
  else
    (m_ref02_text y0).bind fun r2 =>
    if decide (4096 < (len r2)) then
      some ([], 2)
    else
      some (r2, 0)

noncomputable def m_ref02_Same_L1 (y0 : T_Formula) (y1 : T_Formula) (rec_ref02_Same : T_Formula → T_Formula → Option Bool) (s1 : Int) : Option (Int ⊕ Bool) :=
  if decide (s1 < (len ((fv y0).2.2))) then
    (idx ((fv y0).2.2) s1).bind fun x1 =>
    (idx ((fv y1).2.2) s1).bind fun x2 =>
    (rec_ref02_Same x1 x2).bind fun r1 =>
    if !r1 then
      some (.inr false)
    else
      some (.inl (w64 (s1 + 1)))
  else
    some (.inr true)

noncomputable def F_ref02_Same (rec_ref02_Same : T_Formula → T_Formula → Option Bool) (y0 : T_Formula) (y1 : T_Formula) : Option Bool :=
  if (((fv y0).1) != ((fv y1).1)) || ((!(((fv y0).2.1) == ((fv y1).2.1))) || ((len ((fv y0).2.2)) != (len ((fv y1).2.2)))) then
    some false
  else
    loop (m_ref02_Same_L1 y0 y1 rec_ref02_Same) 0

noncomputable def k_ref02_Same : Nat → T_Formula → T_Formula → Option Bool
  | 0 => fun _ _ => none
  | k + 1 => fun y0 y1 => F_ref02_Same (k_ref02_Same k) y0 y1

noncomputable def m_ref02_Same (y0 : T_Formula) (y1 : T_Formula) : Option Bool := limM fun k => k_ref02_Same k y0 y1

noncomputable def m_ref03_All_L1 (y0 : List Str) (s1 : Int × Int) : Option ((Int × Int) ⊕ Int) :=
  (m_ref03_count y0).bind fun r2 =>
  if decide (s1.2 < r2) then
    (shlK .u64 1 (IntKind.u64.wrap (s1.2))).bind fun x1 =>
    some (.inl (bor .u64 s1.1 x1, w64 (s1.2 + 1)))
  else
    some (.inr s1.1)

noncomputable def m_ref03_All (y0 : List Str) : Option Int :=
  (m_ref03_Valid y0).bind fun r1 =>
  if !r1 then
    some 0
  else
    loop (m_ref03_All_L1 y0) (0, 0)

noncomputable def m_ref03_has (y0 : Int) (y1 : Int) : Option Bool :=
  (shrK .u64 y0 (IntKind.u64.wrap (y1))).bind fun x1 =>
  some ((band .u64 x1 1) == 1)

noncomputable def m_ref03_half_L1 (y0 : List Str) (y1 : Int) (y2 : Int) (s1 : Int × Int) : Option ((Int × Int) ⊕ Int) :=
  (m_ref03_count y0).bind fun r1 =>
  if decide (s1.2 < r1) then
    (
      (m_ref03_has y1 s1.2).bind fun r2 =>
      if r2 then
        some ((band .i64 s1.2 1) == y2)
      else
        some false : Option Bool).bind fun s2 =>
    if s2 then
      (shlK .u64 1 (IntKind.u64.wrap (shr .i64 s1.2 1))).bind fun x1 =>
      some (.inl (bor .u64 s1.1 x1, w64 (s1.2 + 1)))
    else
      some (.inl (s1.1, w64 (s1.2 + 1)))
  else
    some (.inr s1.1)

noncomputable def m_ref03_half (y0 : List Str) (y1 : Int) (y2 : Int) : Option Int :=
  loop (m_ref03_half_L1 y0 y1 y2) (0, 0)

noncomputable def m_ref03_pair (y0 : Int) (y1 : T_Formula) (y2 : T_Formula) : Option T_Formula :=
  some (fm (y0, [], ([y1, y2] : List T_Formula)))

noncomputable def F_ref03_theory (rec_ref03_theory : (List Str) → Int → Option T_Formula) (y0 : List Str) (y1 : Int) : Option T_Formula :=
  (m_ref03_All y0).bind fun r1 =>
  if (band .u64 y1 r1) == 0 then
    some (fm (2, [], ([] : List T_Formula)))
  else
    (m_ref03_All y0).bind fun r2 =>
    (m_ref03_All y0).bind fun r3 =>
    if (band .u64 y1 r2) == r3 then
      some (fm (1, [], ([] : List T_Formula)))
    else
      (idx y0 0).bind fun x1 =>
      (
        (sub y0 1 (len y0)).bind fun x2 =>
        (sub y0 1 (len y0)).bind fun x3 =>
        (m_ref03_half y0 y1 1).bind fun r4 =>
        (rec_ref03_theory x2 r4).bind fun r5 =>
        (m_ref03_half y0 y1 0).bind fun r6 =>
        (rec_ref03_theory x3 r6).bind fun r7 =>
        some (r5, r7) : Option (T_Formula × T_Formula)).bind fun s1 =>
      (m_ref02_Same s1.1 s1.2).bind fun r68 =>
      if r68 then
        some s1.1
      else
        if (((fv s1.1).1) == 1) && (((fv s1.2).1) == 2) then
          some (fm (3, x1, ([] : List T_Formula)))
        else
          if ((fv s1.1).1) == 1 then
            (m_ref03_pair 6 (fm (3, x1, ([] : List T_Formula))) s1.2).bind fun r69 =>
            some r69
          else
            if (((fv s1.1).1) == 2) && (((fv s1.2).1) == 1) then
              some (fm (4, [], ([fm (3, x1, ([] : List T_Formula))] : List T_Formula)))
            else
              if ((fv s1.1).1) == 2 then
                (m_ref03_pair 5 (fm (4, [], ([fm (3, x1, ([] : List T_Formula))] : List T_Formula))) s1.2).bind fun r70 =>
                some r70
              else
                if ((fv s1.2).1) == 1 then
                  (m_ref03_pair 6 (fm (4, [], ([fm (3, x1, ([] : List T_Formula))] : List T_Formula))) s1.1).bind fun r71 =>
                  some r71
                else
                  if ((fv s1.2).1) == 2 then
                    (m_ref03_pair 5 (fm (3, x1, ([] : List T_Formula))) s1.1).bind fun r72 =>
                    some r72
                  else
                    (m_ref03_pair 5 (fm (3, x1, ([] : List T_Formula))) s1.1).bind fun r73 =>
                    (m_ref03_pair 5 (fm (4, [], ([fm (3, x1, ([] : List T_Formula))] : List T_Formula))) s1.2).bind fun r74 =>
                    (m_ref03_pair 6 r73 r74).bind fun r75 =>
                    some r75

noncomputable def k_ref03_theory : Nat → (List Str) → Int → Option T_Formula
  | 0 => fun _ _ => none
  | k + 1 => fun y0 y1 => F_ref03_theory (k_ref03_theory k) y0 y1

noncomputable def m_ref03_theory (y0 : List Str) (y1 : Int) : Option T_Formula := limM fun k => k_ref03_theory k y0 y1

noncomputable def m_ref03_Theory (y0 : List Str) (y1 : Int) : Option (T_Formula × Int) :=
  (m_ref03_Valid y0).bind fun r1 =>
  if !r1 then
    some (fm (0, [], ([] : List T_Formula)), 1)
  else
    (m_ref03_theory y0 y1).bind fun r2 =>
    some (r2, 0)

noncomputable def F_ref42_digits (rec_ref42_digits : Int → Option Str) (y0 : Int) : Option Str :=
  if decide (y0 < 10) then
    some (strOf ([IntKind.u8.wrap (w64 (48 + y0))] : List Int))
  else
    (
      (quoK .i64 y0 10).bind fun x1 =>
      (remK y0 10).bind fun x2 =>
      (rec_ref42_digits x1).bind fun r1 =>
      (cat r1 (strOf ([IntKind.u8.wrap (w64 (48 + x2))] : List Int))).bind fun x3 =>
      some x3 : Option Str).bind fun s1 =>
    some s1

noncomputable def k_ref42_digits : Nat → Int → Option Str
  | 0 => fun _ => none
  | k + 1 => fun y0 => F_ref42_digits (k_ref42_digits k) y0

noncomputable def m_ref42_digits (y0 : Int) : Option Str := limM fun k => k_ref42_digits k y0

noncomputable def m_ref42_Order_L1 (r1 : (List Int)) (y0 : T_Order) (s1 : (List Str) × Int) : Option (((List Str) × Int) ⊕ (List Str)) :=
  if decide (s1.2 < (len r1)) then
    (
      (idx r1 s1.2).bind fun x1 =>
      (m_ref03_Theory y0.1 x1).bind fun r2 =>
      some r2.1 : Option T_Formula).bind fun s2 =>
    (m_ref02_Format s2).bind fun r4 =>
    (m_ref42_digits s1.2).bind fun r5 =>
    (cat r5 [58, 32]).bind fun x2 =>
    (cat x2 r4.1).bind fun x3 =>
    (app s1.1 ([x3] : List Str)).bind fun x4 =>
    some (.inl (x4, w64 (s1.2 + 1)))
  else
    some (.inr s1.1)

noncomputable def m_ref42_Order (y0 : T_Order) : Option (List Str) :=
  (m_ref31_Levels y0).bind fun r1 =>
  loop (m_ref42_Order_L1 r1 y0) (([] : List Str), 0)

noncomputable def m_law42_ReportOrders_L2 (r8 : (List Str)) (s2 : Int) (s4 : Int) : Option (Int ⊕ Int) :=
  (
    (idx r8 s2).bind fun x1 =>
    if decide (s4 < (len x1)) then
      (idx r8 s2).bind fun x2 =>
      (sidx x2 s4).bind fun x3 =>
      some (x3 != 32)
    else
      some false : Option Bool).bind fun s5 =>
  if s5 then
    some (.inl (w64 (s4 + 1)))
  else
    some (.inr s4)

noncomputable def m_law42_ReportOrders_L1 (r8 : (List Str)) (r4 : T_Order × Int) (r9 : (List Int)) (s2 : Int) : Option (Int ⊕ (Unit ⊕ Bool)) :=
  if decide (s2 < (len r8)) then
    (loop (m_law42_ReportOrders_L2 r8 s2) 0 : Option Int).bind fun s3 =>
    (idx r8 s2).bind fun x4 =>
    if s3 == (len x4) then
      some (.inr (.inr false))
    else
      (idx r8 s2).bind fun x5 =>
      (sub x5 (w64 (s3 + 1)) (len x5)).bind fun x6 =>
      (m_ref02_Parse x6).bind fun r10 =>
      (m_ref03_Models r4.1.1 r10.1).bind fun r11 =>
      (
        if r10.2.2 != 0 then
          some true
        else
          if r11.2 != 0 then
            some true
          else
            (idx r9 s2).bind fun x7 =>
            some (r11.1 != x7) : Option Bool).bind fun s6 =>
      if s6 then
        some (.inr (.inr false))
      else
        some (.inl (w64 (s2 + 1)))
  else
    some (.inr (.inl ()))

noncomputable def m_law42_ReportOrders (y0 : T_Order) (y1 : List Int) : Option Bool :=
  if (decide (10 < (len y0.1))) || (decide (100 < (len y0.2))) then
    m_law42_awake.bind fun r1 =>
    some r1
  else
    (m_keep_New y1).bind fun r2 =>
    (m_keep_Src_Range r2 0 4).bind fun r3 =>
    (m_ref31_Some (r2.1, r3.2) r3.1).bind fun r4 =>
    (m_report_Order y0).bind fun r5 =>
    (m_ref42_Order y0).bind fun r6 =>
    (m_ref42_Same r5 r6).bind fun r7 =>
    if !r7 then
      some false
    else
      (m_report_Order r4.1).bind fun r8 =>
      (m_ref31_Levels r4.1).bind fun r9 =>
      if (len r8) != (len r9) then
        some false
      else
        seqE (loop (m_law42_ReportOrders_L1 r8 r4 r9) 0 : Option (Unit ⊕ Bool)) fun _ =>
        (
          (m_ref42_Order r4.1).bind fun r12 =>
          (m_ref42_Same r8 r12).bind fun r13 =>
          if r13 then
            m_law42_awake.bind fun r14 =>
            some r14
          else
            some false : Option Bool).bind fun s7 =>
        some s7

noncomputable def m_keep_Src_More (y0 : T_keep_Src) : Option Bool :=
  some (decide (y0.2 < (len y0.1)))

noncomputable def m_keep_Src_Text (y0 : T_keep_Src) (y1 : List Str) : Option (Str × Int) :=
  (m_keep_Src_N y0 (len y1)).bind fun r1 =>
  (idx y1 r1.1).bind fun x1 =>
  some (x1, r1.2)

noncomputable def m_net_Literal (y0 : T_keep_Src) : Option (T_Literal × Int) :=
  (m_keep_Src_N y0 2).bind fun r1 =>
  (m_keep_Src_Text (y0.1, r1.2) ([[112], [113], [114], [115]] : List Str)).bind fun r2 =>
  some ((r1.1 == 1, r2.1), r2.2)

noncomputable def m_ref01_Compare (y0 : T_Literal) (y1 : T_Literal) : Option Int :=
  if y0 == y1 then
    some 0
  else
    if (sless y0.2 y1.2) || ((y0.2 == y1.2) && y1.1) then
      some (-1)
    else
      some 1

noncomputable def m_ref01_Insert_L1 (y0 : List T_Literal) (y1 : T_Literal) (s2 : Int) : Option (Int ⊕ Int) :=
  (
    if decide (s2 < (len y0)) then
      (idx y0 s2).bind fun x1 =>
      (m_ref01_Compare x1 y1).bind fun r1 =>
      some (decide (r1 < 0))
    else
      some false : Option Bool).bind fun s3 =>
  if s3 then
    some (.inl (w64 (s2 + 1)))
  else
    some (.inr s2)

noncomputable def m_ref01_Insert (y0 : List T_Literal) (y1 : T_Literal) : Option (List T_Literal) :=
  (loop (m_ref01_Insert_L1 y0 y1) 0 : Option Int).bind fun s1 =>
  (
    if decide (s1 < (len y0)) then
      (idx y0 s1).bind fun x2 =>
      some (x2 == y1)
    else
      some false : Option Bool).bind fun s4 =>
  if s4 then
    some y0
  else
    (sub y0 0 s1).bind fun x3 =>
    (app ([] : List T_Literal) x3).bind fun x4 =>
    (sub y0 s1 (len y0)).bind fun x5 =>
    (app x4 ([y1] : List T_Literal)).bind fun x6 =>
    (app x6 x5).bind fun x7 =>
    some x7

noncomputable def m_ref01_Normal_L1 (y0 : List T_Literal) (s1 : (List T_Literal) × Int) : Option (((List T_Literal) × Int) ⊕ (List T_Literal)) :=
  if decide (s1.2 < (len y0)) then
    (idx y0 s1.2).bind fun x1 =>
    (m_ref01_Insert s1.1 x1).bind fun r1 =>
    some (.inl (r1, w64 (s1.2 + 1)))
  else
    some (.inr s1.1)

noncomputable def m_ref01_Normal (y0 : List T_Literal) : Option (List T_Literal) :=
  loop (m_ref01_Normal_L1 y0) (([] : List T_Literal), 0)

noncomputable def m_ref26_New (y0 : Int) : Option ((List (List T_Commitment)) × Int) :=
  if (decide (y0 < 0)) || (decide (6 < y0)) then
    some (([] : List (List T_Commitment)), 1)
  else
    (mkS y0 y0 (([] : List T_Commitment) : List T_Commitment)).bind fun x1 =>
    some (x1, 0)

noncomputable def m_ref01_Valid (y0 : T_Literal) : Option Bool :=
  (m_ref01_ValidName y0.2).bind fun r1 =>
  some r1

noncomputable def m_ref26_ascending_L1 (y0 : List T_Literal) (s1 : Int) : Option (Int ⊕ Bool) :=
  if decide (s1 < (len y0)) then
    (idx y0 (w64 (s1 - 1))).bind fun x1 =>
    (idx y0 s1).bind fun x2 =>
    (m_ref01_Compare x1 x2).bind fun r1 =>
    if decide (0 ≤ r1) then
      some (.inr false)
    else
      some (.inl (w64 (s1 + 1)))
  else
    some (.inr true)

noncomputable def m_ref26_ascending (y0 : List T_Literal) : Option Bool :=
  loop (m_ref26_ascending_L1 y0) 1

noncomputable def m_ref26_find_L1 (y0 : List T_Commitment) (y1 : T_Literal) (s1 : Int) : Option (Int ⊕ Int) :=
  if decide (s1 < (len y0)) then
    (idx y0 s1).bind fun x1 =>
    if x1.1 == y1 then
      some (.inr s1)
    else
      some (.inl (w64 (s1 + 1)))
  else
    some (.inr (-1))

noncomputable def m_ref26_find (y0 : List T_Commitment) (y1 : T_Literal) : Option Int :=
  loop (m_ref26_find_L1 y0 y1) 0

noncomputable def m_ref26_in_L1 (y0 : List T_Literal) (y1 : T_Literal) (s1 : Int) : Option (Int ⊕ Bool) :=
  if decide (s1 < (len y0)) then
    (idx y0 s1).bind fun x1 =>
    if x1 == y1 then
      some (.inr true)
    else
      some (.inl (w64 (s1 + 1)))
  else
    some (.inr false)

noncomputable def m_ref26_in (y0 : List T_Literal) (y1 : T_Literal) : Option Bool :=
  loop (m_ref26_in_L1 y0 y1) 0

noncomputable def m_ref26_not (y0 : T_Literal) : Option T_Literal :=
  some (!y0.1, y0.2)

noncomputable def m_ref26_right_L2 (x1 : T_Commitment) (s6 : Int × Bool) : Option ((Int × Bool) ⊕ Bool) :=
  if decide (s6.1 < (len x1.2.2.2)) then
    (
      if s6.2 then
        (idx x1.2.2.2 s6.1).bind fun x2 =>
        (m_ref01_Valid x2).bind fun r2 =>
        some r2
      else
        some false : Option Bool).bind fun s7 =>
    some (.inl (w64 (s6.1 + 1), s7))
  else
    some (.inr s6.2)

noncomputable def m_ref26_right_L1 (y0 : List T_Commitment) (s2 : Int × Bool × Bool × Bool × Bool × Bool) : Option ((Int × Bool × Bool × Bool × Bool × Bool) ⊕ (Bool × Bool × Bool × Bool × Bool)) :=
  if decide (s2.1 < (len y0)) then
    (idx y0 s2.1).bind fun x1 =>
    (
      if s2.2.1 then
        some (decide ((len x1.2.2.2) ≤ 6))
      else
        some false : Option Bool).bind fun s3 =>
    (
      if s2.2.2.1 then
        (m_ref01_Valid x1.1).bind fun r1 =>
        some r1
      else
        some false : Option Bool).bind fun s4 =>
    (loop (m_ref26_right_L2 x1) (0, s4) : Option Bool).bind fun s5 =>
    (
      if s2.2.2.2.1 then
        (m_ref26_ascending x1.2.2.2).bind fun r3 =>
        if r3 then
          if s2.1 == 0 then
            some true
          else
            (idx y0 (w64 (s2.1 - 1))).bind fun x3 =>
            (m_ref01_Compare x3.1 x1.1).bind fun r4 =>
            some (decide (r4 < 0))
        else
          some false
      else
        some false : Option Bool).bind fun s8 =>
    (
      if s2.2.2.2.2.1 then
        if x1.2.1 then
          if x1.2.2.1 then
            if !true then
              if x1.2.2.1 then
                if !(decide (0 < (len x1.2.2.2))) then
                  (m_ref26_in x1.2.2.2 x1.1).bind fun r5 =>
                  some (!r5)
                else
                  some false
              else
                if !false then
                  (m_ref26_in x1.2.2.2 x1.1).bind fun r6 =>
                  some (!r6)
                else
                  some false
            else
              some false
          else
            if !(decide (0 < (len x1.2.2.2))) then
              if x1.2.2.1 then
                if !(decide (0 < (len x1.2.2.2))) then
                  (m_ref26_in x1.2.2.2 x1.1).bind fun r7 =>
                  some (!r7)
                else
                  some false
              else
                if !false then
                  (m_ref26_in x1.2.2.2 x1.1).bind fun r8 =>
                  some (!r8)
                else
                  some false
            else
              some false
        else
          if !false then
            if x1.2.2.1 then
              if !(decide (0 < (len x1.2.2.2))) then
                (m_ref26_in x1.2.2.2 x1.1).bind fun r9 =>
                some (!r9)
              else
                some false
            else
              if !false then
                (m_ref26_in x1.2.2.2 x1.1).bind fun r10 =>
                some (!r10)
              else
                some false
          else
            some false
      else
        some false : Option Bool).bind fun s9 =>
    (
      if s2.2.2.2.2.2 then
        (m_ref26_not x1.1).bind fun r11 =>
        (m_ref26_find y0 r11).bind fun r12 =>
        some (decide (r12 < 0))
      else
        some false : Option Bool).bind fun s10 =>
    some (.inl (w64 (s2.1 + 1), s3, s5, s8, s9, s10))
  else
    some (.inr (s2.2.1, s2.2.2.1, s2.2.2.2.1, s2.2.2.2.2.1, s2.2.2.2.2.2))

noncomputable def m_ref26_right (y0 : List T_Commitment) : Option (Bool × Bool × Bool × Bool × Bool) :=
  (loop (m_ref26_right_L1 y0) (0, decide ((len y0) ≤ 40), true, true, true, true) : Option (Bool × Bool × Bool × Bool × Bool)).bind fun s1 =>
  some (s1.1, s1.2.1, s1.2.2.1, s1.2.2.2.1, s1.2.2.2.2)

noncomputable def m_ref26_Validate_L2 (y0 : (List (List T_Commitment))) (s1 : Int) (s2 : Int) : Option (Int ⊕ (Int ⊕ Int)) :=
  if decide (s2 < (len y0)) then
    (idx y0 s2).bind fun x1 =>
    (m_ref26_right x1).bind fun r1 =>
    (idx [r1.1, r1.2.1, r1.2.2.1, r1.2.2.2.1, r1.2.2.2.2] s1).bind fun x2 =>
    if !x2 then
      (idx ([2, 3, 8, 7, 10] : List Int) s1).bind fun x3 =>
      some (.inr (.inr x3))
    else
      some (.inl (w64 (s2 + 1)))
  else
    some (.inr (.inl (w64 (s1 + 1))))

noncomputable def m_ref26_Validate_L1 (y0 : (List (List T_Commitment))) (s1 : Int) : Option (Int ⊕ Int) :=
  if decide (s1 < 5) then
    loop (m_ref26_Validate_L2 y0 s1) 0
  else
    some (.inr 0)

noncomputable def m_ref26_Validate (y0 : (List (List T_Commitment))) : Option Int :=
  if decide (6 < (len y0)) then
    some 2
  else
    loop (m_ref26_Validate_L1 y0) 0

noncomputable def m_ref26_grounds_L1 (y1 : T_Speech) (s2 : Int) : Option (Int ⊕ (Unit ⊕ Int)) :=
  if decide (s2 < (len y1.2.2.2.2)) then
    (idx y1.2.2.2.2 s2).bind fun x1 =>
    (m_ref01_Valid x1).bind fun r1 =>
    if !r1 then
      some (.inr (.inr 3))
    else
      some (.inl (w64 (s2 + 1)))
  else
    some (.inr (.inl ()))

noncomputable def m_ref26_grounds_L2 (y1 : T_Speech) (y0 : List T_Commitment) (s4 : Int × Int) : Option ((Int × Int) ⊕ (Int ⊕ Int)) :=
  if decide (s4.2 < (len y1.2.2.2.2)) then
    (
      (idx y1.2.2.2.2 s4.2).bind fun x2 =>
      (m_ref26_not x2).bind fun r4 =>
      (m_ref26_find y0 r4).bind fun r5 =>
      if decide (0 ≤ r5) then
        some true
      else
        (idx y1.2.2.2.2 s4.2).bind fun x3 =>
        (m_ref26_not x3).bind fun r6 =>
        (m_ref26_in y1.2.2.2.2 r6).bind fun r7 =>
        some r7 : Option Bool).bind fun s5 =>
    if s5 then
      some (.inr (.inr 10))
    else
      (idx y1.2.2.2.2 s4.2).bind fun x4 =>
      (m_ref26_find y0 x4).bind fun r8 =>
      if decide (r8 < 0) then
        some (.inl (w64 (s4.1 + 1), w64 (s4.2 + 1)))
      else
        some (.inl (s4.1, w64 (s4.2 + 1)))
  else
    some (.inr (.inl s4.1))

noncomputable def m_ref26_grounds (y0 : List T_Commitment) (y1 : T_Speech) : Option Int :=
  if (len y1.2.2.2.2) == 0 then
    some 1
  else
    if decide (6 < (len y1.2.2.2.2)) then
      some 2
    else
      seqE (loop (m_ref26_grounds_L1 y1) 0 : Option (Unit ⊕ Int)) fun _ =>
      (m_ref26_ascending y1.2.2.2.2).bind fun r2 =>
      if !r2 then
        some 8
      else
        (m_ref26_in y1.2.2.2.2 y1.2.2.2.1).bind fun r3 =>
        if r3 then
          some 7
        else
          seqE (loop (m_ref26_grounds_L2 y1 y0) (0, 0) : Option (Int ⊕ Int)) fun s3 =>
          if decide (40 < (w64 ((len y0) + s3))) then
            some 2
          else
            some 0

noncomputable def m_ref26_set (y0 : (List (List T_Commitment))) (y1 : Int) (y2 : List T_Commitment) : Option (List (List T_Commitment)) :=
  (app ([] : List (List T_Commitment)) y0).bind fun x1 =>
  (idx x1 y1).bind fun _ =>
  some (List.set x1 (Int.toNat y1) y2)

noncomputable def m_ref26_with_L1 (y0 : List T_Commitment) (y1 : T_Commitment) (s2 : (List T_Commitment) × Int) : Option (((List T_Commitment) × Int) ⊕ ((List T_Commitment) × Int)) :=
  (
    if decide (s2.2 < (len y0)) then
      (idx y0 s2.2).bind fun x1 =>
      (m_ref01_Compare x1.1 y1.1).bind fun r1 =>
      some (decide (r1 < 0))
    else
      some false : Option Bool).bind fun s3 =>
  if s3 then
    (idx y0 s2.2).bind fun x2 =>
    (app s2.1 ([x2] : List T_Commitment)).bind fun x3 =>
    some (.inl (x3, w64 (s2.2 + 1)))
  else
    some (.inr (s2.1, s2.2))

noncomputable def m_ref26_with (y0 : List T_Commitment) (y1 : T_Commitment) : Option (List T_Commitment) :=
  (loop (m_ref26_with_L1 y0 y1) (([] : List T_Commitment), 0) : Option ((List T_Commitment) × Int)).bind fun s1 =>
  (app s1.1 ([y1] : List T_Commitment)).bind fun x4 =>
  (
    (
      if decide (s1.2 < (len y0)) then
        (idx y0 s1.2).bind fun x5 =>
        some (x5.1 == y1.1)
      else
        some false : Option Bool).bind fun s5 =>
    if s5 then
      some (w64 (s1.2 + 1))
    else
      some s1.2 : Option Int).bind fun s4 =>
  (sub y0 s4 (len y0)).bind fun x6 =>
  (app x4 x6).bind fun x7 =>
  some x7

noncomputable def m_ref26_argue_L1 (y1 : T_Speech) (s3 : (List T_Commitment) × Int) : Option (((List T_Commitment) × Int) ⊕ (List T_Commitment)) :=
  if decide (s3.2 < (len y1.2.2.2.2)) then
    (idx y1.2.2.2.2 s3.2).bind fun x4 =>
    (m_ref26_find s3.1 x4).bind fun r4 =>
    if decide (r4 < 0) then
      (idx y1.2.2.2.2 s3.2).bind fun x5 =>
      (m_ref26_with s3.1 (x5, false, false, ([] : List T_Literal))).bind fun r5 =>
      some (.inl (r5, w64 (s3.2 + 1)))
    else
      some (.inl (s3.1, w64 (s3.2 + 1)))
  else
    some (.inr s3.1)

noncomputable def m_ref26_argue (y0 : (List (List T_Commitment))) (y1 : T_Speech) : Option ((List (List T_Commitment)) × Int) :=
  (idx y0 y1.2.1).bind fun x1 =>
  (m_ref26_find x1 y1.2.2.2.1).bind fun r1 =>
  (
    if decide (r1 < 0) then
      some true
    else
      (idx x1 r1).bind fun x2 =>
      some (!x2.2.2.1) : Option Bool).bind fun s1 =>
  if s1 then
    some (([] : List (List T_Commitment)), 6)
  else
    (m_ref26_grounds x1 y1).bind fun r2 =>
    if r2 != 0 then
      some (([] : List (List T_Commitment)), r2)
    else
      (app ([] : List T_Literal) y1.2.2.2.2).bind fun x3 =>
      (m_ref26_with x1 (y1.2.2.2.1, false, false, x3)).bind fun r3 =>
      (loop (m_ref26_argue_L1 y1) (r3, 0) : Option (List T_Commitment)).bind fun s2 =>
      (m_ref26_set y0 y1.2.1 s2).bind fun r6 =>
      some (r6, 0)

noncomputable def m_ref26_assert (y0 : (List (List T_Commitment))) (y1 : T_Speech) : Option ((List (List T_Commitment)) × Int) :=
  (idx y0 y1.2.1).bind fun x1 =>
  (m_ref26_find x1 y1.2.2.2.1).bind fun r1 =>
  (
    if decide (0 ≤ r1) then
      (idx x1 r1).bind fun x2 =>
      some (!x2.2.1)
    else
      some false : Option Bool).bind fun s1 =>
  if s1 then
    some (([] : List (List T_Commitment)), 5)
  else
    (m_ref26_not y1.2.2.2.1).bind fun r2 =>
    (m_ref26_find x1 r2).bind fun r3 =>
    if decide (0 ≤ r3) then
      some (([] : List (List T_Commitment)), 10)
    else
      if (decide (r1 < 0)) && (decide (40 ≤ (len x1))) then
        some (([] : List (List T_Commitment)), 2)
      else
        (m_ref26_with x1 (y1.2.2.2.1, false, false, ([] : List T_Literal))).bind fun r4 =>
        (m_ref26_set y0 y1.2.1 r4).bind fun r5 =>
        some (r5, 0)

noncomputable def m_ref26_challenge (y0 : (List (List T_Commitment))) (y1 : T_Speech) : Option ((List (List T_Commitment)) × Int) :=
  if y1.2.1 == y1.2.2.1 then
    some (([] : List (List T_Commitment)), 7)
  else
    (idx y0 y1.2.2.1).bind fun x1 =>
    (m_ref26_find x1 y1.2.2.2.1).bind fun r1 =>
    (
      if decide (r1 < 0) then
        some true
      else
        (idx x1 r1).bind fun x2 =>
        some x2.2.1 : Option Bool).bind fun s1 =>
    if s1 then
      some (([] : List (List T_Commitment)), 6)
    else
      (idx x1 r1).bind fun x3 =>
      if x3.2.2.1 then
        some (([] : List (List T_Commitment)), 5)
      else
        (idx y0 y1.2.1).bind fun x4 =>
        (m_ref26_find x4 y1.2.2.2.1).bind fun r2 =>
        if decide (0 ≤ r2) then
          some (([] : List (List T_Commitment)), 7)
        else
          (m_ref26_with x1 (y1.2.2.2.1, false, true, ([] : List T_Literal))).bind fun r3 =>
          (m_ref26_set y0 y1.2.2.1 r3).bind fun r4 =>
          some (r4, 0)

noncomputable def m_ref26_concede_L1 (y0 : (List (List T_Commitment))) (y1 : T_Speech) (s2 : Bool × Int) : Option ((Bool × Int) ⊕ Bool) :=
  if decide (s2.2 < (len y0)) then
    (
      if s2.1 then
        some true
      else
        if s2.2 != y1.2.1 then
          (idx y0 s2.2).bind fun x2 =>
          (m_ref26_find x2 y1.2.2.2.1).bind fun r1 =>
          some (decide (0 ≤ r1))
        else
          some false : Option Bool).bind fun s3 =>
    some (.inl (s3, w64 (s2.2 + 1)))
  else
    some (.inr s2.1)

noncomputable def m_ref26_concede (y0 : (List (List T_Commitment))) (y1 : T_Speech) : Option ((List (List T_Commitment)) × Int) :=
  (idx y0 y1.2.1).bind fun x1 =>
  (loop (m_ref26_concede_L1 y0 y1) (false, 0) : Option Bool).bind fun s1 =>
  (m_ref26_find x1 y1.2.2.2.1).bind fun r2 =>
  if decide (0 ≤ r2) then
    some (([] : List (List T_Commitment)), 5)
  else
    if !s1 then
      some (([] : List (List T_Commitment)), 6)
    else
      (m_ref26_not y1.2.2.2.1).bind fun r3 =>
      (m_ref26_find x1 r3).bind fun r4 =>
      if decide (0 ≤ r4) then
        some (([] : List (List T_Commitment)), 10)
      else
        if decide (40 ≤ (len x1)) then
          some (([] : List (List T_Commitment)), 2)
        else
          (m_ref26_with x1 (y1.2.2.2.1, true, false, ([] : List T_Literal))).bind fun r5 =>
          (m_ref26_set y0 y1.2.1 r5).bind fun r6 =>
          some (r6, 0)

noncomputable def m_ref26_member (y0 : (List (List T_Commitment))) (y1 : Int) : Option Bool :=
  some ((decide (0 ≤ y1)) && (decide (y1 < (len y0))))

noncomputable def m_ref26_retract_L1 (x1 : List T_Commitment) (y1 : T_Speech) (s2 : (List T_Commitment) × Int) : Option (((List T_Commitment) × Int) ⊕ (List T_Commitment)) :=
  if decide (s2.2 < (len x1)) then
    (idx x1 s2.2).bind fun x2 =>
    if x2.1 == y1.2.2.2.1 then
      some (.inl (s2.1, w64 (s2.2 + 1)))
    else
      (
        (m_ref26_in x2.2.2.2 y1.2.2.2.1).bind fun r2 =>
        if r2 then
          some (false, true, ([] : List T_Literal))
        else
          some (x2.2.1, x2.2.2.1, x2.2.2.2) : Option (Bool × Bool × (List T_Literal))).bind fun s3 =>
      (app s2.1 ([(x2.1, s3.1, s3.2.1, s3.2.2)] : List T_Commitment)).bind fun x3 =>
      some (.inl (x3, w64 (s2.2 + 1)))
  else
    some (.inr s2.1)

noncomputable def m_ref26_retract (y0 : (List (List T_Commitment))) (y1 : T_Speech) : Option ((List (List T_Commitment)) × Int) :=
  (idx y0 y1.2.1).bind fun x1 =>
  (m_ref26_find x1 y1.2.2.2.1).bind fun r1 =>
  if decide (r1 < 0) then
    some (([] : List (List T_Commitment)), 6)
  else
    (loop (m_ref26_retract_L1 x1 y1) (([] : List T_Commitment), 0) : Option (List T_Commitment)).bind fun s1 =>
    (m_ref26_set y0 y1.2.1 s1).bind fun r3 =>
    some (r3, 0)

noncomputable def m_ref26_Say (y0 : (List (List T_Commitment))) (y1 : T_Speech) : Option ((List (List T_Commitment)) × Int) :=
  (m_ref26_Validate y0).bind fun r1 =>
  if r1 != 0 then
    some (([] : List (List T_Commitment)), r1)
  else
    if (decide (y1.1 < 1)) || (decide (5 < y1.1)) then
      some (([] : List (List T_Commitment)), 4)
    else
      (
        (m_ref26_member y0 y1.2.1).bind fun r2 =>
        if !r2 then
          some true
        else
          if y1.1 == 2 then
            (m_ref26_member y0 y1.2.2.1).bind fun r3 =>
            some (!r3)
          else
            some false : Option Bool).bind fun s1 =>
      if s1 then
        some (([] : List (List T_Commitment)), 1)
      else
        (m_ref01_Valid y1.2.2.2.1).bind fun r4 =>
        if !r4 then
          some (([] : List (List T_Commitment)), 3)
        else
          if y1.1 == 1 then
            (m_ref26_assert y0 y1).bind fun r5 =>
            some (r5.1, r5.2)
          else
            if y1.1 == 2 then
              (m_ref26_challenge y0 y1).bind fun r6 =>
              some (r6.1, r6.2)
            else
              if y1.1 == 3 then
                (m_ref26_argue y0 y1).bind fun r7 =>
                some (r7.1, r7.2)
              else
                if y1.1 == 4 then
                  (m_ref26_concede y0 y1).bind fun r8 =>
                  some (r8.1, r8.2)
                else
                  (m_ref26_retract y0 y1).bind fun r9 =>
                  some (r9.1, r9.2)

noncomputable def m_ref26_Stores (y0 : T_keep_Src) (y1 : (List (List T_Commitment))) : Option ((List (List T_Commitment)) × Int) :=
  (app ([] : List (List T_Commitment)) y1).bind fun x1 =>
  if (len x1) == 0 then
    (m_keep_Src_N y0 9).bind fun r1 =>
    (mkS r1.1 r1.1 (([] : List T_Commitment) : List T_Commitment)).bind fun x2 =>
    some (x2, r1.2)
  else
    (m_keep_Src_N y0 (len x1)).bind fun r2 =>
    (idx x1 r2.1).bind fun x3 =>
    (app ([] : List T_Commitment) x3).bind fun x4 =>
    (m_net_Literal (y0.1, r2.2)).bind fun r3 =>
    (m_keep_Src_N (y0.1, r3.2) 2).bind fun r4 =>
    (m_keep_Src_N (y0.1, r4.2) 2).bind fun r5 =>
    (app x4 ([(r3.1, r4.1 == 0, r5.1 == 0, ([] : List T_Literal))] : List T_Commitment)).bind fun x5 =>
    (idx x1 r2.1).bind fun _ =>
    some (List.set x1 (Int.toNat r2.1) x5, r5.2)

noncomputable def m_ref01_Format (y0 : T_Literal) : Option Str :=
  (m_ref01_Valid y0).bind fun r1 =>
  if !r1 then
    some []
  else
    if y0.1 then
      (cat [126] y0.2).bind fun x1 =>
      some x1
    else
      some y0.2

noncomputable def m_ref42_Commitments_L3 (x5 : T_Commitment) (s8 : Str × Int) : Option ((Str × Int) ⊕ Str) :=
  if decide (s8.2 < (len x5.2.2.2)) then
    (idx x5.2.2.2 s8.2).bind fun x10 =>
    (m_ref01_Format x10).bind fun r4 =>
    (cat [32] r4).bind fun x11 =>
    (cat s8.1 x11).bind fun x12 =>
    some (.inl (x12, w64 (s8.2 + 1)))
  else
    some (.inr s8.1)

noncomputable def m_ref42_Commitments_L2 (y0 : (List (List T_Commitment))) (s1 : (List Str) × Int) (s3 : Str × Int) : Option ((Str × Int) ⊕ Str) :=
  (idx y0 s1.2).bind fun x3 =>
  if decide (s3.2 < (len x3)) then
    (idx y0 s1.2).bind fun x4 =>
    (idx x4 s3.2).bind fun x5 =>
    (m_ref01_Format x5.1).bind fun r3 =>
    (
      if x5.2.1 then
        (cat [40] r3).bind fun x6 =>
        (cat x6 [41]).bind fun x7 =>
        some x7
      else
        some r3 : Option Str).bind fun s4 =>
    (
      if x5.2.2.1 then
        (cat s4 [63]).bind fun x8 =>
        some x8
      else
        some s4 : Option Str).bind fun s5 =>
    (
      if decide (0 < (len x5.2.2.2)) then
        (cat s5 [91, 32, 60, 45]).bind fun x9 =>
        (loop (m_ref42_Commitments_L3 x5) (x9, 0) : Option Str).bind fun s7 =>
        (cat s7 [93]).bind fun x13 =>
        some x13
      else
        some s5 : Option Str).bind fun s6 =>
    (cat [32] s6).bind fun x14 =>
    (cat s3.1 x14).bind fun x15 =>
    some (.inl (x15, w64 (s3.2 + 1)))
  else
    some (.inr s3.1)

noncomputable def m_ref42_Commitments_L1 (y0 : (List (List T_Commitment))) (s1 : (List Str) × Int) : Option (((List Str) × Int) ⊕ (List Str)) :=
  if decide (s1.2 < (len y0)) then
    (m_ref42_digits s1.2).bind fun r2 =>
    (cat [112] r2).bind fun x1 =>
    (cat x1 [58]).bind fun x2 =>
    (loop (m_ref42_Commitments_L2 y0 s1) (x2, 0) : Option Str).bind fun s2 =>
    (app s1.1 ([s2] : List Str)).bind fun x16 =>
    some (.inl (x16, w64 (s1.2 + 1)))
  else
    some (.inr s1.1)

noncomputable def m_ref42_Commitments (y0 : (List (List T_Commitment))) : Option (List Str) :=
  (m_ref26_Validate y0).bind fun r1 =>
  if r1 != 0 then
    some ([] : List Str)
  else
    loop (m_ref42_Commitments_L1 y0) (([] : List Str), 0)

noncomputable def m_commitment_Validate_2 (y0 : T_Commitment) : Option Bool :=
  some (decide (6 < (len y0.2.2.2)))

noncomputable def m_slices_IndexFunc_Commitment__commitment_Validate_2_L1 (y0 : List T_Commitment) (s1 : Int) : Option (Int ⊕ Int) :=
  if decide (s1 < (len y0)) then
    (idx y0 s1).bind fun x1 =>
    (m_commitment_Validate_2 x1).bind fun r1 =>
    if r1 then
      some (.inr s1)
    else
      some (.inl (w64 (s1 + 1)))
  else
    some (.inr (-1))

noncomputable def m_slices_IndexFunc_Commitment__commitment_Validate_2 (y0 : List T_Commitment) : Option Int :=
  loop (m_slices_IndexFunc_Commitment__commitment_Validate_2_L1 y0) 0

noncomputable def m_slices_ContainsFunc_Commitment__commitment_Validate_2 (y0 : List T_Commitment) : Option Bool :=
  (m_slices_IndexFunc_Commitment__commitment_Validate_2 y0).bind fun r1 =>
  some (decide (0 ≤ r1))

noncomputable def m_commitment_some_1__commitment_Validate_2 (y0 : List T_Commitment) : Option Bool :=
  (m_slices_ContainsFunc_Commitment__commitment_Validate_2 y0).bind fun r1 =>
  some r1

noncomputable def m_slices_IndexFunc_Commitment__commitment_some_1_L1 (y0 : List (List T_Commitment)) (s1 : Int) : Option (Int ⊕ Int) :=
  if decide (s1 < (len y0)) then
    (idx y0 s1).bind fun x1 =>
    (m_commitment_some_1__commitment_Validate_2 x1).bind fun r1 =>
    if r1 then
      some (.inr s1)
    else
      some (.inl (w64 (s1 + 1)))
  else
    some (.inr (-1))

noncomputable def m_slices_IndexFunc_Commitment__commitment_some_1 (y0 : List (List T_Commitment)) : Option Int :=
  loop (m_slices_IndexFunc_Commitment__commitment_some_1_L1 y0) 0

noncomputable def m_slices_ContainsFunc_Commitment__commitment_some_1 (y0 : List (List T_Commitment)) : Option Bool :=
  (m_slices_IndexFunc_Commitment__commitment_some_1 y0).bind fun r1 =>
  some (decide (0 ≤ r1))

noncomputable def m_commitment_some__commitment_Validate_2 (y0 : (List (List T_Commitment))) : Option Bool :=
  (m_slices_ContainsFunc_Commitment__commitment_some_1 y0).bind fun r1 =>
  some r1

noncomputable def m_literal_Valid (y0 : T_Literal) : Option Bool :=
  (m_literal_ValidName y0.2).bind fun r1 =>
  some r1

noncomputable def m_commitment_sound_1 (y0 : T_Literal) : Option Bool :=
  (m_literal_Valid y0).bind fun r1 =>
  some (!r1)

noncomputable def m_slices_IndexFunc_Literal__commitment_sound_1_L1 (y0 : List T_Literal) (s1 : Int) : Option (Int ⊕ Int) :=
  if decide (s1 < (len y0)) then
    (idx y0 s1).bind fun x1 =>
    (m_commitment_sound_1 x1).bind fun r1 =>
    if r1 then
      some (.inr s1)
    else
      some (.inl (w64 (s1 + 1)))
  else
    some (.inr (-1))

noncomputable def m_slices_IndexFunc_Literal__commitment_sound_1 (y0 : List T_Literal) : Option Int :=
  loop (m_slices_IndexFunc_Literal__commitment_sound_1_L1 y0) 0

noncomputable def m_slices_ContainsFunc_Literal__commitment_sound_1 (y0 : List T_Literal) : Option Bool :=
  (m_slices_IndexFunc_Literal__commitment_sound_1 y0).bind fun r1 =>
  some (decide (0 ≤ r1))

noncomputable def m_commitment_sound (y0 : List T_Literal) : Option Bool :=
  (m_slices_ContainsFunc_Literal__commitment_sound_1 y0).bind fun r1 =>
  some (!r1)

noncomputable def m_commitment_Validate_3 (y0 : T_Commitment) : Option Bool :=
  (
    (m_literal_Valid y0.1).bind fun r1 =>
    if !r1 then
      some true
    else
      (m_commitment_sound y0.2.2.2).bind fun r2 =>
      some (!r2) : Option Bool).bind fun s1 =>
  some s1

noncomputable def m_slices_IndexFunc_Commitment__commitment_Validate_3_L1 (y0 : List T_Commitment) (s1 : Int) : Option (Int ⊕ Int) :=
  if decide (s1 < (len y0)) then
    (idx y0 s1).bind fun x1 =>
    (m_commitment_Validate_3 x1).bind fun r1 =>
    if r1 then
      some (.inr s1)
    else
      some (.inl (w64 (s1 + 1)))
  else
    some (.inr (-1))

noncomputable def m_slices_IndexFunc_Commitment__commitment_Validate_3 (y0 : List T_Commitment) : Option Int :=
  loop (m_slices_IndexFunc_Commitment__commitment_Validate_3_L1 y0) 0

noncomputable def m_slices_ContainsFunc_Commitment__commitment_Validate_3 (y0 : List T_Commitment) : Option Bool :=
  (m_slices_IndexFunc_Commitment__commitment_Validate_3 y0).bind fun r1 =>
  some (decide (0 ≤ r1))

noncomputable def m_commitment_some_1__commitment_Validate_3 (y0 : List T_Commitment) : Option Bool :=
  (m_slices_ContainsFunc_Commitment__commitment_Validate_3 y0).bind fun r1 =>
  some r1

noncomputable def m_slices_IndexFunc_Commitment__commitment_some_1_2_L1 (y0 : List (List T_Commitment)) (s1 : Int) : Option (Int ⊕ Int) :=
  if decide (s1 < (len y0)) then
    (idx y0 s1).bind fun x1 =>
    (m_commitment_some_1__commitment_Validate_3 x1).bind fun r1 =>
    if r1 then
      some (.inr s1)
    else
      some (.inl (w64 (s1 + 1)))
  else
    some (.inr (-1))

noncomputable def m_slices_IndexFunc_Commitment__commitment_some_1_2 (y0 : List (List T_Commitment)) : Option Int :=
  loop (m_slices_IndexFunc_Commitment__commitment_some_1_2_L1 y0) 0

noncomputable def m_slices_ContainsFunc_Commitment__commitment_some_1_2 (y0 : List (List T_Commitment)) : Option Bool :=
  (m_slices_IndexFunc_Commitment__commitment_some_1_2 y0).bind fun r1 =>
  some (decide (0 ≤ r1))

noncomputable def m_commitment_some__commitment_Validate_3 (y0 : (List (List T_Commitment))) : Option Bool :=
  (m_slices_ContainsFunc_Commitment__commitment_some_1_2 y0).bind fun r1 =>
  some r1

noncomputable def m_cmp_isNaN_string (y0 : Str) : Option Bool :=
  some (!(y0 == y0))

noncomputable def m_cmp_Compare_string (y0 : Str) (y1 : Str) : Option Int :=
  (m_cmp_isNaN_string y0).bind fun r1 =>
  (m_cmp_isNaN_string y1).bind fun r2 =>
  if r1 then
    if r2 then
      some 0
    else
      some (-1)
  else
    if r2 then
      some 1
    else
      if sless y0 y1 then
        some (-1)
      else
        if !(sless y0 y1 || y0 == y1) then
          some 1
        else
          some 0

noncomputable def m_literal_Compare (y0 : T_Literal) (y1 : T_Literal) : Option Int :=
  (m_cmp_Compare_string y0.2 y1.2).bind fun r1 =>
  if (r1 != 0) || (y0.1 == y1.1) then
    some r1
  else
    if y1.1 then
      some (-1)
    else
      some 1

noncomputable def m_commitment_rising_L1 (y0 : List T_Literal) (s1 : Int) : Option (Int ⊕ Bool) :=
  if decide (s1 < (len y0)) then
    (idx y0 (w64 (s1 - 1))).bind fun x1 =>
    (idx y0 s1).bind fun x2 =>
    (m_literal_Compare x1 x2).bind fun r1 =>
    if decide (0 ≤ r1) then
      some (.inr false)
    else
      some (.inl (w64 (s1 + 1)))
  else
    some (.inr true)

noncomputable def m_commitment_rising (y0 : List T_Literal) : Option Bool :=
  loop (m_commitment_rising_L1 y0) 1

noncomputable def m_commitment_Validate_5 (y0 : T_Commitment) : Option Bool :=
  (m_commitment_rising y0.2.2.2).bind fun r1 =>
  some (!r1)

noncomputable def m_slices_IndexFunc_Commitment__commitment_Validate_5_L1 (y0 : List T_Commitment) (s1 : Int) : Option (Int ⊕ Int) :=
  if decide (s1 < (len y0)) then
    (idx y0 s1).bind fun x1 =>
    (m_commitment_Validate_5 x1).bind fun r1 =>
    if r1 then
      some (.inr s1)
    else
      some (.inl (w64 (s1 + 1)))
  else
    some (.inr (-1))

noncomputable def m_slices_IndexFunc_Commitment__commitment_Validate_5 (y0 : List T_Commitment) : Option Int :=
  loop (m_slices_IndexFunc_Commitment__commitment_Validate_5_L1 y0) 0

noncomputable def m_slices_ContainsFunc_Commitment__commitment_Validate_5 (y0 : List T_Commitment) : Option Bool :=
  (m_slices_IndexFunc_Commitment__commitment_Validate_5 y0).bind fun r1 =>
  some (decide (0 ≤ r1))

noncomputable def m_commitment_some_1__commitment_Validate_5 (y0 : List T_Commitment) : Option Bool :=
  (m_slices_ContainsFunc_Commitment__commitment_Validate_5 y0).bind fun r1 =>
  some r1

noncomputable def m_slices_IndexFunc_Commitment__commitment_some_1_3_L1 (y0 : List (List T_Commitment)) (s1 : Int) : Option (Int ⊕ Int) :=
  if decide (s1 < (len y0)) then
    (idx y0 s1).bind fun x1 =>
    (m_commitment_some_1__commitment_Validate_5 x1).bind fun r1 =>
    if r1 then
      some (.inr s1)
    else
      some (.inl (w64 (s1 + 1)))
  else
    some (.inr (-1))

noncomputable def m_slices_IndexFunc_Commitment__commitment_some_1_3 (y0 : List (List T_Commitment)) : Option Int :=
  loop (m_slices_IndexFunc_Commitment__commitment_some_1_3_L1 y0) 0

noncomputable def m_slices_ContainsFunc_Commitment__commitment_some_1_3 (y0 : List (List T_Commitment)) : Option Bool :=
  (m_slices_IndexFunc_Commitment__commitment_some_1_3 y0).bind fun r1 =>
  some (decide (0 ≤ r1))

noncomputable def m_commitment_some__commitment_Validate_5 (y0 : (List (List T_Commitment))) : Option Bool :=
  (m_slices_ContainsFunc_Commitment__commitment_some_1_3 y0).bind fun r1 =>
  some r1

noncomputable def m_slices_Index_Literal_L1 (y0 : List T_Literal) (y1 : T_Literal) (s1 : Int) : Option (Int ⊕ Int) :=
  if decide (s1 < (len y0)) then
    (idx y0 s1).bind fun x1 =>
    if y1 == x1 then
      some (.inr s1)
    else
      some (.inl (w64 (s1 + 1)))
  else
    some (.inr (-1))

noncomputable def m_slices_Index_Literal (y0 : List T_Literal) (y1 : T_Literal) : Option Int :=
  loop (m_slices_Index_Literal_L1 y0 y1) 0

noncomputable def m_slices_Contains_Literal (y0 : List T_Literal) (y1 : T_Literal) : Option Bool :=
  (m_slices_Index_Literal y0 y1).bind fun r1 =>
  some (decide (0 ≤ r1))

noncomputable def m_commitment_Validate_6 (y0 : T_Commitment) : Option Bool :=
  (
    if y0.2.1 then
      if y0.2.2.1 then
        some true
      else
        if y0.2.1 then
          if decide (0 < (len y0.2.2.2)) then
            some true
          else
            (m_slices_Contains_Literal y0.2.2.2 y0.1).bind fun r1 =>
            some r1
        else
          (m_slices_Contains_Literal y0.2.2.2 y0.1).bind fun r2 =>
          some r2
    else
      if decide (0 < (len y0.2.2.2)) then
        if y0.2.2.1 then
          some true
        else
          if y0.2.1 then
            if decide (0 < (len y0.2.2.2)) then
              some true
            else
              (m_slices_Contains_Literal y0.2.2.2 y0.1).bind fun r3 =>
              some r3
          else
            (m_slices_Contains_Literal y0.2.2.2 y0.1).bind fun r4 =>
            some r4
      else
        if y0.2.1 then
          if decide (0 < (len y0.2.2.2)) then
            some true
          else
            (m_slices_Contains_Literal y0.2.2.2 y0.1).bind fun r5 =>
            some r5
        else
          (m_slices_Contains_Literal y0.2.2.2 y0.1).bind fun r6 =>
          some r6 : Option Bool).bind fun s1 =>
  some s1

noncomputable def m_slices_IndexFunc_Commitment__commitment_Validate_6_L1 (y0 : List T_Commitment) (s1 : Int) : Option (Int ⊕ Int) :=
  if decide (s1 < (len y0)) then
    (idx y0 s1).bind fun x1 =>
    (m_commitment_Validate_6 x1).bind fun r1 =>
    if r1 then
      some (.inr s1)
    else
      some (.inl (w64 (s1 + 1)))
  else
    some (.inr (-1))

noncomputable def m_slices_IndexFunc_Commitment__commitment_Validate_6 (y0 : List T_Commitment) : Option Int :=
  loop (m_slices_IndexFunc_Commitment__commitment_Validate_6_L1 y0) 0

noncomputable def m_slices_ContainsFunc_Commitment__commitment_Validate_6 (y0 : List T_Commitment) : Option Bool :=
  (m_slices_IndexFunc_Commitment__commitment_Validate_6 y0).bind fun r1 =>
  some (decide (0 ≤ r1))

noncomputable def m_commitment_some_1__commitment_Validate_6 (y0 : List T_Commitment) : Option Bool :=
  (m_slices_ContainsFunc_Commitment__commitment_Validate_6 y0).bind fun r1 =>
  some r1

noncomputable def m_slices_IndexFunc_Commitment__commitment_some_1_4_L1 (y0 : List (List T_Commitment)) (s1 : Int) : Option (Int ⊕ Int) :=
  if decide (s1 < (len y0)) then
    (idx y0 s1).bind fun x1 =>
    (m_commitment_some_1__commitment_Validate_6 x1).bind fun r1 =>
    if r1 then
      some (.inr s1)
    else
      some (.inl (w64 (s1 + 1)))
  else
    some (.inr (-1))

noncomputable def m_slices_IndexFunc_Commitment__commitment_some_1_4 (y0 : List (List T_Commitment)) : Option Int :=
  loop (m_slices_IndexFunc_Commitment__commitment_some_1_4_L1 y0) 0

noncomputable def m_slices_ContainsFunc_Commitment__commitment_some_1_4 (y0 : List (List T_Commitment)) : Option Bool :=
  (m_slices_IndexFunc_Commitment__commitment_some_1_4 y0).bind fun r1 =>
  some (decide (0 ≤ r1))

noncomputable def m_commitment_some__commitment_Validate_6 (y0 : (List (List T_Commitment))) : Option Bool :=
  (m_slices_ContainsFunc_Commitment__commitment_some_1_4 y0).bind fun r1 =>
  some r1

noncomputable def m_commitment_Validate_1 (y0 : List T_Commitment) : Option Bool :=
  some (decide (40 < (len y0)))

noncomputable def m_slices_IndexFunc_Commitment__commitment_Validate_1_L1 (y0 : List (List T_Commitment)) (s1 : Int) : Option (Int ⊕ Int) :=
  if decide (s1 < (len y0)) then
    (idx y0 s1).bind fun x1 =>
    (m_commitment_Validate_1 x1).bind fun r1 =>
    if r1 then
      some (.inr s1)
    else
      some (.inl (w64 (s1 + 1)))
  else
    some (.inr (-1))

noncomputable def m_slices_IndexFunc_Commitment__commitment_Validate_1 (y0 : List (List T_Commitment)) : Option Int :=
  loop (m_slices_IndexFunc_Commitment__commitment_Validate_1_L1 y0) 0

noncomputable def m_slices_ContainsFunc_Commitment__commitment_Validate_1 (y0 : List (List T_Commitment)) : Option Bool :=
  (m_slices_IndexFunc_Commitment__commitment_Validate_1 y0).bind fun r1 =>
  some (decide (0 ≤ r1))

noncomputable def m_commitment_claims_L1 (y0 : List T_Commitment) (s1 : (List T_Literal) × Int) : Option (((List T_Literal) × Int) ⊕ (List T_Literal)) :=
  if decide (s1.2 < (len y0)) then
    (idx y0 s1.2).bind fun x1 =>
    (app s1.1 ([x1.1] : List T_Literal)).bind fun x2 =>
    some (.inl (x2, w64 (s1.2 + 1)))
  else
    some (.inr s1.1)

noncomputable def m_commitment_claims (y0 : List T_Commitment) : Option (List T_Literal) :=
  loop (m_commitment_claims_L1 y0) (([] : List T_Literal), 0)

noncomputable def m_commitment_Validate_4 (y0 : List T_Commitment) : Option Bool :=
  (m_commitment_claims y0).bind fun r1 =>
  (m_commitment_rising r1).bind fun r2 =>
  some (!r2)

noncomputable def m_slices_IndexFunc_Commitment__commitment_Validate_4_L1 (y0 : List (List T_Commitment)) (s1 : Int) : Option (Int ⊕ Int) :=
  if decide (s1 < (len y0)) then
    (idx y0 s1).bind fun x1 =>
    (m_commitment_Validate_4 x1).bind fun r1 =>
    if r1 then
      some (.inr s1)
    else
      some (.inl (w64 (s1 + 1)))
  else
    some (.inr (-1))

noncomputable def m_slices_IndexFunc_Commitment__commitment_Validate_4 (y0 : List (List T_Commitment)) : Option Int :=
  loop (m_slices_IndexFunc_Commitment__commitment_Validate_4_L1 y0) 0

noncomputable def m_slices_ContainsFunc_Commitment__commitment_Validate_4 (y0 : List (List T_Commitment)) : Option Bool :=
  (m_slices_IndexFunc_Commitment__commitment_Validate_4 y0).bind fun r1 =>
  some (decide (0 ≤ r1))

noncomputable def m_literal_Complement (y0 : T_Literal) : Option T_Literal :=
  some (!y0.1, y0.2)

noncomputable def m_literal_Consistent_L1 (y0 : List T_Literal) (s1 : (List (T_Literal × Unit)) × Int) : Option (((List (T_Literal × Unit)) × Int) ⊕ Bool) :=
  if decide (s1.2 < (len y0)) then
    (idx y0 s1.2).bind fun x1 =>
    (m_literal_Complement x1).bind fun r1 =>
    if Option.isSome (mget (mput s1.1 x1 ()) r1) then
      some (.inr false)
    else
      some (.inl (mput s1.1 x1 (), w64 (s1.2 + 1)))
  else
    some (.inr true)

noncomputable def m_literal_Consistent (y0 : List T_Literal) : Option Bool :=
  loop (m_literal_Consistent_L1 y0) (([] : List (T_Literal × Unit)), 0)

noncomputable def m_commitment_Validate_7 (y0 : List T_Commitment) : Option Bool :=
  (m_commitment_claims y0).bind fun r1 =>
  (m_literal_Consistent r1).bind fun r2 =>
  some (!r2)

noncomputable def m_slices_IndexFunc_Commitment__commitment_Validate_7_L1 (y0 : List (List T_Commitment)) (s1 : Int) : Option (Int ⊕ Int) :=
  if decide (s1 < (len y0)) then
    (idx y0 s1).bind fun x1 =>
    (m_commitment_Validate_7 x1).bind fun r1 =>
    if r1 then
      some (.inr s1)
    else
      some (.inl (w64 (s1 + 1)))
  else
    some (.inr (-1))

noncomputable def m_slices_IndexFunc_Commitment__commitment_Validate_7 (y0 : List (List T_Commitment)) : Option Int :=
  loop (m_slices_IndexFunc_Commitment__commitment_Validate_7_L1 y0) 0

noncomputable def m_slices_ContainsFunc_Commitment__commitment_Validate_7 (y0 : List (List T_Commitment)) : Option Bool :=
  (m_slices_IndexFunc_Commitment__commitment_Validate_7 y0).bind fun r1 =>
  some (decide (0 ≤ r1))

noncomputable def m_commitment_Validate (y0 : (List (List T_Commitment))) : Option Int :=
  (m_slices_ContainsFunc_Commitment__commitment_Validate_1 y0).bind fun r1 =>
  (
    if decide (6 < (len y0)) then
      some true
    else
      if r1 then
        some true
      else
        (m_commitment_some__commitment_Validate_2 y0).bind fun r2 =>
        some r2 : Option Bool).bind fun s1 =>
  if s1 then
    some 2
  else
    (m_commitment_some__commitment_Validate_3 y0).bind fun r3 =>
    if r3 then
      some 3
    else
      (
        (m_slices_ContainsFunc_Commitment__commitment_Validate_4 y0).bind fun r4 =>
        if r4 then
          some r4
        else
          (m_commitment_some__commitment_Validate_5 y0).bind fun r5 =>
          some r5 : Option Bool).bind fun s2 =>
      if s2 then
        some 8
      else
        (m_commitment_some__commitment_Validate_6 y0).bind fun r6 =>
        if r6 then
          some 7
        else
          (m_slices_ContainsFunc_Commitment__commitment_Validate_7 y0).bind fun r7 =>
          if r7 then
            some 10
          else
            some 0

noncomputable def m_literal_Format (y0 : T_Literal) : Option Str :=
  (m_literal_Valid y0).bind fun r1 =>
  if !r1 then
    some []
  else
    if y0.1 then
      (cat [126] y0.2).bind fun x1 =>
      some x1
    else
      some y0.2

noncomputable def m_strings_Join (y0 : List Str) (y1 : Str) : Option Str := joinM y0 y1

noncomputable def m_report_commit_L1 (y0 : T_Commitment) (s4 : (List Str) × Int) : Option (((List Str) × Int) ⊕ (List Str)) :=
  if decide (s4.2 < (len y0.2.2.2)) then
    (idx y0.2.2.2 s4.2).bind fun x4 =>
    (m_literal_Format x4).bind fun r2 =>
    (app s4.1 ([r2] : List Str)).bind fun x5 =>
    some (.inl (x5, w64 (s4.2 + 1)))
  else
    some (.inr s4.1)

noncomputable def m_report_commit (y0 : T_Commitment) : Option Str :=
  (m_literal_Format y0.1).bind fun r1 =>
  (
    if y0.2.1 then
      (cat [40] r1).bind fun x1 =>
      (cat x1 [41]).bind fun x2 =>
      some x2
    else
      some r1 : Option Str).bind fun s1 =>
  (
    if y0.2.2.1 then
      (cat s1 [63]).bind fun x3 =>
      some x3
    else
      some s1 : Option Str).bind fun s2 =>
  if decide (0 < (len y0.2.2.2)) then
    (loop (m_report_commit_L1 y0) (([] : List Str), 0) : Option (List Str)).bind fun s3 =>
    (m_strings_Join s3 [32]).bind fun r3 =>
    (cat [91, 32, 60, 45, 32] r3).bind fun x6 =>
    (cat x6 [93]).bind fun x7 =>
    (cat s2 x7).bind fun x8 =>
    some x8
  else
    some s2

noncomputable def m_report_Commitments_L2 (x1 : List T_Commitment) (s3 : Str × Int) : Option ((Str × Int) ⊕ Str) :=
  if decide (s3.2 < (len x1)) then
    (idx x1 s3.2).bind fun x4 =>
    (m_report_commit x4).bind fun r3 =>
    (cat [32] r3).bind fun x5 =>
    (cat s3.1 x5).bind fun x6 =>
    some (.inl (x6, w64 (s3.2 + 1)))
  else
    some (.inr s3.1)

noncomputable def m_report_Commitments_L1 (y0 : (List (List T_Commitment))) (s1 : (List Str) × Int) : Option (((List Str) × Int) ⊕ (List Str)) :=
  if decide (s1.2 < (len y0)) then
    (idx y0 s1.2).bind fun x1 =>
    (m_report_number s1.2).bind fun r2 =>
    (cat [112] r2).bind fun x2 =>
    (cat x2 [58]).bind fun x3 =>
    (loop (m_report_Commitments_L2 x1) (x3, 0) : Option Str).bind fun s2 =>
    (app s1.1 ([s2] : List Str)).bind fun x7 =>
    some (.inl (x7, w64 (s1.2 + 1)))
  else
    some (.inr s1.1)

noncomputable def m_report_Commitments (y0 : (List (List T_Commitment))) : Option (List Str) :=
  (m_commitment_Validate y0).bind fun r1 =>
  if r1 != 0 then
    some ([] : List Str)
  else
    loop (m_report_Commitments_L1 y0) (([] : List Str), 0)

noncomputable def m_law42_ReportStores_L2 (y0 : (List (List T_Commitment))) (s2 : Int) (s3 : Int) : Option (Int ⊕ (Int ⊕ (Unit ⊕ Bool))) :=
  (idx y0 s2).bind fun x2 =>
  if decide (s3 < (len x2)) then
    (idx y0 s2).bind fun x3 =>
    (idx x3 s3).bind fun x4 =>
    if decide (20 < (len x4.2.2.2)) then
      m_law42_awake.bind fun r3 =>
      some (.inr (.inr (.inr r3)))
    else
      some (.inl (w64 (s3 + 1)))
  else
    some (.inr (.inl (w64 (s2 + 1))))

noncomputable def m_law42_ReportStores_L1 (y0 : (List (List T_Commitment))) (s2 : Int) : Option (Int ⊕ (Unit ⊕ Bool)) :=
  if decide (s2 < (len y0)) then
    (idx y0 s2).bind fun x1 =>
    if decide (60 < (len x1)) then
      m_law42_awake.bind fun r2 =>
      some (.inr (.inr r2))
    else
      loop (m_law42_ReportStores_L2 y0 s2) 0
  else
    some (.inr (.inl ()))

noncomputable def m_law42_ReportStores_L3 (r4 : T_keep_Src) (s5 : Int × Int × (List (List T_Commitment))) : Option ((Int × Int × (List (List T_Commitment))) ⊕ (Int × (List (List T_Commitment)))) :=
  (
    if decide (s5.1 < 20) then
      (m_keep_Src_More (r4.1, s5.2.1)).bind fun r7 =>
      if r7 then
        some (decide (0 < (len s5.2.2)))
      else
        some false
    else
      some false : Option Bool).bind fun s6 =>
  if s6 then
    (m_keep_Src_Range (r4.1, s5.2.1) 1 5).bind fun r8 =>
    (m_keep_Src_N (r4.1, r8.2) 3).bind fun r9 =>
    (m_keep_Src_N (r4.1, r9.2) 3).bind fun r10 =>
    (m_net_Literal (r4.1, r10.2)).bind fun r11 =>
    (
      if r8.1 == 3 then
        (m_net_Literal (r4.1, r11.2)).bind fun r12 =>
        (m_net_Literal (r4.1, r12.2)).bind fun r13 =>
        (m_ref01_Normal ([r12.1, r13.1] : List T_Literal)).bind fun r14 =>
        some (r13.2, r14)
      else
        some (r11.2, ([] : List T_Literal)) : Option (Int × (List T_Literal))).bind fun s7 =>
    (m_ref26_Say s5.2.2 (r8.1, r9.1, r10.1, r11.1, s7.2)).bind fun r15 =>
    if r15.2 == 0 then
      some (.inl (w64 (s5.1 + 1), s7.1, r15.1))
    else
      some (.inl (w64 (s5.1 + 1), s7.1, s5.2.2))
  else
    some (.inr (s5.2.1, s5.2.2))

noncomputable def m_law42_ReportStores_L4 (y0 : (List (List T_Commitment))) (s4 : Int × (List (List T_Commitment))) (r16 : (List (List T_Commitment)) × Int) (s9 : Int) : Option (Int ⊕ (Unit ⊕ Bool)) :=
  if decide (s9 < (len ([y0, s4.2, r16.1] : List (List (List T_Commitment))))) then
    (idx ([y0, s4.2, r16.1] : List (List (List T_Commitment))) s9).bind fun x5 =>
    (m_report_Commitments x5).bind fun r17 =>
    (m_ref42_Commitments x5).bind fun r18 =>
    (m_ref42_Same r17 r18).bind fun r19 =>
    if !r19 then
      some (.inr (.inr false))
    else
      some (.inl (w64 (s9 + 1)))
  else
    some (.inr (.inl ()))

noncomputable def m_law42_ReportStores (y0 : (List (List T_Commitment))) (y1 : List Int) : Option Bool :=
  if decide (20 < (len y0)) then
    m_law42_awake.bind fun r1 =>
    some r1
  else
    seqE (loop (m_law42_ReportStores_L1 y0) 0 : Option (Unit ⊕ Bool)) fun _ =>
    (m_keep_New y1).bind fun r4 =>
    (m_keep_Src_Range r4 0 3).bind fun r5 =>
    (m_ref26_New r5.1).bind fun r6 =>
    (loop (m_law42_ReportStores_L3 r4) (0, r5.2, r6.1) : Option (Int × (List (List T_Commitment)))).bind fun s4 =>
    seqE (
      (m_ref26_Stores (r4.1, s4.1) s4.2).bind fun r16 =>
      loop (m_law42_ReportStores_L4 y0 s4 r16) 0 : Option (Unit ⊕ Bool)) fun _ =>
    (
      (m_report_Commitments s4.2).bind fun r20 =>
      if (len r20) == (len s4.2) then
        m_law42_awake.bind fun r21 =>
        some r21
      else
        some false : Option Bool).bind fun s10 =>
    some s10

end Go.GD
