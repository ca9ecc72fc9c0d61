/- Models of the Go functions, printed by program (gd2). Conditions: none. -/
import Derived.Test.YteleongkifgjhaaDoorFrm
namespace Go.GD
set_option autoImplicit false

abbrev T_keep_Src := (List Int) × Int
abbrev T_Pair := Int × Int
abbrev T_Graph := Int × (List T_Pair)
abbrev T_Move := Int × Int × Int × Int
abbrev T_Dialogue := T_Graph × Int × (Int × Int) × (List T_Move)
abbrev T_Outcome := Int × Int
abbrev T_protocol_table := T_Dialogue × (List Int) × Int × (List Bool)
abbrev T_Order := (List Str) × (List Int)

def tab_formula_words : List Str := [[], [], [], [], [], [32, 38, 32], [32, 124, 32], [32, 45, 62, 32], [32, 60, 45, 62, 32]]

noncomputable def m_keep_New (y0 : List Int) : Option T_keep_Src :=
  (sub y0 0 (if 2000 < (len y0) then 2000 else len y0)).bind fun x1 =>
  some (x1, 0)

noncomputable def m_keep_Mod (y0 : Int) (y1 : Int) : Option Int :=
  if decide (y1 < 1) then
    some 0
  else
    (remK y0 y1).bind fun x1 =>
    if decide (x1 < 0) then
      some (w64 (x1 + y1))
    else
      some x1

noncomputable def m_keep_Src_Raw (y0 : T_keep_Src) : Option (Int × Int) :=
  if decide ((len y0.1) ≤ y0.2) then
    some (0, y0.2)
  else
    (idx y0.1 (w64 ((w64 (y0.2 + 1)) - 1))).bind fun x1 =>
    some (x1, w64 (y0.2 + 1))

noncomputable def m_keep_Src_N (y0 : T_keep_Src) (y1 : Int) : Option (Int × Int) :=
  (m_keep_Src_Raw y0).bind fun r1 =>
  (m_keep_Mod r1.1 y1).bind fun r2 =>
  some (r2, r1.2)

noncomputable def m_keep_Src_Range (y0 : T_keep_Src) (y1 : Int) (y2 : Int) : Option (Int × Int) :=
  (m_keep_Src_N y0 (w64 ((w64 (y2 - y1)) + 1))).bind fun r1 =>
  some (w64 (y1 + r1.1), r1.2)

noncomputable def m_keep_Voc_L1 (y0 : Int) (s1 : (List Str) × Int) : Option (((List Str) × Int) ⊕ (List Str)) :=
  if decide (s1.2 < y0) then
    (app s1.1 ([strOf ([IntKind.u8.wrap (w64 (97 + s1.2))] : List Int)] : List Str)).bind fun x1 =>
    some (.inl (x1, w64 (s1.2 + 1)))
  else
    some (.inr s1.1)

noncomputable def m_keep_Voc (y0 : Int) : Option (List Str) :=
  loop (m_keep_Voc_L1 y0) (([] : List Str), 0)

noncomputable def m_ref42_Same_L1 (y0 : List Str) (y1 : List Str) (s1 : Int) : Option (Int ⊕ Bool) :=
  if decide (s1 < (len y0)) then
    (idx y0 s1).bind fun x1 =>
    (idx y1 s1).bind fun x2 =>
    if !(x1 == x2) then
      some (.inr false)
    else
      some (.inl (w64 (s1 + 1)))
  else
    some (.inr true)

noncomputable def m_ref42_Same (y0 : List Str) (y1 : List Str) : Option Bool :=
  if (len y0) != (len y1) then
    some false
  else
    loop (m_ref42_Same_L1 y0 y1) 0

noncomputable def m_formula_Depth_L1 (y0 : T_Formula) (rec_formula_Depth : T_Formula → Option Int) (s1 : Int × Int) : Option ((Int × Int) ⊕ Int) :=
  if decide (s1.2 < (len ((fv y0).2.2))) then
    (idx ((fv y0).2.2) s1.2).bind fun x1 =>
    (rec_formula_Depth x1).bind fun r1 =>
    some (.inl (if (w64 (1 + r1)) > s1.1 then w64 (1 + r1) else s1.1, w64 (s1.2 + 1)))
  else
    some (.inr s1.1)

noncomputable def F_formula_Depth (rec_formula_Depth : T_Formula → Option Int) (y0 : T_Formula) : Option Int :=
  loop (m_formula_Depth_L1 y0 rec_formula_Depth) (0, 0)

noncomputable def k_formula_Depth : Nat → T_Formula → Option Int
  | 0 => fun _ => none
  | k + 1 => fun y0 => F_formula_Depth (k_formula_Depth k) y0

noncomputable def m_formula_Depth (y0 : T_Formula) : Option Int := limM fun k => k_formula_Depth k y0

noncomputable def m_formula_Size_L1 (y0 : T_Formula) (rec_formula_Size : T_Formula → Option Int) (s1 : Int × Int) : Option ((Int × Int) ⊕ Int) :=
  if decide (s1.2 < (len ((fv y0).2.2))) then
    (idx ((fv y0).2.2) s1.2).bind fun x1 =>
    (rec_formula_Size x1).bind fun r1 =>
    some (.inl (w64 (s1.1 + r1), w64 (s1.2 + 1)))
  else
    some (.inr s1.1)

noncomputable def F_formula_Size (rec_formula_Size : T_Formula → Option Int) (y0 : T_Formula) : Option Int :=
  loop (m_formula_Size_L1 y0 rec_formula_Size) (1, 0)

noncomputable def k_formula_Size : Nat → T_Formula → Option Int
  | 0 => fun _ => none
  | k + 1 => fun y0 => F_formula_Size (k_formula_Size k) y0

noncomputable def m_formula_Size (y0 : T_Formula) : Option Int := limM fun k => k_formula_Size k y0

noncomputable def m_formula_counted (y0 : T_Formula) : Option Bool :=
  (
    if ((fv y0).1) == 1 then
      some (((fv y0).1) == 1)
    else
      if ((fv y0).1) == 2 then
        some (((fv y0).1) == 2)
      else
        some (((fv y0).1) == 3) : Option Bool).bind fun s1 =>
  if s1 then
    some ((len ((fv y0).2.2)) == 0)
  else
    if ((fv y0).1) == 4 then
      some ((len ((fv y0).2.2)) == 1)
    else
      (
        if ((fv y0).1) == 5 then
          some (((fv y0).1) == 5)
        else
          some (((fv y0).1) == 6) : Option Bool).bind fun s2 =>
      if s2 then
        some ((decide (2 ≤ (len ((fv y0).2.2)))) && (decide ((len ((fv y0).2.2)) ≤ 6)))
      else
        (
          if ((fv y0).1) == 7 then
            some (((fv y0).1) == 7)
          else
            some (((fv y0).1) == 8) : Option Bool).bind fun s3 =>
        if s3 then
          some ((len ((fv y0).2.2)) == 2)
        else
          some false

noncomputable def m_formula_all__formula_counted_L1 (y0 : T_Formula) (rec_formula_all__formula_counted : T_Formula → Option Bool) (s1 : Int) : Option (Int ⊕ Bool) :=
  if decide (s1 < (len ((fv y0).2.2))) then
    (idx ((fv y0).2.2) s1).bind fun x1 =>
    (rec_formula_all__formula_counted x1).bind fun r2 =>
    if !r2 then
      some (.inr false)
    else
      some (.inl (w64 (s1 + 1)))
  else
    some (.inr true)

noncomputable def F_formula_all__formula_counted (rec_formula_all__formula_counted : T_Formula → Option Bool) (y0 : T_Formula) : Option Bool :=
  (m_formula_counted y0).bind fun r1 =>
  if !r1 then
    some false
  else
    loop (m_formula_all__formula_counted_L1 y0 rec_formula_all__formula_counted) 0

noncomputable def k_formula_all__formula_counted : Nat → T_Formula → Option Bool
  | 0 => fun _ => none
  | k + 1 => fun y0 => F_formula_all__formula_counted (k_formula_all__formula_counted k) y0

noncomputable def m_formula_all__formula_counted (y0 : T_Formula) : Option Bool := limM fun k => k_formula_all__formula_counted k y0

noncomputable def m_literal_ValidName_L1 (y0 : Str) (s1 : Int) : Option (Int ⊕ Bool) :=
  if decide (s1 < (len y0)) then
    (sidx y0 s1).bind fun x1 =>
    if (decide (97 ≤ x1)) && (decide (x1 ≤ 122)) then
      some (.inl (w64 (s1 + 1)))
    else
      if (decide (0 < s1)) && (if decide (48 ≤ x1) then (decide (x1 ≤ 57)) || (x1 == 95) else x1 == 95) then
        some (.inl (w64 (s1 + 1)))
      else
        some (.inr false)
  else
    some (.inr true)

noncomputable def m_literal_ValidName (y0 : Str) : Option Bool :=
  if ((len y0) == 0) || (decide (12 < (len y0))) then
    some false
  else
    loop (m_literal_ValidName_L1 y0) 0

noncomputable def m_formula_named (y0 : T_Formula) : Option Bool :=
  if ((fv y0).1) == 3 then
    (m_literal_ValidName ((fv y0).2.1)).bind fun r1 =>
    some r1
  else
    some (((fv y0).2.1) == [])

noncomputable def m_formula_all__formula_named_L1 (y0 : T_Formula) (rec_formula_all__formula_named : T_Formula → Option Bool) (s1 : Int) : Option (Int ⊕ Bool) :=
  if decide (s1 < (len ((fv y0).2.2))) then
    (idx ((fv y0).2.2) s1).bind fun x1 =>
    (rec_formula_all__formula_named x1).bind fun r2 =>
    if !r2 then
      some (.inr false)
    else
      some (.inl (w64 (s1 + 1)))
  else
    some (.inr true)

noncomputable def F_formula_all__formula_named (rec_formula_all__formula_named : T_Formula → Option Bool) (y0 : T_Formula) : Option Bool :=
  (m_formula_named y0).bind fun r1 =>
  if !r1 then
    some false
  else
    loop (m_formula_all__formula_named_L1 y0 rec_formula_all__formula_named) 0

noncomputable def k_formula_all__formula_named : Nat → T_Formula → Option Bool
  | 0 => fun _ => none
  | k + 1 => fun y0 => F_formula_all__formula_named (k_formula_all__formula_named k) y0

noncomputable def m_formula_all__formula_named (y0 : T_Formula) : Option Bool := limM fun k => k_formula_all__formula_named k y0

noncomputable def m_formula_Validate (y0 : T_Formula) : Option Int :=
  (
    (m_formula_Size y0).bind fun r1 =>
    if decide (600 < r1) then
      some true
    else
      (m_formula_Depth y0).bind fun r2 =>
      some (decide (20 < r2)) : Option Bool).bind fun s1 =>
  if s1 then
    some 2
  else
    (m_formula_all__formula_counted y0).bind fun r3 =>
    if !r3 then
      some 4
    else
      (m_formula_all__formula_named y0).bind fun r4 =>
      if !r4 then
        some 3
      else
        some 0

noncomputable def m_formula_needed (y0 : T_Formula) (y1 : Int) : Option Int :=
  (
    if ((fv y0).1) == 4 then
      some (((fv y0).1) == 4)
    else
      some (((fv y0).1) == 5) : Option Bool).bind fun s1 =>
  if s1 then
    some 5
  else
    if ((fv y0).1) == 6 then
      some 4
    else
      if ((fv y0).1) == 7 then
        some (w64 (3 - y1))
      else
        some 2

noncomputable def m_formula_strength (y0 : T_Formula) : Option Int :=
  if ((fv y0).1) == 8 then
    some 1
  else
    if ((fv y0).1) == 7 then
      some 2
    else
      if ((fv y0).1) == 6 then
        some 3
      else
        if ((fv y0).1) == 5 then
          some 4
        else
          some 5

noncomputable def m_strings_Builder_WriteByte (y0 : Str) (y1 : Int) : Option (Unit × Str) :=
  (some () : Option Unit).bind fun _ =>
  (chk (decide (0 ≤ y1) && decide (y1 < 256) && decide (len y0 + 1 < 4294967296))).bind fun _ =>
  some ((), y0 ++ [UInt8.ofNat y1.toNat])

noncomputable def m_strings_Builder_WriteString (y0 : Str) (y1 : Str) : Option (Int × Unit × Str) := wstrM y0 y1

noncomputable def m_formula_write_L1 (y1 : T_Formula) (rec_formula_write : Str → T_Formula → Option Str) (s2 : Int × Str) : Option ((Int × Str) ⊕ Str) :=
  if decide (s2.1 < (len ((fv y1).2.2))) then
    (idx ((fv y1).2.2) s2.1).bind fun x1 =>
    (
      if decide (0 < s2.1) then
        (idx tab_formula_words ((fv y1).1)).bind fun x2 =>
        (m_strings_Builder_WriteString s2.2 x2).bind fun r5 =>
        some r5.2.2
      else
        some s2.2 : Option Str).bind fun s3 =>
    (m_formula_strength x1).bind fun r6 =>
    (m_formula_needed y1 s2.1).bind fun r7 =>
    if decide (r6 < r7) then
      (m_strings_Builder_WriteByte s3 40).bind fun r8 =>
      (rec_formula_write r8.2 x1).bind fun r9 =>
      (m_strings_Builder_WriteByte r9 41).bind fun r10 =>
      some (.inl (w64 (s2.1 + 1), r10.2))
    else
      (rec_formula_write s3 x1).bind fun r11 =>
      some (.inl (w64 (s2.1 + 1), r11))
  else
    some (.inr s2.2)

noncomputable def F_formula_write (rec_formula_write : Str → T_Formula → Option Str) (y0 : Str) (y1 : T_Formula) : Option Str :=
  (
    if ((fv y1).1) == 1 then
      (m_strings_Builder_WriteByte y0 49).bind fun r1 =>
      some r1.2
    else
      if ((fv y1).1) == 2 then
        (m_strings_Builder_WriteByte y0 48).bind fun r2 =>
        some r2.2
      else
        if ((fv y1).1) == 3 then
          (m_strings_Builder_WriteString y0 ((fv y1).2.1)).bind fun r3 =>
          some r3.2.2
        else
          if ((fv y1).1) == 4 then
            (m_strings_Builder_WriteByte y0 126).bind fun r4 =>
            some r4.2
          else
            some y0 : Option Str).bind fun s1 =>
  loop (m_formula_write_L1 y1 rec_formula_write) (0, s1)

noncomputable def k_formula_write : Nat → Str → T_Formula → Option Str
  | 0 => fun _ _ => none
  | k + 1 => fun y0 y1 => F_formula_write (k_formula_write k) y0 y1

noncomputable def m_formula_write (y0 : Str) (y1 : T_Formula) : Option Str := limM fun k => k_formula_write k y0 y1

noncomputable def m_strings_Builder_Len (y0 : Str) : Option Int := some (len y0)

noncomputable def m_strings_Builder_String (y0 : Str) : Option Str := some y0

noncomputable def m_formula_Format (y0 : T_Formula) : Option (Str × Int) :=
  (m_formula_Validate y0).bind fun r1 =>
  if r1 != 0 then
    some ([], r1)
  else
    (m_formula_write ([] : Str) y0).bind fun r2 =>
    (m_strings_Builder_Len r2).bind fun r3 =>
    if decide (4096 < r3) then
      some ([], 2)
    else
      (m_strings_Builder_String r2).bind fun r4 =>
      some (r4, 0)

noncomputable def m_slices_Index_bool_L1 (y0 : List Bool) (y1 : Bool) (s1 : Int) : Option (Int ⊕ Int) :=
  if decide (s1 < (len y0)) then
    (idx y0 s1).bind fun x1 =>
    if y1 == x1 then
      some (.inr s1)
    else
      some (.inl (w64 (s1 + 1)))
  else
    some (.inr (-1))

noncomputable def m_slices_Index_bool (y0 : List Bool) (y1 : Bool) : Option Int :=
  loop (m_slices_Index_bool_L1 y0 y1) 0

noncomputable def m_slices_Contains_bool (y0 : List Bool) (y1 : Bool) : Option Bool :=
  (m_slices_Index_bool y0 y1).bind fun r1 =>
  some (decide (0 ≤ r1))

noncomputable def m_world_Valid_L1 (y0 : List Str) (s1 : Int) : Option (Int ⊕ Bool) :=
  if decide (s1 < (len y0)) then
    (idx y0 s1).bind fun x1 =>
    (
      (m_literal_ValidName x1).bind fun r1 =>
      if !r1 then
        some true
      else
        if decide (0 < s1) then
          (idx y0 (w64 (s1 - 1))).bind fun x2 =>
          some (!(sless x2 x1))
        else
          some false : Option Bool).bind fun s2 =>
    if s2 then
      some (.inr false)
    else
      some (.inl (w64 (s1 + 1)))
  else
    some (.inr true)

noncomputable def m_world_Valid (y0 : List Str) : Option Bool :=
  if decide (6 < (len y0)) then
    some false
  else
    loop (m_world_Valid_L1 y0) 0

noncomputable def m_order_Validate_L1 (y0 : T_Order) (x2 : List Bool) (s3 : (List Bool) × Int × Int) : Option (((List Bool) × Int × Int) ⊕ (((List Bool) × Int) ⊕ Int)) :=
  if decide (s3.2.2 < (len y0.2)) then
    (idx y0.2 s3.2.2).bind fun x3 =>
    if (decide (x3 < 0)) || (decide ((len x2) ≤ x3)) then
      some (.inr (.inr 8))
    else
      (idx s3.1 x3).bind fun _ =>
      some (.inl (List.set s3.1 (Int.toNat x3) true, if x3 > s3.2.1 then x3 else s3.2.1, w64 (s3.2.2 + 1)))
  else
    some (.inr (.inl (s3.1, s3.2.1)))

noncomputable def m_order_Validate (y0 : T_Order) : Option Int :=
  (
    (m_world_Valid y0.1).bind fun r1 =>
    if !r1 then
      some true
    else
      (shlK .i64 1 (len y0.1)).bind fun x1 =>
      some ((len y0.2) != x1) : Option Bool).bind fun s1 =>
  if s1 then
    some 1
  else
    (mkS (len y0.2) (len y0.2) (false : Bool)).bind fun x2 =>
    seqE (loop (m_order_Validate_L1 y0 x2) (x2, 0, 0) : Option (((List Bool) × Int) ⊕ Int)) fun s2 =>
    (sub s2.1 0 s2.2).bind fun x5 =>
    (m_slices_Contains_bool x5 false).bind fun r2 =>
    if r2 then
      some 8
    else
      some 0

noncomputable def m_slices_Max_int_L1 (y0 : List Int) (s2 : Int × Int) : Option ((Int × Int) ⊕ Int) :=
  if decide (s2.2 < (len y0)) then
    (idx y0 s2.2).bind fun x2 =>
    some (.inl (if x2 > s2.1 then x2 else s2.1, w64 (s2.2 + 1)))
  else
    some (.inr s2.1)

noncomputable def m_slices_Max_int (y0 : List Int) : Option Int :=
  (
    if decide ((len y0) < 1) then
      none
    else
      some () : Option Unit).bind fun _ =>
  (idx y0 0).bind fun x1 =>
  loop (m_slices_Max_int_L1 y0) (x1, 1)

noncomputable def m_order_Levels_L1 (y0 : T_Order) (s1 : (List Int) × Int) : Option (((List Int) × Int) ⊕ (List Int)) :=
  if decide (s1.2 < (len y0.2)) then
    (idx y0.2 s1.2).bind fun x2 =>
    (idx s1.1 x2).bind fun x3 =>
    (shlK .u64 1 (IntKind.u64.wrap (s1.2))).bind fun x4 =>
    (idx s1.1 x2).bind fun _ =>
    some (.inl (List.set s1.1 (Int.toNat x2) (bor .u64 x3 x4), w64 (s1.2 + 1)))
  else
    some (.inr s1.1)

noncomputable def m_order_Levels (y0 : T_Order) : Option (List Int) :=
  (m_order_Validate y0).bind fun r1 =>
  if r1 != 0 then
    some ([] : List Int)
  else
    (m_slices_Max_int y0.2).bind fun r2 =>
    (mkS (w64 (r2 + 1)) (w64 (r2 + 1)) (0 : Int)).bind fun x1 =>
    loop (m_order_Levels_L1 y0) (x1, 0)

noncomputable def m_internal_strconv_small (y0 : Int) : Option Str :=
  if decide (y0 < 10) then
    (sub [48, 49, 50, 51, 52, 53, 54, 55, 56, 57, 97, 98, 99, 100, 101, 102, 103, 104, 105, 106, 107, 108, 109, 110, 111, 112, 113, 114, 115, 116, 117, 118, 119, 120, 121, 122] y0 (w64 (y0 + 1))).bind fun x1 =>
    some x1
  else
    (sub [48, 48, 48, 49, 48, 50, 48, 51, 48, 52, 48, 53, 48, 54, 48, 55, 48, 56, 48, 57, 49, 48, 49, 49, 49, 50, 49, 51, 49, 52, 49, 53, 49, 54, 49, 55, 49, 56, 49, 57, 50, 48, 50, 49, 50, 50, 50, 51, 50, 52, 50, 53, 50, 54, 50, 55, 50, 56, 50, 57, 51, 48, 51, 49, 51, 50, 51, 51, 51, 52, 51, 53, 51, 54, 51, 55, 51, 56, 51, 57, 52, 48, 52, 49, 52, 50, 52, 51, 52, 52, 52, 53, 52, 54, 52, 55, 52, 56, 52, 57, 53, 48, 53, 49, 53, 50, 53, 51, 53, 52, 53, 53, 53, 54, 53, 55, 53, 56, 53, 57, 54, 48, 54, 49, 54, 50, 54, 51, 54, 52, 54, 53, 54, 54, 54, 55, 54, 56, 54, 57, 55, 48, 55, 49, 55, 50, 55, 51, 55, 52, 55, 53, 55, 54, 55, 55, 55, 56, 55, 57, 56, 48, 56, 49, 56, 50, 56, 51, 56, 52, 56, 53, 56, 54, 56, 55, 56, 56, 56, 57, 57, 48, 57, 49, 57, 50, 57, 51, 57, 52, 57, 53, 57, 54, 57, 55, 57, 56, 57, 57] (w64 (y0 * 2)) (w64 ((w64 (y0 * 2)) + 2))).bind fun x2 =>
    some x2

noncomputable def m_internal_strconv_FormatInt (y0 : Int) (y1 : Int) : Option Str :=
  if y1 == 10 then
    if (decide (0 ≤ y0)) && (decide (y0 < 100)) then
      (m_internal_strconv_small y0).bind fun r1 =>
      some r1
    else
      none
  else
    none

noncomputable def m_internal_strconv_Itoa (y0 : Int) : Option Str :=
  (m_internal_strconv_FormatInt y0 10).bind fun r1 =>
  some r1

noncomputable def m_strconv_Itoa (y0 : Int) : Option Str :=
  (m_internal_strconv_Itoa y0).bind fun r1 =>
  some r1

noncomputable def m_report_number (y0 : Int) : Option Str :=
  (m_strconv_Itoa y0).bind fun r1 =>
  some r1

noncomputable def m_world_whole (y0 : Int) : Option Int :=
  (shlK .u64 1 y0).bind fun x1 =>
  (shrK .u64 18446744073709551615 (IntKind.u64.wrap (64 - x1))).bind fun x2 =>
  some x2

noncomputable def m_world_All (y0 : List Str) : Option Int :=
  (m_world_Valid y0).bind fun r1 =>
  if !r1 then
    some 0
  else
    (m_world_whole (len y0)).bind fun r2 =>
    some r2

noncomputable def m_world_split_L1 (y0 : Int) (s1 : Int × Int × Int) : Option ((Int × Int × Int) ⊕ (Int × Int)) :=
  if decide (s1.2.2 < 32) then
    (shrK .u64 y0 (w64 (2 * s1.2.2))).bind fun x1 =>
    (shlK .u64 (band .u64 x1 1) s1.2.2).bind fun x2 =>
    (shrK .u64 y0 (w64 ((w64 (2 * s1.2.2)) + 1))).bind fun x3 =>
    (shlK .u64 (band .u64 x3 1) s1.2.2).bind fun x4 =>
    some (.inl (bor .u64 s1.1 x4, bor .u64 s1.2.1 x2, w64 (s1.2.2 + 1)))
  else
    some (.inr (s1.1, s1.2.1))

noncomputable def m_world_split (y0 : Int) : Option (Int × Int) :=
  loop (m_world_split_L1 y0) (0, 0, 0)

noncomputable def m_world_two (y0 : Int) (y1 : T_Formula) (y2 : T_Formula) : Option T_Formula :=
  some (fm (y0, [], ([y1, y2] : List T_Formula)))

noncomputable def F_world_theory (rec_world_theory : (List Str) → Int → Option T_Formula) (y0 : List Str) (y1 : Int) : Option T_Formula :=
  (m_world_whole (len y0)).bind fun r1 =>
  if y1 == 0 then
    some (fm (2, [], ([] : List T_Formula)))
  else
    if y1 == r1 then
      some (fm (1, [], ([] : List T_Formula)))
    else
      (sub y0 1 (len y0)).bind fun x1 =>
      (m_world_split y1).bind fun r2 =>
      if r2.1 == r2.2 then
        (rec_world_theory x1 r2.1).bind fun r3 =>
        some r3
      else
        (idx y0 0).bind fun x2 =>
        (idx y0 0).bind fun x3 =>
        (m_world_whole (len x1)).bind fun r4 =>
        if (r2.1 == r4) && (r2.2 == 0) then
          some (fm (3, x2, ([] : List T_Formula)))
        else
          if r2.1 == r4 then
            (rec_world_theory x1 r2.2).bind fun r5 =>
            (m_world_two 6 (fm (3, x2, ([] : List T_Formula))) r5).bind fun r6 =>
            some r6
          else
            if (r2.1 == 0) && (r2.2 == r4) then
              some (fm (4, [], ([fm (3, x3, ([] : List T_Formula))] : List T_Formula)))
            else
              if r2.1 == 0 then
                (rec_world_theory x1 r2.2).bind fun r7 =>
                (m_world_two 5 (fm (4, [], ([fm (3, x3, ([] : List T_Formula))] : List T_Formula))) r7).bind fun r8 =>
                some r8
              else
                if r2.2 == r4 then
                  (rec_world_theory x1 r2.1).bind fun r9 =>
                  (m_world_two 6 (fm (4, [], ([fm (3, x3, ([] : List T_Formula))] : List T_Formula))) r9).bind fun r10 =>
                  some r10
                else
                  if r2.2 == 0 then
                    (rec_world_theory x1 r2.1).bind fun r11 =>
                    (m_world_two 5 (fm (3, x2, ([] : List T_Formula))) r11).bind fun r12 =>
                    some r12
                  else
                    (rec_world_theory x1 r2.1).bind fun r13 =>
                    (m_world_two 5 (fm (3, x2, ([] : List T_Formula))) r13).bind fun r14 =>
                    (rec_world_theory x1 r2.2).bind fun r15 =>
                    (m_world_two 5 (fm (4, [], ([fm (3, x3, ([] : List T_Formula))] : List T_Formula))) r15).bind fun r16 =>
                    (m_world_two 6 r14 r16).bind fun r17 =>
                    some r17

noncomputable def k_world_theory : Nat → (List Str) → Int → Option T_Formula
  | 0 => fun _ _ => none
  | k + 1 => fun y0 y1 => F_world_theory (k_world_theory k) y0 y1

noncomputable def m_world_theory (y0 : List Str) (y1 : Int) : Option T_Formula := limM fun k => k_world_theory k y0 y1

noncomputable def m_world_Theory (y0 : List Str) (y1 : Int) : Option (T_Formula × Int) :=
  (m_world_Valid y0).bind fun r1 =>
  if !r1 then
    some (fm (0, [], ([] : List T_Formula)), 1)
  else
    (m_world_All y0).bind fun r2 =>
    (m_world_theory y0 (band .u64 y1 r2)).bind fun r3 =>
    some (r3, 0)

noncomputable def m_report_Order_L1 (r1 : (List Int)) (y0 : T_Order) (s1 : (List Str) × Int) : Option (((List Str) × Int) ⊕ (List Str)) :=
  if decide (s1.2 < (len r1)) then
    (idx r1 s1.2).bind fun x1 =>
    (m_world_Theory y0.1 x1).bind fun r2 =>
    (m_formula_Format r2.1).bind fun r3 =>
    (m_report_number s1.2).bind fun r4 =>
    (cat r4 [58, 32]).bind fun x2 =>
    (cat x2 r3.1).bind fun x3 =>
    (app s1.1 ([x3] : List Str)).bind fun x4 =>
    some (.inl (x4, w64 (s1.2 + 1)))
  else
    some (.inr s1.1)

noncomputable def m_report_Order (y0 : T_Order) : Option (List Str) :=
  (m_order_Levels y0).bind fun r1 =>
  loop (m_report_Order_L1 r1 y0) (([] : List Str), 0)

noncomputable def m_law42_awake : Option Bool :=
  (m_keep_Voc 2).bind fun r1 =>
  (m_report_Order (r1, ([2, 1, 2, 0] : List Int))).bind fun r2 =>
  (m_keep_Voc 2).bind fun r3 =>
  (idx r3 0).bind fun x1 =>
  (m_keep_Voc 2).bind fun r4 =>
  (idx r4 1).bind fun x2 =>
  (cat [48, 58, 32] x1).bind fun x3 =>
  (cat x3 [32, 38, 32]).bind fun x4 =>
  (cat x4 x2).bind fun x5 =>
  (cat [49, 58, 32] x1).bind fun x6 =>
  (cat x6 [32, 38, 32, 126]).bind fun x7 =>
  (cat x7 x2).bind fun x8 =>
  (cat [50, 58, 32, 126] x1).bind fun x9 =>
  (m_ref42_Same r2 ([x5, x8, x9] : List Str)).bind fun r5 =>
  some r5

noncomputable def m_net_Graph_L2 (r1 : Int × Int) (s2 : Int × Int × (List T_Pair)) (r2 : Int × Int) (y0 : T_keep_Src) (s3 : Int × Int × (List T_Pair)) : Option ((Int × Int × (List T_Pair)) ⊕ ((Int × Int × (List T_Pair)) ⊕ (Int × (List T_Pair)))) :=
  if decide (s3.1 < r1.1) then
    (
      if s2.1 == s3.1 then
        some 9
      else
        some r2.1 : Option Int).bind fun s4 =>
    (m_keep_Src_N (y0.1, s3.2.1) s4).bind fun r3 =>
    if r3.1 == 1 then
      (app s3.2.2 ([(s2.1, s3.1)] : List T_Pair)).bind fun x1 =>
      some (.inl (w64 (s3.1 + 1), r3.2, x1))
    else
      some (.inl (w64 (s3.1 + 1), r3.2, s3.2.2))
  else
    some (.inr (.inl (w64 (s2.1 + 1), s3.2.1, s3.2.2)))

noncomputable def m_net_Graph_L1 (r1 : Int × Int) (r2 : Int × Int) (y0 : T_keep_Src) (s2 : Int × Int × (List T_Pair)) : Option ((Int × Int × (List T_Pair)) ⊕ (Int × (List T_Pair))) :=
  if decide (s2.1 < r1.1) then
    loop (m_net_Graph_L2 r1 s2 r2 y0) (0, s2.2.1, s2.2.2)
  else
    some (.inr (s2.2.1, s2.2.2))

noncomputable def m_net_Graph (y0 : T_keep_Src) (y1 : Int) : Option (T_Graph × Int) :=
  (m_keep_Src_Range y0 1 y1).bind fun r1 =>
  (m_keep_Src_Range (y0.1, r1.2) 2 5).bind fun r2 =>
  (loop (m_net_Graph_L1 r1 r2 y0) (0, r2.2, ([] : List T_Pair)) : Option (Int × (List T_Pair))).bind fun s1 =>
  some ((r1.1, s1.2), s1.1)

noncomputable def m_ref27_gone_L2 (y0 : T_Dialogue) (s1 : (List Bool) × Int) (s4 : (List Bool) × Int) : Option (((List Bool) × Int) ⊕ (List Bool)) :=
  if decide (s4.2 < (len y0.2.2.2)) then
    (
      (idx s4.1 s1.2).bind fun x5 =>
      if x5 then
        (idx s4.1 s1.2).bind fun _ =>
        some (List.set s4.1 (Int.toNat s1.2) true)
      else
        (idx y0.2.2.2 s4.2).bind fun x7 =>
        if x7.2.1 == 3 then
          (idx y0.2.2.2 s4.2).bind fun x8 =>
          (idx s4.1 s1.2).bind fun _ =>
          some (List.set s4.1 (Int.toNat s1.2) (x8.2.2.2 == s1.2))
        else
          (idx s4.1 s1.2).bind fun _ =>
          some (List.set s4.1 (Int.toNat s1.2) false) : Option (List Bool)).bind fun s5 =>
    some (.inl (s5, w64 (s4.2 + 1)))
  else
    some (.inr s4.1)

noncomputable def m_ref27_gone_L1 (y0 : T_Dialogue) (s1 : (List Bool) × Int) : Option (((List Bool) × Int) ⊕ (List Bool)) :=
  if decide (s1.2 < (len y0.2.2.2)) then
    (idx y0.2.2.2 s1.2).bind fun x2 =>
    (
      if x2.2.1 == 3 then
        (idx s1.1 s1.2).bind fun _ =>
        some (List.set s1.1 (Int.toNat s1.2) true)
      else
        (idx s1.1 s1.2).bind fun _ =>
        some (List.set s1.1 (Int.toNat s1.2) (x2.2.1 == 4)) : Option (List Bool)).bind fun s2 =>
    (loop (m_ref27_gone_L2 y0 s1) (s2, w64 (s1.2 + 1)) : Option (List Bool)).bind fun s3 =>
    if x2.2.1 == 2 then
      (
        (idx s3 s1.2).bind fun x11 =>
        if x11 then
          (idx s3 s1.2).bind fun _ =>
          some (List.set s3 (Int.toNat s1.2) true)
        else
          (idx s3 x2.2.2.2).bind fun x13 =>
          (idx s3 s1.2).bind fun _ =>
          some (List.set s3 (Int.toNat s1.2) x13) : Option (List Bool)).bind fun s6 =>
      some (.inl (s6, w64 (s1.2 + 1)))
    else
      some (.inl (s3, w64 (s1.2 + 1)))
  else
    some (.inr s1.1)

noncomputable def m_ref27_gone (y0 : T_Dialogue) : Option (List Bool) :=
  (mkS (len y0.2.2.2) (len y0.2.2.2) (false : Bool)).bind fun x1 =>
  loop (m_ref27_gone_L1 y0) (x1, 0)

noncomputable def m_ref27_Status_L2 (y0 : T_Dialogue) (s1 : (List Int) × Int) (s2 : (List Int) × Int) : Option (((List Int) × Int) ⊕ (((List Int) × Int) ⊕ (List Int))) :=
  if decide (s2.2 < (len y0.2.2.2)) then
    (
      (idx y0.2.2.2 s2.2).bind fun x4 =>
      if x4.2.1 == 2 then
        (idx y0.2.2.2 s2.2).bind fun x5 =>
        if x5.2.2.2 == s1.2 then
          (idx s2.1 s2.2).bind fun x6 =>
          some (x6 == 1)
        else
          some false
      else
        some false : Option Bool).bind fun s3 =>
    if s3 then
      (idx s2.1 s1.2).bind fun _ =>
      some (.inl (List.set s2.1 (Int.toNat s1.2) 2, w64 (s2.2 + 1)))
    else
      some (.inl (s2.1, w64 (s2.2 + 1)))
  else
    some (.inr (.inl (s2.1, w64 (s1.2 - 1))))

noncomputable def m_ref27_Status_L1 (r1 : (List Bool)) (y0 : T_Dialogue) (s1 : (List Int) × Int) : Option (((List Int) × Int) ⊕ (List Int)) :=
  if decide (0 ≤ s1.2) then
    (idx r1 s1.2).bind fun x2 =>
    if x2 then
      some (.inl (s1.1, w64 (s1.2 - 1)))
    else
      (idx s1.1 s1.2).bind fun _ =>
      loop (m_ref27_Status_L2 y0 s1) (List.set s1.1 (Int.toNat s1.2) 1, w64 (s1.2 + 1))
  else
    some (.inr s1.1)

noncomputable def m_ref27_Status (y0 : T_Dialogue) : Option (List Int) :=
  (m_ref27_gone y0).bind fun r1 =>
  (mkS (len y0.2.2.2) (len y0.2.2.2) (0 : Int)).bind fun x1 =>
  loop (m_ref27_Status_L1 r1 y0) (x1, w64 ((len y0.2.2.2) - 1))

noncomputable def m_net_Has_L1 (y0 : T_Graph) (y1 : Int) (y2 : Int) (s1 : Int) : Option (Int ⊕ Bool) :=
  if decide (s1 < (len y0.2)) then
    (
      (idx y0.2 s1).bind fun x1 =>
      if x1.1 == y1 then
        (idx y0.2 s1).bind fun x2 =>
        some (x2.2 == y2)
      else
        some false : Option Bool).bind fun s2 =>
    if s2 then
      some (.inr true)
    else
      some (.inl (w64 (s1 + 1)))
  else
    some (.inr false)

noncomputable def m_net_Has (y0 : T_Graph) (y1 : Int) (y2 : Int) : Option Bool :=
  loop (m_net_Has_L1 y0 y1 y2) 0

noncomputable def m_net_In_L1 (y0 : List Int) (y1 : Int) (s1 : Int) : Option (Int ⊕ Bool) :=
  if decide (s1 < (len y0)) then
    (idx y0 s1).bind fun x1 =>
    if x1 == y1 then
      some (.inr true)
    else
      some (.inl (w64 (s1 + 1)))
  else
    some (.inr false)

noncomputable def m_net_In (y0 : List Int) (y1 : Int) : Option Bool :=
  loop (m_net_In_L1 y0 y1) 0

noncomputable def m_ref27_leader (y0 : List Int) : Option Int :=
  (idx y0 0).bind fun x1 =>
  if x1 == 1 then
    some 1
  else
    some 2

noncomputable def m_ref27_Leading_L1 (y0 : T_Dialogue) (r1 : (List Int)) (s1 : (List Int) × Int) : Option (((List Int) × Int) ⊕ (List Int)) :=
  if decide (s1.2 < (len y0.2.2.2)) then
    (idx y0.2.2.2 s1.2).bind fun x1 =>
    (
      (idx r1 s1.2).bind fun x2 =>
      if x2 == 0 then
        some true
      else
        (m_net_In s1.1 x1.2.2.2).bind fun r2 =>
        some (!r2) : Option Bool).bind fun s2 =>
    if s2 then
      some (.inl (s1.1, w64 (s1.2 + 1)))
    else
      (
        (idx y0.2.2.2 x1.2.2.2).bind fun x3 =>
        (m_ref27_leader r1).bind fun r3 =>
        if x3.1 == r3 then
          some true
        else
          (idx r1 s1.2).bind fun x4 =>
          some (x4 == 1) : Option Bool).bind fun s3 =>
      if s3 then
        (app s1.1 ([s1.2] : List Int)).bind fun x5 =>
        some (.inl (x5, w64 (s1.2 + 1)))
      else
        some (.inl (s1.1, w64 (s1.2 + 1)))
  else
    some (.inr s1.1)

noncomputable def m_ref27_Leading (y0 : T_Dialogue) : Option (List Int) :=
  (m_ref27_Status y0).bind fun r1 =>
  loop (m_ref27_Leading_L1 y0 r1) (([0] : List Int), 1)

noncomputable def m_ref27_repeated_L1 (y0 : T_Dialogue) (y2 : Int) (s2 : Int) : Option (Int ⊕ (Unit ⊕ Bool)) :=
  if decide (0 < s2) then
    (
      (idx y0.2.2.2 s2).bind fun x1 =>
      if x1.1 == 1 then
        (idx y0.2.2.2 s2).bind fun x2 =>
        some (x2.2.2.1 == y2)
      else
        some false : Option Bool).bind fun s3 =>
    if s3 then
      some (.inr (.inr true))
    else
      (idx y0.2.2.2 s2).bind fun x3 =>
      some (.inl x3.2.2.2)
  else
    some (.inr (.inl ()))

noncomputable def m_ref27_repeated (y0 : T_Dialogue) (y1 : Int) (y2 : Int) : Option Bool :=
  seqE (loop (m_ref27_repeated_L1 y0 y2) y1 : Option (Unit ⊕ Bool)) fun _ =>
  (idx y0.2.2.2 0).bind fun x4 =>
  some (x4.2.2.1 == y2)

noncomputable def m_ref27_attacks_L3 (y0 : T_Dialogue) (x1 : Int) (s2 : (List T_Move) × Int) (s4 : Bool × Int) : Option ((Bool × Int) ⊕ Bool) :=
  if decide (s4.2 < (len y0.2.2.2)) then
    (
      if s4.1 then
        (idx y0.2.2.2 s4.2).bind fun x4 =>
        if x4.2.1 == 2 then
          (idx y0.2.2.2 s4.2).bind fun x5 =>
          if x5.2.2.2 == x1 then
            (idx y0.2.2.2 s4.2).bind fun x6 =>
            some (!(x6.2.2.1 == s2.2))
          else
            some (!false)
        else
          some (!false)
      else
        some false : Option Bool).bind fun s5 =>
    some (.inl (s5, w64 (s4.2 + 1)))
  else
    some (.inr s4.1)

noncomputable def m_ref27_attacks_L2 (y0 : T_Dialogue) (x1 : Int) (r2 : Int) (s1 : (List T_Move) × Int) (s2 : (List T_Move) × Int) : Option (((List T_Move) × Int) ⊕ (((List T_Move) × Int) ⊕ (List T_Move))) :=
  if decide (s2.2 < y0.1.1) then
    (idx y0.2.2.2 x1).bind fun x3 =>
    (m_net_Has y0.1 s2.2 x3.2.2.1).bind fun r4 =>
    (loop (m_ref27_attacks_L3 y0 x1 s2) (r4, 0) : Option Bool).bind fun s3 =>
    (
      if s3 then
        if (w64 (3 - r2)) == 2 then
          some true
        else
          (m_ref27_repeated y0 x1 s2.2).bind fun r5 =>
          some (!r5)
      else
        some false : Option Bool).bind fun s6 =>
    if s6 then
      (app s2.1 ([(w64 (3 - r2), 2, s2.2, x1)] : List T_Move)).bind fun x7 =>
      some (.inl (x7, w64 (s2.2 + 1)))
    else
      some (.inl (s2.1, w64 (s2.2 + 1)))
  else
    some (.inr (.inl (s2.1, w64 (s1.2 + 1))))

noncomputable def m_ref27_attacks_L1 (r3 : (List Int)) (y0 : T_Dialogue) (r2 : Int) (s1 : (List T_Move) × Int) : Option (((List T_Move) × Int) ⊕ (List T_Move)) :=
  if decide (s1.2 < (len r3)) then
    (idx r3 s1.2).bind fun x1 =>
    (idx y0.2.2.2 x1).bind fun x2 =>
    if x2.1 == (w64 (3 - r2)) then
      some (.inl (s1.1, w64 (s1.2 + 1)))
    else
      loop (m_ref27_attacks_L2 y0 x1 r2 s1) (s1.1, 0)
  else
    some (.inr s1.1)

noncomputable def m_ref27_attacks (y0 : T_Dialogue) : Option (List T_Move) :=
  (m_ref27_Status y0).bind fun r1 =>
  (m_ref27_leader r1).bind fun r2 =>
  (m_ref27_Leading y0).bind fun r3 =>
  loop (m_ref27_attacks_L1 r3 y0 r2) (([] : List T_Move), 0)

noncomputable def m_ref27_End_L1 (y0 : T_Dialogue) (r2 : Int) (s2 : Int × Int) : Option ((Int × Int) ⊕ Int) :=
  if decide (s2.2 < (len y0.2.2.2)) then
    (idx y0.2.2.2 s2.2).bind fun x2 =>
    if x2.1 != r2 then
      some (.inl (w64 (s2.1 + 1), w64 (s2.2 + 1)))
    else
      some (.inl (s2.1, w64 (s2.2 + 1)))
  else
    some (.inr s2.1)

noncomputable def m_ref27_End (y0 : T_Dialogue) : Option T_Outcome :=
  (idx y0.2.2.2 (w64 ((len y0.2.2.2) - 1))).bind fun x1 =>
  if x1.2.1 == 4 then
    some (w64 (3 - x1.1), 3)
  else
    (m_ref27_Status y0).bind fun r1 =>
    (m_ref27_leader r1).bind fun r2 =>
    (loop (m_ref27_End_L1 y0 r2) (0, 0) : Option Int).bind fun s1 =>
    if decide (200 ≤ (len y0.2.2.2)) then
      some (r2, 4)
    else
      (idx ([y0.2.2.1.1, y0.2.2.1.2] : List Int) (w64 (2 - r2))).bind fun x3 =>
      if decide (x3 ≤ s1) then
        some (r2, 2)
      else
        (m_ref27_attacks y0).bind fun r3 =>
        if (len r3) == 0 then
          some (r2, 1)
        else
          some (0, 0)

noncomputable def m_ref27_Turn (y0 : T_Dialogue) : Option Int :=
  (m_ref27_End y0).bind fun r1 =>
  if !(r1 == (0, 0)) then
    some 0
  else
    (m_ref27_Status y0).bind fun r2 =>
    (m_ref27_leader r2).bind fun r3 =>
    some (w64 (3 - r3))

noncomputable def m_ref27_Apply_L1 (r3 : (List T_Move)) (y1 : T_Move) (s3 : Bool × Int) : Option ((Bool × Int) ⊕ Bool) :=
  if decide (s3.2 < (len r3)) then
    (idx r3 s3.2).bind fun x1 =>
    some (.inl (s3.1 || (x1 == y1), w64 (s3.2 + 1)))
  else
    some (.inr s3.1)

noncomputable def m_ref27_Apply (y0 : T_Dialogue) (y1 : T_Move) : Option (T_Dialogue × Int) :=
  (m_ref27_Turn y0).bind fun r1 =>
  if r1 == 0 then
    some (((0, ([] : List T_Pair)), 0, (0, 0), ([] : List T_Move)), 7)
  else
    if (y1.2.1 != 2) && ((y1.2.1 != 3) && (y1.2.1 != 4)) then
      some (((0, ([] : List T_Pair)), 0, (0, 0), ([] : List T_Move)), 4)
    else
      (m_ref27_Turn y0).bind fun r2 =>
      if y1.1 != r2 then
        some (((0, ([] : List T_Pair)), 0, (0, 0), ([] : List T_Move)), 8)
      else
        seqE (
          if y1.2.1 == 2 then
            if (!((decide (0 ≤ y1.2.2.2)) && (decide (y1.2.2.2 < (len y0.2.2.2))))) || ((decide (y1.2.2.1 < 0)) || (decide (y0.1.1 ≤ y1.2.2.1))) then
              some (.inr (((0, ([] : List T_Pair)), 0, (0, 0), ([] : List T_Move)), 1))
            else
              (
                (m_ref27_attacks y0).bind fun r3 =>
                loop (m_ref27_Apply_L1 r3 y1) (false, 0) : Option Bool).bind fun s2 =>
              if !s2 then
                some (.inr (((0, ([] : List T_Pair)), 0, (0, 0), ([] : List T_Move)), 9))
              else
                some (.inl (y1.2.2.1, y1.2.2.2))
          else
            if y1.2.1 == 3 then
              if !((decide (0 ≤ y1.2.2.2)) && (decide (y1.2.2.2 < (len y0.2.2.2)))) then
                some (.inr (((0, ([] : List T_Pair)), 0, (0, 0), ([] : List T_Move)), 1))
              else
                (idx y0.2.2.2 y1.2.2.2).bind fun x2 =>
                (
                  if x2.2.1 != 2 then
                    some true
                  else
                    if x2.1 != y1.1 then
                      some true
                    else
                      (m_ref27_Status y0).bind fun r4 =>
                      (idx r4 y1.2.2.2).bind fun x3 =>
                      some (x3 == 0) : Option Bool).bind fun s4 =>
                if s4 then
                  some (.inr (((0, ([] : List T_Pair)), 0, (0, 0), ([] : List T_Move)), 6))
                else
                  some (.inl (0, y1.2.2.2))
            else
              some (.inl (0, 0)) : Option ((Int × Int) ⊕ (T_Dialogue × Int))) fun s1 =>
        (
          (app ([] : List T_Move) y0.2.2.2).bind fun x4 =>
          (app x4 ([(y1.1, y1.2.1, s1.1, s1.2)] : List T_Move)).bind fun x5 =>
          some x5 : Option (List T_Move)).bind fun s5 =>
        some ((y0.1, y0.2.1, y0.2.2.1, s5), 0)

noncomputable def m_ref27_Legal (y0 : T_Dialogue) : Option (List T_Move) :=
  (m_ref27_Turn y0).bind fun r1 =>
  if r1 == 0 then
    some ([] : List T_Move)
  else
    (m_ref27_attacks y0).bind fun r2 =>
    some r2

noncomputable def m_ref10_Validate_L1 (y0 : T_Graph) (s1 : Int) : Option (Int ⊕ Int) :=
  if decide (s1 < (len y0.2)) then
    (idx y0.2 s1).bind fun x1 =>
    if (decide (x1.1 < 0)) || ((decide (y0.1 ≤ x1.1)) || ((decide (x1.2 < 0)) || (decide (y0.1 ≤ x1.2)))) then
      some (.inr 1)
    else
      (
        if decide (0 < s1) then
          (idx y0.2 (w64 (s1 - 1))).bind fun x2 =>
          if decide (x1.1 < x2.1) then
            some true
          else
            (idx y0.2 (w64 (s1 - 1))).bind fun x3 =>
            if x3.1 == x1.1 then
              (idx y0.2 (w64 (s1 - 1))).bind fun x4 =>
              some (decide (x1.2 ≤ x4.2))
            else
              some false
        else
          some false : Option Bool).bind fun s2 =>
      if s2 then
        some (.inr 8)
      else
        some (.inl (w64 (s1 + 1)))
  else
    some (.inr 0)

noncomputable def m_ref10_Validate (y0 : T_Graph) : Option Int :=
  if (decide (y0.1 < 0)) || (decide (40 < y0.1)) then
    some 1
  else
    loop (m_ref10_Validate_L1 y0) 0

noncomputable def m_ref27_New (y0 : T_Graph) (y1 : Int) (y2 : Int × Int) : Option (T_Dialogue × Int) :=
  (m_ref10_Validate y0).bind fun r1 =>
  if r1 != 0 then
    some (((0, ([] : List T_Pair)), 0, (0, 0), ([] : List T_Move)), r1)
  else
    if (decide (y1 < 0)) || ((decide (y0.1 ≤ y1)) || ((decide (y2.1 < 1)) || ((decide (200 < y2.1)) || ((decide (y2.2 < 0)) || (decide (200 < y2.2)))))) then
      some (((0, ([] : List T_Pair)), 0, (0, 0), ([] : List T_Move)), 1)
    else
      some ((y0, y1, y2, ([(1, 1, y1, 0)] : List T_Move)), 0)

noncomputable def F_ref42_digits (rec_ref42_digits : Int → Option Str) (y0 : Int) : Option Str :=
  if decide (y0 < 10) then
    some (strOf ([IntKind.u8.wrap (w64 (48 + y0))] : List Int))
  else
    (
      (quoK .i64 y0 10).bind fun x1 =>
      (remK y0 10).bind fun x2 =>
      (rec_ref42_digits x1).bind fun r1 =>
      (cat r1 (strOf ([IntKind.u8.wrap (w64 (48 + x2))] : List Int))).bind fun x3 =>
      some x3 : Option Str).bind fun s1 =>
    some s1

noncomputable def k_ref42_digits : Nat → Int → Option Str
  | 0 => fun _ => none
  | k + 1 => fun y0 => F_ref42_digits (k_ref42_digits k) y0

noncomputable def m_ref42_digits (y0 : Int) : Option Str := limM fun k => k_ref42_digits k y0

noncomputable def m_ref42_player (y0 : Int) : Option Str :=
  if y0 == 1 then
    some [80]
  else
    some [79]

noncomputable def m_ref42_Dialogue_L1 (y0 : T_Dialogue) (r1 : (List Int)) (s2 : (List Str) × Int) : Option (((List Str) × Int) ⊕ (List Str)) :=
  if decide (s2.2 < (len y0.2.2.2)) then
    (idx y0.2.2.2 s2.2).bind fun x1 =>
    (m_ref42_digits s2.2).bind fun r2 =>
    (cat r2 [32]).bind fun x2 =>
    (m_ref42_player x1.1).bind fun r3 =>
    (cat x2 r3).bind fun x3 =>
    (
      (idx r1 s2.2).bind fun x4 =>
      if x4 == 1 then
        some [44, 32, 105, 110]
      else
        (idx r1 s2.2).bind fun x5 =>
        if x5 == 2 then
          some [44, 32, 111, 117, 116]
        else
          some [44, 32, 103, 111, 110, 101] : Option Str).bind fun s3 =>
    (
      if x1.2.1 == 1 then
        (m_ref42_digits x1.2.2.1).bind fun r4 =>
        (cat [32, 99, 108, 97, 105, 109, 115, 32] r4).bind fun x6 =>
        (cat x6 s3).bind fun x7 =>
        (cat x3 x7).bind fun x8 =>
        some x8
      else
        if x1.2.1 == 2 then
          (m_ref42_digits x1.2.2.1).bind fun r5 =>
          (cat [32, 109, 111, 118, 101, 115, 32] r5).bind fun x9 =>
          (cat x9 [32, 97, 103, 97, 105, 110, 115, 116, 32]).bind fun x10 =>
          (m_ref42_digits x1.2.2.2).bind fun r6 =>
          (cat x10 r6).bind fun x11 =>
          (cat x11 s3).bind fun x12 =>
          (cat x3 x12).bind fun x13 =>
          some x13
        else
          if x1.2.1 == 3 then
            (m_ref42_digits x1.2.2.2).bind fun r7 =>
            (cat [32, 114, 101, 116, 114, 97, 99, 116, 115, 32] r7).bind fun x14 =>
            (cat x3 x14).bind fun x15 =>
            some x15
          else
            (cat x3 [32, 99, 111, 110, 99, 101, 100, 101, 115]).bind fun x16 =>
            some x16 : Option Str).bind fun s4 =>
    (app s2.1 ([s4] : List Str)).bind fun x17 =>
    some (.inl (x17, w64 (s2.2 + 1)))
  else
    some (.inr s2.1)

noncomputable def m_ref42_Dialogue (y0 : T_Dialogue) : Option (List Str) :=
  (m_ref27_Status y0).bind fun r1 =>
  (loop (m_ref42_Dialogue_L1 y0 r1) (([] : List Str), 0) : Option (List Str)).bind fun s1 =>
  (m_ref27_End y0).bind fun r8 =>
  if r8.2 == 0 then
    (m_ref27_Turn y0).bind fun r9 =>
    (m_ref42_player r9).bind fun r10 =>
    (cat [114, 117, 110, 110, 105, 110, 103, 44, 32] r10).bind fun x18 =>
    (cat x18 [32, 116, 111, 32, 109, 111, 118, 101]).bind fun x19 =>
    (app s1 ([x19] : List Str)).bind fun x20 =>
    some x20
  else
    (
      (m_ref42_player r8.1).bind fun r11 =>
      (cat r11 [32, 119, 105, 110, 115, 58, 32]).bind fun x21 =>
      (idx ([[], [110, 111, 32, 109, 111, 118, 101], [110, 111, 32, 116, 105, 109, 101], [99, 111, 110, 99, 101, 100, 101, 100], [102, 117, 108, 108]] : List Str) r8.2).bind fun x22 =>
      (cat x21 x22).bind fun x23 =>
      (app s1 ([x23] : List Str)).bind fun x24 =>
      some x24 : Option (List Str)).bind fun s5 =>
    some s5

noncomputable def m_protocol_attacks (y0 : List T_Move) (y1 : Int) : Option Bool :=
  (
    (idx y0 y1).bind fun x1 =>
    if x1.2.1 == 2 then
      (idx y0 y1).bind fun x2 =>
      if decide (0 ≤ x2.2.2.2) then
        (idx y0 y1).bind fun x3 =>
        some (decide (x3.2.2.2 < y1))
      else
        some false
    else
      some false : Option Bool).bind fun s1 =>
  some s1

noncomputable def m_protocol_Status_L1 (y0 : T_Dialogue) (x2 : List Bool) (s2 : (List Bool) × Int) : Option (((List Bool) × Int) ⊕ (List Bool)) :=
  if decide (s2.2 < (len y0.2.2.2)) then
    (idx y0.2.2.2 s2.2).bind fun x3 =>
    if (x3.2.1 == 3) && ((decide (0 ≤ x3.2.2.2)) && (decide (x3.2.2.2 < (len x2)))) then
      (idx s2.1 x3.2.2.2).bind fun _ =>
      some (.inl (List.set s2.1 (Int.toNat x3.2.2.2) true, w64 (s2.2 + 1)))
    else
      some (.inl (s2.1, w64 (s2.2 + 1)))
  else
    some (.inr s2.1)

noncomputable def m_protocol_Status_L2 (y0 : T_Dialogue) (s1 : (List Bool)) (s4 : (List Int) × Int) : Option (((List Int) × Int) ⊕ (List Int)) :=
  if decide (s4.2 < (len y0.2.2.2)) then
    (
      if s4.2 == 0 then
        some true
      else
        (m_protocol_attacks y0.2.2.2 s4.2).bind fun r1 =>
        if r1 then
          (idx s1 s4.2).bind fun x5 =>
          if !x5 then
            (idx y0.2.2.2 s4.2).bind fun x6 =>
            (idx s4.1 x6.2.2.2).bind fun x7 =>
            some (x7 != 0)
          else
            some false
        else
          some false : Option Bool).bind fun s5 =>
    if s5 then
      (idx s4.1 s4.2).bind fun _ =>
      some (.inl (List.set s4.1 (Int.toNat s4.2) 1, w64 (s4.2 + 1)))
    else
      some (.inl (s4.1, w64 (s4.2 + 1)))
  else
    some (.inr s4.1)

noncomputable def m_protocol_Status_L3 (y0 : T_Dialogue) (s6 : (List Int) × Int) : Option (((List Int) × Int) ⊕ (List Int)) :=
  if decide (0 < s6.2) then
    (idx s6.1 s6.2).bind fun x9 =>
    if x9 == 1 then
      (idx y0.2.2.2 s6.2).bind fun x10 =>
      (idx s6.1 x10.2.2.2).bind fun _ =>
      some (.inl (List.set s6.1 (Int.toNat x10.2.2.2) 2, w64 (s6.2 - 1)))
    else
      some (.inl (s6.1, w64 (s6.2 - 1)))
  else
    some (.inr s6.1)

noncomputable def m_protocol_Status (y0 : T_Dialogue) : Option (List Int) :=
  (mkS (len y0.2.2.2) (len y0.2.2.2) (0 : Int)).bind fun x1 =>
  (mkS (len y0.2.2.2) (len y0.2.2.2) (false : Bool)).bind fun x2 =>
  (loop (m_protocol_Status_L1 y0 x2) (x2, 0) : Option (List Bool)).bind fun s1 =>
  (loop (m_protocol_Status_L2 y0 s1) (x1, 0) : Option (List Int)).bind fun s3 =>
  loop (m_protocol_Status_L3 y0) (s3, w64 ((len x1) - 1))

noncomputable def m_protocol_of_L1 (y0 : T_Dialogue) (s1 : T_protocol_table) (s2 : Int) (s4 : Int × (List Bool)) : Option ((Int × (List Bool)) ⊕ (List Bool)) :=
  if decide (s4.1 < (len y0.2.2.2)) then
    (
      (idx s1.2.1 s4.1).bind fun x8 =>
      if x8 == 0 then
        some true
      else
        (idx y0.2.2.2 s4.1).bind fun x9 =>
        (idx s4.2 x9.2.2.2).bind fun x10 =>
        some (!x10) : Option Bool).bind fun s5 =>
    if s5 then
      some (.inl (w64 (s4.1 + 1), s4.2))
    else
      (
        (idx y0.2.2.2 s4.1).bind fun x11 =>
        (idx y0.2.2.2 x11.2.2.2).bind fun x12 =>
        if x12.1 == s2 then
          (idx s4.2 s4.1).bind fun _ =>
          some (List.set s4.2 (Int.toNat s4.1) true)
        else
          (idx s1.2.1 s4.1).bind fun x14 =>
          (idx s4.2 s4.1).bind fun _ =>
          some (List.set s4.2 (Int.toNat s4.1) (x14 == 1)) : Option (List Bool)).bind fun s6 =>
      some (.inl (w64 (s4.1 + 1), s6))
  else
    some (.inr s4.2)

noncomputable def m_protocol_of (y0 : T_Dialogue) : Option T_protocol_table :=
  (
    (m_protocol_Status y0).bind fun r1 =>
    (mkS (len y0.2.2.2) (len y0.2.2.2) (false : Bool)).bind fun x1 =>
    some (y0, r1, 1, x1) : Option T_protocol_table).bind fun s1 =>
  (
    (idx s1.2.1 0).bind fun x6 =>
    if x6 == 2 then
      some 2
    else
      some s1.2.2.1 : Option Int).bind fun s2 =>
  (idx s1.2.2.2 0).bind fun _ =>
  (loop (m_protocol_of_L1 y0 s1 s2) (1, List.set s1.2.2.2 (Int.toNat 0) true) : Option (List Bool)).bind fun s3 =>
  some (s1.1, s1.2.1, s2, s3)

noncomputable def m_protocol_other (y0 : Int) : Option Int :=
  some (w64 (3 - y0))

noncomputable def m_protocol_table_moved_L1 (y0 : T_protocol_table) (y2 : Int) (s1 : Int) : Option (Int ⊕ Bool) :=
  (idx y0.1.2.2.2 s1).bind fun x1 =>
  if (x1.1 == 1) && (x1.2.2.1 == y2) then
    some (.inr true)
  else
    if s1 == 0 then
      some (.inr false)
    else
      some (.inl x1.2.2.2)

noncomputable def m_protocol_table_moved (y0 : T_protocol_table) (y1 : Int) (y2 : Int) : Option Bool :=
  loop (m_protocol_table_moved_L1 y0 y2) y1

noncomputable def m_slices_Index_Move_L1 (y0 : List T_Move) (y1 : T_Move) (s1 : Int) : Option (Int ⊕ Int) :=
  if decide (s1 < (len y0)) then
    (idx y0 s1).bind fun x1 =>
    if y1 == x1 then
      some (.inr s1)
    else
      some (.inl (w64 (s1 + 1)))
  else
    some (.inr (-1))

noncomputable def m_slices_Index_Move (y0 : List T_Move) (y1 : T_Move) : Option Int :=
  loop (m_slices_Index_Move_L1 y0 y1) 0

noncomputable def m_slices_Contains_Move (y0 : List T_Move) (y1 : T_Move) : Option Bool :=
  (m_slices_Index_Move y0 y1).bind fun r1 =>
  some (decide (0 ≤ r1))

noncomputable def m_protocol_table_legal_L2 (y0 : T_protocol_table) (x1 : T_Move) (r1 : Int) (s1 : (List T_Move) × Int) (s3 : (List T_Move) × Int) : Option (((List T_Move) × Int) ⊕ (((List T_Move) × Int) ⊕ (List T_Move))) :=
  if decide (s3.2 < (len y0.1.1.2)) then
    (idx y0.1.1.2 s3.2).bind fun x3 =>
    (
      if x3.2 != x1.2.2.1 then
        some true
      else
        (m_slices_Contains_Move y0.1.2.2.2 (r1, 2, x3.1, s1.2)).bind fun r2 =>
        if r2 then
          some true
        else
          if r1 == 1 then
            (m_protocol_table_moved y0 s1.2 x3.1).bind fun r3 =>
            some r3
          else
            some false : Option Bool).bind fun s4 =>
    if s4 then
      some (.inl (s3.1, w64 (s3.2 + 1)))
    else
      (app s3.1 ([(r1, 2, x3.1, s1.2)] : List T_Move)).bind fun x4 =>
      some (.inl (x4, w64 (s3.2 + 1)))
  else
    some (.inr (.inl (s3.1, w64 (s1.2 + 1))))

noncomputable def m_protocol_table_legal_L1 (y0 : T_protocol_table) (r1 : Int) (s1 : (List T_Move) × Int) : Option (((List T_Move) × Int) ⊕ (List T_Move)) :=
  if decide (s1.2 < (len y0.1.2.2.2)) then
    (idx y0.1.2.2.2 s1.2).bind fun x1 =>
    (
      (idx y0.2.2.2 s1.2).bind fun x2 =>
      if !x2 then
        some true
      else
        some (x1.1 != y0.2.2.1) : Option Bool).bind fun s2 =>
    if s2 then
      some (.inl (s1.1, w64 (s1.2 + 1)))
    else
      loop (m_protocol_table_legal_L2 y0 x1 r1 s1) (s1.1, 0)
  else
    some (.inr s1.1)

noncomputable def m_protocol_table_legal (y0 : T_protocol_table) : Option (List T_Move) :=
  (m_protocol_other y0.2.2.1).bind fun r1 =>
  loop (m_protocol_table_legal_L1 y0 r1) (([] : List T_Move), 0)

noncomputable def m_protocol_table_end_L1 (y0 : T_protocol_table) (s2 : Int × Int) : Option ((Int × Int) ⊕ Int) :=
  if decide (s2.2 < (len y0.1.2.2.2)) then
    (idx y0.1.2.2.2 s2.2).bind fun x1 =>
    (m_protocol_other y0.2.2.1).bind fun r1 =>
    if x1.1 == r1 then
      some (.inl (w64 (s2.1 + 1), w64 (s2.2 + 1)))
    else
      some (.inl (s2.1, w64 (s2.2 + 1)))
  else
    some (.inr s2.1)

noncomputable def m_protocol_table_end (y0 : T_protocol_table) : Option T_Outcome :=
  (loop (m_protocol_table_end_L1 y0) (0, 0) : Option Int).bind fun s1 =>
  (idx y0.1.2.2.2 (w64 ((len y0.1.2.2.2) - 1))).bind fun x2 =>
  if x2.2.1 == 4 then
    (m_protocol_other x2.1).bind fun r2 =>
    some (r2, 3)
  else
    if decide (200 ≤ (len y0.1.2.2.2)) then
      some (y0.2.2.1, 4)
    else
      (m_protocol_other y0.2.2.1).bind fun r3 =>
      (idx ([y0.1.2.2.1.1, y0.1.2.2.1.2] : List Int) (w64 (r3 - 1))).bind fun x3 =>
      if decide (x3 ≤ s1) then
        some (y0.2.2.1, 2)
      else
        (m_protocol_table_legal y0).bind fun r4 =>
        if (len r4) == 0 then
          some (y0.2.2.1, 1)
        else
          some (0, 0)

noncomputable def m_protocol_End (y0 : T_Dialogue) : Option T_Outcome :=
  if (len y0.2.2.2) == 0 then
    some (0, 0)
  else
    (m_protocol_of y0).bind fun r1 =>
    (m_protocol_table_end r1).bind fun r2 =>
    some r2

noncomputable def m_protocol_Turn (y0 : T_Dialogue) : Option Int :=
  (
    if (len y0.2.2.2) == 0 then
      some true
    else
      (m_protocol_End y0).bind fun r1 =>
      some (r1.2 != 0) : Option Bool).bind fun s1 =>
  if s1 then
    some 0
  else
    (m_protocol_of y0).bind fun r2 =>
    (m_protocol_other r2.2.2.1).bind fun r3 =>
    some r3

noncomputable def m_report_act (y0 : T_Move) : Option Str :=
  if y0.2.1 == 1 then
    (m_report_number y0.2.2.1).bind fun r1 =>
    (cat [99, 108, 97, 105, 109, 115, 32] r1).bind fun x1 =>
    some x1
  else
    if y0.2.1 == 2 then
      (m_report_number y0.2.2.1).bind fun r2 =>
      (cat [109, 111, 118, 101, 115, 32] r2).bind fun x2 =>
      (cat x2 [32, 97, 103, 97, 105, 110, 115, 116, 32]).bind fun x3 =>
      (m_report_number y0.2.2.2).bind fun r3 =>
      (cat x3 r3).bind fun x4 =>
      some x4
    else
      if y0.2.1 == 3 then
        (m_report_number y0.2.2.2).bind fun r4 =>
        (cat [114, 101, 116, 114, 97, 99, 116, 115, 32] r4).bind fun x5 =>
        some x5
      else
        some [99, 111, 110, 99, 101, 100, 101, 115]

noncomputable def m_report_player (y0 : Int) : Option Str :=
  if y0 == 1 then
    some [80]
  else
    some [79]

noncomputable def m_report_Dialogue_L1 (y0 : T_Dialogue) (r1 : (List Int)) (s2 : (List Str) × Int) : Option (((List Str) × Int) ⊕ (List Str)) :=
  if decide (s2.2 < (len y0.2.2.2)) then
    (idx y0.2.2.2 s2.2).bind fun x1 =>
    (m_report_number s2.2).bind fun r2 =>
    (cat r2 [32]).bind fun x2 =>
    (m_report_player x1.1).bind fun r3 =>
    (cat x2 r3).bind fun x3 =>
    (cat x3 [32]).bind fun x4 =>
    (m_report_act x1).bind fun r4 =>
    (cat x4 r4).bind fun x5 =>
    (
      if (x1.2.1 == 1) || (x1.2.1 == 2) then
        (idx r1 s2.2).bind fun x6 =>
        (idx ([[103, 111, 110, 101], [105, 110], [111, 117, 116]] : List Str) x6).bind fun x7 =>
        (cat [44, 32] x7).bind fun x8 =>
        (cat x5 x8).bind fun x9 =>
        some x9
      else
        some x5 : Option Str).bind fun s3 =>
    (app s2.1 ([s3] : List Str)).bind fun x10 =>
    some (.inl (x10, w64 (s2.2 + 1)))
  else
    some (.inr s2.1)

noncomputable def m_report_Dialogue (y0 : T_Dialogue) : Option (List Str) :=
  (m_protocol_Status y0).bind fun r1 =>
  (loop (m_report_Dialogue_L1 y0 r1) (([] : List Str), 0) : Option (List Str)).bind fun s1 =>
  (m_protocol_End y0).bind fun r5 =>
  if r5.2 == 0 then
    (m_protocol_Turn y0).bind fun r6 =>
    (m_report_player r6).bind fun r7 =>
    (cat [114, 117, 110, 110, 105, 110, 103, 44, 32] r7).bind fun x11 =>
    (cat x11 [32, 116, 111, 32, 109, 111, 118, 101]).bind fun x12 =>
    (app s1 ([x12] : List Str)).bind fun x13 =>
    some x13
  else
    (idx ([[], [110, 111, 32, 109, 111, 118, 101], [110, 111, 32, 116, 105, 109, 101], [99, 111, 110, 99, 101, 100, 101, 100], [102, 117, 108, 108]] : List Str) r5.2).bind fun x14 =>
    (m_report_player r5.1).bind fun r8 =>
    (cat r8 [32, 119, 105, 110, 115, 58, 32]).bind fun x15 =>
    (cat x15 x14).bind fun x16 =>
    (app s1 ([x16] : List Str)).bind fun x17 =>
    some x17

noncomputable def m_law42_ReportDialogues_L1 (r1 : T_keep_Src) (s3 : Int × Int × Int × (List T_Pair) × Int × Int × Int × (List T_Move)) : Option ((Int × Int × Int × (List T_Pair) × Int × Int × Int × (List T_Move)) ⊕ (Unit ⊕ Bool)) :=
  if decide (s3.1 < 15) then
    (m_report_Dialogue ((s3.2.2.1, s3.2.2.2.1), s3.2.2.2.2.1, (s3.2.2.2.2.2.1, s3.2.2.2.2.2.2.1), s3.2.2.2.2.2.2.2)).bind fun r17 =>
    (
      (m_ref42_Dialogue ((s3.2.2.1, s3.2.2.2.1), s3.2.2.2.2.1, (s3.2.2.2.2.2.1, s3.2.2.2.2.2.2.1), s3.2.2.2.2.2.2.2)).bind fun r18 =>
      (m_ref42_Same r17 r18).bind fun r19 =>
      if !r19 then
        some true
      else
        some ((len r17) != (w64 ((len s3.2.2.2.2.2.2.2) + 1))) : Option Bool).bind fun s4 =>
    if s4 then
      some (.inr (.inr false))
    else
      (idx r17 (w64 ((len r17) - 1))).bind fun x1 =>
      seqE (
        (m_ref27_Turn ((s3.2.2.1, s3.2.2.2.1), s3.2.2.2.2.1, (s3.2.2.2.2.2.1, s3.2.2.2.2.2.2.1), s3.2.2.2.2.2.2.2)).bind fun r20 =>
        if r20 == 1 then
          if !(x1 == [114, 117, 110, 110, 105, 110, 103, 44, 32, 80, 32, 116, 111, 32, 109, 111, 118, 101]) then
            some (.inr (.inr (.inr false)))
          else
            some (.inl ())
        else
          if r20 == 2 then
            if !(x1 == [114, 117, 110, 110, 105, 110, 103, 44, 32, 79, 32, 116, 111, 32, 109, 111, 118, 101]) then
              some (.inr (.inr (.inr false)))
            else
              some (.inl ())
          else
            (m_ref27_End ((s3.2.2.1, s3.2.2.2.1), s3.2.2.2.2.1, (s3.2.2.2.2.2.1, s3.2.2.2.2.2.2.1), s3.2.2.2.2.2.2.2)).bind fun r21 =>
            (
              if decide ((len x1) < 7) then
                some true
              else
                (sub x1 0 7).bind fun x2 =>
                some (!((x2 == [80, 32, 119, 105, 110, 115, 58]) == (r21.1 == 1))) : Option Bool).bind fun s6 =>
            if s6 then
              some (.inr (.inr (.inr false)))
            else
              some (.inl ()) : Option (Unit ⊕ ((Int × Int × Int × (List T_Pair) × Int × Int × Int × (List T_Move)) ⊕ (Unit ⊕ Bool)))) fun _ =>
      (m_ref27_Legal ((s3.2.2.1, s3.2.2.2.1), s3.2.2.2.2.1, (s3.2.2.2.2.2.1, s3.2.2.2.2.2.2.1), s3.2.2.2.2.2.2.2)).bind fun r22 =>
      if (len r22) == 0 then
        some (.inr (.inl ()))
      else
        (m_keep_Src_N (r1.1, s3.2.1) (len r22)).bind fun r23 =>
        (idx r22 r23.1).bind fun x3 =>
        (
          (m_keep_Src_N (r1.1, r23.2) 8).bind fun r24 =>
          if r24.1 == 0 then
            (m_keep_Src_N (r1.1, r24.2) (len s3.2.2.2.2.2.2.2)).bind fun r25 =>
            some (r25.2, 3, 0, r25.1)
          else
            if r24.1 == 1 then
              some (r24.2, 4, 0, 0)
            else
              some (r24.2, x3.2.1, x3.2.2.1, x3.2.2.2) : Option (Int × Int × Int × Int)).bind fun s7 =>
        (m_ref27_Apply ((s3.2.2.1, s3.2.2.2.1), s3.2.2.2.2.1, (s3.2.2.2.2.2.1, s3.2.2.2.2.2.2.1), s3.2.2.2.2.2.2.2) (x3.1, s7.2.1, s7.2.2.1, s7.2.2.2)).bind fun r26 =>
        if r26.2 == 0 then
          some (.inl (w64 (s3.1 + 1), s7.1, r26.1.1.1, r26.1.1.2, r26.1.2.1, r26.1.2.2.1.1, r26.1.2.2.1.2, r26.1.2.2.2))
        else
          some (.inl (w64 (s3.1 + 1), s7.1, s3.2.2.1, s3.2.2.2.1, s3.2.2.2.2.1, s3.2.2.2.2.2.1, s3.2.2.2.2.2.2.1, s3.2.2.2.2.2.2.2))
  else
    some (.inr (.inl ()))

noncomputable def m_law42_ReportDialogues (y0 : List Int) : Option Bool :=
  (m_keep_New y0).bind fun r1 =>
  (m_net_Graph r1 5).bind fun r2 =>
  (
    (m_keep_Src_N (r1.1, r2.2) r2.1.1).bind fun r3 =>
    (m_keep_Src_Range (r1.1, r3.2) 1 9).bind fun r4 =>
    (m_keep_Src_Range (r1.1, r4.2) 0 9).bind fun r5 =>
    (m_ref27_New r2.1 r3.1 (r4.1, r5.1)).bind fun r6 =>
    some (r5.2, r6.1) : Option (Int × T_Dialogue)).bind fun s1 =>
  seqE (loop (m_law42_ReportDialogues_L1 r1) (0, s1.1, s1.2.1.1, s1.2.1.2, s1.2.2.1, s1.2.2.2.1.1, s1.2.2.2.1.2, s1.2.2.2.2) : Option (Unit ⊕ Bool)) fun _ =>
  m_law42_awake.bind fun r27 =>
  some r27

end Go.GD
