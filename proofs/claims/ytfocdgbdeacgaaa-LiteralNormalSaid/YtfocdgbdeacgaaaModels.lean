/- Models of the Go functions, printed by program (gd2). Conditions: none. -/
import Derived.Test.YtfocdgbdeacgaaaLib
namespace Go.GD
set_option autoImplicit false

abbrev T_Literal := Bool × Str
abbrev T_keep_Src := (List Int) × Int

noncomputable def m_keep_New (y0 : List Int) : Option T_keep_Src :=
  (sub y0 0 (if 2000 < (len y0) then 2000 else len y0)).bind fun x1 =>
  some (x1, 0)

noncomputable def m_keep_Mod (y0 : Int) (y1 : Int) : Option Int :=
  if decide (y1 < 1) then
    some 0
  else
    (remK y0 y1).bind fun x1 =>
    if decide (x1 < 0) then
      some (w64 (x1 + y1))
    else
      some x1

noncomputable def m_keep_Src_Raw (y0 : T_keep_Src) : Option (Int × Int) :=
  if decide ((len y0.1) ≤ y0.2) then
    some (0, y0.2)
  else
    (idx y0.1 (w64 ((w64 (y0.2 + 1)) - 1))).bind fun x1 =>
    some (x1, w64 (y0.2 + 1))

noncomputable def m_keep_Src_N (y0 : T_keep_Src) (y1 : Int) : Option (Int × Int) :=
  (m_keep_Src_Raw y0).bind fun r1 =>
  (m_keep_Mod r1.1 y1).bind fun r2 =>
  some (r2, r1.2)

noncomputable def m_keep_Src_Literal (y0 : T_keep_Src) (y1 : Int) : Option (T_Literal × Int) :=
  (m_keep_Src_N y0 (w64 (2 * y1))).bind fun r1 =>
  (quoK .i64 r1.1 2).bind fun x1 =>
  some (((band .i64 r1.1 1) == 1, strOf ([IntKind.u8.wrap (w64 (97 + x1))] : List Int)), r1.2)

noncomputable def m_keep_Src_Text (y0 : T_keep_Src) (y1 : List Str) : Option (Str × Int) :=
  (m_keep_Src_N y0 (len y1)).bind fun r1 =>
  (idx y1 r1.1).bind fun x1 =>
  some (x1, r1.2)

noncomputable def m_keep_Src_Odd (y0 : T_keep_Src) : Option (T_Literal × Int) :=
  (m_keep_Src_N y0 2).bind fun r1 =>
  (m_keep_Src_Text (y0.1, r1.2) ([[], [97], [65], [97, 49, 95], [49, 97], [95, 97], [97, 98, 99, 100, 101, 102, 103, 104, 105, 106, 107, 108], [97, 98, 99, 100, 101, 102, 103, 104, 105, 106, 107, 108, 109], [97, 126], [126, 97], [97, 32, 98]] : List Str)).bind fun r2 =>
  some ((r1.1 == 1, r2.1), r2.2)

noncomputable def m_cmp_isNaN_string (y0 : Str) : Option Bool :=
  some (!(y0 == y0))

noncomputable def m_cmp_Compare_string (y0 : Str) (y1 : Str) : Option Int :=
  (m_cmp_isNaN_string y0).bind fun r1 =>
  (m_cmp_isNaN_string y1).bind fun r2 =>
  if r1 then
    if r2 then
      some 0
    else
      some (-1)
  else
    if r2 then
      some 1
    else
      if sless y0 y1 then
        some (-1)
      else
        if !(sless y0 y1 || y0 == y1) then
          some 1
        else
          some 0

noncomputable def m_literal_Compare (y0 : T_Literal) (y1 : T_Literal) : Option Int :=
  (m_cmp_Compare_string y0.2 y1.2).bind fun r1 =>
  if (r1 != 0) || (y0.1 == y1.1) then
    some r1
  else
    if y1.1 then
      some (-1)
    else
      some 1

noncomputable def m_literal_Complement (y0 : T_Literal) : Option T_Literal :=
  some (!y0.1, y0.2)

noncomputable def m_literal_Consistent_L1 (y0 : List T_Literal) (s1 : (List (T_Literal × Unit)) × Int) : Option (((List (T_Literal × Unit)) × Int) ⊕ Bool) :=
  if decide (s1.2 < (len y0)) then
    (idx y0 s1.2).bind fun x1 =>
    (m_literal_Complement x1).bind fun r1 =>
    if Option.isSome (mget (mput s1.1 x1 ()) r1) then
      some (.inr false)
    else
      some (.inl (mput s1.1 x1 (), w64 (s1.2 + 1)))
  else
    some (.inr true)

noncomputable def m_literal_Consistent (y0 : List T_Literal) : Option Bool :=
  loop (m_literal_Consistent_L1 y0) (([] : List (T_Literal × Unit)), 0)

noncomputable def m_literal_ValidName_L1 (y0 : Str) (s1 : Int) : Option (Int ⊕ Bool) :=
  if decide (s1 < (len y0)) then
    (sidx y0 s1).bind fun x1 =>
    if (decide (97 ≤ x1)) && (decide (x1 ≤ 122)) then
      some (.inl (w64 (s1 + 1)))
    else
      if (decide (0 < s1)) && (if decide (48 ≤ x1) then (decide (x1 ≤ 57)) || (x1 == 95) else x1 == 95) then
        some (.inl (w64 (s1 + 1)))
      else
        some (.inr false)
  else
    some (.inr true)

noncomputable def m_literal_ValidName (y0 : Str) : Option Bool :=
  if ((len y0) == 0) || (decide (12 < (len y0))) then
    some false
  else
    loop (m_literal_ValidName_L1 y0) 0

noncomputable def m_literal_Valid (y0 : T_Literal) : Option Bool :=
  (m_literal_ValidName y0.2).bind fun r1 =>
  some r1

noncomputable def m_literal_Format (y0 : T_Literal) : Option Str :=
  (m_literal_Valid y0).bind fun r1 =>
  if !r1 then
    some []
  else
    if y0.1 then
      (cat [126] y0.2).bind fun x1 =>
      some x1
    else
      some y0.2

noncomputable def m_slices_Clone_Literal (y0 : List T_Literal) : Option (List T_Literal) :=
  (app ([] : List T_Literal) y0).bind fun x1 =>
  some x1

noncomputable def m_slices_Compact_Literal_L2 (y0 : List T_Literal) (s1 : Int) (s3 : (List T_Literal) × Int × Int) : Option (((List T_Literal) × Int × Int) ⊕ ((List T_Literal) × Int)) :=
  if decide (s3.2.2 < ((Int.toNat (((List.length y0 : Nat) : Int) - s1) : Nat) : Int)) then
    (idxV s3.1 s1 s3.2.2).bind fun x3 =>
    (idxV s3.1 s1 (w64 (s3.2.2 - 1))).bind fun x4 =>
    if !(x3 == x4) then
      (idxV s3.1 s1 s3.2.2).bind fun x5 =>
      (idx s3.1 s3.2.1).bind fun _ =>
      some (.inl (List.set s3.1 (Int.toNat s3.2.1) x5, w64 (s3.2.1 + 1), w64 (s3.2.2 + 1)))
    else
      some (.inl (s3.1, s3.2.1, w64 (s3.2.2 + 1)))
  else
    some (.inr (s3.1, s3.2.1))

noncomputable def m_slices_Compact_Literal_L1 (y0 : List T_Literal) (s1 : Int) : Option (Int ⊕ (List T_Literal)) :=
  if decide (s1 < (len y0)) then
    (idx y0 s1).bind fun x1 =>
    (idx y0 (w64 (s1 - 1))).bind fun x2 =>
    if x1 == x2 then
      (chk (decide (0 ≤ s1) && decide (s1 ≤ len y0))).bind fun _ =>
      (loop (m_slices_Compact_Literal_L2 y0 s1) (y0, s1, 1) : Option ((List T_Literal) × Int)).bind fun s2 =>
      (chk (decide (0 ≤ s2.2) && decide (s2.2 ≤ len s2.1))).bind fun _ =>
      (sub (clearFrom s2.1 s2.2 (false, [])) 0 s2.2).bind fun x7 =>
      some (.inr x7)
    else
      some (.inl (w64 (s1 + 1)))
  else
    some (.inr y0)

noncomputable def m_slices_Compact_Literal (y0 : List T_Literal) : Option (List T_Literal) :=
  if decide ((len y0) < 2) then
    some y0
  else
    loop (m_slices_Compact_Literal_L1 y0) 1

noncomputable def m_slices_SortFunc_Literal__literal_Compare (y0 : List T_Literal) : Option (List T_Literal) := sortF m_literal_Compare y0

noncomputable def m_literal_Normal (y0 : List T_Literal) : Option (List T_Literal) :=
  (m_slices_Clone_Literal y0).bind fun r1 =>
  (m_slices_SortFunc_Literal__literal_Compare r1).bind fun r2 =>
  (m_slices_Compact_Literal r2).bind fun r3 =>
  some r3

noncomputable def m_literal_Parse (y0 : Str) : Option (T_Literal × Int) :=
  (
    (
      if decide (0 < (len y0)) then
        (sidx y0 0).bind fun x1 =>
        some (x1 == 126)
      else
        some false : Option Bool).bind fun s2 =>
    if s2 then
      (sub y0 1 (len y0)).bind fun x2 =>
      some (x2, true)
    else
      some (y0, false) : Option (Str × Bool)).bind fun s1 =>
  (m_literal_Valid (s1.2, s1.1)).bind fun r1 =>
  if !r1 then
    some ((false, []), 3)
  else
    some ((s1.2, s1.1), 0)

noncomputable def m_law01_awake : Option Bool :=
  (m_literal_Parse [126, 126, 112]).bind fun r1 =>
  (m_literal_Normal ([(false, [113]), (true, [112]), (false, [113])] : List T_Literal)).bind fun r2 =>
  (
    (m_literal_Format (true, [112])).bind fun r3 =>
    if r3 == [126, 112] then
      if r1.2 == 3 then
        (m_literal_Compare (false, [112]) (true, [112])).bind fun r4 =>
        if r4 == (-1) then
          (m_literal_Compare (true, [112]) (false, [113])).bind fun r5 =>
          if r5 == (-1) then
            if (len r2) == 2 then
              (idx r2 0).bind fun x1 =>
              if x1 == (true, [112]) then
                (m_literal_Consistent ([(false, [112]), (false, [113]), (true, [112])] : List T_Literal)).bind fun r6 =>
                some (!r6)
              else
                some false
            else
              some false
          else
            some false
        else
          some false
      else
        some false
    else
      some false : Option Bool).bind fun s1 =>
  some s1

noncomputable def m_ref01_ValidName_L1 (y0 : Str) (s2 : Int) : Option (Int ⊕ Bool) :=
  if decide (s2 < (len y0)) then
    (
      (sidx y0 s2).bind fun x3 =>
      if decide (x3 < 97) then
        (sidx y0 s2).bind fun x4 =>
        if decide (x4 < 48) then
          (sidx y0 s2).bind fun x5 =>
          some (x5 != 95)
        else
          (sidx y0 s2).bind fun x6 =>
          if decide (57 < x6) then
            (sidx y0 s2).bind fun x7 =>
            some (x7 != 95)
          else
            some false
      else
        (sidx y0 s2).bind fun x8 =>
        if decide (122 < x8) then
          (sidx y0 s2).bind fun x9 =>
          if decide (x9 < 48) then
            (sidx y0 s2).bind fun x10 =>
            some (x10 != 95)
          else
            (sidx y0 s2).bind fun x11 =>
            if decide (57 < x11) then
              (sidx y0 s2).bind fun x12 =>
              some (x12 != 95)
            else
              some false
        else
          some false : Option Bool).bind fun s3 =>
    if s3 then
      some (.inr false)
    else
      some (.inl (w64 (s2 + 1)))
  else
    some (.inr true)

noncomputable def m_ref01_ValidName (y0 : Str) : Option Bool :=
  (
    if decide ((len y0) < 1) then
      some true
    else
      if decide (12 < (len y0)) then
        some true
      else
        (sidx y0 0).bind fun x1 =>
        if decide (x1 < 97) then
          some true
        else
          (sidx y0 0).bind fun x2 =>
          some (decide (122 < x2)) : Option Bool).bind fun s1 =>
  if s1 then
    some false
  else
    loop (m_ref01_ValidName_L1 y0) 0

noncomputable def m_ref01_Valid (y0 : T_Literal) : Option Bool :=
  (m_ref01_ValidName y0.2).bind fun r1 =>
  some r1

noncomputable def m_ref01_Format (y0 : T_Literal) : Option Str :=
  (m_ref01_Valid y0).bind fun r1 =>
  if !r1 then
    some []
  else
    if y0.1 then
      (cat [126] y0.2).bind fun x1 =>
      some x1
    else
      some y0.2

noncomputable def m_ref01_Parse (y0 : Str) : Option (T_Literal × Int) :=
  (
    (
      if decide (0 < (len y0)) then
        (sidx y0 0).bind fun x1 =>
        some (x1 == 126)
      else
        some false : Option Bool).bind fun s2 =>
    if s2 then
      (sub y0 1 (len y0)).bind fun x2 =>
      some (true, x2)
    else
      some (false, y0) : Option (Bool × Str)).bind fun s1 =>
  (m_ref01_Valid (s1.1, s1.2)).bind fun r1 =>
  if !r1 then
    some ((false, []), 3)
  else
    some ((s1.1, s1.2), 0)

noncomputable def m_law01_LiteralTexts_L2 (y0 : Str) (x1 : T_Literal) (x2 : Str) (r10 : Str) (s2 : Int) (s4 : Int) : Option (Int ⊕ (Int ⊕ (Unit ⊕ Bool))) :=
  if decide (s4 < (len ([y0, x1.2, x2, r10] : List Str))) then
    (idx ([y0, x1.2, x2, r10] : List Str) s4).bind fun x3 =>
    (m_literal_Parse x3).bind fun r11 =>
    (m_ref01_Parse x3).bind fun r12 =>
    if (!(r11.1 == r12.1)) || (r11.2 != r12.2) then
      some (.inr (.inr (.inr false)))
    else
      some (.inl (w64 (s4 + 1)))
  else
    some (.inr (.inl (w64 (s2 + 1))))

noncomputable def m_law01_LiteralTexts_L1 (y1 : T_Literal) (r2 : T_Literal × Int) (r3 : T_Literal × Int) (y0 : Str) (s2 : Int) : Option (Int ⊕ (Unit ⊕ Bool)) :=
  if decide (s2 < (len ([y1, r2.1, r3.1, (false, y0), (true, y0)] : List T_Literal))) then
    (idx ([y1, r2.1, r3.1, (false, y0), (true, y0)] : List T_Literal) s2).bind fun x1 =>
    (
      (m_literal_ValidName x1.2).bind fun r4 =>
      (m_ref01_ValidName x1.2).bind fun r5 =>
      if !(r4 == r5) then
        some true
      else
        (m_literal_Valid x1).bind fun r6 =>
        (m_ref01_Valid x1).bind fun r7 =>
        if !(r6 == r7) then
          some true
        else
          (m_literal_Format x1).bind fun r8 =>
          (m_ref01_Format x1).bind fun r9 =>
          some (!(r8 == r9)) : Option Bool).bind fun s3 =>
    if s3 then
      some (.inr (.inr false))
    else
      (cat [126] x1.2).bind fun x2 =>
      (m_ref01_Format x1).bind fun r10 =>
      loop (m_law01_LiteralTexts_L2 y0 x1 x2 r10 s2) 0
  else
    some (.inr (.inl ()))

noncomputable def m_law01_LiteralTexts (y0 : Str) (y1 : T_Literal) (y2 : List Int) : Option Bool :=
  if (decide (200 < (len y0))) || (decide (200 < (len y1.2))) then
    some true
  else
    (m_keep_New y2).bind fun r1 =>
    seqE (
      (m_keep_Src_Odd r1).bind fun r2 =>
      (m_keep_Src_Literal (r1.1, r2.2) 26).bind fun r3 =>
      loop (m_law01_LiteralTexts_L1 y1 r2 r3 y0) 0 : Option (Unit ⊕ Bool)) fun _ =>
    m_law01_awake.bind fun r13 =>
    some r13

noncomputable def m_ref01_Compare (y0 : T_Literal) (y1 : T_Literal) : Option Int :=
  if y0 == y1 then
    some 0
  else
    if (sless y0.2 y1.2) || ((y0.2 == y1.2) && y1.1) then
      some (-1)
    else
      some 1

noncomputable def m_ref01_Complement (y0 : T_Literal) : Option T_Literal :=
  some (!y0.1, y0.2)

noncomputable def m_law01_LiteralOrder_L3 (y0 : T_Literal) (y1 : T_Literal) (y2 : T_Literal) (r2 : T_Literal × Int) (r3 : T_Literal × Int) (r4 : T_Literal × Int) (r9 : Int) (x2 : T_Literal) (x1 : T_Literal) (s4 : Int) (s7 : Int) : Option (Int ⊕ (Int ⊕ (Int ⊕ (Unit ⊕ Bool)))) :=
  if decide (s7 < (len ([y0, y1, y2, r2.1, r3.1, r4.1, (!y0.1, y0.2)] : List T_Literal))) then
    (idx ([y0, y1, y2, r2.1, r3.1, r4.1, (!y0.1, y0.2)] : List T_Literal) s7).bind fun x3 =>
    (
      if decide (r9 ≤ 0) then
        (m_literal_Compare x2 x3).bind fun r14 =>
        if decide (r14 ≤ 0) then
          (m_literal_Compare x1 x3).bind fun r15 =>
          some (decide (0 < r15))
        else
          some false
      else
        some false : Option Bool).bind fun s8 =>
    if s8 then
      some (.inr (.inr (.inr (.inr false))))
    else
      some (.inl (w64 (s7 + 1)))
  else
    some (.inr (.inl (w64 (s4 + 1))))

noncomputable def m_law01_LiteralOrder_L2 (y0 : T_Literal) (y1 : T_Literal) (y2 : T_Literal) (r2 : T_Literal × Int) (r3 : T_Literal × Int) (r4 : T_Literal × Int) (x1 : T_Literal) (s2 : Int) (s4 : Int) : Option (Int ⊕ (Int ⊕ (Unit ⊕ Bool))) :=
  if decide (s4 < (len ([y0, y1, y2, r2.1, r3.1, r4.1, (!y0.1, y0.2)] : List T_Literal))) then
    (idx ([y0, y1, y2, r2.1, r3.1, r4.1, (!y0.1, y0.2)] : List T_Literal) s4).bind fun x2 =>
    (m_literal_Compare x1 x2).bind fun r9 =>
    (
      (m_ref01_Compare x1 x2).bind fun r10 =>
      if r9 != r10 then
        some true
      else
        (m_literal_Compare x2 x1).bind fun r11 =>
        if r9 != (w64 (0 - r11)) then
          some true
        else
          some (!((r9 == 0) == (x1 == x2))) : Option Bool).bind fun s5 =>
    if s5 then
      some (.inr (.inr (.inr false)))
    else
      (
        if !(x1.2 == x2.2) then
          (m_literal_Complement x1).bind fun r12 =>
          (m_literal_Compare r12 x2).bind fun r13 =>
          some (r13 != r9)
        else
          some false : Option Bool).bind fun s6 =>
      if s6 then
        some (.inr (.inr (.inr false)))
      else
        loop (m_law01_LiteralOrder_L3 y0 y1 y2 r2 r3 r4 r9 x2 x1 s4) 0
  else
    some (.inr (.inl (w64 (s2 + 1))))

noncomputable def m_law01_LiteralOrder_L1 (y0 : T_Literal) (y1 : T_Literal) (y2 : T_Literal) (r2 : T_Literal × Int) (r3 : T_Literal × Int) (r4 : T_Literal × Int) (s2 : Int) : Option (Int ⊕ (Unit ⊕ Bool)) :=
  if decide (s2 < (len ([y0, y1, y2, r2.1, r3.1, r4.1, (!y0.1, y0.2)] : List T_Literal))) then
    (idx ([y0, y1, y2, r2.1, r3.1, r4.1, (!y0.1, y0.2)] : List T_Literal) s2).bind fun x1 =>
    (
      (m_literal_Complement x1).bind fun r5 =>
      (m_ref01_Complement x1).bind fun r6 =>
      if !(r5 == r6) then
        some true
      else
        (m_literal_Complement x1).bind fun r7 =>
        (m_literal_Complement r7).bind fun r8 =>
        some (!(r8 == x1)) : Option Bool).bind fun s3 =>
    if s3 then
      some (.inr (.inr false))
    else
      loop (m_law01_LiteralOrder_L2 y0 y1 y2 r2 r3 r4 x1 s2) 0
  else
    some (.inr (.inl ()))

noncomputable def m_law01_LiteralOrder (y0 : T_Literal) (y1 : T_Literal) (y2 : T_Literal) (y3 : List Int) : Option Bool :=
  (m_keep_New y3).bind fun r1 =>
  (m_keep_Src_Literal r1 3).bind fun r2 =>
  (m_keep_Src_Literal (r1.1, r2.2) 3).bind fun r3 =>
  (m_keep_Src_Odd (r1.1, r3.2)).bind fun r4 =>
  seqE (loop (m_law01_LiteralOrder_L1 y0 y1 y2 r2 r3 r4) 0 : Option (Unit ⊕ Bool)) fun _ =>
  m_law01_awake.bind fun r16 =>
  some r16

noncomputable def m_law01_LiteralBack_L1 (r1 : T_keep_Src) (s2 : Int × Int) : Option ((Int × Int) ⊕ (Unit ⊕ Bool)) :=
  if decide (s2.1 < 4) then
    (m_keep_Src_Literal (r1.1, s2.2) 26).bind fun r2 =>
    (m_literal_Format r2.1).bind fun r3 =>
    (m_literal_Parse r3).bind fun r4 =>
    if (r4.2 != 0) || (!(r4.1 == r2.1)) then
      some (.inr (.inr false))
    else
      some (.inl (w64 (s2.1 + 1), r2.2))
  else
    some (.inr (.inl ()))

noncomputable def m_law01_LiteralBack (y0 : Str) (y1 : List Int) : Option Bool :=
  (m_keep_New y1).bind fun r1 =>
  seqE (loop (m_law01_LiteralBack_L1 r1) (0, r1.2) : Option (Unit ⊕ Bool)) fun _ =>
  (m_literal_Parse y0).bind fun r5 =>
  (
    if r5.2 == 0 then
      (m_literal_Format r5.1).bind fun r6 =>
      some (!(r6 == y0))
    else
      some false : Option Bool).bind fun s3 =>
  if s3 then
    some false
  else
    m_law01_awake.bind fun r7 =>
    some r7

noncomputable def m_keep_Src_Literals_L1 (y0 : T_keep_Src) (y2 : Int) (s1 : (List T_Literal) × Int × Int) : Option (((List T_Literal) × Int × Int) ⊕ ((List T_Literal) × Int)) :=
  if decide (0 < s1.2.1) then
    (m_keep_Src_Literal (y0.1, s1.2.2) y2).bind fun r2 =>
    (app s1.1 ([r2.1] : List T_Literal)).bind fun x1 =>
    some (.inl (x1, w64 (s1.2.1 - 1), r2.2))
  else
    some (.inr (s1.1, s1.2.2))

noncomputable def m_keep_Src_Literals (y0 : T_keep_Src) (y1 : Int) (y2 : Int) : Option ((List T_Literal) × Int) :=
  (m_keep_Src_N y0 (w64 (y1 + 1))).bind fun r1 =>
  loop (m_keep_Src_Literals_L1 y0 y2) (([] : List T_Literal), r1.1, r1.2)

noncomputable def m_slices_Index_Literal_L1 (y0 : List T_Literal) (y1 : T_Literal) (s1 : Int) : Option (Int ⊕ Int) :=
  if decide (s1 < (len y0)) then
    (idx y0 s1).bind fun x1 =>
    if y1 == x1 then
      some (.inr s1)
    else
      some (.inl (w64 (s1 + 1)))
  else
    some (.inr (-1))

noncomputable def m_slices_Index_Literal (y0 : List T_Literal) (y1 : T_Literal) : Option Int :=
  loop (m_slices_Index_Literal_L1 y0 y1) 0

noncomputable def m_slices_Contains_Literal (y0 : List T_Literal) (y1 : T_Literal) : Option Bool :=
  (m_slices_Index_Literal y0 y1).bind fun r1 =>
  some (decide (0 ≤ r1))

noncomputable def m_literal_Has (y0 : List T_Literal) (y1 : T_Literal) : Option Bool :=
  (m_slices_Contains_Literal y0 y1).bind fun r1 =>
  some r1

noncomputable def m_ref01_Same_L1 (y0 : List T_Literal) (y1 : List T_Literal) (s1 : Int) : Option (Int ⊕ Bool) :=
  if decide (s1 < (len y0)) then
    (idx y0 s1).bind fun x1 =>
    (idx y1 s1).bind fun x2 =>
    if !(x1 == x2) then
      some (.inr false)
    else
      some (.inl (w64 (s1 + 1)))
  else
    some (.inr true)

noncomputable def m_ref01_Same (y0 : List T_Literal) (y1 : List T_Literal) : Option Bool :=
  if (len y0) != (len y1) then
    some false
  else
    loop (m_ref01_Same_L1 y0 y1) 0

noncomputable def m_law01_LiteralNormal_L1 (x1 : List T_Literal) (y1 : List Int) (s2 : (List T_Literal) × Int) : Option (((List T_Literal) × Int) ⊕ (List T_Literal)) :=
  if decide (s2.2 < (len x1)) then
    if decide (s2.2 < (len y1)) then
      (idx y1 s2.2).bind fun x2 =>
      (m_keep_Mod x2 (len x1)).bind fun r3 =>
      (idx s2.1 r3).bind fun x3 =>
      (idx s2.1 s2.2).bind fun x4 =>
      (idx s2.1 s2.2).bind fun _ =>
      (idx (List.set s2.1 (Int.toNat s2.2) x3) r3).bind fun _ =>
      some (.inl (List.set (List.set s2.1 (Int.toNat s2.2) x3) (Int.toNat r3) x4, w64 (s2.2 + 1)))
    else
      some (.inl (s2.1, w64 (s2.2 + 1)))
  else
    some (.inr s2.1)

noncomputable def m_law01_LiteralNormal_L2 (r5 : (List T_Literal)) (r2 : (List T_Literal) × Int) (s6 : Int) : Option (Int ⊕ (Unit ⊕ Bool)) :=
  if decide (s6 < (len r5)) then
    (
      if decide (0 < s6) then
        (idx r5 (w64 (s6 - 1))).bind fun x9 =>
        (idx r5 s6).bind fun x10 =>
        (m_literal_Compare x9 x10).bind fun r10 =>
        if decide (0 ≤ r10) then
          some true
        else
          (idx r5 s6).bind fun x11 =>
          (m_literal_Has r2.1 x11).bind fun r11 =>
          some (!r11)
      else
        (idx r5 s6).bind fun x12 =>
        (m_literal_Has r2.1 x12).bind fun r12 =>
        some (!r12) : Option Bool).bind fun s7 =>
    if s7 then
      some (.inr (.inr false))
    else
      some (.inl (w64 (s6 + 1)))
  else
    some (.inr (.inl ()))

noncomputable def m_law01_LiteralNormal_L3 (r2 : (List T_Literal) × Int) (r5 : (List T_Literal)) (s9 : Int) : Option (Int ⊕ (Unit ⊕ Bool)) :=
  if decide (s9 < (len r2.1)) then
    (idx r2.1 s9).bind fun x13 =>
    (m_literal_Has r5 x13).bind fun r13 =>
    if !r13 then
      some (.inr (.inr false))
    else
      some (.inl (w64 (s9 + 1)))
  else
    some (.inr (.inl ()))

noncomputable def m_law01_LiteralNormal (y0 : List Int) (y1 : List Int) : Option Bool :=
  (m_keep_New y0).bind fun r1 =>
  (m_keep_Src_Literals r1 10 4).bind fun r2 =>
  (app ([] : List T_Literal) r2.1).bind fun x1 =>
  (loop (m_law01_LiteralNormal_L1 x1 y1) (x1, 0) : Option (List T_Literal)).bind fun s1 =>
  (
    if decide (0 < (len s1)) then
      (m_keep_Src_N (r1.1, r2.2) (len s1)).bind fun r4 =>
      (idx s1 r4.1).bind fun x7 =>
      (app s1 ([x7] : List T_Literal)).bind fun x8 =>
      some x8
    else
      some s1 : Option (List T_Literal)).bind fun s3 =>
  (m_literal_Normal r2.1).bind fun r5 =>
  (m_literal_Normal s3).bind fun r6 =>
  (
    (m_ref01_Same r5 r6).bind fun r7 =>
    if !r7 then
      some true
    else
      (m_literal_Normal r5).bind fun r8 =>
      (m_ref01_Same r8 r5).bind fun r9 =>
      some (!r9) : Option Bool).bind fun s4 =>
  if s4 then
    some false
  else
    seqE (loop (m_law01_LiteralNormal_L2 r5 r2) 0 : Option (Unit ⊕ Bool)) fun _ =>
    seqE (loop (m_law01_LiteralNormal_L3 r2 r5) 0 : Option (Unit ⊕ Bool)) fun _ =>
    m_law01_awake.bind fun r14 =>
    some r14

noncomputable def m_slices_Compact_string_L2 (y0 : List Str) (s1 : Int) (s3 : (List Str) × Int × Int) : Option (((List Str) × Int × Int) ⊕ ((List Str) × Int)) :=
  if decide (s3.2.2 < ((Int.toNat (((List.length y0 : Nat) : Int) - s1) : Nat) : Int)) then
    (idxV s3.1 s1 s3.2.2).bind fun x3 =>
    (idxV s3.1 s1 (w64 (s3.2.2 - 1))).bind fun x4 =>
    if !(x3 == x4) then
      (idxV s3.1 s1 s3.2.2).bind fun x5 =>
      (idx s3.1 s3.2.1).bind fun _ =>
      some (.inl (List.set s3.1 (Int.toNat s3.2.1) x5, w64 (s3.2.1 + 1), w64 (s3.2.2 + 1)))
    else
      some (.inl (s3.1, s3.2.1, w64 (s3.2.2 + 1)))
  else
    some (.inr (s3.1, s3.2.1))

noncomputable def m_slices_Compact_string_L1 (y0 : List Str) (s1 : Int) : Option (Int ⊕ (List Str)) :=
  if decide (s1 < (len y0)) then
    (idx y0 s1).bind fun x1 =>
    (idx y0 (w64 (s1 - 1))).bind fun x2 =>
    if x1 == x2 then
      (chk (decide (0 ≤ s1) && decide (s1 ≤ len y0))).bind fun _ =>
      (loop (m_slices_Compact_string_L2 y0 s1) (y0, s1, 1) : Option ((List Str) × Int)).bind fun s2 =>
      (chk (decide (0 ≤ s2.2) && decide (s2.2 ≤ len s2.1))).bind fun _ =>
      (sub (clearFrom s2.1 s2.2 []) 0 s2.2).bind fun x7 =>
      some (.inr x7)
    else
      some (.inl (w64 (s1 + 1)))
  else
    some (.inr y0)

noncomputable def m_slices_Compact_string (y0 : List Str) : Option (List Str) :=
  if decide ((len y0) < 2) then
    some y0
  else
    loop (m_slices_Compact_string_L1 y0) 1

noncomputable def m_slices_Sort_string (y0 : List Str) : Option (List Str) := sortS y0

noncomputable def m_literal_Names_L1 (y0 : List T_Literal) (s2 : (List Str) × Int) : Option (((List Str) × Int) ⊕ (List Str)) :=
  if decide (s2.2 < (len y0)) then
    (idx y0 s2.2).bind fun x1 =>
    (app s2.1 ([x1.2] : List Str)).bind fun x2 =>
    some (.inl (x2, w64 (s2.2 + 1)))
  else
    some (.inr s2.1)

noncomputable def m_literal_Names (y0 : List T_Literal) : Option (List Str) :=
  (loop (m_literal_Names_L1 y0) (([] : List Str), 0) : Option (List Str)).bind fun s1 =>
  (m_slices_Sort_string s1).bind fun r1 =>
  (m_slices_Compact_string r1).bind fun r2 =>
  some r2

noncomputable def m_law01_LiteralConsistent_L1 (r2 : (List T_Literal) × Int) (r1 : T_keep_Src) (s2 : (List T_Literal) × Int × Int) : Option (((List T_Literal) × Int × Int) ⊕ (List T_Literal)) :=
  if decide (s2.2.1 < (len r2.1)) then
    (m_keep_Src_N (r1.1, s2.2.2) 2).bind fun r6 =>
    if r6.1 == 0 then
      (idx r2.1 s2.2.1).bind fun x1 =>
      (app s2.1 ([x1] : List T_Literal)).bind fun x2 =>
      some (.inl (x2, w64 (s2.2.1 + 1), r6.2))
    else
      some (.inl (s2.1, w64 (s2.2.1 + 1), r6.2))
  else
    some (.inr s2.1)

noncomputable def m_law01_LiteralConsistent (y0 : List Int) : Option Bool :=
  (m_keep_New y0).bind fun r1 =>
  (m_keep_Src_Literals r1 8 5).bind fun r2 =>
  (m_literal_Consistent r2.1).bind fun r3 =>
  (m_literal_Names r2.1).bind fun r4 =>
  (m_literal_Normal r2.1).bind fun r5 =>
  if !(r3 == ((len r4) == (len r5))) then
    some false
  else
    (loop (m_law01_LiteralConsistent_L1 r2 r1) (([] : List T_Literal), 0, r2.2) : Option (List T_Literal)).bind fun s1 =>
    (
      (m_literal_Consistent s1).bind fun r7 =>
      if r7 then
        m_law01_awake.bind fun r8 =>
        some r8
      else
        (m_literal_Consistent r2.1).bind fun r9 =>
        if !r9 then
          m_law01_awake.bind fun r10 =>
          some r10
        else
          some false : Option Bool).bind fun s3 =>
    some s3

noncomputable def m_ref01_Has_L1 (y0 : List T_Literal) (y1 : T_Literal) (s1 : Int) : Option (Int ⊕ Bool) :=
  if decide (s1 < (len y0)) then
    (idx y0 s1).bind fun x1 =>
    if x1 == y1 then
      some (.inr true)
    else
      some (.inl (w64 (s1 + 1)))
  else
    some (.inr false)

noncomputable def m_ref01_Has (y0 : List T_Literal) (y1 : T_Literal) : Option Bool :=
  loop (m_ref01_Has_L1 y0 y1) 0

noncomputable def m_ref01_Consistent_L1 (y0 : List T_Literal) (s1 : Int) : Option (Int ⊕ Bool) :=
  if decide (s1 < (len y0)) then
    (idx y0 s1).bind fun x1 =>
    (m_ref01_Complement x1).bind fun r1 =>
    (m_ref01_Has y0 r1).bind fun r2 =>
    if r2 then
      some (.inr false)
    else
      some (.inl (w64 (s1 + 1)))
  else
    some (.inr true)

noncomputable def m_ref01_Consistent (y0 : List T_Literal) : Option Bool :=
  loop (m_ref01_Consistent_L1 y0) 0

noncomputable def m_ref01_Insert_L1 (y0 : List T_Literal) (y1 : T_Literal) (s2 : Int) : Option (Int ⊕ Int) :=
  (
    if decide (s2 < (len y0)) then
      (idx y0 s2).bind fun x1 =>
      (m_ref01_Compare x1 y1).bind fun r1 =>
      some (decide (r1 < 0))
    else
      some false : Option Bool).bind fun s3 =>
  if s3 then
    some (.inl (w64 (s2 + 1)))
  else
    some (.inr s2)

noncomputable def m_ref01_Insert (y0 : List T_Literal) (y1 : T_Literal) : Option (List T_Literal) :=
  (loop (m_ref01_Insert_L1 y0 y1) 0 : Option Int).bind fun s1 =>
  (
    if decide (s1 < (len y0)) then
      (idx y0 s1).bind fun x2 =>
      some (x2 == y1)
    else
      some false : Option Bool).bind fun s4 =>
  if s4 then
    some y0
  else
    (sub y0 0 s1).bind fun x3 =>
    (app ([] : List T_Literal) x3).bind fun x4 =>
    (sub y0 s1 (len y0)).bind fun x5 =>
    (app x4 ([y1] : List T_Literal)).bind fun x6 =>
    (app x6 x5).bind fun x7 =>
    some x7

noncomputable def m_ref01_Normal_L1 (y0 : List T_Literal) (s1 : (List T_Literal) × Int) : Option (((List T_Literal) × Int) ⊕ (List T_Literal)) :=
  if decide (s1.2 < (len y0)) then
    (idx y0 s1.2).bind fun x1 =>
    (m_ref01_Insert s1.1 x1).bind fun r1 =>
    some (.inl (r1, w64 (s1.2 + 1)))
  else
    some (.inr s1.1)

noncomputable def m_ref01_Normal (y0 : List T_Literal) : Option (List T_Literal) :=
  loop (m_ref01_Normal_L1 y0) (([] : List T_Literal), 0)

noncomputable def m_ref01_Names_L1 (r1 : (List T_Literal)) (s1 : (List Str) × Int) : Option (((List Str) × Int) ⊕ (List Str)) :=
  if decide (s1.2 < (len r1)) then
    (
      if s1.2 == 0 then
        some true
      else
        (idx r1 s1.2).bind fun x1 =>
        (idx r1 (w64 (s1.2 - 1))).bind fun x2 =>
        some (!(x1.2 == x2.2)) : Option Bool).bind fun s2 =>
    if s2 then
      (idx r1 s1.2).bind fun x3 =>
      (app s1.1 ([x3.2] : List Str)).bind fun x4 =>
      some (.inl (x4, w64 (s1.2 + 1)))
    else
      some (.inl (s1.1, w64 (s1.2 + 1)))
  else
    some (.inr s1.1)

noncomputable def m_ref01_Names (y0 : List T_Literal) : Option (List Str) :=
  (m_ref01_Normal y0).bind fun r1 =>
  loop (m_ref01_Names_L1 r1) (([] : List Str), 0)

noncomputable def m_law01_LiteralSets_L2 (r3 : (List Str)) (r4 : (List Str)) (s5 : Int) : Option (Int ⊕ (Unit ⊕ ((Int × Int) ⊕ (Unit ⊕ Bool)))) :=
  if decide (s5 < (len r3)) then
    (idx r3 s5).bind fun x4 =>
    (idx r4 s5).bind fun x5 =>
    if !(x4 == x5) then
      some (.inr (.inr (.inr (.inr false))))
    else
      some (.inl (w64 (s5 + 1)))
  else
    some (.inr (.inl ()))

noncomputable def m_law01_LiteralSets_L3 (x6 : List T_Literal) (x3 : List T_Literal) (s2 : Int × Int) (r10 : T_Literal × Int) (s6 : Int) : Option (Int ⊕ ((Int × Int) ⊕ (Unit ⊕ Bool))) :=
  if decide (s6 < (len x6)) then
    (idx x6 s6).bind fun x7 =>
    (m_literal_Has x3 x7).bind fun r11 =>
    (m_ref01_Has x3 x7).bind fun r12 =>
    if !(r11 == r12) then
      some (.inr (.inr (.inr false)))
    else
      some (.inl (w64 (s6 + 1)))
  else
    some (.inr (.inl (w64 (s2.1 + 1), r10.2)))

noncomputable def m_law01_LiteralSets_L1 (y0 : List T_Literal) (r2 : (List T_Literal) × Int) (x2 : List T_Literal) (r1 : T_keep_Src) (y1 : T_Literal) (s2 : Int × Int) : Option ((Int × Int) ⊕ (Unit ⊕ Bool)) :=
  if decide (s2.1 < (len ([y0, r2.1, x2] : List (List T_Literal)))) then
    (idx ([y0, r2.1, x2] : List (List T_Literal)) s2.1).bind fun x3 =>
    (m_literal_Names x3).bind fun r3 =>
    (m_ref01_Names x3).bind fun r4 =>
    (
      (m_literal_Normal x3).bind fun r5 =>
      (m_ref01_Normal x3).bind fun r6 =>
      (m_ref01_Same r5 r6).bind fun r7 =>
      if !r7 then
        some true
      else
        (m_literal_Consistent x3).bind fun r8 =>
        (m_ref01_Consistent x3).bind fun r9 =>
        if !(r8 == r9) then
          some true
        else
          some ((len r3) != (len r4)) : Option Bool).bind fun s3 =>
    if s3 then
      some (.inr (.inr false))
    else
      seqE (loop (m_law01_LiteralSets_L2 r3 r4) 0 : Option (Unit ⊕ ((Int × Int) ⊕ (Unit ⊕ Bool)))) fun _ =>
      (m_keep_Src_Literal (r1.1, s2.2) 4).bind fun r10 =>
      (app ([y1, r10.1] : List T_Literal) x3).bind fun x6 =>
      loop (m_law01_LiteralSets_L3 x6 x3 s2 r10) 0
  else
    some (.inr (.inl ()))

noncomputable def m_law01_LiteralSets (y0 : List T_Literal) (y1 : T_Literal) (y2 : List Int) : Option Bool :=
  if decide (40 < (len y0)) then
    some true
  else
    (m_keep_New y2).bind fun r1 =>
    (m_keep_Src_Literals r1 12 4).bind fun r2 =>
    seqE (
      (sub r2.1 0 (len r2.1)).bind fun x1 =>
      (app x1 y0).bind fun x2 =>
      loop (m_law01_LiteralSets_L1 y0 r2 x2 r1 y1) (0, r2.2) : Option (Unit ⊕ Bool)) fun _ =>
    m_law01_awake.bind fun r13 =>
    some r13

end Go.GD
