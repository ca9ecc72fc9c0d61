/- Models of the Go functions, printed by program (gd2). Conditions: none. -/
import Derived.Test.YtfifhonicjamfaaGreatDoorLib
namespace Go.GD
set_option autoImplicit false

abbrev T_Literal := Bool × Str
abbrev T_Premise := T_Literal × Int × Int × Str
abbrev T_Rule := Str × Bool × Int × (List T_Literal) × T_Literal
abbrev T_Promotion := Str × Int × T_Literal
abbrev T_Base := (List T_Premise) × (List T_Rule) × (List T_Promotion)
abbrev T_keep_Src := (List Int) × Int
abbrev T_rulebase_words := (List Str) × Bool

def tab_rulebase_kinds : List Str := [[], [97, 120, 105, 111, 109], [112, 114, 101, 109, 105, 115, 101], [97, 115, 115, 117, 109, 101]]

noncomputable def m_keep_New (y0 : List Int) : Option T_keep_Src :=
  (sub y0 0 (if 2000 < (len y0) then 2000 else len y0)).bind fun x1 =>
  some (x1, 0)

noncomputable def m_keep_SmallBase_L1 (y0 : T_Base) (s2 : Int) : Option (Int ⊕ (Unit ⊕ Bool)) :=
  if decide (s2 < (len y0.1)) then
    (idx y0.1 s2).bind fun x1 =>
    if (decide (50 < (len x1.1.2))) || (decide (50 < (len x1.2.2.2))) then
      some (.inr (.inr false))
    else
      some (.inl (w64 (s2 + 1)))
  else
    some (.inr (.inl ()))

noncomputable def m_keep_SmallBase_L3 (x2 : T_Rule) (s4 : Int) (s5 : Int) : Option (Int ⊕ (Int ⊕ (Unit ⊕ Bool))) :=
  if decide (s5 < (len x2.2.2.2.1)) then
    (idx x2.2.2.2.1 s5).bind fun x3 =>
    if decide (50 < (len x3.2)) then
      some (.inr (.inr (.inr false)))
    else
      some (.inl (w64 (s5 + 1)))
  else
    some (.inr (.inl (w64 (s4 + 1))))

noncomputable def m_keep_SmallBase_L2 (y0 : T_Base) (s4 : Int) : Option (Int ⊕ (Unit ⊕ Bool)) :=
  if decide (s4 < (len y0.2.1)) then
    (idx y0.2.1 s4).bind fun x2 =>
    if (decide (8 < (len x2.2.2.2.1))) || ((decide (50 < (len x2.1))) || (decide (50 < (len x2.2.2.2.2.2)))) then
      some (.inr (.inr false))
    else
      loop (m_keep_SmallBase_L3 x2 s4) 0
  else
    some (.inr (.inl ()))

noncomputable def m_keep_SmallBase_L4 (y0 : T_Base) (s6 : Int) : Option (Int ⊕ Bool) :=
  if decide (s6 < (len y0.2.2)) then
    (idx y0.2.2 s6).bind fun x4 =>
    if (decide (50 < (len x4.1))) || (decide (50 < (len x4.2.2.2))) then
      some (.inr false)
    else
      some (.inl (w64 (s6 + 1)))
  else
    some (.inr true)

noncomputable def m_keep_SmallBase (y0 : T_Base) : Option Bool :=
  if (decide (30 < (len y0.1))) || ((decide (30 < (len y0.2.1))) || (decide (20 < (len y0.2.2)))) then
    some false
  else
    seqE (loop (m_keep_SmallBase_L1 y0) 0 : Option (Unit ⊕ Bool)) fun _ =>
    seqE (loop (m_keep_SmallBase_L2 y0) 0 : Option (Unit ⊕ Bool)) fun _ =>
    loop (m_keep_SmallBase_L4 y0) 0

noncomputable def m_keep_Mod (y0 : Int) (y1 : Int) : Option Int :=
  if decide (y1 < 1) then
    some 0
  else
    (remK y0 y1).bind fun x1 =>
    if decide (x1 < 0) then
      some (w64 (x1 + y1))
    else
      some x1

noncomputable def m_keep_RuleName (y0 : Int) : Option Str :=
  (m_keep_Mod y0 26).bind fun r1 =>
  (cat [114] (strOf ([IntKind.u8.wrap (w64 (97 + r1))] : List Int))).bind fun x1 =>
  some x1

noncomputable def m_keep_Src_Raw (y0 : T_keep_Src) : Option (Int × Int) :=
  if decide ((len y0.1) ≤ y0.2) then
    some (0, y0.2)
  else
    (idx y0.1 (w64 ((w64 (y0.2 + 1)) - 1))).bind fun x1 =>
    some (x1, w64 (y0.2 + 1))

noncomputable def m_keep_Src_N (y0 : T_keep_Src) (y1 : Int) : Option (Int × Int) :=
  (m_keep_Src_Raw y0).bind fun r1 =>
  (m_keep_Mod r1.1 y1).bind fun r2 =>
  some (r2, r1.2)

noncomputable def m_keep_Src_Literal (y0 : T_keep_Src) (y1 : Int) : Option (T_Literal × Int) :=
  (m_keep_Src_N y0 (w64 (2 * y1))).bind fun r1 =>
  (quoK .i64 r1.1 2).bind fun x1 =>
  some (((band .i64 r1.1 1) == 1, strOf ([IntKind.u8.wrap (w64 (97 + x1))] : List Int)), r1.2)

noncomputable def m_keep_Src_Literals_L1 (y0 : T_keep_Src) (y2 : Int) (s1 : (List T_Literal) × Int × Int) : Option (((List T_Literal) × Int × Int) ⊕ ((List T_Literal) × Int)) :=
  if decide (0 < s1.2.1) then
    (m_keep_Src_Literal (y0.1, s1.2.2) y2).bind fun r2 =>
    (app s1.1 ([r2.1] : List T_Literal)).bind fun x1 =>
    some (.inl (x1, w64 (s1.2.1 - 1), r2.2))
  else
    some (.inr (s1.1, s1.2.2))

noncomputable def m_keep_Src_Literals (y0 : T_keep_Src) (y1 : Int) (y2 : Int) : Option ((List T_Literal) × Int) :=
  (m_keep_Src_N y0 (w64 (y1 + 1))).bind fun r1 =>
  loop (m_keep_Src_Literals_L1 y0 y2) (([] : List T_Literal), r1.1, r1.2)

noncomputable def m_keep_Src_Pick (y0 : T_keep_Src) (y1 : List Int) : Option (Int × Int) :=
  (m_keep_Src_N y0 (len y1)).bind fun r1 =>
  (idx y1 r1.1).bind fun x1 =>
  some (x1, r1.2)

noncomputable def m_keep_Src_Text (y0 : T_keep_Src) (y1 : List Str) : Option (Str × Int) :=
  (m_keep_Src_N y0 (len y1)).bind fun r1 =>
  (idx y1 r1.1).bind fun x1 =>
  some (x1, r1.2)

noncomputable def m_keep_sorted_L2 (s1 : (List T_Literal) × Int) (x1 : T_Literal) (s3 : Int) : Option (Int ⊕ Int) :=
  (
    if decide (s3 < (len s1.1)) then
      (idx s1.1 s3).bind fun x2 =>
      if sless x2.2 x1.2 then
        some true
      else
        (idx s1.1 s3).bind fun x3 =>
        if x3.2 == x1.2 then
          (idx s1.1 s3).bind fun x4 =>
          if !x4.1 then
            some x1.1
          else
            some false
        else
          some false
    else
      some false : Option Bool).bind fun s4 =>
  if s4 then
    some (.inl (w64 (s3 + 1)))
  else
    some (.inr s3)

noncomputable def m_keep_sorted_L1 (y0 : List T_Literal) (s1 : (List T_Literal) × Int) : Option (((List T_Literal) × Int) ⊕ (List T_Literal)) :=
  if decide (s1.2 < (len y0)) then
    (idx y0 s1.2).bind fun x1 =>
    (loop (m_keep_sorted_L2 s1 x1) 0 : Option Int).bind fun s2 =>
    (
      if decide (s2 < (len s1.1)) then
        (idx s1.1 s2).bind fun x5 =>
        some (x5 == x1)
      else
        some false : Option Bool).bind fun s5 =>
    if s5 then
      some (.inl (s1.1, w64 (s1.2 + 1)))
    else
      (app s1.1 ([(false, [])] : List T_Literal)).bind fun x6 =>
      (chk (decide (0 ≤ (w64 (s2 + 1))) && decide ((w64 (s2 + 1)) ≤ len x6))).bind fun _ =>
      (chk (decide (0 ≤ s2) && decide (s2 ≤ len x6))).bind fun _ =>
      (idx (copyAt x6 (w64 (s2 + 1)) (List.drop (Int.toNat s2) x6)) s2).bind fun _ =>
      some (.inl (List.set (copyAt x6 (w64 (s2 + 1)) (List.drop (Int.toNat s2) x6)) (Int.toNat s2) x1, w64 (s1.2 + 1)))
  else
    some (.inr s1.1)

noncomputable def m_keep_sorted (y0 : List T_Literal) : Option (List T_Literal) :=
  loop (m_keep_sorted_L1 y0) (([] : List T_Literal), 0)

noncomputable def m_keep_Src_Base_L2 (s2 : Int × Int × (List T_Premise)) (r2 : T_Literal × Int) (s5 : Bool × Int) : Option ((Bool × Int) ⊕ Bool) :=
  if decide (s5.2 < (len s2.2.2)) then
    (idx s2.2.2 s5.2).bind fun x1 =>
    some (.inl (s5.1 || (x1.1 == r2.1), w64 (s5.2 + 1)))
  else
    some (.inr s5.1)

noncomputable def m_keep_Src_Base_L1 (y0 : T_keep_Src) (y1 : Int) (s2 : Int × Int × (List T_Premise)) : Option ((Int × Int × (List T_Premise)) ⊕ (Int × (List T_Premise))) :=
  if decide (0 < s2.1) then
    (m_keep_Src_Literal (y0.1, s2.2.1) y1).bind fun r2 =>
    (m_keep_Src_Pick (y0.1, r2.2) ([1, 2, 2, 2, 3] : List Int)).bind fun r3 =>
    (m_keep_Src_Text (y0.1, r3.2) ([[], [], [97, 110, 110], [98, 111, 98]] : List Str)).bind fun r4 =>
    (
      if r3.1 == 2 then
        (m_keep_Src_N (y0.1, r4.2) 4).bind fun r5 =>
        some (r5.2, r5.1)
      else
        some (r4.2, 0) : Option (Int × Int)).bind fun s3 =>
    (loop (m_keep_Src_Base_L2 s2 r2) (false, 0) : Option Bool).bind fun s4 =>
    if !s4 then
      (app s2.2.2 ([(r2.1, r3.1, s3.2, r4.1)] : List T_Premise)).bind fun x2 =>
      some (.inl (w64 (s2.1 - 1), s3.1, x2))
    else
      some (.inl (w64 (s2.1 - 1), s3.1, s2.2.2))
  else
    some (.inr (s2.2.1, s2.2.2))

noncomputable def m_keep_Src_Base_L3 (y0 : T_keep_Src) (y1 : Int) (y3 : Int) (s7 : Int × Int × (List T_Rule)) : Option ((Int × Int × (List T_Rule)) ⊕ (Int × (List T_Rule))) :=
  if decide (0 < s7.1) then
    (m_keep_RuleName (len s7.2.2)).bind fun r7 =>
    (m_keep_Src_N (y0.1, s7.2.1) 3).bind fun r8 =>
    (m_keep_Src_Literals (y0.1, r8.2) 2 y1).bind fun r9 =>
    (m_keep_sorted r9.1).bind fun r10 =>
    (m_keep_Src_Literal (y0.1, r9.2) y1).bind fun r11 =>
    (
      if !(r8.1 == 0) then
        (m_keep_Src_N (y0.1, r11.2) 4).bind fun r12 =>
        some (r12.2, r12.1)
      else
        some (r11.2, 0) : Option (Int × Int)).bind fun s8 =>
    (
      (m_keep_Src_N (y0.1, s8.1) 6).bind fun r13 =>
      if r13.1 == 5 then
        (m_keep_Src_N (y0.1, r13.2) 4).bind fun r14 =>
        (m_keep_Src_N (y0.1, r14.2) y3).bind fun r15 =>
        (m_keep_RuleName r15.1).bind fun r16 =>
        some (r15.2, decide (0 < r14.1), r16)
      else
        some (r13.2, r11.1.1, r11.1.2) : Option (Int × Bool × Str)).bind fun s9 =>
    (app s7.2.2 ([(r7, r8.1 == 0, s8.2, r10, (s9.2.1, s9.2.2))] : List T_Rule)).bind fun x3 =>
    some (.inl (w64 (s7.1 - 1), s9.1, x3))
  else
    some (.inr (s7.2.1, s7.2.2))

noncomputable def m_keep_Src_Base_L4 (s6 : Int × (List T_Rule)) (y0 : T_keep_Src) (y1 : Int) (s11 : Int × Int × (List T_Promotion)) : Option ((Int × Int × (List T_Promotion)) ⊕ (Int × (List T_Promotion))) :=
  if (decide (0 < s11.1)) && (decide (0 < (len s6.2))) then
    (
      (m_keep_Src_N (y0.1, s11.2.1) (len s6.2)).bind fun r18 =>
      (idx s6.2 r18.1).bind fun x4 =>
      some (r18.2, x4) : Option (Int × T_Rule)).bind fun s12 =>
    if !s12.2.2.1 then
      (m_keep_Src_N (y0.1, s12.1) 10).bind fun r20 =>
      (m_keep_Src_Literal (y0.1, r20.2) y1).bind fun r21 =>
      (app s11.2.2 ([(s12.2.1, r20.1, r21.1)] : List T_Promotion)).bind fun x6 =>
      some (.inl (w64 (s11.1 - 1), r21.2, x6))
    else
      some (.inl (w64 (s11.1 - 1), s12.1, s11.2.2))
  else
    some (.inr (s11.2.1, s11.2.2))

noncomputable def m_keep_Src_Base (y0 : T_keep_Src) (y1 : Int) (y2 : Int) (y3 : Int) : Option (T_Base × Int) :=
  (
    (m_keep_Src_N y0 (w64 (y2 + 1))).bind fun r1 =>
    loop (m_keep_Src_Base_L1 y0 y1) (r1.1, r1.2, ([] : List T_Premise)) : Option (Int × (List T_Premise))).bind fun s1 =>
  (
    (m_keep_Src_N (y0.1, s1.1) (w64 (y3 + 1))).bind fun r6 =>
    loop (m_keep_Src_Base_L3 y0 y1 y3) (r6.1, r6.2, ([] : List T_Rule)) : Option (Int × (List T_Rule))).bind fun s6 =>
  (
    (m_keep_Src_N (y0.1, s6.1) 3).bind fun r17 =>
    loop (m_keep_Src_Base_L4 s6 y0 y1) (r17.1, r17.2, ([] : List T_Promotion)) : Option (Int × (List T_Promotion))).bind fun s10 =>
  some ((s1.2, s6.2, s10.2), s10.1)

noncomputable def m_keep_Src_Odd (y0 : T_keep_Src) : Option (T_Literal × Int) :=
  (m_keep_Src_N y0 2).bind fun r1 =>
  (m_keep_Src_Text (y0.1, r1.2) ([[], [97], [65], [97, 49, 95], [49, 97], [95, 97], [97, 98, 99, 100, 101, 102, 103, 104, 105, 106, 107, 108], [97, 98, 99, 100, 101, 102, 103, 104, 105, 106, 107, 108, 109], [97, 126], [126, 97], [97, 32, 98]] : List Str)).bind fun r2 =>
  some ((r1.1 == 1, r2.1), r2.2)

noncomputable def m_keep_Src_SpoiltBase_L1 (y1 : T_Base) (s3 : Int × (List T_Rule)) : Option ((Int × (List T_Rule)) ⊕ (List T_Rule)) :=
  if decide (s3.1 < (len y1.2.1)) then
    (idx y1.2.1 s3.1).bind fun x27 =>
    (app ([] : List T_Literal) x27.2.2.2.1).bind fun x28 =>
    (app s3.2 [(x27.1, x27.2.1, x27.2.2.1, x28, x27.2.2.2.2)]).bind fun x29 =>
    some (.inl (w64 (s3.1 + 1), x29))
  else
    some (.inr s3.2)

noncomputable def m_keep_Src_SpoiltBase (y0 : T_keep_Src) (y1 : T_Base) : Option (T_Base × Int) :=
  (
    (app ([] : List T_Premise) y1.1).bind fun x1 =>
    (app ([] : List T_Promotion) y1.2.2).bind fun x2 =>
    some (x1, ([] : List T_Rule), x2) : Option T_Base).bind fun s1 =>
  (loop (m_keep_Src_SpoiltBase_L1 y1) (0, s1.2.1) : Option (List T_Rule)).bind fun s2 =>
  (m_keep_Src_N y0 (len s1.1)).bind fun r1 =>
  (
    if decide (0 < (len s1.1)) then
      (m_keep_Src_N (y0.1, r1.2) 3).bind fun r2 =>
      some (r2.1 == 0, r2.2)
    else
      some (false, r1.2) : Option (Bool × Int)).bind fun s4 =>
  if s4.1 then
    (
      (m_keep_Src_N (y0.1, s4.2) 5).bind fun r3 =>
      if r3.1 == 0 then
        (m_keep_Src_N (y0.1, r3.2) 6).bind fun r4 =>
        (idx s1.1 r1.1).bind fun x30 =>
        some (r4.2, List.set s1.1 (Int.toNat r1.1) (x30.1, w64 (r4.1 - 1), x30.2.2.1, x30.2.2.2), s2)
      else
        if r3.1 == 1 then
          (m_keep_Src_Pick (y0.1, r3.2) ([(-1), 0, 9, 10] : List Int)).bind fun r5 =>
          (idx s1.1 r1.1).bind fun x31 =>
          some (r5.2, List.set s1.1 (Int.toNat r1.1) (x31.1, x31.2.1, r5.1, x31.2.2.2), s2)
        else
          if r3.1 == 2 then
            (m_keep_Src_Odd (y0.1, r3.2)).bind fun r6 =>
            (idx s1.1 r1.1).bind fun x32 =>
            some (r6.2, List.set s1.1 (Int.toNat r1.1) (r6.1, x32.2.1, x32.2.2.1, x32.2.2.2), s2)
          else
            if r3.1 == 3 then
              (m_keep_Src_Text (y0.1, r3.2) ([[65], [], [97]] : List Str)).bind fun r7 =>
              (idx s1.1 r1.1).bind fun x33 =>
              some (r7.2, List.set s1.1 (Int.toNat r1.1) (x33.1, x33.2.1, x33.2.2.1, r7.1), s2)
            else
              (idx s1.1 0).bind fun x34 =>
              (idx s1.1 r1.1).bind fun x35 =>
              some (r3.2, List.set s1.1 (Int.toNat r1.1) (x34.1, x35.2.1, x35.2.2.1, x35.2.2.2), s2) : Option (Int × (List T_Premise) × (List T_Rule))).bind fun s5 =>
    some ((s5.2.1, s5.2.2, s1.2.2), s5.1)
  else
    (m_keep_Src_N (y0.1, s4.2) (len s2)).bind fun r8 =>
    (
      if decide (0 < (len s2)) then
        (m_keep_Src_N (y0.1, r8.2) 3).bind fun r9 =>
        some (decide (0 < r9.1), r9.2)
      else
        some (false, r8.2) : Option (Bool × Int)).bind fun s6 =>
    if s6.1 then
      (
        (m_keep_Src_N (y0.1, s6.2) 7).bind fun r10 =>
        if r10.1 == 0 then
          (m_keep_Src_Text (y0.1, r10.2) ([[], [114, 97], [82], [114, 98]] : List Str)).bind fun r11 =>
          (idx s2 r8.1).bind fun x36 =>
          some (r11.2, List.set s2 (Int.toNat r8.1) (r11.1, x36.2.1, x36.2.2.1, x36.2.2.2.1, x36.2.2.2.2))
        else
          if r10.1 == 1 then
            (m_keep_Src_Pick (y0.1, r10.2) ([(-1), 0, 1, 9, 10] : List Int)).bind fun r12 =>
            (idx s2 r8.1).bind fun x37 =>
            some (r12.2, List.set s2 (Int.toNat r8.1) (x37.1, x37.2.1, r12.1, x37.2.2.2.1, x37.2.2.2.2))
          else
            if r10.1 == 2 then
              (idx s2 r8.1).bind fun x38 =>
              (idx s2 r8.1).bind fun x39 =>
              some (r10.2, List.set s2 (Int.toNat r8.1) (x39.1, !x38.2.1, x39.2.2.1, x39.2.2.2.1, x39.2.2.2.2))
            else
              if r10.1 == 3 then
                (m_keep_Src_Odd (y0.1, r10.2)).bind fun r13 =>
                (idx s2 r8.1).bind fun x40 =>
                some (r13.2, List.set s2 (Int.toNat r8.1) (x40.1, x40.2.1, x40.2.2.1, x40.2.2.2.1, r13.1))
              else
                if r10.1 == 4 then
                  (idx s2 r8.1).bind fun x41 =>
                  (idx s2 r8.1).bind fun _ =>
                  (m_keep_Src_Literal (y0.1, r10.2) 3).bind fun r14 =>
                  (app x41.2.2.2.1 ([r14.1] : List T_Literal)).bind fun x43 =>
                  (idx s2 r8.1).bind fun _ =>
                  some (r14.2, List.set s2 (Int.toNat r8.1) (x41.1, x41.2.1, x41.2.2.1, x43, x41.2.2.2.2))
                else
                  if r10.1 == 5 then
                    (m_keep_Src_Literals (y0.1, r10.2) 6 4).bind fun r15 =>
                    (idx s2 r8.1).bind fun x45 =>
                    some (r15.2, List.set s2 (Int.toNat r8.1) (x45.1, x45.2.1, x45.2.2.1, r15.1, x45.2.2.2.2))
                  else
                    (idx s2 r8.1).bind fun x46 =>
                    (app s2 ([x46] : List T_Rule)).bind fun x47 =>
                    some (r10.2, x47) : Option (Int × (List T_Rule))).bind fun s7 =>
      some ((s1.1, s7.2, s1.2.2), s7.1)
    else
      (
        (m_keep_Src_Text (y0.1, s6.2) ([[114, 97], [114, 98], [120], []] : List Str)).bind fun r16 =>
        (m_keep_Src_Pick (y0.1, r16.2) ([(-1), 0, 9, 10] : List Int)).bind fun r17 =>
        (m_keep_Src_Literal (y0.1, r17.2) 3).bind fun r18 =>
        (app s1.2.2 ([(r16.1, r17.1, r18.1)] : List T_Promotion)).bind fun x48 =>
        some (r18.2, x48) : Option (Int × (List T_Promotion))).bind fun s8 =>
      some ((s1.1, s2, s8.2), s8.1)

noncomputable def m_rulebase_Find_1 (y0 : T_Rule) (y1 : Str) : Option Bool :=
  some (y0.1 == y1)

noncomputable def m_slices_IndexFunc_Rule__rulebase_Find_1_L1 (y0 : List T_Rule) (y1 : Str) (s1 : Int) : Option (Int ⊕ Int) :=
  if decide (s1 < (len y0)) then
    (idx y0 s1).bind fun x1 =>
    (m_rulebase_Find_1 x1 y1).bind fun r1 =>
    if r1 then
      some (.inr s1)
    else
      some (.inl (w64 (s1 + 1)))
  else
    some (.inr (-1))

noncomputable def m_slices_IndexFunc_Rule__rulebase_Find_1 (y0 : List T_Rule) (y1 : Str) : Option Int :=
  loop (m_slices_IndexFunc_Rule__rulebase_Find_1_L1 y0 y1) 0

noncomputable def m_rulebase_Find (y0 : T_Base) (y1 : Str) : Option Int :=
  (m_slices_IndexFunc_Rule__rulebase_Find_1 y0.2.1 y1).bind fun r1 =>
  some r1

noncomputable def m_rulebase_Premise_1 (y0 : T_Premise) (y1 : T_Literal) : Option Bool :=
  some (y0.1 == y1)

noncomputable def m_slices_IndexFunc_Premise__rulebase_Premise_1_L1 (y0 : List T_Premise) (y1 : T_Literal) (s1 : Int) : Option (Int ⊕ Int) :=
  if decide (s1 < (len y0)) then
    (idx y0 s1).bind fun x1 =>
    (m_rulebase_Premise_1 x1 y1).bind fun r1 =>
    if r1 then
      some (.inr s1)
    else
      some (.inl (w64 (s1 + 1)))
  else
    some (.inr (-1))

noncomputable def m_slices_IndexFunc_Premise__rulebase_Premise_1 (y0 : List T_Premise) (y1 : T_Literal) : Option Int :=
  loop (m_slices_IndexFunc_Premise__rulebase_Premise_1_L1 y0 y1) 0

noncomputable def m_rulebase_Premise (y0 : T_Base) (y1 : T_Literal) : Option Int :=
  (m_slices_IndexFunc_Premise__rulebase_Premise_1 y0.1 y1).bind fun r1 =>
  some r1

noncomputable def m_literal_ValidName_L1 (y0 : Str) (s1 : Int) : Option (Int ⊕ Bool) :=
  if decide (s1 < (len y0)) then
    (sidx y0 s1).bind fun x1 =>
    if (decide (97 ≤ x1)) && (decide (x1 ≤ 122)) then
      some (.inl (w64 (s1 + 1)))
    else
      if (decide (0 < s1)) && (if decide (48 ≤ x1) then (decide (x1 ≤ 57)) || (x1 == 95) else x1 == 95) then
        some (.inl (w64 (s1 + 1)))
      else
        some (.inr false)
  else
    some (.inr true)

noncomputable def m_literal_ValidName (y0 : Str) : Option Bool :=
  if ((len y0) == 0) || (decide (12 < (len y0))) then
    some false
  else
    loop (m_literal_ValidName_L1 y0) 0

noncomputable def m_literal_Valid (y0 : T_Literal) : Option Bool :=
  (m_literal_ValidName y0.2).bind fun r1 =>
  some r1

noncomputable def m_rulebase_ranked (y0 : Int) : Option Bool :=
  some ((decide (0 ≤ y0)) && (decide (y0 ≤ 9)))

noncomputable def m_rulebase_sourced (y0 : Str) : Option Bool :=
  (
    if y0 == [] then
      some true
    else
      (m_literal_ValidName y0).bind fun r1 =>
      some r1 : Option Bool).bind fun s1 =>
  some s1

noncomputable def m_rulebase_premise (y0 : T_Premise) : Option Int :=
  seqE (
    (
      if y0.2.1 == 1 then
        some (y0.2.1 == 1)
      else
        some (y0.2.1 == 3) : Option Bool).bind fun s2 =>
    if s2 then
      if y0.2.2.1 != 0 then
        some (.inr 1)
      else
        some (.inl ())
    else
      if y0.2.1 == 2 then
        (m_rulebase_ranked y0.2.2.1).bind fun r1 =>
        if !r1 then
          some (.inr 1)
        else
          some (.inl ())
      else
        some (.inr 4) : Option (Unit ⊕ Int)) fun _ =>
  (
    (m_literal_Valid y0.1).bind fun r2 =>
    if !r2 then
      some true
    else
      (m_rulebase_sourced y0.2.2.2).bind fun r3 =>
      some (!r3) : Option Bool).bind fun s3 =>
  if s3 then
    some 1
  else
    some 0

noncomputable def m_rulebase_promotion (y0 : T_Base) (y1 : T_Promotion) : Option Int :=
  (
    (m_rulebase_ranked y1.2.1).bind fun r1 =>
    if !r1 then
      some true
    else
      (m_literal_Valid y1.2.2).bind fun r2 =>
      some (!r2) : Option Bool).bind fun s1 =>
  if s1 then
    some 1
  else
    (m_rulebase_Find y0 y1.1).bind fun r3 =>
    if decide (r3 < 0) then
      some 6
    else
      (idx y0.2.1 r3).bind fun x1 =>
      if x1.2.1 then
        some 4
      else
        some 0

noncomputable def m_cmp_isNaN_string (y0 : Str) : Option Bool :=
  some (!(y0 == y0))

noncomputable def m_cmp_Compare_string (y0 : Str) (y1 : Str) : Option Int :=
  (m_cmp_isNaN_string y0).bind fun r1 =>
  (m_cmp_isNaN_string y1).bind fun r2 =>
  if r1 then
    if r2 then
      some 0
    else
      some (-1)
  else
    if r2 then
      some 1
    else
      if sless y0 y1 then
        some (-1)
      else
        if !(sless y0 y1 || y0 == y1) then
          some 1
        else
          some 0

noncomputable def m_literal_Compare (y0 : T_Literal) (y1 : T_Literal) : Option Int :=
  (m_cmp_Compare_string y0.2 y1.2).bind fun r1 =>
  if (r1 != 0) || (y0.1 == y1.1) then
    some r1
  else
    if y1.1 then
      some (-1)
    else
      some 1

noncomputable def m_rulebase_rule_L1 (y0 : T_Rule) (s3 : Int) : Option (Int ⊕ (Unit ⊕ Int)) :=
  if decide (s3 < (len y0.2.2.2.1)) then
    (idx y0.2.2.2.1 s3).bind fun x1 =>
    (m_literal_Valid x1).bind fun r4 =>
    if !r4 then
      some (.inr (.inr 1))
    else
      some (.inl (w64 (s3 + 1)))
  else
    some (.inr (.inl ()))

noncomputable def m_rulebase_rule_L2 (y0 : T_Rule) (s4 : Int) : Option (Int ⊕ Int) :=
  if decide (s4 < (len y0.2.2.2.1)) then
    (idx y0.2.2.2.1 (w64 (s4 - 1))).bind fun x2 =>
    (idx y0.2.2.2.1 s4).bind fun x3 =>
    (m_literal_Compare x2 x3).bind fun r5 =>
    if decide (0 ≤ r5) then
      some (.inr 8)
    else
      some (.inl (w64 (s4 + 1)))
  else
    some (.inr 0)

noncomputable def m_rulebase_rule (y0 : T_Rule) : Option Int :=
  if decide (4 < (len y0.2.2.2.1)) then
    some 2
  else
    (
      (m_literal_ValidName y0.1).bind fun r1 =>
      if !r1 then
        some true
      else
        (m_literal_Valid y0.2.2.2.2).bind fun r2 =>
        if !r2 then
          some true
        else
          (m_rulebase_ranked y0.2.2.1).bind fun r3 =>
          if !r3 then
            some true
          else
            if y0.2.1 then
              some (y0.2.2.1 != 0)
            else
              some false : Option Bool).bind fun s1 =>
    if s1 then
      some 1
    else
      seqE (loop (m_rulebase_rule_L1 y0) 0 : Option (Unit ⊕ Int)) fun _ =>
      loop (m_rulebase_rule_L2 y0) 1

noncomputable def m_rulebase_Validate_L1 (y0 : T_Base) (s2 : Int) : Option (Int ⊕ (Unit ⊕ Int)) :=
  if decide (s2 < (len y0.1)) then
    (idx y0.1 s2).bind fun x1 =>
    (m_rulebase_premise x1).bind fun r1 =>
    if r1 != 0 then
      some (.inr (.inr r1))
    else
      (m_rulebase_Premise y0 x1.1).bind fun r2 =>
      if decide (r2 < s2) then
        some (.inr (.inr 5))
      else
        some (.inl (w64 (s2 + 1)))
  else
    some (.inr (.inl ()))

noncomputable def m_rulebase_Validate_L2 (y0 : T_Base) (s4 : Int) : Option (Int ⊕ (Unit ⊕ Int)) :=
  if decide (s4 < (len y0.2.1)) then
    (idx y0.2.1 s4).bind fun x2 =>
    (m_rulebase_rule x2).bind fun r3 =>
    if r3 != 0 then
      some (.inr (.inr r3))
    else
      (m_rulebase_Find y0 x2.1).bind fun r4 =>
      if decide (r4 < s4) then
        some (.inr (.inr 5))
      else
        some (.inl (w64 (s4 + 1)))
  else
    some (.inr (.inl ()))

noncomputable def m_rulebase_Validate_L3 (y0 : T_Base) (s5 : Int) : Option (Int ⊕ Int) :=
  if decide (s5 < (len y0.2.2)) then
    (idx y0.2.2 s5).bind fun x3 =>
    (m_rulebase_promotion y0 x3).bind fun r5 =>
    if r5 != 0 then
      some (.inr r5)
    else
      some (.inl (w64 (s5 + 1)))
  else
    some (.inr 0)

noncomputable def m_rulebase_Validate (y0 : T_Base) : Option Int :=
  if (decide (16 < (len y0.1))) || ((decide (24 < (len y0.2.1))) || (decide (8 < (len y0.2.2)))) then
    some 2
  else
    seqE (loop (m_rulebase_Validate_L1 y0) 0 : Option (Unit ⊕ Int)) fun _ =>
    seqE (loop (m_rulebase_Validate_L2 y0) 0 : Option (Unit ⊕ Int)) fun _ =>
    loop (m_rulebase_Validate_L3 y0) 0

noncomputable def m_literal_Format (y0 : T_Literal) : Option Str :=
  (m_literal_Valid y0).bind fun r1 =>
  if !r1 then
    some []
  else
    if y0.1 then
      (cat [126] y0.2).bind fun x1 =>
      some x1
    else
      some y0.2

noncomputable def m_internal_strconv_small (y0 : Int) : Option Str :=
  if decide (y0 < 10) then
    (sub [48, 49, 50, 51, 52, 53, 54, 55, 56, 57, 97, 98, 99, 100, 101, 102, 103, 104, 105, 106, 107, 108, 109, 110, 111, 112, 113, 114, 115, 116, 117, 118, 119, 120, 121, 122] y0 (w64 (y0 + 1))).bind fun x1 =>
    some x1
  else
    (sub [48, 48, 48, 49, 48, 50, 48, 51, 48, 52, 48, 53, 48, 54, 48, 55, 48, 56, 48, 57, 49, 48, 49, 49, 49, 50, 49, 51, 49, 52, 49, 53, 49, 54, 49, 55, 49, 56, 49, 57, 50, 48, 50, 49, 50, 50, 50, 51, 50, 52, 50, 53, 50, 54, 50, 55, 50, 56, 50, 57, 51, 48, 51, 49, 51, 50, 51, 51, 51, 52, 51, 53, 51, 54, 51, 55, 51, 56, 51, 57, 52, 48, 52, 49, 52, 50, 52, 51, 52, 52, 52, 53, 52, 54, 52, 55, 52, 56, 52, 57, 53, 48, 53, 49, 53, 50, 53, 51, 53, 52, 53, 53, 53, 54, 53, 55, 53, 56, 53, 57, 54, 48, 54, 49, 54, 50, 54, 51, 54, 52, 54, 53, 54, 54, 54, 55, 54, 56, 54, 57, 55, 48, 55, 49, 55, 50, 55, 51, 55, 52, 55, 53, 55, 54, 55, 55, 55, 56, 55, 57, 56, 48, 56, 49, 56, 50, 56, 51, 56, 52, 56, 53, 56, 54, 56, 55, 56, 56, 56, 57, 57, 48, 57, 49, 57, 50, 57, 51, 57, 52, 57, 53, 57, 54, 57, 55, 57, 56, 57, 57] (w64 (y0 * 2)) (w64 ((w64 (y0 * 2)) + 2))).bind fun x2 =>
    some x2

noncomputable def m_internal_strconv_FormatInt (y0 : Int) (y1 : Int) : Option Str :=
  if y1 == 10 then
    if (decide (0 ≤ y0)) && (decide (y0 < 100)) then
      (m_internal_strconv_small y0).bind fun r1 =>
      some r1
    else
      none
  else
    none

noncomputable def m_internal_strconv_Itoa (y0 : Int) : Option Str :=
  (m_internal_strconv_FormatInt y0 10).bind fun r1 =>
  some r1

noncomputable def m_strconv_Itoa (y0 : Int) : Option Str :=
  (m_internal_strconv_Itoa y0).bind fun r1 =>
  some r1

noncomputable def m_strings_Join (y0 : List Str) (y1 : Str) : Option Str := joinM y0 y1

noncomputable def m_rulebase_premiseLine (y0 : T_Premise) : Option Str :=
  (idx tab_rulebase_kinds y0.2.1).bind fun x1 =>
  (m_literal_Format y0.1).bind fun r1 =>
  (
    if y0.2.1 == 2 then
      (m_strconv_Itoa y0.2.2.1).bind fun r2 =>
      (app ([x1, r1] : List Str) ([r2] : List Str)).bind fun x2 =>
      some x2
    else
      some ([x1, r1] : List Str) : Option (List Str)).bind fun s1 =>
  (
    if !(y0.2.2.2 == []) then
      (app s1 ([[102, 114, 111, 109], y0.2.2.2] : List Str)).bind fun x3 =>
      some x3
    else
      some s1 : Option (List Str)).bind fun s2 =>
  (m_strings_Join s2 [32]).bind fun r3 =>
  some r3

noncomputable def m_rulebase_promotionLine (y0 : T_Promotion) : Option Str :=
  (cat [112, 114, 111, 109, 111, 116, 101, 32] y0.1).bind fun x1 =>
  (cat x1 [32]).bind fun x2 =>
  (m_strconv_Itoa y0.2.1).bind fun r1 =>
  (cat x2 r1).bind fun x3 =>
  (cat x3 [32, 105, 102, 32]).bind fun x4 =>
  (m_literal_Format y0.2.2).bind fun r2 =>
  (cat x4 r2).bind fun x5 =>
  some x5

noncomputable def m_rulebase_ruleLine_L1 (y0 : T_Rule) (s3 : (List Str) × Int) : Option (((List Str) × Int) ⊕ (List Str)) :=
  if decide (s3.2 < (len y0.2.2.2.1)) then
    (idx y0.2.2.2.1 s3.2).bind fun x3 =>
    (m_literal_Format x3).bind fun r2 =>
    (
      if decide (s3.2 < (w64 ((len y0.2.2.2.1) - 1))) then
        (cat r2 [44]).bind fun x4 =>
        some x4
      else
        some r2 : Option Str).bind fun s4 =>
    (app s3.1 ([s4] : List Str)).bind fun x5 =>
    some (.inl (x5, w64 (s3.2 + 1)))
  else
    some (.inr s3.1)

noncomputable def m_rulebase_ruleLine (y0 : T_Rule) : Option Str :=
  (cat y0.1 [58]).bind fun x1 =>
  (
    if !y0.2.1 then
      (m_strconv_Itoa y0.2.2.1).bind fun r1 =>
      (cat r1 [58]).bind fun x2 =>
      some (([[114, 117, 108, 101], y0.1, x2] : List Str), [61, 62])
    else
      some (([[115, 116, 114, 105, 99, 116], x1] : List Str), [45, 62]) : Option ((List Str) × Str)).bind fun s1 =>
  (loop (m_rulebase_ruleLine_L1 y0) (s1.1, 0) : Option (List Str)).bind fun s2 =>
  (m_literal_Format y0.2.2.2.2).bind fun r3 =>
  (app s2 ([s1.2, r3] : List Str)).bind fun x6 =>
  (m_strings_Join x6 [32]).bind fun r4 =>
  some r4

noncomputable def m_strings_Builder_Len (y0 : Str) : Option Int := some (len y0)

noncomputable def m_strings_Builder_String (y0 : Str) : Option Str := some y0

noncomputable def m_strings_Builder_WriteString (y0 : Str) (y1 : Str) : Option (Int × Unit × Str) := wstrM y0 y1

noncomputable def m_rulebase_Format_L1 (y0 : T_Base) (s2 : Int × Str) : Option ((Int × Str) ⊕ Str) :=
  if decide (s2.1 < (len y0.1)) then
    (idx y0.1 s2.1).bind fun x1 =>
    (m_rulebase_premiseLine x1).bind fun r2 =>
    (cat r2 [10]).bind fun x2 =>
    (m_strings_Builder_WriteString s2.2 x2).bind fun r3 =>
    some (.inl (w64 (s2.1 + 1), r3.2.2))
  else
    some (.inr s2.2)

noncomputable def m_rulebase_Format_L2 (y0 : T_Base) (s4 : Int × Str) : Option ((Int × Str) ⊕ Str) :=
  if decide (s4.1 < (len y0.2.1)) then
    (idx y0.2.1 s4.1).bind fun x3 =>
    (m_rulebase_ruleLine x3).bind fun r4 =>
    (cat r4 [10]).bind fun x4 =>
    (m_strings_Builder_WriteString s4.2 x4).bind fun r5 =>
    some (.inl (w64 (s4.1 + 1), r5.2.2))
  else
    some (.inr s4.2)

noncomputable def m_rulebase_Format_L3 (y0 : T_Base) (s6 : Int × Str) : Option ((Int × Str) ⊕ Str) :=
  if decide (s6.1 < (len y0.2.2)) then
    (idx y0.2.2 s6.1).bind fun x5 =>
    (m_rulebase_promotionLine x5).bind fun r6 =>
    (cat r6 [10]).bind fun x6 =>
    (m_strings_Builder_WriteString s6.2 x6).bind fun r7 =>
    some (.inl (w64 (s6.1 + 1), r7.2.2))
  else
    some (.inr s6.2)

noncomputable def m_rulebase_Format (y0 : T_Base) : Option (Str × Int) :=
  (m_rulebase_Validate y0).bind fun r1 =>
  if r1 != 0 then
    some ([], r1)
  else
    (loop (m_rulebase_Format_L1 y0) (0, ([] : Str)) : Option Str).bind fun s1 =>
    (loop (m_rulebase_Format_L2 y0) (0, s1) : Option Str).bind fun s3 =>
    (loop (m_rulebase_Format_L3 y0) (0, s3) : Option Str).bind fun s5 =>
    (m_strings_Builder_Len s5).bind fun r8 =>
    if decide (4096 < r8) then
      some ([], 2)
    else
      (m_strings_Builder_String s5).bind fun r9 =>
      some (r9, 0)

noncomputable def m_rulebase_words_next (y0 : T_rulebase_words) : Option (Str × (List Str) × Bool) :=
  if (len y0.1) == 0 then
    some ([], y0.1, true)
  else
    (idx y0.1 0).bind fun x1 =>
    (sub y0.1 1 (len y0.1)).bind fun x2 =>
    some (x1, x2, y0.2)

noncomputable def m_literal_Parse (y0 : Str) : Option (T_Literal × Int) :=
  (
    (
      if decide (0 < (len y0)) then
        (sidx y0 0).bind fun x1 =>
        some (x1 == 126)
      else
        some false : Option Bool).bind fun s2 =>
    if s2 then
      (sub y0 1 (len y0)).bind fun x2 =>
      some (x2, true)
    else
      some (y0, false) : Option (Str × Bool)).bind fun s1 =>
  (m_literal_Valid (s1.2, s1.1)).bind fun r1 =>
  if !r1 then
    some ((false, []), 3)
  else
    some ((s1.2, s1.1), 0)

noncomputable def m_internal_stringslite_HasSuffix (y0 : Str) (y1 : Str) : Option Bool :=
  (
    if decide ((len y1) ≤ (len y0)) then
      (sub y0 (w64 ((len y0) - (len y1))) (len y0)).bind fun x1 =>
      some (x1 == y1)
    else
      some false : Option Bool).bind fun s1 =>
  some s1

noncomputable def m_internal_stringslite_CutSuffix (y0 : Str) (y1 : Str) : Option (Str × Bool) :=
  (m_internal_stringslite_HasSuffix y0 y1).bind fun r1 =>
  if !r1 then
    some (y0, false)
  else
    (sub y0 0 (w64 ((len y0) - (len y1)))).bind fun x1 =>
    some (x1, true)

noncomputable def m_strings_CutSuffix (y0 : Str) (y1 : Str) : Option (Str × Bool) :=
  (m_internal_stringslite_CutSuffix y0 y1).bind fun r1 =>
  some (r1.1, r1.2)

noncomputable def m_rulebase_words_literal (y0 : T_rulebase_words) (y1 : Str) : Option (T_Literal × (List Str) × Bool) :=
  (m_rulebase_words_next y0).bind fun r1 =>
  (m_strings_CutSuffix r1.1 y1).bind fun r2 =>
  (m_literal_Parse r2.1).bind fun r3 =>
  (
    if r1.2.2 then
      some true
    else
      if !r2.2 then
        some true
      else
        some (r3.2 != 0) : Option Bool).bind fun s1 =>
  some (r3.1, r1.2.1, s1)

noncomputable def m_rulebase_words_name (y0 : T_rulebase_words) (y1 : Str) : Option (Str × (List Str) × Bool) :=
  (m_rulebase_words_next y0).bind fun r1 =>
  (m_strings_CutSuffix r1.1 y1).bind fun r2 =>
  (
    if r1.2.2 then
      some true
    else
      if !r2.2 then
        some true
      else
        (m_literal_ValidName r2.1).bind fun r3 =>
        some (!r3) : Option Bool).bind fun s1 =>
  some (r2.1, r1.2.1, s1)

noncomputable def m_rulebase_words_rank (y0 : T_rulebase_words) (y1 : Str) : Option (Int × (List Str) × Bool) :=
  (m_rulebase_words_next y0).bind fun r1 =>
  (m_strings_CutSuffix r1.1 y1).bind fun r2 =>
  (
    if !r2.2 then
      some true
    else
      if (len r2.1) != 1 then
        some true
      else
        (sidx r2.1 0).bind fun x1 =>
        if decide (x1 < 48) then
          some true
        else
          (sidx r2.1 0).bind fun x2 =>
          some (decide (57 < x2)) : Option Bool).bind fun s1 =>
  if s1 then
    some (0, r1.2.1, true)
  else
    (sidx r2.1 0).bind fun x3 =>
    some (w64 (IntKind.u8.wrap (x3 - 48)), r1.2.1, r1.2.2)

noncomputable def m_rulebase_words_premise (y0 : T_rulebase_words) (y1 : Int) : Option (T_Premise × (List Str) × Bool) :=
  (m_rulebase_words_literal y0 []).bind fun r1 =>
  (
    if y1 == 2 then
      (m_rulebase_words_rank (r1.2.1, r1.2.2) []).bind fun r2 =>
      some (r2.2.1, r2.2.2, r2.1)
    else
      some (r1.2.1, r1.2.2, 0) : Option ((List Str) × Bool × Int)).bind fun s1 =>
  (
    if decide (0 < (len s1.1)) then
      (
        if s1.2.1 then
          some (s1.1, true)
        else
          (m_rulebase_words_next (s1.1, s1.2.1)).bind fun r3 =>
          some (r3.2.1, !(r3.1 == [102, 114, 111, 109])) : Option ((List Str) × Bool)).bind fun s3 =>
      (m_rulebase_words_name (s3.1, s3.2) []).bind fun r4 =>
      some (r4.2.1, r4.2.2, r4.1)
    else
      some (s1.1, s1.2.1, []) : Option ((List Str) × Bool × Str)).bind fun s2 =>
  some ((r1.1, y1, s1.2.2, s2.2.2), s2.1, s2.2.1)

noncomputable def m_rulebase_words_promotion (y0 : T_rulebase_words) : Option (T_Promotion × (List Str) × Bool) :=
  (m_rulebase_words_name y0 []).bind fun r1 =>
  (m_rulebase_words_rank (r1.2.1, r1.2.2) []).bind fun r2 =>
  (
    if r2.2.2 then
      some (r2.2.1, true)
    else
      (m_rulebase_words_next (r2.2.1, r2.2.2)).bind fun r3 =>
      some (r3.2.1, !(r3.1 == [105, 102])) : Option ((List Str) × Bool)).bind fun s1 =>
  (m_rulebase_words_literal (s1.1, s1.2) []).bind fun r4 =>
  some ((r1.1, r2.1, r4.1), r4.2.1, r4.2.2)

noncomputable def m_rulebase_words_rule_L1 (s3 : (List Str) × Bool × (List T_Literal)) : Option (((List Str) × Bool × (List T_Literal)) ⊕ ((List Str) × Bool × (List T_Literal))) :=
  if (decide (2 < (len s3.1))) && (!s3.2.1) then
    (
      if (len s3.1) == 3 then
        some []
      else
        some [44] : Option Str).bind fun s4 =>
    (m_rulebase_words_literal (s3.1, s3.2.1) s4).bind fun r4 =>
    (app s3.2.2 ([r4.1] : List T_Literal)).bind fun x1 =>
    some (.inl (r4.2.1, r4.2.2, x1))
  else
    some (.inr (s3.1, s3.2.1, s3.2.2))

noncomputable def m_rulebase_words_rule (y0 : T_rulebase_words) (y1 : Bool) : Option (T_Rule × (List Str) × Bool) :=
  (
    if y1 then
      (m_rulebase_words_name y0 [58]).bind fun r1 =>
      some ([45, 62], r1.2.1, r1.2.2, r1.1, 0)
    else
      (m_rulebase_words_name y0 []).bind fun r2 =>
      (m_rulebase_words_rank (r2.2.1, r2.2.2) [58]).bind fun r3 =>
      some ([61, 62], r3.2.1, r3.2.2, r2.1, r3.1) : Option (Str × (List Str) × Bool × Str × Int)).bind fun s1 =>
  (loop (m_rulebase_words_rule_L1) (s1.2.1, s1.2.2.1, ([] : List T_Literal)) : Option ((List Str) × Bool × (List T_Literal))).bind fun s2 =>
  (
    if s2.2.1 then
      some (s2.1, true)
    else
      (m_rulebase_words_next (s2.1, s2.2.1)).bind fun r5 =>
      some (r5.2.1, !(r5.1 == s1.1)) : Option ((List Str) × Bool)).bind fun s5 =>
  (m_rulebase_words_literal (s5.1, s5.2) []).bind fun r6 =>
  some ((s1.2.2.2.1, y1, s1.2.2.2.2, s2.2.2, r6.1), r6.2.1, r6.2.2)

noncomputable def m_rulebase_words_add_L1 (r1 : Str × (List Str) × Bool) (s3 : Int × Int) : Option ((Int × Int) ⊕ Int) :=
  if decide (s3.2 < 4) then
    (idx tab_rulebase_kinds s3.2).bind fun x1 =>
    if x1 == r1.1 then
      some (.inl (s3.2, w64 (s3.2 + 1)))
    else
      some (.inl (s3.1, w64 (s3.2 + 1)))
  else
    some (.inr s3.1)

noncomputable def m_rulebase_words_add (y0 : T_rulebase_words) (y1 : T_Base) : Option (Int × Str × (List Str) × Bool × (List T_Premise) × (List T_Rule) × (List T_Promotion)) :=
  (m_rulebase_words_next y0).bind fun r1 =>
  (
    if r1.1 == [97, 120, 105, 111, 109] then
      some (r1.1 == [97, 120, 105, 111, 109])
    else
      if r1.1 == [112, 114, 101, 109, 105, 115, 101] then
        some (r1.1 == [112, 114, 101, 109, 105, 115, 101])
      else
        some (r1.1 == [97, 115, 115, 117, 109, 101]) : Option Bool).bind fun s1 =>
  if s1 then
    (loop (m_rulebase_words_add_L1 r1) (1, 0) : Option Int).bind fun s2 =>
    (m_rulebase_words_premise (r1.2.1, r1.2.2) s2).bind fun r2 =>
    (app y1.1 ([r2.1] : List T_Premise)).bind fun x2 =>
    (m_rulebase_premiseLine r2.1).bind fun r3 =>
    some (1, r3, r2.2.1, r2.2.2, x2, y1.2.1, y1.2.2)
  else
    (
      if r1.1 == [115, 116, 114, 105, 99, 116] then
        some (r1.1 == [115, 116, 114, 105, 99, 116])
      else
        some (r1.1 == [114, 117, 108, 101]) : Option Bool).bind fun s4 =>
    if s4 then
      (m_rulebase_words_rule (r1.2.1, r1.2.2) (r1.1 == [115, 116, 114, 105, 99, 116])).bind fun r4 =>
      (app y1.2.1 ([r4.1] : List T_Rule)).bind fun x3 =>
      (m_rulebase_ruleLine r4.1).bind fun r5 =>
      some (2, r5, r4.2.1, r4.2.2, y1.1, x3, y1.2.2)
    else
      if r1.1 == [112, 114, 111, 109, 111, 116, 101] then
        (m_rulebase_words_promotion (r1.2.1, r1.2.2)).bind fun r6 =>
        (app y1.2.2 ([r6.1] : List T_Promotion)).bind fun x4 =>
        (m_rulebase_promotionLine r6.1).bind fun r7 =>
        some (3, r7, r6.2.1, r6.2.2, y1.1, y1.2.1, x4)
      else
        some (0, [], r1.2.1, r1.2.2, y1.1, y1.2.1, y1.2.2)

noncomputable def m_internal_stringslite_Index (y0 : Str) (y1 : Str) : Option Int := index1 y0 y1

noncomputable def m_internal_stringslite_Cut (y0 : Str) (y1 : Str) : Option (Str × Str × Bool) :=
  (m_internal_stringslite_Index y0 y1).bind fun r1 =>
  if decide (0 ≤ r1) then
    (sub y0 0 r1).bind fun x1 =>
    (sub y0 (w64 (r1 + (len y1))) (len y0)).bind fun x2 =>
    some (x1, x2, true)
  else
    some (y0, [], false)

noncomputable def m_strings_Cut (y0 : Str) (y1 : Str) : Option (Str × Str × Bool) :=
  (m_internal_stringslite_Cut y0 y1).bind fun r1 =>
  some (r1.1, r1.2.1, r1.2.2)

noncomputable def m_strings_Fields (y0 : Str) : Option (List Str) := fieldsM y0

noncomputable def m_rulebase_Parse_L1 (s2 : Str × Int × Int × (List T_Premise) × (List T_Rule) × (List T_Promotion)) : Option ((Str × Int × Int × (List T_Premise) × (List T_Rule) × (List T_Promotion)) ⊕ (((List T_Premise) × (List T_Rule) × (List T_Promotion)) ⊕ (T_Base × Int × Int))) :=
  if !(s2.1 == []) then
    (m_strings_Cut s2.1 [10]).bind fun r1 =>
    (m_strings_Fields r1.1).bind fun r2 =>
    (m_rulebase_words_add (r2, false) (s2.2.2.2.1, s2.2.2.2.2.1, s2.2.2.2.2.2)).bind fun r3 =>
    if (!r1.2.2) || (r3.2.2.2.1 || ((decide (0 < (len r3.2.2.1))) || ((!(r3.2.1 == r1.1)) || (decide (r3.1 < s2.2.1))))) then
      some (.inr (.inr ((([] : List T_Premise), ([] : List T_Rule), ([] : List T_Promotion)), s2.2.2.1, 3)))
    else
      some (.inl (r1.2.1, r3.1, w64 (s2.2.2.1 + 1), r3.2.2.2.2.1, r3.2.2.2.2.2.1, r3.2.2.2.2.2.2))
  else
    some (.inr (.inl (s2.2.2.2.1, s2.2.2.2.2.1, s2.2.2.2.2.2)))

noncomputable def m_rulebase_Parse (y0 : Str) : Option (T_Base × Int × Int) :=
  if decide (4096 < (len y0)) then
    some ((([] : List T_Premise), ([] : List T_Rule), ([] : List T_Promotion)), 0, 2)
  else
    seqE (loop (m_rulebase_Parse_L1) (y0, 1, 1, ([] : List T_Premise), ([] : List T_Rule), ([] : List T_Promotion)) : Option (((List T_Premise) × (List T_Rule) × (List T_Promotion)) ⊕ (T_Base × Int × Int))) fun s1 =>
    (m_rulebase_Validate (s1.1, s1.2.1, s1.2.2)).bind fun r4 =>
    if r4 != 0 then
      some ((([] : List T_Premise), ([] : List T_Rule), ([] : List T_Promotion)), 0, r4)
    else
      some ((s1.1, s1.2.1, s1.2.2), 0, 0)

noncomputable def m_law05_awake : Option Bool :=
  (m_rulebase_Parse [97, 120, 105, 111, 109, 32, 112, 10, 112, 114, 101, 109, 105, 115, 101, 32, 113, 32, 51, 32, 102, 114, 111, 109, 32, 97, 110, 110, 10, 115, 116, 114, 105, 99, 116, 32, 115, 49, 58, 32, 112, 44, 32, 113, 32, 45, 62, 32, 114, 10, 114, 117, 108, 101, 32, 100, 49, 32, 50, 58, 32, 114, 32, 61, 62, 32, 126, 116, 10, 112, 114, 111, 109, 111, 116, 101, 32, 100, 49, 32, 53, 32, 105, 102, 32, 113, 10]).bind fun r1 =>
  (m_rulebase_Format r1.1).bind fun r2 =>
  (m_rulebase_Parse [115, 116, 114, 105, 99, 116, 32, 115, 58, 32, 113, 44, 32, 112, 32, 45, 62, 32, 114, 10]).bind fun r3 =>
  (m_rulebase_Parse [97, 120, 105, 111, 109, 32, 112, 10, 114, 117, 108, 101, 32, 100, 32, 49, 50, 58, 32, 61, 62, 32, 112, 10]).bind fun r4 =>
  (
    if r1.2.2 == 0 then
      if r1.2.1 == 0 then
        if r2.2 == 0 then
          if r2.1 == [97, 120, 105, 111, 109, 32, 112, 10, 112, 114, 101, 109, 105, 115, 101, 32, 113, 32, 51, 32, 102, 114, 111, 109, 32, 97, 110, 110, 10, 115, 116, 114, 105, 99, 116, 32, 115, 49, 58, 32, 112, 44, 32, 113, 32, 45, 62, 32, 114, 10, 114, 117, 108, 101, 32, 100, 49, 32, 50, 58, 32, 114, 32, 61, 62, 32, 126, 116, 10, 112, 114, 111, 109, 111, 116, 101, 32, 100, 49, 32, 53, 32, 105, 102, 32, 113, 10] then
            if (len r1.1.2.1) == 2 then
              if r3.2.2 == 8 then
                if r3.2.1 == 0 then
                  if r4.2.2 == 3 then
                    if r4.2.1 == 2 then
                      (m_rulebase_Find r1.1 [100, 49]).bind fun r5 =>
                      some (r5 == 1)
                    else
                      some false
                  else
                    some false
                else
                  some false
              else
                some false
            else
              some false
          else
            some false
        else
          some false
      else
        some false
    else
      some false : Option Bool).bind fun s1 =>
  some s1

noncomputable def m_ref01_ValidName_L1 (y0 : Str) (s2 : Int) : Option (Int ⊕ Bool) :=
  if decide (s2 < (len y0)) then
    (
      (sidx y0 s2).bind fun x3 =>
      if decide (x3 < 97) then
        (sidx y0 s2).bind fun x4 =>
        if decide (x4 < 48) then
          (sidx y0 s2).bind fun x5 =>
          some (x5 != 95)
        else
          (sidx y0 s2).bind fun x6 =>
          if decide (57 < x6) then
            (sidx y0 s2).bind fun x7 =>
            some (x7 != 95)
          else
            some false
      else
        (sidx y0 s2).bind fun x8 =>
        if decide (122 < x8) then
          (sidx y0 s2).bind fun x9 =>
          if decide (x9 < 48) then
            (sidx y0 s2).bind fun x10 =>
            some (x10 != 95)
          else
            (sidx y0 s2).bind fun x11 =>
            if decide (57 < x11) then
              (sidx y0 s2).bind fun x12 =>
              some (x12 != 95)
            else
              some false
        else
          some false : Option Bool).bind fun s3 =>
    if s3 then
      some (.inr false)
    else
      some (.inl (w64 (s2 + 1)))
  else
    some (.inr true)

noncomputable def m_ref01_ValidName (y0 : Str) : Option Bool :=
  (
    if decide ((len y0) < 1) then
      some true
    else
      if decide (12 < (len y0)) then
        some true
      else
        (sidx y0 0).bind fun x1 =>
        if decide (x1 < 97) then
          some true
        else
          (sidx y0 0).bind fun x2 =>
          some (decide (122 < x2)) : Option Bool).bind fun s1 =>
  if s1 then
    some false
  else
    loop (m_ref01_ValidName_L1 y0) 0

noncomputable def m_ref01_Valid (y0 : T_Literal) : Option Bool :=
  (m_ref01_ValidName y0.2).bind fun r1 =>
  some r1

noncomputable def m_ref01_Format (y0 : T_Literal) : Option Str :=
  (m_ref01_Valid y0).bind fun r1 =>
  if !r1 then
    some []
  else
    if y0.1 then
      (cat [126] y0.2).bind fun x1 =>
      some x1
    else
      some y0.2

noncomputable def m_ref05_digit (y0 : Int) : Option Str :=
  (sub [48, 49, 50, 51, 52, 53, 54, 55, 56, 57] y0 (w64 (y0 + 1))).bind fun x1 =>
  some x1

noncomputable def m_ref05_source (y0 : T_Premise) : Option Str :=
  if y0.2.2.2 == [] then
    some []
  else
    (cat [32, 102, 114, 111, 109, 32] y0.2.2.2).bind fun x1 =>
    some x1

noncomputable def m_ref05_PremiseLine (y0 : T_Premise) : Option Str :=
  (m_ref01_Format y0.1).bind fun r1 =>
  if y0.2.1 == 1 then
    (cat [97, 120, 105, 111, 109, 32] r1).bind fun x1 =>
    (m_ref05_source y0).bind fun r2 =>
    (cat x1 r2).bind fun x2 =>
    some x2
  else
    if y0.2.1 == 2 then
      (cat [112, 114, 101, 109, 105, 115, 101, 32] r1).bind fun x3 =>
      (cat x3 [32]).bind fun x4 =>
      (m_ref05_digit y0.2.2.1).bind fun r3 =>
      (cat x4 r3).bind fun x5 =>
      (m_ref05_source y0).bind fun r4 =>
      (cat x5 r4).bind fun x6 =>
      some x6
    else
      (cat [97, 115, 115, 117, 109, 101, 32] r1).bind fun x7 =>
      (m_ref05_source y0).bind fun r5 =>
      (cat x7 r5).bind fun x8 =>
      some x8

noncomputable def m_ref05_PromotionLine (y0 : T_Promotion) : Option Str :=
  (cat [112, 114, 111, 109, 111, 116, 101, 32] y0.1).bind fun x1 =>
  (cat x1 [32]).bind fun x2 =>
  (m_ref05_digit y0.2.1).bind fun r1 =>
  (cat x2 r1).bind fun x3 =>
  (cat x3 [32, 105, 102, 32]).bind fun x4 =>
  (m_ref01_Format y0.2.2).bind fun r2 =>
  (cat x4 r2).bind fun x5 =>
  some x5

noncomputable def m_ref05_RuleLine_L1 (y0 : T_Rule) (s2 : Str × Int) : Option ((Str × Int) ⊕ Str) :=
  if decide (s2.2 < (len y0.2.2.2.1)) then
    (
      if decide (0 < s2.2) then
        (cat s2.1 [44]).bind fun x1 =>
        some x1
      else
        some s2.1 : Option Str).bind fun s3 =>
    (cat s3 [32]).bind fun x2 =>
    (idx y0.2.2.2.1 s2.2).bind fun x3 =>
    (m_ref01_Format x3).bind fun r1 =>
    (cat x2 r1).bind fun x4 =>
    some (.inl (x4, w64 (s2.2 + 1)))
  else
    some (.inr s2.1)

noncomputable def m_ref05_RuleLine (y0 : T_Rule) : Option Str :=
  (loop (m_ref05_RuleLine_L1 y0) ([], 0) : Option Str).bind fun s1 =>
  if y0.2.1 then
    (cat [115, 116, 114, 105, 99, 116, 32] y0.1).bind fun x5 =>
    (cat x5 [58]).bind fun x6 =>
    (cat x6 s1).bind fun x7 =>
    (cat x7 [32, 45, 62, 32]).bind fun x8 =>
    (m_ref01_Format y0.2.2.2.2).bind fun r2 =>
    (cat x8 r2).bind fun x9 =>
    some x9
  else
    (cat [114, 117, 108, 101, 32] y0.1).bind fun x10 =>
    (cat x10 [32]).bind fun x11 =>
    (m_ref05_digit y0.2.2.1).bind fun r3 =>
    (cat x11 r3).bind fun x12 =>
    (cat x12 [58]).bind fun x13 =>
    (cat x13 s1).bind fun x14 =>
    (cat x14 [32, 61, 62, 32]).bind fun x15 =>
    (m_ref01_Format y0.2.2.2.2).bind fun r4 =>
    (cat x15 r4).bind fun x16 =>
    some x16

noncomputable def m_ref05_Find_L1 (y0 : T_Base) (y1 : Str) (s1 : Int) : Option (Int ⊕ Int) :=
  if decide (s1 < (len y0.2.1)) then
    (idx y0.2.1 s1).bind fun x1 =>
    if x1.1 == y1 then
      some (.inr s1)
    else
      some (.inl (w64 (s1 + 1)))
  else
    some (.inr (-1))

noncomputable def m_ref05_Find (y0 : T_Base) (y1 : Str) : Option Int :=
  loop (m_ref05_Find_L1 y0 y1) 0

noncomputable def m_ref05_Premise_L1 (y0 : T_Base) (y1 : T_Literal) (s1 : Int) : Option (Int ⊕ Int) :=
  if decide (s1 < (len y0.1)) then
    (idx y0.1 s1).bind fun x1 =>
    if x1.1 == y1 then
      some (.inr s1)
    else
      some (.inl (w64 (s1 + 1)))
  else
    some (.inr (-1))

noncomputable def m_ref05_Premise (y0 : T_Base) (y1 : T_Literal) : Option Int :=
  loop (m_ref05_Premise_L1 y0 y1) 0

noncomputable def m_ref05_rank (y0 : Int) : Option Bool :=
  some ((decide (0 ≤ y0)) && (decide (y0 ≤ 9)))

noncomputable def m_ref05_premise (y0 : T_Premise) : Option Int :=
  if (decide (y0.2.1 < 1)) || (decide (3 < y0.2.1)) then
    some 4
  else
    (
      (m_ref01_Valid y0.1).bind fun r1 =>
      if !r1 then
        some true
      else
        (m_ref05_rank y0.2.2.1).bind fun r2 =>
        if !r2 then
          some true
        else
          if y0.2.1 != 2 then
            if y0.2.2.1 != 0 then
              some true
            else
              if !(y0.2.2.2 == []) then
                (m_ref01_ValidName y0.2.2.2).bind fun r3 =>
                some (!r3)
              else
                some false
          else
            if !(y0.2.2.2 == []) then
              (m_ref01_ValidName y0.2.2.2).bind fun r4 =>
              some (!r4)
            else
              some false : Option Bool).bind fun s1 =>
    if s1 then
      some 1
    else
      some 0

noncomputable def m_ref01_Compare (y0 : T_Literal) (y1 : T_Literal) : Option Int :=
  if y0 == y1 then
    some 0
  else
    if (sless y0.2 y1.2) || ((y0.2 == y1.2) && y1.1) then
      some (-1)
    else
      some 1

noncomputable def m_ref05_rule_L1 (y0 : T_Rule) (s3 : Bool × Int) : Option ((Bool × Int) ⊕ Bool) :=
  if decide (s3.2 < (len y0.2.2.2.1)) then
    (
      if s3.1 then
        (idx y0.2.2.2.1 s3.2).bind fun x1 =>
        (m_ref01_Valid x1).bind fun r5 =>
        some r5
      else
        some false : Option Bool).bind fun s4 =>
    some (.inl (s4, w64 (s3.2 + 1)))
  else
    some (.inr s3.1)

noncomputable def m_ref05_rule_L2 (y0 : T_Rule) (s5 : Int) : Option (Int ⊕ Int) :=
  if decide (s5 < (len y0.2.2.2.1)) then
    (idx y0.2.2.2.1 (w64 (s5 - 1))).bind fun x2 =>
    (idx y0.2.2.2.1 s5).bind fun x3 =>
    (m_ref01_Compare x2 x3).bind fun r6 =>
    if decide (0 ≤ r6) then
      some (.inr 8)
    else
      some (.inl (w64 (s5 + 1)))
  else
    some (.inr 0)

noncomputable def m_ref05_rule (y0 : T_Rule) : Option Int :=
  if decide (4 < (len y0.2.2.2.1)) then
    some 2
  else
    (
      (m_ref01_ValidName y0.1).bind fun r1 =>
      if r1 then
        (m_ref05_rank y0.2.2.1).bind fun r2 =>
        if r2 then
          if !y0.2.1 then
            (m_ref01_Valid y0.2.2.2.2).bind fun r3 =>
            some r3
          else
            if y0.2.2.1 == 0 then
              (m_ref01_Valid y0.2.2.2.2).bind fun r4 =>
              some r4
            else
              some false
        else
          some false
      else
        some false : Option Bool).bind fun s1 =>
    (loop (m_ref05_rule_L1 y0) (s1, 0) : Option Bool).bind fun s2 =>
    if !s2 then
      some 1
    else
      loop (m_ref05_rule_L2 y0) 1

noncomputable def m_ref05_Validate_L1 (y0 : T_Base) (s2 : Int) : Option (Int ⊕ (Unit ⊕ Int)) :=
  if decide (s2 < (len y0.1)) then
    (idx y0.1 s2).bind fun x1 =>
    (m_ref05_premise x1).bind fun r1 =>
    if r1 != 0 then
      some (.inr (.inr r1))
    else
      (idx y0.1 s2).bind fun x2 =>
      (m_ref05_Premise y0 x2.1).bind fun r2 =>
      if decide (r2 < s2) then
        some (.inr (.inr 5))
      else
        some (.inl (w64 (s2 + 1)))
  else
    some (.inr (.inl ()))

noncomputable def m_ref05_Validate_L2 (y0 : T_Base) (s4 : Int) : Option (Int ⊕ (Unit ⊕ Int)) :=
  if decide (s4 < (len y0.2.1)) then
    (idx y0.2.1 s4).bind fun x3 =>
    (m_ref05_rule x3).bind fun r3 =>
    if r3 != 0 then
      some (.inr (.inr r3))
    else
      (idx y0.2.1 s4).bind fun x4 =>
      (m_ref05_Find y0 x4.1).bind fun r4 =>
      if decide (r4 < s4) then
        some (.inr (.inr 5))
      else
        some (.inl (w64 (s4 + 1)))
  else
    some (.inr (.inl ()))

noncomputable def m_ref05_Validate_L3 (y0 : T_Base) (s5 : Int) : Option (Int ⊕ Int) :=
  if decide (s5 < (len y0.2.2)) then
    (idx y0.2.2 s5).bind fun x5 =>
    (
      (m_ref05_rank x5.2.1).bind fun r5 =>
      if !r5 then
        some true
      else
        (m_ref01_Valid x5.2.2).bind fun r6 =>
        some (!r6) : Option Bool).bind fun s6 =>
    if s6 then
      some (.inr 1)
    else
      (m_ref05_Find y0 x5.1).bind fun r7 =>
      if decide (r7 < 0) then
        some (.inr 6)
      else
        (idx y0.2.1 r7).bind fun x6 =>
        if x6.2.1 then
          some (.inr 4)
        else
          some (.inl (w64 (s5 + 1)))
  else
    some (.inr 0)

noncomputable def m_ref05_Validate (y0 : T_Base) : Option Int :=
  if (decide (16 < (len y0.1))) || ((decide (24 < (len y0.2.1))) || (decide (8 < (len y0.2.2)))) then
    some 2
  else
    seqE (loop (m_ref05_Validate_L1 y0) 0 : Option (Unit ⊕ Int)) fun _ =>
    seqE (loop (m_ref05_Validate_L2 y0) 0 : Option (Unit ⊕ Int)) fun _ =>
    loop (m_ref05_Validate_L3 y0) 0

noncomputable def m_ref05_Format_L1 (y0 : T_Base) (s2 : Str × Int) : Option ((Str × Int) ⊕ Str) :=
  if decide (s2.2 < (len y0.1)) then
    (idx y0.1 s2.2).bind fun x1 =>
    (m_ref05_PremiseLine x1).bind fun r2 =>
    (cat s2.1 r2).bind fun x2 =>
    (cat x2 [10]).bind fun x3 =>
    some (.inl (x3, w64 (s2.2 + 1)))
  else
    some (.inr s2.1)

noncomputable def m_ref05_Format_L2 (y0 : T_Base) (s4 : Str × Int) : Option ((Str × Int) ⊕ Str) :=
  if decide (s4.2 < (len y0.2.1)) then
    (idx y0.2.1 s4.2).bind fun x4 =>
    (m_ref05_RuleLine x4).bind fun r3 =>
    (cat s4.1 r3).bind fun x5 =>
    (cat x5 [10]).bind fun x6 =>
    some (.inl (x6, w64 (s4.2 + 1)))
  else
    some (.inr s4.1)

noncomputable def m_ref05_Format_L3 (y0 : T_Base) (s6 : Str × Int) : Option ((Str × Int) ⊕ Str) :=
  if decide (s6.2 < (len y0.2.2)) then
    (idx y0.2.2 s6.2).bind fun x7 =>
    (m_ref05_PromotionLine x7).bind fun r4 =>
    (cat s6.1 r4).bind fun x8 =>
    (cat x8 [10]).bind fun x9 =>
    some (.inl (x9, w64 (s6.2 + 1)))
  else
    some (.inr s6.1)

noncomputable def m_ref05_Format (y0 : T_Base) : Option (Str × Int) :=
  (m_ref05_Validate y0).bind fun r1 =>
  if r1 != 0 then
    some ([], r1)
  else
    (loop (m_ref05_Format_L1 y0) ([], 0) : Option Str).bind fun s1 =>
    (loop (m_ref05_Format_L2 y0) (s1, 0) : Option Str).bind fun s3 =>
    (loop (m_ref05_Format_L3 y0) (s3, 0) : Option Str).bind fun s5 =>
    if decide (4096 < (len s5)) then
      some ([], 2)
    else
      some (s5, 0)

noncomputable def m_ref01_Same_L1 (y0 : List T_Literal) (y1 : List T_Literal) (s1 : Int) : Option (Int ⊕ Bool) :=
  if decide (s1 < (len y0)) then
    (idx y0 s1).bind fun x1 =>
    (idx y1 s1).bind fun x2 =>
    if !(x1 == x2) then
      some (.inr false)
    else
      some (.inl (w64 (s1 + 1)))
  else
    some (.inr true)

noncomputable def m_ref01_Same (y0 : List T_Literal) (y1 : List T_Literal) : Option Bool :=
  if (len y0) != (len y1) then
    some false
  else
    loop (m_ref01_Same_L1 y0 y1) 0

noncomputable def m_ref05_Same_L1 (y0 : T_Base) (y1 : T_Base) (s2 : Int) : Option (Int ⊕ (Unit ⊕ Bool)) :=
  if decide (s2 < (len y0.1)) then
    (idx y0.1 s2).bind fun x1 =>
    (idx y1.1 s2).bind fun x2 =>
    if !(x1 == x2) then
      some (.inr (.inr false))
    else
      some (.inl (w64 (s2 + 1)))
  else
    some (.inr (.inl ()))

noncomputable def m_ref05_Same_L2 (y0 : T_Base) (y1 : T_Base) (s4 : Int) : Option (Int ⊕ (Unit ⊕ Bool)) :=
  if decide (s4 < (len y0.2.1)) then
    (
      (idx y0.2.1 s4).bind fun x3 =>
      (idx y1.2.1 s4).bind fun x4 =>
      some (x3, x4) : Option (T_Rule × T_Rule)).bind fun s5 =>
    (
      if !(s5.1.1 == s5.2.1) then
        some true
      else
        if !(s5.1.2.1 == s5.2.2.1) then
          some true
        else
          if s5.1.2.2.1 != s5.2.2.2.1 then
            some true
          else
            if !(s5.1.2.2.2.2 == s5.2.2.2.2.2) then
              some true
            else
              (m_ref01_Same s5.1.2.2.2.1 s5.2.2.2.2.1).bind fun r1 =>
              some (!r1) : Option Bool).bind fun s6 =>
    if s6 then
      some (.inr (.inr false))
    else
      some (.inl (w64 (s4 + 1)))
  else
    some (.inr (.inl ()))

noncomputable def m_ref05_Same_L3 (y0 : T_Base) (y1 : T_Base) (s7 : Int) : Option (Int ⊕ Bool) :=
  if decide (s7 < (len y0.2.2)) then
    (idx y0.2.2 s7).bind fun x5 =>
    (idx y1.2.2 s7).bind fun x6 =>
    if !(x5 == x6) then
      some (.inr false)
    else
      some (.inl (w64 (s7 + 1)))
  else
    some (.inr true)

noncomputable def m_ref05_Same (y0 : T_Base) (y1 : T_Base) : Option Bool :=
  if ((len y0.1) != (len y1.1)) || (((len y0.2.1) != (len y1.2.1)) || ((len y0.2.2) != (len y1.2.2))) then
    some false
  else
    seqE (loop (m_ref05_Same_L1 y0 y1) 0 : Option (Unit ⊕ Bool)) fun _ =>
    seqE (loop (m_ref05_Same_L2 y0 y1) 0 : Option (Unit ⊕ Bool)) fun _ =>
    loop (m_ref05_Same_L3 y0 y1) 0

noncomputable def m_slices_Equal_Literal_L1 (y0 : List T_Literal) (y1 : List T_Literal) (s1 : Int) : Option (Int ⊕ Bool) :=
  if decide (s1 < (len y0)) then
    (idx y0 s1).bind fun x1 =>
    (idx y1 s1).bind fun x2 =>
    if !(x1 == x2) then
      some (.inr false)
    else
      some (.inl (w64 (s1 + 1)))
  else
    some (.inr true)

noncomputable def m_slices_Equal_Literal (y0 : List T_Literal) (y1 : List T_Literal) : Option Bool :=
  if (len y0) != (len y1) then
    some false
  else
    loop (m_slices_Equal_Literal_L1 y0 y1) 0

noncomputable def m_rulebase_Same_1 (y0 : T_Rule) (y1 : T_Rule) : Option Bool :=
  (
    if y0.1 == y1.1 then
      if y0.2.1 == y1.2.1 then
        if y0.2.2.1 == y1.2.2.1 then
          if y0.2.2.2.2 == y1.2.2.2.2 then
            (m_slices_Equal_Literal y0.2.2.2.1 y1.2.2.2.1).bind fun r1 =>
            some r1
          else
            some false
        else
          some false
      else
        some false
    else
      some false : Option Bool).bind fun s1 =>
  some s1

noncomputable def m_slices_EqualFunc_Rule__rulebase_Same_1_L1 (y0 : List T_Rule) (y1 : List T_Rule) (s1 : Int) : Option (Int ⊕ Bool) :=
  if decide (s1 < (len y0)) then
    (idx y0 s1).bind fun x1 =>
    (idx y1 s1).bind fun x2 =>
    (m_rulebase_Same_1 x1 x2).bind fun r1 =>
    if !r1 then
      some (.inr false)
    else
      some (.inl (w64 (s1 + 1)))
  else
    some (.inr true)

noncomputable def m_slices_EqualFunc_Rule__rulebase_Same_1 (y0 : List T_Rule) (y1 : List T_Rule) : Option Bool :=
  if (len y0) != (len y1) then
    some false
  else
    loop (m_slices_EqualFunc_Rule__rulebase_Same_1_L1 y0 y1) 0

noncomputable def m_slices_Equal_Premise_L1 (y0 : List T_Premise) (y1 : List T_Premise) (s1 : Int) : Option (Int ⊕ Bool) :=
  if decide (s1 < (len y0)) then
    (idx y0 s1).bind fun x1 =>
    (idx y1 s1).bind fun x2 =>
    if !(x1 == x2) then
      some (.inr false)
    else
      some (.inl (w64 (s1 + 1)))
  else
    some (.inr true)

noncomputable def m_slices_Equal_Premise (y0 : List T_Premise) (y1 : List T_Premise) : Option Bool :=
  if (len y0) != (len y1) then
    some false
  else
    loop (m_slices_Equal_Premise_L1 y0 y1) 0

noncomputable def m_slices_Equal_Promotion_L1 (y0 : List T_Promotion) (y1 : List T_Promotion) (s1 : Int) : Option (Int ⊕ Bool) :=
  if decide (s1 < (len y0)) then
    (idx y0 s1).bind fun x1 =>
    (idx y1 s1).bind fun x2 =>
    if !(x1 == x2) then
      some (.inr false)
    else
      some (.inl (w64 (s1 + 1)))
  else
    some (.inr true)

noncomputable def m_slices_Equal_Promotion (y0 : List T_Promotion) (y1 : List T_Promotion) : Option Bool :=
  if (len y0) != (len y1) then
    some false
  else
    loop (m_slices_Equal_Promotion_L1 y0 y1) 0

noncomputable def m_rulebase_Same (y0 : T_Base) (y1 : T_Base) : Option Bool :=
  (
    (m_slices_Equal_Premise y0.1 y1.1).bind fun r1 =>
    if r1 then
      (m_slices_Equal_Promotion y0.2.2 y1.2.2).bind fun r2 =>
      if r2 then
        (m_slices_EqualFunc_Rule__rulebase_Same_1 y0.2.1 y1.2.1).bind fun r3 =>
        some r3
      else
        some false
    else
      some false : Option Bool).bind fun s1 =>
  some s1

noncomputable def m_law05_RulebaseFormats_L2 (y0 : T_Base) (y1 : T_Base) (r4 : T_Base × Int) (r5 : T_Base × Int) (r6 : T_Base × Int) (x1 : T_Base) (s3 : Int) (s4 : Int) : Option (Int ⊕ (Int ⊕ (Unit ⊕ Bool))) :=
  if decide (s4 < (len ([y0, y1, r4.1, r5.1, r6.1] : List T_Base))) then
    (idx ([y0, y1, r4.1, r5.1, r6.1] : List T_Base) s4).bind fun x2 =>
    (m_rulebase_Same x1 x2).bind fun r9 =>
    (m_ref05_Same x1 x2).bind fun r10 =>
    if !(r9 == r10) then
      some (.inr (.inr (.inr false)))
    else
      some (.inl (w64 (s4 + 1)))
  else
    some (.inr (.inl (w64 (s3 + 1))))

noncomputable def m_law05_RulebaseFormats_L1 (y0 : T_Base) (y1 : T_Base) (r4 : T_Base × Int) (r5 : T_Base × Int) (r6 : T_Base × Int) (s3 : Int) : Option (Int ⊕ (Unit ⊕ Bool)) :=
  if decide (s3 < (len ([y0, y1, r4.1, r5.1, r6.1] : List T_Base))) then
    (idx ([y0, y1, r4.1, r5.1, r6.1] : List T_Base) s3).bind fun x1 =>
    (m_rulebase_Format x1).bind fun r7 =>
    (m_ref05_Format x1).bind fun r8 =>
    if (!(r7.1 == r8.1)) || (r7.2 != r8.2) then
      some (.inr (.inr false))
    else
      loop (m_law05_RulebaseFormats_L2 y0 y1 r4 r5 r6 x1 s3) 0
  else
    some (.inr (.inl ()))

noncomputable def m_law05_RulebaseFormats (y0 : T_Base) (y1 : T_Base) (y2 : List Int) : Option Bool :=
  (
    (m_keep_SmallBase y0).bind fun r1 =>
    if !r1 then
      some true
    else
      (m_keep_SmallBase y1).bind fun r2 =>
      some (!r2) : Option Bool).bind fun s1 =>
  if s1 then
    some true
  else
    (m_keep_New y2).bind fun r3 =>
    (m_keep_Src_Base r3 4 6 8).bind fun r4 =>
    (m_keep_Src_SpoiltBase (r3.1, r4.2) r4.1).bind fun r5 =>
    (m_keep_Src_Base (r3.1, r5.2) 2 2 2).bind fun r6 =>
    seqE (loop (m_law05_RulebaseFormats_L1 y0 y1 r4 r5 r6) 0 : Option (Unit ⊕ Bool)) fun _ =>
    m_law05_awake.bind fun r11 =>
    some r11

noncomputable def m_ref01_Has_L1 (y0 : List T_Literal) (y1 : T_Literal) (s1 : Int) : Option (Int ⊕ Bool) :=
  if decide (s1 < (len y0)) then
    (idx y0 s1).bind fun x1 =>
    if x1 == y1 then
      some (.inr true)
    else
      some (.inl (w64 (s1 + 1)))
  else
    some (.inr false)

noncomputable def m_ref01_Has (y0 : List T_Literal) (y1 : T_Literal) : Option Bool :=
  loop (m_ref01_Has_L1 y0 y1) 0

noncomputable def m_ref05_Copy_L1 (y0 : T_Base) (s3 : Int × (List T_Rule)) : Option ((Int × (List T_Rule)) ⊕ (List T_Rule)) :=
  if decide (s3.1 < (len y0.2.1)) then
    (idx y0.2.1 s3.1).bind fun x27 =>
    (app ([] : List T_Literal) x27.2.2.2.1).bind fun x28 =>
    (app s3.2 ([(x27.1, x27.2.1, x27.2.2.1, x28, x27.2.2.2.2)] : List T_Rule)).bind fun x29 =>
    some (.inl (w64 (s3.1 + 1), x29))
  else
    some (.inr s3.2)

noncomputable def m_ref05_Copy (y0 : T_Base) : Option T_Base :=
  (
    (app ([] : List T_Premise) y0.1).bind fun x1 =>
    (app ([] : List T_Promotion) y0.2.2).bind fun x2 =>
    some (x1, ([] : List T_Rule), x2) : Option T_Base).bind fun s1 =>
  (loop (m_ref05_Copy_L1 y0) (0, s1.2.1) : Option (List T_Rule)).bind fun s2 =>
  some (s1.1, s2, s1.2.2)

noncomputable def m_ref05_Promote_L2 (y0 : T_Base) (s2 : Int × (List T_Rule)) (y1 : List T_Literal) (s3 : Int × (List T_Rule)) : Option ((Int × (List T_Rule)) ⊕ ((Int × (List T_Rule)) ⊕ (List T_Rule))) :=
  if decide (s3.1 < (len y0.2.2)) then
    (idx y0.2.2 s3.1).bind fun x1 =>
    (
      (idx s3.2 s2.1).bind fun x2 =>
      if x1.1 == x2.1 then
        (idx s3.2 s2.1).bind fun x3 =>
        if !x3.2.1 then
          (m_ref01_Has y1 x1.2.2).bind fun r2 =>
          some r2
        else
          some false
      else
        some false : Option Bool).bind fun s4 =>
    if s4 then
      (idx s3.2 s2.1).bind fun x4 =>
      some (.inl (w64 (s3.1 + 1), List.set s3.2 (Int.toNat s2.1) (x4.1, x4.2.1, x1.2.1, x4.2.2.2.1, x4.2.2.2.2)))
    else
      some (.inl (w64 (s3.1 + 1), s3.2))
  else
    some (.inr (.inl (w64 (s2.1 + 1), s3.2)))

noncomputable def m_ref05_Promote_L1 (y0 : T_Base) (y1 : List T_Literal) (s2 : Int × (List T_Rule)) : Option ((Int × (List T_Rule)) ⊕ (List T_Rule)) :=
  if decide (s2.1 < (len s2.2)) then
    loop (m_ref05_Promote_L2 y0 s2 y1) (0, s2.2)
  else
    some (.inr s2.2)

noncomputable def m_ref05_Promote (y0 : T_Base) (y1 : List T_Literal) : Option T_Base :=
  (m_ref05_Copy y0).bind fun r1 =>
  (loop (m_ref05_Promote_L1 y0 y1) (0, r1.2.1) : Option (List T_Rule)).bind fun s1 =>
  some (r1.1, s1, r1.2.2)

noncomputable def m_slices_Index_Literal_L1 (y0 : List T_Literal) (y1 : T_Literal) (s1 : Int) : Option (Int ⊕ Int) :=
  if decide (s1 < (len y0)) then
    (idx y0 s1).bind fun x1 =>
    if y1 == x1 then
      some (.inr s1)
    else
      some (.inl (w64 (s1 + 1)))
  else
    some (.inr (-1))

noncomputable def m_slices_Index_Literal (y0 : List T_Literal) (y1 : T_Literal) : Option Int :=
  loop (m_slices_Index_Literal_L1 y0 y1) 0

noncomputable def m_slices_Contains_Literal (y0 : List T_Literal) (y1 : T_Literal) : Option Bool :=
  (m_slices_Index_Literal y0 y1).bind fun r1 =>
  some (decide (0 ≤ r1))

noncomputable def m_literal_Has (y0 : List T_Literal) (y1 : T_Literal) : Option Bool :=
  (m_slices_Contains_Literal y0 y1).bind fun r1 =>
  some r1

noncomputable def m_slices_Clone_Literal (y0 : List T_Literal) : Option (List T_Literal) :=
  (app ([] : List T_Literal) y0).bind fun x1 =>
  some x1

noncomputable def m_slices_Clone_Premise (y0 : List T_Premise) : Option (List T_Premise) :=
  (app ([] : List T_Premise) y0).bind fun x1 =>
  some x1

noncomputable def m_slices_Clone_Promotion (y0 : List T_Promotion) : Option (List T_Promotion) :=
  (app ([] : List T_Promotion) y0).bind fun x1 =>
  some x1

noncomputable def m_slices_Clone_Rule (y0 : List T_Rule) : Option (List T_Rule) :=
  (app ([] : List T_Rule) y0).bind fun x1 =>
  some x1

noncomputable def m_rulebase_Promote_L2 (y0 : T_Base) (x1 : T_Rule) (y1 : List T_Literal) (s3 : Int × (List T_Rule)) (s4 : Int × (List T_Rule)) : Option ((Int × (List T_Rule)) ⊕ ((Int × (List T_Rule)) ⊕ (List T_Rule))) :=
  if decide (s4.1 < (len y0.2.2)) then
    (idx y0.2.2 s4.1).bind fun x3 =>
    (
      if !x1.2.1 then
        if x3.1 == x1.1 then
          (m_literal_Has y1 x3.2.2).bind fun r11 =>
          some r11
        else
          some false
      else
        some false : Option Bool).bind fun s5 =>
    if s5 then
      (idx s4.2 s3.1).bind fun x4 =>
      some (.inl (w64 (s4.1 + 1), List.set s4.2 (Int.toNat s3.1) (x4.1, x4.2.1, x3.2.1, x4.2.2.2.1, x4.2.2.2.2)))
    else
      some (.inl (w64 (s4.1 + 1), s4.2))
  else
    some (.inr (.inl (w64 (s3.1 + 1), s4.2)))

noncomputable def m_rulebase_Promote_L1 (y0 : T_Base) (y1 : List T_Literal) (s3 : Int × (List T_Rule)) : Option ((Int × (List T_Rule)) ⊕ (List T_Rule)) :=
  if decide (s3.1 < (len y0.2.1)) then
    (idx y0.2.1 s3.1).bind fun x1 =>
    (m_slices_Clone_Literal x1.2.2.2.1).bind fun r10 =>
    (idx s3.2 s3.1).bind fun x2 =>
    loop (m_rulebase_Promote_L2 y0 x1 y1 s3) (0, List.set s3.2 (Int.toNat s3.1) (x2.1, x2.2.1, x2.2.2.1, r10, x2.2.2.2.2))
  else
    some (.inr s3.2)

noncomputable def m_rulebase_Promote (y0 : T_Base) (y1 : List T_Literal) : Option T_Base :=
  (
    (m_slices_Clone_Premise y0.1).bind fun r1 =>
    (m_slices_Clone_Rule y0.2.1).bind fun r2 =>
    (m_slices_Clone_Promotion y0.2.2).bind fun r3 =>
    some (r1, r2, r3) : Option T_Base).bind fun s1 =>
  (loop (m_rulebase_Promote_L1 y0 y1) (0, s1.2.1) : Option (List T_Rule)).bind fun s2 =>
  some (s1.1, s2, s1.2.2)

noncomputable def m_law05_RulebasePromotes_L2 (y1 : List T_Literal) (r5 : (List T_Literal) × Int) (x1 : T_Base) (s3 : Int × Int) (s4 : Int) : Option (Int ⊕ ((Int × Int) ⊕ (Unit ⊕ Bool))) :=
  if decide (s4 < (len ([y1, r5.1, ([] : List T_Literal)] : List (List T_Literal)))) then
    (idx ([y1, r5.1, ([] : List T_Literal)] : List (List T_Literal)) s4).bind fun x2 =>
    (m_rulebase_Promote x1 x2).bind fun r6 =>
    (
      (m_ref05_Promote x1 x2).bind fun r7 =>
      (m_ref05_Same r6 r7).bind fun r8 =>
      if !r8 then
        some true
      else
        (m_rulebase_Promote r6 x2).bind fun r9 =>
        (m_ref05_Same r9 r6).bind fun r10 =>
        if !r10 then
          some true
        else
          (m_ref05_Validate x1).bind fun r11 =>
          if r11 == 0 then
            (m_rulebase_Validate r6).bind fun r12 =>
            some (r12 != 0)
          else
            some false : Option Bool).bind fun s5 =>
    if s5 then
      some (.inr (.inr (.inr false)))
    else
      some (.inl (w64 (s4 + 1)))
  else
    some (.inr (.inl (w64 (s3.1 + 1), r5.2)))

noncomputable def m_law05_RulebasePromotes_L1 (y0 : T_Base) (r3 : T_Base × Int) (r4 : T_Base × Int) (r2 : T_keep_Src) (y1 : List T_Literal) (s3 : Int × Int) : Option ((Int × Int) ⊕ (Unit ⊕ Bool)) :=
  if decide (s3.1 < (len ([y0, r3.1, r4.1] : List T_Base))) then
    (idx ([y0, r3.1, r4.1] : List T_Base) s3.1).bind fun x1 =>
    (m_keep_Src_Literals (r2.1, s3.2) 4 3).bind fun r5 =>
    loop (m_law05_RulebasePromotes_L2 y1 r5 x1 s3) 0
  else
    some (.inr (.inl ()))

noncomputable def m_law05_RulebasePromotes (y0 : T_Base) (y1 : List T_Literal) (y2 : List Int) : Option Bool :=
  (
    (m_keep_SmallBase y0).bind fun r1 =>
    if !r1 then
      some true
    else
      some (decide (20 < (len y1))) : Option Bool).bind fun s1 =>
  if s1 then
    some true
  else
    (m_keep_New y2).bind fun r2 =>
    (m_keep_Src_Base r2 3 4 6).bind fun r3 =>
    seqE (
      (m_keep_Src_SpoiltBase (r2.1, r3.2) r3.1).bind fun r4 =>
      loop (m_law05_RulebasePromotes_L1 y0 r3 r4 r2 y1) (0, r4.2) : Option (Unit ⊕ Bool)) fun _ =>
    (
      (m_rulebase_Promote r3.1 ([] : List T_Literal)).bind fun r13 =>
      (m_ref05_Same r13 r3.1).bind fun r14 =>
      if r14 then
        m_law05_awake.bind fun r15 =>
        some r15
      else
        some false : Option Bool).bind fun s6 =>
    some s6

end Go.GD
