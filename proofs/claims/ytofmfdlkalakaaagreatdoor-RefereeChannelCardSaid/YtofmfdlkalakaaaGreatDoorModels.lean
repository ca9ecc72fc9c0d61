/- Models of the Go functions, printed by program (gd2). Conditions: none. -/
import Derived.Test.YtofmfdlkalakaaaGreatDoorLib
namespace Go.GD
set_option autoImplicit false
set_option linter.unusedVariables false

abbrev T_keep_Src := (List Int) × Int
abbrev T_Pair := Int × Int
abbrev T_Graph := Int × (List T_Pair)
abbrev T_Move := Int × Int × Int × Int
abbrev T_Dialogue := T_Graph × Int × (Int × Int) × (List T_Move)
abbrev T_Player := (List Int) × (List Int) × (List T_Move) × Int
abbrev T_Outcome := Int × Int
abbrev T_Packet := Bool × Int × Int
abbrev T_Channel := (List Int) × Int × Int × (List Int) × (List T_Packet) × (List T_Packet)
abbrev T_NetEvent := Int × Int
abbrev T_Transcript := T_Graph × Int × (Int × Int) × (List T_Move)
abbrev T_protocol_table := T_Dialogue × (List Int) × Int × (List Bool)
abbrev T_referee_reader := T_Transcript × Int

def tab_referee_players : List Str := [[], [80], [79]]

noncomputable def m_channel_Done (y0 : T_Channel) : Option Bool :=
  some (y0.2.2.1 == (len y0.1))

noncomputable def m_slices_Clone_Packet (y0 : List T_Packet) : Option (List T_Packet) :=
  (app ([] : List T_Packet) y0).bind fun x1 =>
  some x1

noncomputable def m_slices_Clone_int (y0 : List Int) : Option (List Int) :=
  (app ([] : List Int) y0).bind fun x1 =>
  some x1

noncomputable def m_channel_copied (y0 : T_Channel) : Option T_Channel :=
  (m_slices_Clone_int y0.1).bind fun r1 =>
  (m_slices_Clone_int y0.2.2.2.1).bind fun r2 =>
  (m_slices_Clone_Packet y0.2.2.2.2.1).bind fun r3 =>
  (m_slices_Clone_Packet y0.2.2.2.2.2).bind fun r4 =>
  some (r1, y0.2.1, y0.2.2.1, r2, r3, r4)

noncomputable def m_channel_line_full (y0 : T_Channel) : Option Bool :=
  some (decide (200 ≤ (len y0.2.2.2.2.2)))

noncomputable def m_channel_line_receive_1 (y0 : T_Packet) (y1 : Int) : Option Int :=
  some (w64 (y0.2.1 - y1))

noncomputable def m_slices_BinarySearchFunc_int__channel_line_receive_1_L1 (y0 : List T_Packet) (y1 : Int) (s2 : Int × Int) : Option ((Int × Int) ⊕ Int) :=
  if decide (s2.1 < s2.2) then
    (idx y0 (w64 (shr .u64 (IntKind.u64.wrap (w64 (s2.1 + s2.2))) 1))).bind fun x1 =>
    (m_channel_line_receive_1 x1 y1).bind fun r1 =>
    if decide (r1 < 0) then
      some (.inl (w64 ((w64 (shr .u64 (IntKind.u64.wrap (w64 (s2.1 + s2.2))) 1)) + 1), s2.2))
    else
      some (.inl (s2.1, w64 (shr .u64 (IntKind.u64.wrap (w64 (s2.1 + s2.2))) 1)))
  else
    some (.inr s2.1)

noncomputable def m_slices_BinarySearchFunc_int__channel_line_receive_1 (y0 : List T_Packet) (y1 : Int) : Option (Int × Bool) :=
  (loop (m_slices_BinarySearchFunc_int__channel_line_receive_1_L1 y0 y1) (0, len y0) : Option Int).bind fun s1 =>
  (
    if decide (s1 < (len y0)) then
      (idx y0 s1).bind fun x2 =>
      (m_channel_line_receive_1 x2 y1).bind fun r2 =>
      some (s1, r2 == 0)
    else
      some (s1, false) : Option (Int × Bool)).bind fun s3 =>
  some (s3.1, s3.2)

noncomputable def m_slices_Insert_Packet (y0 : List T_Packet) (y1 : Int) (y2 : List T_Packet) : Option (List T_Packet) := insM y0 y1 y2

noncomputable def m_channel_line_receive_L1 (s3 : (List Int) × (List T_Packet)) : Option (((List Int) × (List T_Packet)) ⊕ ((List Int) × (List T_Packet))) :=
  (
    if decide (0 < (len s3.2)) then
      (idx s3.2 0).bind fun x1 =>
      some (x1.2.1 == (len s3.1))
    else
      some false : Option Bool).bind fun s4 =>
  if s4 then
    (idx s3.2 0).bind fun x2 =>
    (app s3.1 ([x2.2.2] : List Int)).bind fun x3 =>
    (sub s3.2 1 (len s3.2)).bind fun x4 =>
    some (.inl (x3, x4))
  else
    some (.inr (s3.1, s3.2))

noncomputable def m_channel_line_receive (y0 : T_Channel) (y1 : T_Packet) : Option ((List Int) × (List T_Packet) × (List T_Packet)) :=
  (m_slices_BinarySearchFunc_int__channel_line_receive_1 y0.2.2.2.2.1 y1.2.1).bind fun r1 =>
  (
    if (decide ((len y0.2.2.2.1) ≤ y1.2.1)) && ((decide (y1.2.1 < (w64 ((len y0.2.2.2.1) + y0.2.1)))) && (!r1.2)) then
      (m_slices_Insert_Packet y0.2.2.2.2.1 r1.1 ([y1] : List T_Packet)).bind fun r2 =>
      some r2
    else
      some y0.2.2.2.2.1 : Option (List T_Packet)).bind fun s1 =>
  (loop (m_channel_line_receive_L1) (y0.2.2.2.1, s1) : Option ((List Int) × (List T_Packet))).bind fun s2 =>
  (m_channel_line_full (y0.1, y0.2.1, y0.2.2.1, s2.1, s2.2, y0.2.2.2.2.2)).bind fun r3 =>
  if !r3 then
    (app y0.2.2.2.2.2 ([(true, len s2.1, 0)] : List T_Packet)).bind fun x5 =>
    some (s2.1, s2.2, x5)
  else
    some (s2.1, s2.2, y0.2.2.2.2.2)

noncomputable def m_slices_Delete_Packet (y0 : List T_Packet) (y1 y2 : Int) : Option (List T_Packet) := delM y0 y1 y2

noncomputable def m_channel_line_deliver (y0 : T_Channel) (y1 : Int) : Option (Int × (List Int) × (List T_Packet) × (List T_Packet)) :=
  (idx y0.2.2.2.2.2 y1).bind fun x1 =>
  (m_slices_Delete_Packet y0.2.2.2.2.2 y1 (w64 (y1 + 1))).bind fun r1 =>
  if x1.1 then
    some (if x1.2.1 > y0.2.2.1 then x1.2.1 else y0.2.2.1, y0.2.2.2.1, y0.2.2.2.2.1, r1)
  else
    (m_channel_line_receive (y0.1, y0.2.1, y0.2.2.1, y0.2.2.2.1, y0.2.2.2.2.1, r1) x1).bind fun r2 =>
    some (y0.2.2.1, r2.1, r2.2.1, r2.2.2)

noncomputable def m_channel_line_send_3 (y0 : T_Channel) (y1 : Int) : Option (Int × (List T_Packet)) :=
  if (decide (y1 < 0)) || ((decide (y0.2.1 ≤ y1)) || ((decide ((w64 (y0.2.2.1 + y1)) < 0)) || (decide ((len y0.1) ≤ (w64 (y0.2.2.1 + y1)))))) then
    some (1, y0.2.2.2.2.2)
  else
    (m_channel_line_full y0).bind fun r1 =>
    if r1 then
      some (2, y0.2.2.2.2.2)
    else
      (idx y0.1 (w64 (y0.2.2.1 + y1))).bind fun x1 =>
      (app y0.2.2.2.2.2 ([(false, w64 (y0.2.2.1 + y1), x1)] : List T_Packet)).bind fun x2 =>
      some (0, x2)

noncomputable def m_channel_Finish_L1 (r1 : T_Channel) (s1 : Int × Int × (List Int) × (List T_Packet) × (List T_Packet)) : Option ((Int × Int × (List Int) × (List T_Packet) × (List T_Packet)) ⊕ (T_Channel × Int)) :=
  (
    (m_channel_Done (r1.1, r1.2.1, s1.2.1, s1.2.2.1, s1.2.2.2.1, ([] : List T_Packet))).bind fun r2 =>
    if r2 then
      some (true, ([] : List T_Packet))
    else
      (m_channel_line_send_3 (r1.1, r1.2.1, s1.2.1, s1.2.2.1, s1.2.2.2.1, ([] : List T_Packet)) 0).bind fun r3 =>
      some (r3.1 != 0, r3.2) : Option (Bool × (List T_Packet))).bind fun s2 =>
  if s2.1 then
    some (.inr ((r1.1, r1.2.1, s1.2.1, s1.2.2.1, s1.2.2.2.1, s2.2), s1.1))
  else
    (m_channel_line_deliver (r1.1, r1.2.1, s1.2.1, s1.2.2.1, s1.2.2.2.1, s2.2) 0).bind fun r4 =>
    (m_channel_line_deliver (r1.1, r1.2.1, r4.1, r4.2.1, r4.2.2.1, r4.2.2.2) 0).bind fun r5 =>
    if r5.1 == s1.2.1 then
      some (.inr ((r1.1, r1.2.1, r5.1, r5.2.1, r5.2.2.1, r5.2.2.2), w64 (s1.1 + 1)))
    else
      some (.inl (w64 (s1.1 + 1), r5.1, r5.2.1, r5.2.2.1, r5.2.2.2))

noncomputable def m_channel_Finish (y0 : T_Channel) : Option (T_Channel × Int) :=
  (m_channel_copied y0).bind fun r1 =>
  loop (m_channel_Finish_L1 r1) (0, r1.2.2.1, r1.2.2.2.1, r1.2.2.2.2.1, r1.2.2.2.2.2)

noncomputable def m_channel_New (y0 : List Int) (y1 : Int) : Option (T_Channel × Int) :=
  if decide (60 < (len y0)) then
    some ((([] : List Int), 0, 0, ([] : List Int), ([] : List T_Packet), ([] : List T_Packet)), 2)
  else
    if (decide (y1 < 1)) || (decide (8 < y1)) then
      some ((([] : List Int), 0, 0, ([] : List Int), ([] : List T_Packet), ([] : List T_Packet)), 1)
    else
      (m_slices_Clone_int y0).bind fun r1 =>
      some ((r1, y1, 0, ([] : List Int), ([] : List T_Packet), ([] : List T_Packet)), 0)

noncomputable def m_channel_line_send (y0 : T_Channel) (y1 : Int) : Option (Int × (List T_Packet)) :=
  if (decide (y1 < 0)) || ((decide (y0.2.1 ≤ y1)) || ((decide ((w64 (y0.2.2.1 + y1)) < 0)) || (decide ((len y0.1) ≤ (w64 (y0.2.2.1 + y1)))))) then
    some (1, y0.2.2.2.2.2)
  else
    (m_channel_line_full y0).bind fun r1 =>
    if r1 then
      some (2, y0.2.2.2.2.2)
    else
      (idx y0.1 (w64 (y0.2.2.1 + y1))).bind fun x1 =>
      (app y0.2.2.2.2.2 ([(false, w64 (y0.2.2.1 + y1), x1)] : List T_Packet)).bind fun x2 =>
      some (0, x2)

noncomputable def m_channel_Step (y0 : T_Channel) (y1 : T_NetEvent) : Option (T_Channel × Int) :=
  (m_channel_copied y0).bind fun r1 =>
  if y1.1 == 1 then
    (m_channel_line_send r1 y1.2).bind fun r2 =>
    if r2.1 != 0 then
      some ((([] : List Int), 0, 0, ([] : List Int), ([] : List T_Packet), ([] : List T_Packet)), r2.1)
    else
      some ((r1.1, r1.2.1, r1.2.2.1, r1.2.2.2.1, r1.2.2.2.2.1, r2.2), 0)
  else
    (
      if y1.1 == 2 then
        some (y1.1 == 2)
      else
        if y1.1 == 3 then
          some (y1.1 == 3)
        else
          some (y1.1 == 4) : Option Bool).bind fun s1 =>
    if s1 then
      if (decide (y1.2 < 0)) || (decide ((len y0.2.2.2.2.2) ≤ y1.2)) then
        some ((([] : List Int), 0, 0, ([] : List Int), ([] : List T_Packet), ([] : List T_Packet)), 1)
      else
        seqE (
          if y1.1 == 2 then
            (m_channel_line_deliver r1 y1.2).bind fun r3 =>
            some (.inl (r3.1, r3.2.1, r3.2.2.1, r3.2.2.2))
          else
            if y1.1 == 3 then
              (m_slices_Delete_Packet r1.2.2.2.2.2 y1.2 (w64 (y1.2 + 1))).bind fun r4 =>
              some (.inl (r1.2.2.1, r1.2.2.2.1, r1.2.2.2.2.1, r4))
            else
              (m_channel_line_full r1).bind fun r5 =>
              if r5 then
                some (.inr ((([] : List Int), 0, 0, ([] : List Int), ([] : List T_Packet), ([] : List T_Packet)), 2))
              else
                (idx r1.2.2.2.2.2 y1.2).bind fun x1 =>
                (app r1.2.2.2.2.2 ([x1] : List T_Packet)).bind fun x2 =>
                some (.inl (r1.2.2.1, r1.2.2.2.1, r1.2.2.2.2.1, x2)) : Option ((Int × (List Int) × (List T_Packet) × (List T_Packet)) ⊕ (T_Channel × Int))) fun s2 =>
        some ((r1.1, r1.2.1, s2.1, s2.2.1, s2.2.2.1, s2.2.2.2), 0)
    else
      some ((([] : List Int), 0, 0, ([] : List Int), ([] : List T_Packet), ([] : List T_Packet)), 4)

noncomputable def m_keep_New (y0 : List Int) : Option T_keep_Src :=
  (sub y0 0 (if 2000 < (len y0) then 2000 else len y0)).bind fun x1 =>
  some (x1, 0)

noncomputable def m_keep_Src_More (y0 : T_keep_Src) : Option Bool :=
  some (decide (y0.2 < (len y0.1)))

noncomputable def m_keep_Mod (y0 : Int) (y1 : Int) : Option Int :=
  if decide (y1 < 1) then
    some 0
  else
    (remK y0 y1).bind fun x1 =>
    if decide (x1 < 0) then
      some (w64 (x1 + y1))
    else
      some x1

noncomputable def m_keep_Src_Raw (y0 : T_keep_Src) : Option (Int × Int) :=
  if decide ((len y0.1) ≤ y0.2) then
    some (0, y0.2)
  else
    (idx y0.1 (w64 ((w64 (y0.2 + 1)) - 1))).bind fun x1 =>
    some (x1, w64 (y0.2 + 1))

noncomputable def m_keep_Src_N (y0 : T_keep_Src) (y1 : Int) : Option (Int × Int) :=
  (m_keep_Src_Raw y0).bind fun r1 =>
  (m_keep_Mod r1.1 y1).bind fun r2 =>
  some (r2, r1.2)

noncomputable def m_keep_Src_Pick (y0 : T_keep_Src) (y1 : List Int) : Option (Int × Int) :=
  (m_keep_Src_N y0 (len y1)).bind fun r1 =>
  (idx y1 r1.1).bind fun x1 =>
  some (x1, r1.2)

noncomputable def m_keep_Src_Range (y0 : T_keep_Src) (y1 : Int) (y2 : Int) : Option (Int × Int) :=
  (m_keep_Src_N y0 (w64 ((w64 (y2 - y1)) + 1))).bind fun r1 =>
  some (w64 (y1 + r1.1), r1.2)

noncomputable def m_net_Pairs_L1 (y0 : List T_Pair) (y1 : List T_Pair) (s1 : Int) : Option (Int ⊕ Bool) :=
  if decide (s1 < (len y0)) then
    (idx y0 s1).bind fun x1 =>
    (idx y1 s1).bind fun x2 =>
    if !(x1 == x2) then
      some (.inr false)
    else
      some (.inl (w64 (s1 + 1)))
  else
    some (.inr true)

noncomputable def m_net_Pairs (y0 : List T_Pair) (y1 : List T_Pair) : Option Bool :=
  if (len y0) != (len y1) then
    some false
  else
    loop (m_net_Pairs_L1 y0 y1) 0

noncomputable def m_net_Same (y0 : T_Graph) (y1 : T_Graph) : Option Bool :=
  (
    if y0.1 == y1.1 then
      (m_net_Pairs y0.2 y1.2).bind fun r1 =>
      some r1
    else
      some false : Option Bool).bind fun s1 =>
  some s1

noncomputable def m_ref27_SameMoves_L1 (y0 : List T_Move) (y1 : List T_Move) (s1 : Int) : Option (Int ⊕ Bool) :=
  if decide (s1 < (len y0)) then
    (idx y0 s1).bind fun x1 =>
    (idx y1 s1).bind fun x2 =>
    if !(x1 == x2) then
      some (.inr false)
    else
      some (.inl (w64 (s1 + 1)))
  else
    some (.inr true)

noncomputable def m_ref27_SameMoves (y0 : List T_Move) (y1 : List T_Move) : Option Bool :=
  if (len y0) != (len y1) then
    some false
  else
    loop (m_ref27_SameMoves_L1 y0 y1) 0

noncomputable def m_ref30_Same (y0 : T_Transcript) (y1 : T_Transcript) : Option Bool :=
  (
    (m_net_Same y0.1 y1.1).bind fun r1 =>
    if r1 then
      if y0.2.1 == y1.2.1 then
        if y0.2.2.1 == y1.2.2.1 then
          (m_ref27_SameMoves y0.2.2.2 y1.2.2.2).bind fun r2 =>
          some r2
        else
          some false
      else
        some false
    else
      some false : Option Bool).bind fun s1 =>
  some s1

noncomputable def m_cmp_isNaN_int (y0 : Int) : Option Bool :=
  some (y0 != y0)

noncomputable def m_cmp_Compare_int (y0 : Int) (y1 : Int) : Option Int :=
  (m_cmp_isNaN_int y0).bind fun r1 =>
  (m_cmp_isNaN_int y1).bind fun r2 =>
  if r1 then
    if r2 then
      some 0
    else
      some (-1)
  else
    if r2 then
      some 1
    else
      if decide (y0 < y1) then
        some (-1)
      else
        if decide (y1 < y0) then
          some 1
        else
          some 0

noncomputable def m_cmp_Or_int_L1 (y0 : List Int) (s1 : Int) : Option (Int ⊕ Int) :=
  if decide (s1 < (len y0)) then
    (idx y0 s1).bind fun x1 =>
    if x1 != 0 then
      some (.inr x1)
    else
      some (.inl (w64 (s1 + 1)))
  else
    some (.inr 0)

noncomputable def m_cmp_Or_int (y0 : List Int) : Option Int :=
  loop (m_cmp_Or_int_L1 y0) 0

noncomputable def m_graph_compare (y0 : T_Pair) (y1 : T_Pair) : Option Int :=
  (m_cmp_Compare_int y0.1 y1.1).bind fun r1 =>
  (m_cmp_Compare_int y0.2 y1.2).bind fun r2 =>
  (m_cmp_Or_int ([r1, r2] : List Int)).bind fun r3 =>
  some r3

noncomputable def m_graph_Validate_L1 (y0 : T_Graph) (s1 : Int) : Option (Int ⊕ Int) :=
  if decide (s1 < (len y0.2)) then
    (idx y0.2 s1).bind fun x1 =>
    if (decide ((if x1.2 < x1.1 then x1.2 else x1.1) < 0)) || (decide (y0.1 ≤ (if x1.2 > x1.1 then x1.2 else x1.1))) then
      some (.inr 1)
    else
      (
        if decide (0 < s1) then
          (idx y0.2 (w64 (s1 - 1))).bind fun x2 =>
          (m_graph_compare x2 x1).bind fun r1 =>
          some (decide (0 ≤ r1))
        else
          some false : Option Bool).bind fun s2 =>
      if s2 then
        some (.inr 8)
      else
        some (.inl (w64 (s1 + 1)))
  else
    some (.inr 0)

noncomputable def m_graph_Validate (y0 : T_Graph) : Option Int :=
  if (decide (y0.1 < 0)) || (decide (40 < y0.1)) then
    some 1
  else
    loop (m_graph_Validate_L1 y0) 0

noncomputable def m_referee_in (y0 : Int) : Option Bool :=
  some ((decide (0 ≤ y0)) && (decide (y0 ≤ 200)))

noncomputable def m_referee_plain (y0 : T_Move) : Option Bool :=
  (
    if y0.1 != 1 then
      if y0.1 != 2 then
        some true
      else
        (m_referee_in y0.2.2.1).bind fun r1 =>
        if !r1 then
          some true
        else
          (m_referee_in y0.2.2.2).bind fun r2 =>
          some (!r2)
    else
      (m_referee_in y0.2.2.1).bind fun r3 =>
      if !r3 then
        some true
      else
        (m_referee_in y0.2.2.2).bind fun r4 =>
        some (!r4) : Option Bool).bind fun s1 =>
  if s1 then
    some false
  else
    if y0.2.1 == 1 then
      some (y0.2.2.2 == 0)
    else
      if y0.2.1 == 2 then
        some true
      else
        if y0.2.1 == 3 then
          some (y0.2.2.1 == 0)
        else
          if y0.2.1 == 4 then
            some ((y0.2.2.1 == 0) && (y0.2.2.2 == 0))
          else
            some false

noncomputable def m_referee_check_L1 (y0 : T_Transcript) (s2 : Int) : Option (Int ⊕ Int) :=
  if decide (s2 < (len y0.2.2.2)) then
    (idx y0.2.2.2 s2).bind fun x1 =>
    (m_referee_plain x1).bind fun r5 =>
    if !r5 then
      some (.inr 1)
    else
      some (.inl (w64 (s2 + 1)))
  else
    some (.inr 0)

noncomputable def m_referee_check (y0 : T_Transcript) : Option Int :=
  (m_graph_Validate y0.1).bind fun r1 =>
  if r1 != 0 then
    some r1
  else
    (
      (m_referee_in y0.2.1).bind fun r2 =>
      if !r2 then
        some true
      else
        (m_referee_in y0.2.2.1.1).bind fun r3 =>
        if !r3 then
          some true
        else
          (m_referee_in y0.2.2.1.2).bind fun r4 =>
          if !r4 then
            some true
          else
            some (decide (200 < (len y0.2.2.2))) : Option Bool).bind fun s1 =>
    if s1 then
      some 1
    else
      loop (m_referee_check_L1 y0) 0

noncomputable def m_internal_strconv_FormatInt (y0 : Int) (y1 : Int) : Option Str := fmt10 y0 y1

noncomputable def m_internal_strconv_Itoa (y0 : Int) : Option Str :=
  (m_internal_strconv_FormatInt y0 10).bind fun r1 =>
  some r1

noncomputable def m_strconv_Itoa (y0 : Int) : Option Str :=
  (m_internal_strconv_Itoa y0).bind fun r1 =>
  some r1

noncomputable def m_strings_Builder_WriteByte_2 (y0 : Str) (y1 : Int) : Option (Unit × Str) :=
  (some () : Option Unit).bind fun _ =>
  (chk (decide (0 ≤ y1) && decide (y1 < 256) && decide (len y0 + 1 < 4294967296))).bind fun _ =>
  some ((), y0 ++ [UInt8.ofNat y1.toNat])

noncomputable def m_strings_Builder_WriteString_2 (y0 : Str) (y1 : Str) : Option (Int × Unit × Str) := wstrM y0 y1

noncomputable def m_referee_writer_line_L1 (y1 : List An) (s2 : Int × Str) : Option ((Int × Str) ⊕ Str) :=
  if decide (s2.1 < (len y1)) then
    (idx y1 s2.1).bind fun x1 =>
    (
      if decide (0 < s2.1) then
        (m_strings_Builder_WriteByte_2 s2.2 32).bind fun r1 =>
        some r1.2
      else
        some s2.2 : Option Str).bind fun s3 =>
    if An.isI x1 then
      (m_strconv_Itoa (An.int x1)).bind fun r2 =>
      (m_strings_Builder_WriteString_2 s3 r2).bind fun r3 =>
      some (.inl (w64 (s2.1 + 1), r3.2.2))
    else
      if An.isS x1 then
        (m_strings_Builder_WriteString_2 s3 (An.str x1)).bind fun r4 =>
        some (.inl (w64 (s2.1 + 1), r4.2.2))
      else
        some (.inl (w64 (s2.1 + 1), s3))
  else
    some (.inr s2.2)

noncomputable def m_referee_writer_line (y0 : Str) (y1 : List An) : Option Str :=
  (loop (m_referee_writer_line_L1 y1) (0, y0) : Option Str).bind fun s1 =>
  (m_strings_Builder_WriteByte_2 s1 10).bind fun r5 =>
  some r5.2

noncomputable def m_strings_Builder_Len_2 (y0 : Str) : Option Int := some (len y0)

noncomputable def m_strings_Builder_String_2 (y0 : Str) : Option Str := some y0

noncomputable def m_referee_Format_L1 (y0 : T_Transcript) (s2 : Int × Str) : Option ((Int × Str) ⊕ Str) :=
  if decide (s2.1 < (len y0.1.2)) then
    (idx y0.1.2 s2.1).bind fun x1 =>
    (m_referee_writer_line s2.2 ([An.s [97, 116, 116, 97, 99, 107], An.i x1.1, An.i x1.2] : List An)).bind fun r3 =>
    some (.inl (w64 (s2.1 + 1), r3))
  else
    some (.inr s2.2)

noncomputable def m_referee_Format_L2 (y0 : T_Transcript) (s4 : Int × Str) : Option ((Int × Str) ⊕ Str) :=
  if decide (s4.1 < (len y0.2.2.2)) then
    (idx y0.2.2.2 s4.1).bind fun x2 =>
    (idx tab_referee_players x2.1).bind fun x3 =>
    if x2.2.1 == 1 then
      (m_referee_writer_line s4.2 ([An.s x3, An.s [99, 108, 97, 105, 109, 115], An.i x2.2.2.1] : List An)).bind fun r6 =>
      some (.inl (w64 (s4.1 + 1), r6))
    else
      if x2.2.1 == 2 then
        (m_referee_writer_line s4.2 ([An.s x3, An.s [109, 111, 118, 101, 115], An.i x2.2.2.1, An.s [97, 103, 97, 105, 110, 115, 116], An.i x2.2.2.2] : List An)).bind fun r7 =>
        some (.inl (w64 (s4.1 + 1), r7))
      else
        if x2.2.1 == 3 then
          (m_referee_writer_line s4.2 ([An.s x3, An.s [114, 101, 116, 114, 97, 99, 116, 115], An.i x2.2.2.2] : List An)).bind fun r8 =>
          some (.inl (w64 (s4.1 + 1), r8))
        else
          (m_referee_writer_line s4.2 ([An.s x3, An.s [99, 111, 110, 99, 101, 100, 101, 115]] : List An)).bind fun r9 =>
          some (.inl (w64 (s4.1 + 1), r9))
  else
    some (.inr s4.2)

noncomputable def m_referee_Format (y0 : T_Transcript) : Option (Str × Int) :=
  (m_referee_check y0).bind fun r1 =>
  if r1 != 0 then
    some ([], r1)
  else
    (m_referee_writer_line ([] : Str) ([An.s [110, 111, 100, 101, 115], An.i y0.1.1] : List An)).bind fun r2 =>
    (loop (m_referee_Format_L1 y0) (0, r2) : Option Str).bind fun s1 =>
    (m_referee_writer_line s1 ([An.s [114, 111, 111, 116], An.i y0.2.1] : List An)).bind fun r4 =>
    (m_referee_writer_line r4 ([An.s [108, 105, 109, 105, 116, 115], An.i y0.2.2.1.1, An.i y0.2.2.1.2] : List An)).bind fun r5 =>
    (loop (m_referee_Format_L2 y0) (0, r5) : Option Str).bind fun s3 =>
    (m_strings_Builder_Len_2 s3).bind fun r10 =>
    if decide (4096 < r10) then
      some ([], 2)
    else
      (m_strings_Builder_String_2 s3).bind fun r11 =>
      some (r11, 0)

noncomputable def m_strconv_Atoi (y0 : Str) : Option (Int × Bool) := atoiM y0

noncomputable def m_strings_Count (y0 : Str) (y1 : Str) : Option Int := count1 y0 y1

noncomputable def m_internal_stringslite_Index (y0 : Str) (y1 : Str) : Option Int := index1 y0 y1

noncomputable def m_strings_Index (y0 : Str) (y1 : Str) : Option Int :=
  (m_internal_stringslite_Index y0 y1).bind fun r1 =>
  some r1

noncomputable def m_strings_genSplit_L1 (y0 : Str) (s1 : Int) (y1 : Str) (y2 : Int) (s3 : Str × (List Str) × Int) : Option ((Str × (List Str) × Int) ⊕ (Str × (List Str) × Int)) :=
  if decide (s3.2.2 < (w64 ((if (w64 ((len y0) + 1)) < s1 then w64 ((len y0) + 1) else s1) - 1))) then
    (m_strings_Index s3.1 y1).bind fun r2 =>
    if decide (r2 < 0) then
      some (.inr (s3.1, s3.2.1, s3.2.2))
    else
      (sub s3.1 0 (w64 (r2 + y2))).bind fun x2 =>
      (idx s3.2.1 s3.2.2).bind fun _ =>
      (sub s3.1 (w64 (r2 + (len y1))) (len s3.1)).bind fun x4 =>
      some (.inl (x4, List.set s3.2.1 (Int.toNat s3.2.2) x2, w64 (s3.2.2 + 1)))
  else
    some (.inr (s3.1, s3.2.1, s3.2.2))

noncomputable def m_strings_genSplit (y0 : Str) (y1 : Str) (y2 : Int) (y3 : Int) : Option (List Str) :=
  if y3 == 0 then
    some ([] : List Str)
  else
    if y1 == [] then
      none
    else
      (
        if decide (y3 < 0) then
          (m_strings_Count y0 y1).bind fun r1 =>
          some (w64 (r1 + 1))
        else
          some y3 : Option Int).bind fun s1 =>
      (mkS (if (w64 ((len y0) + 1)) < s1 then w64 ((len y0) + 1) else s1) (if (w64 ((len y0) + 1)) < s1 then w64 ((len y0) + 1) else s1) ([] : Str)).bind fun x1 =>
      (loop (m_strings_genSplit_L1 y0 s1 y1 y2) (y0, x1, 0) : Option (Str × (List Str) × Int)).bind fun s2 =>
      (idx s2.2.1 s2.2.2).bind fun _ =>
      (sub (List.set s2.2.1 (Int.toNat s2.2.2) s2.1) 0 (w64 (s2.2.2 + 1))).bind fun x6 =>
      some x6

noncomputable def m_strings_Split (y0 : Str) (y1 : Str) : Option (List Str) :=
  (m_strings_genSplit y0 y1 0 (-1)).bind fun r1 =>
  some r1

noncomputable def m_referee_numbers_L1 (r2 : (List Str)) (r1 : (List Str)) (s1 : (List Int) × Int) : Option (((List Int) × Int) ⊕ ((List Int) × Bool)) :=
  if decide (s1.2 < (len r2)) then
    (idx r2 s1.2).bind fun x1 =>
    if !(x1 == [35]) then
      (idx r1 s1.2).bind fun x2 =>
      if !(x2 == x1) then
        some (.inr (([] : List Int), false))
      else
        some (.inl (s1.1, w64 (s1.2 + 1)))
    else
      (idx r1 s1.2).bind fun x3 =>
      (m_strconv_Atoi x3).bind fun r3 =>
      (
        if r3.2 then
          some true
        else
          (idx r1 s1.2).bind fun x4 =>
          if decide (4 < (len x4)) then
            some true
          else
            (idx r1 s1.2).bind fun x5 =>
            (m_strconv_Itoa r3.1).bind fun r4 =>
            if !(r4 == x5) then
              some true
            else
              some (decide (r3.1 < 0)) : Option Bool).bind fun s2 =>
      if s2 then
        some (.inr (([] : List Int), false))
      else
        (app s1.1 ([r3.1] : List Int)).bind fun x6 =>
        some (.inl (x6, w64 (s1.2 + 1)))
  else
    some (.inr (s1.1, true))

noncomputable def m_referee_numbers (y0 : Str) (y1 : Str) : Option ((List Int) × Bool) :=
  (m_strings_Split y0 [32]).bind fun r1 =>
  (m_strings_Split y1 [32]).bind fun r2 =>
  if (len r1) != (len r2) then
    some (([] : List Int), false)
  else
    loop (m_referee_numbers_L1 r2 r1) (([] : List Int), 0)

noncomputable def m_internal_stringslite_Cut (y0 : Str) (y1 : Str) : Option (Str × Str × Bool) :=
  (m_internal_stringslite_Index y0 y1).bind fun r1 =>
  if decide (0 ≤ r1) then
    (sub y0 0 r1).bind fun x1 =>
    (sub y0 (w64 (r1 + (len y1))) (len y0)).bind fun x2 =>
    some (x1, x2, true)
  else
    some (y0, [], false)

noncomputable def m_strings_Cut (y0 : Str) (y1 : Str) : Option (Str × Str × Bool) :=
  (m_internal_stringslite_Cut y0 y1).bind fun r1 =>
  some (r1.1, r1.2.1, r1.2.2)

noncomputable def m_referee_move (y0 : Str) : Option (T_Move × Bool) :=
  (m_strings_Cut y0 [32]).bind fun r1 =>
  seqE (
    (idx tab_referee_players 1).bind fun x1 =>
    if r1.1 == x1 then
      some (.inl 1)
    else
      (idx tab_referee_players 2).bind fun x2 =>
      if r1.1 == x2 then
        some (.inl 2)
      else
        some (.inr ((1, 0, 0, 0), false)) : Option (Int ⊕ (T_Move × Bool))) fun s1 =>
  (m_referee_numbers r1.2.1 [99, 108, 97, 105, 109, 115, 32, 35]).bind fun r2 =>
  if r2.2 then
    (idx r2.1 0).bind fun x3 =>
    some ((s1, 1, x3, 0), true)
  else
    (m_referee_numbers r1.2.1 [109, 111, 118, 101, 115, 32, 35, 32, 97, 103, 97, 105, 110, 115, 116, 32, 35]).bind fun r3 =>
    if r3.2 then
      (idx r3.1 0).bind fun x4 =>
      (idx r3.1 1).bind fun x5 =>
      some ((s1, 2, x4, x5), true)
    else
      (m_referee_numbers r1.2.1 [114, 101, 116, 114, 97, 99, 116, 115, 32, 35]).bind fun r4 =>
      if r4.2 then
        (idx r4.1 0).bind fun x6 =>
        some ((s1, 3, 0, x6), true)
      else
        some ((s1, 4, 0, 0), r1.2.1 == [99, 111, 110, 99, 101, 100, 101, 115])

noncomputable def m_referee_reader_read (y0 : T_referee_reader) (y1 : Str) : Option (Bool × Int × (List T_Pair) × Int × Int × Int × (List T_Move) × Int) :=
  if y0.2 == 0 then
    (m_referee_numbers y1 [110, 111, 100, 101, 115, 32, 35]).bind fun r1 =>
    if r1.2 then
      (idx r1.1 0).bind fun x1 =>
      some (r1.2, x1, y0.1.1.2, y0.1.2.1, y0.1.2.2.1.1, y0.1.2.2.1.2, y0.1.2.2.2, 1)
    else
      some (r1.2, y0.1.1.1, y0.1.1.2, y0.1.2.1, y0.1.2.2.1.1, y0.1.2.2.1.2, y0.1.2.2.2, y0.2)
  else
    if y0.2 == 1 then
      (m_referee_numbers y1 [97, 116, 116, 97, 99, 107, 32, 35, 32, 35]).bind fun r2 =>
      if r2.2 then
        (idx r2.1 0).bind fun x2 =>
        (idx r2.1 1).bind fun x3 =>
        (app y0.1.1.2 ([(x2, x3)] : List T_Pair)).bind fun x4 =>
        some (true, y0.1.1.1, x4, y0.1.2.1, y0.1.2.2.1.1, y0.1.2.2.1.2, y0.1.2.2.2, y0.2)
      else
        (m_referee_numbers y1 [114, 111, 111, 116, 32, 35]).bind fun r3 =>
        if r3.2 then
          (idx r3.1 0).bind fun x5 =>
          some (r3.2, y0.1.1.1, y0.1.1.2, x5, y0.1.2.2.1.1, y0.1.2.2.1.2, y0.1.2.2.2, 2)
        else
          some (r3.2, y0.1.1.1, y0.1.1.2, y0.1.2.1, y0.1.2.2.1.1, y0.1.2.2.1.2, y0.1.2.2.2, y0.2)
    else
      if y0.2 == 2 then
        (m_referee_numbers y1 [108, 105, 109, 105, 116, 115, 32, 35, 32, 35]).bind fun r4 =>
        if r4.2 then
          (idx r4.1 0).bind fun x6 =>
          (idx r4.1 1).bind fun x7 =>
          some (r4.2, y0.1.1.1, y0.1.1.2, y0.1.2.1, x6, x7, y0.1.2.2.2, 3)
        else
          some (r4.2, y0.1.1.1, y0.1.1.2, y0.1.2.1, y0.1.2.2.1.1, y0.1.2.2.1.2, y0.1.2.2.2, y0.2)
      else
        (m_referee_move y1).bind fun r5 =>
        (app y0.1.2.2.2 ([r5.1] : List T_Move)).bind fun x8 =>
        some (r5.2, y0.1.1.1, y0.1.1.2, y0.1.2.1, y0.1.2.2.1.1, y0.1.2.2.1.2, x8, y0.2)

noncomputable def m_referee_Parse_L1 (s2 : Str × Int × Int × (List T_Pair) × Int × Int × Int × (List T_Move) × Int) : Option ((Str × Int × Int × (List T_Pair) × Int × Int × Int × (List T_Move) × Int) ⊕ ((Int × Int × (List T_Pair) × Int × Int × Int × (List T_Move) × Int) ⊕ (T_Transcript × Int × Int))) :=
  if decide (0 < (len s2.1)) then
    (m_strings_Cut s2.1 [10]).bind fun r1 =>
    (
      if !r1.2.2 then
        some (true, s2.2.2.1, s2.2.2.2.1, s2.2.2.2.2.1, s2.2.2.2.2.2.1, s2.2.2.2.2.2.2.1, s2.2.2.2.2.2.2.2.1, s2.2.2.2.2.2.2.2.2)
      else
        (m_referee_reader_read (((s2.2.2.1, s2.2.2.2.1), s2.2.2.2.2.1, (s2.2.2.2.2.2.1, s2.2.2.2.2.2.2.1), s2.2.2.2.2.2.2.2.1), s2.2.2.2.2.2.2.2.2) r1.1).bind fun r2 =>
        some (!r2.1, r2.2.1, r2.2.2.1, r2.2.2.2.1, r2.2.2.2.2.1, r2.2.2.2.2.2.1, r2.2.2.2.2.2.2.1, r2.2.2.2.2.2.2.2) : Option (Bool × Int × (List T_Pair) × Int × Int × Int × (List T_Move) × Int)).bind fun s3 =>
    if s3.1 then
      some (.inr (.inr (((0, ([] : List T_Pair)), 0, (0, 0), ([] : List T_Move)), w64 (s2.2.1 + 1), 3)))
    else
      some (.inl (r1.2.1, w64 (s2.2.1 + 1), s3.2.1, s3.2.2.1, s3.2.2.2.1, s3.2.2.2.2.1, s3.2.2.2.2.2.1, s3.2.2.2.2.2.2.1, s3.2.2.2.2.2.2.2))
  else
    some (.inr (.inl (s2.2.1, s2.2.2.1, s2.2.2.2.1, s2.2.2.2.2.1, s2.2.2.2.2.2.1, s2.2.2.2.2.2.2.1, s2.2.2.2.2.2.2.2.1, s2.2.2.2.2.2.2.2.2)))

noncomputable def m_referee_Parse (y0 : Str) : Option (T_Transcript × Int × Int) :=
  if decide (4096 < (len y0)) then
    some (((0, ([] : List T_Pair)), 0, (0, 0), ([] : List T_Move)), 0, 2)
  else
    seqE (loop (m_referee_Parse_L1) (y0, 0, 0, ([] : List T_Pair), 0, 0, 0, ([] : List T_Move), 0) : Option ((Int × Int × (List T_Pair) × Int × Int × Int × (List T_Move) × Int) ⊕ (T_Transcript × Int × Int))) fun s1 =>
    if s1.2.2.2.2.2.2.2 != 3 then
      some (((0, ([] : List T_Pair)), 0, (0, 0), ([] : List T_Move)), w64 (s1.1 + 1), 3)
    else
      (m_referee_check ((s1.2.1, s1.2.2.1), s1.2.2.2.1, (s1.2.2.2.2.1, s1.2.2.2.2.2.1), s1.2.2.2.2.2.2.1)).bind fun r3 =>
      if r3 != 0 then
        some (((0, ([] : List T_Pair)), 0, (0, 0), ([] : List T_Move)), 0, r3)
      else
        some (((s1.2.1, s1.2.2.1), s1.2.2.2.1, (s1.2.2.2.2.1, s1.2.2.2.2.2.1), s1.2.2.2.2.2.2.1), 0, 0)

noncomputable def m_law30_awake : Option Bool :=
  (m_referee_Format ((3, ([(0, 1), (1, 2)] : List T_Pair)), 2, (9, 9), ([(1, 1, 2, 0), (2, 2, 1, 0)] : List T_Move))).bind fun r1 =>
  (m_referee_Parse r1.1).bind fun r2 =>
  (
    if r1.2 == 0 then
      if r2.2.2 == 0 then
        if r2.2.1 == 0 then
          if r1.1 == [110, 111, 100, 101, 115, 32, 51, 10, 97, 116, 116, 97, 99, 107, 32, 48, 32, 49, 10, 97, 116, 116, 97, 99, 107, 32, 49, 32, 50, 10, 114, 111, 111, 116, 32, 50, 10, 108, 105, 109, 105, 116, 115, 32, 57, 32, 57, 10, 80, 32, 99, 108, 97, 105, 109, 115, 32, 50, 10, 79, 32, 109, 111, 118, 101, 115, 32, 49, 32, 97, 103, 97, 105, 110, 115, 116, 32, 48, 10] then
            (m_ref30_Same ((3, ([(0, 1), (1, 2)] : List T_Pair)), 2, (9, 9), ([(1, 1, 2, 0), (2, 2, 1, 0)] : List T_Move)) r2.1).bind fun r3 =>
            some r3
          else
            some false
        else
          some false
      else
        some false
    else
      some false : Option Bool).bind fun s1 =>
  some s1

noncomputable def m_net_Graph_L2 (r1 : Int × Int) (s2 : Int × Int × (List T_Pair)) (r2 : Int × Int) (y0 : T_keep_Src) (s3 : Int × Int × (List T_Pair)) : Option ((Int × Int × (List T_Pair)) ⊕ ((Int × Int × (List T_Pair)) ⊕ (Int × (List T_Pair)))) :=
  if decide (s3.1 < r1.1) then
    (
      if s2.1 == s3.1 then
        some 9
      else
        some r2.1 : Option Int).bind fun s4 =>
    (m_keep_Src_N (y0.1, s3.2.1) s4).bind fun r3 =>
    if r3.1 == 1 then
      (app s3.2.2 ([(s2.1, s3.1)] : List T_Pair)).bind fun x1 =>
      some (.inl (w64 (s3.1 + 1), r3.2, x1))
    else
      some (.inl (w64 (s3.1 + 1), r3.2, s3.2.2))
  else
    some (.inr (.inl (w64 (s2.1 + 1), s3.2.1, s3.2.2)))

noncomputable def m_net_Graph_L1 (r1 : Int × Int) (r2 : Int × Int) (y0 : T_keep_Src) (s2 : Int × Int × (List T_Pair)) : Option ((Int × Int × (List T_Pair)) ⊕ (Int × (List T_Pair))) :=
  if decide (s2.1 < r1.1) then
    loop (m_net_Graph_L2 r1 s2 r2 y0) (0, s2.2.1, s2.2.2)
  else
    some (.inr (s2.2.1, s2.2.2))

noncomputable def m_net_Graph (y0 : T_keep_Src) (y1 : Int) : Option (T_Graph × Int) :=
  (m_keep_Src_Range y0 1 y1).bind fun r1 =>
  (m_keep_Src_Range (y0.1, r1.2) 2 5).bind fun r2 =>
  (loop (m_net_Graph_L1 r1 r2 y0) (0, r2.2, ([] : List T_Pair)) : Option (Int × (List T_Pair))).bind fun s1 =>
  some ((r1.1, s1.2), s1.1)

noncomputable def m_ref27_gone_L2 (y0 : T_Dialogue) (s1 : (List Bool) × Int) (s4 : (List Bool) × Int) : Option (((List Bool) × Int) ⊕ (List Bool)) :=
  if decide (s4.2 < (len y0.2.2.2)) then
    (
      (idx s4.1 s1.2).bind fun x5 =>
      if x5 then
        (idx s4.1 s1.2).bind fun _ =>
        some (List.set s4.1 (Int.toNat s1.2) true)
      else
        (idx y0.2.2.2 s4.2).bind fun x7 =>
        if x7.2.1 == 3 then
          (idx y0.2.2.2 s4.2).bind fun x8 =>
          (idx s4.1 s1.2).bind fun _ =>
          some (List.set s4.1 (Int.toNat s1.2) (x8.2.2.2 == s1.2))
        else
          (idx s4.1 s1.2).bind fun _ =>
          some (List.set s4.1 (Int.toNat s1.2) false) : Option (List Bool)).bind fun s5 =>
    some (.inl (s5, w64 (s4.2 + 1)))
  else
    some (.inr s4.1)

noncomputable def m_ref27_gone_L1 (y0 : T_Dialogue) (s1 : (List Bool) × Int) : Option (((List Bool) × Int) ⊕ (List Bool)) :=
  if decide (s1.2 < (len y0.2.2.2)) then
    (idx y0.2.2.2 s1.2).bind fun x2 =>
    (
      if x2.2.1 == 3 then
        (idx s1.1 s1.2).bind fun _ =>
        some (List.set s1.1 (Int.toNat s1.2) true)
      else
        (idx s1.1 s1.2).bind fun _ =>
        some (List.set s1.1 (Int.toNat s1.2) (x2.2.1 == 4)) : Option (List Bool)).bind fun s2 =>
    (loop (m_ref27_gone_L2 y0 s1) (s2, w64 (s1.2 + 1)) : Option (List Bool)).bind fun s3 =>
    if x2.2.1 == 2 then
      (
        (idx s3 s1.2).bind fun x11 =>
        if x11 then
          (idx s3 s1.2).bind fun _ =>
          some (List.set s3 (Int.toNat s1.2) true)
        else
          (idx s3 x2.2.2.2).bind fun x13 =>
          (idx s3 s1.2).bind fun _ =>
          some (List.set s3 (Int.toNat s1.2) x13) : Option (List Bool)).bind fun s6 =>
      some (.inl (s6, w64 (s1.2 + 1)))
    else
      some (.inl (s3, w64 (s1.2 + 1)))
  else
    some (.inr s1.1)

noncomputable def m_ref27_gone (y0 : T_Dialogue) : Option (List Bool) :=
  (mkS (len y0.2.2.2) (len y0.2.2.2) (false : Bool)).bind fun x1 =>
  loop (m_ref27_gone_L1 y0) (x1, 0)

noncomputable def m_ref27_Status_L2 (y0 : T_Dialogue) (s1 : (List Int) × Int) (s2 : (List Int) × Int) : Option (((List Int) × Int) ⊕ (((List Int) × Int) ⊕ (List Int))) :=
  if decide (s2.2 < (len y0.2.2.2)) then
    (
      (idx y0.2.2.2 s2.2).bind fun x4 =>
      if x4.2.1 == 2 then
        (idx y0.2.2.2 s2.2).bind fun x5 =>
        if x5.2.2.2 == s1.2 then
          (idx s2.1 s2.2).bind fun x6 =>
          some (x6 == 1)
        else
          some false
      else
        some false : Option Bool).bind fun s3 =>
    if s3 then
      (idx s2.1 s1.2).bind fun _ =>
      some (.inl (List.set s2.1 (Int.toNat s1.2) 2, w64 (s2.2 + 1)))
    else
      some (.inl (s2.1, w64 (s2.2 + 1)))
  else
    some (.inr (.inl (s2.1, w64 (s1.2 - 1))))

noncomputable def m_ref27_Status_L1 (r1 : (List Bool)) (y0 : T_Dialogue) (s1 : (List Int) × Int) : Option (((List Int) × Int) ⊕ (List Int)) :=
  if decide (0 ≤ s1.2) then
    (idx r1 s1.2).bind fun x2 =>
    if x2 then
      some (.inl (s1.1, w64 (s1.2 - 1)))
    else
      (idx s1.1 s1.2).bind fun _ =>
      loop (m_ref27_Status_L2 y0 s1) (List.set s1.1 (Int.toNat s1.2) 1, w64 (s1.2 + 1))
  else
    some (.inr s1.1)

noncomputable def m_ref27_Status (y0 : T_Dialogue) : Option (List Int) :=
  (m_ref27_gone y0).bind fun r1 =>
  (mkS (len y0.2.2.2) (len y0.2.2.2) (0 : Int)).bind fun x1 =>
  loop (m_ref27_Status_L1 r1 y0) (x1, w64 ((len y0.2.2.2) - 1))

noncomputable def m_net_Has_L1 (y0 : T_Graph) (y1 : Int) (y2 : Int) (s1 : Int) : Option (Int ⊕ Bool) :=
  if decide (s1 < (len y0.2)) then
    (
      (idx y0.2 s1).bind fun x1 =>
      if x1.1 == y1 then
        (idx y0.2 s1).bind fun x2 =>
        some (x2.2 == y2)
      else
        some false : Option Bool).bind fun s2 =>
    if s2 then
      some (.inr true)
    else
      some (.inl (w64 (s1 + 1)))
  else
    some (.inr false)

noncomputable def m_net_Has (y0 : T_Graph) (y1 : Int) (y2 : Int) : Option Bool :=
  loop (m_net_Has_L1 y0 y1 y2) 0

noncomputable def m_net_In_L1 (y0 : List Int) (y1 : Int) (s1 : Int) : Option (Int ⊕ Bool) :=
  if decide (s1 < (len y0)) then
    (idx y0 s1).bind fun x1 =>
    if x1 == y1 then
      some (.inr true)
    else
      some (.inl (w64 (s1 + 1)))
  else
    some (.inr false)

noncomputable def m_net_In (y0 : List Int) (y1 : Int) : Option Bool :=
  loop (m_net_In_L1 y0 y1) 0

noncomputable def m_ref27_leader (y0 : List Int) : Option Int :=
  (idx y0 0).bind fun x1 =>
  if x1 == 1 then
    some 1
  else
    some 2

noncomputable def m_ref27_Leading_L1 (y0 : T_Dialogue) (r1 : (List Int)) (s1 : (List Int) × Int) : Option (((List Int) × Int) ⊕ (List Int)) :=
  if decide (s1.2 < (len y0.2.2.2)) then
    (idx y0.2.2.2 s1.2).bind fun x1 =>
    (
      (idx r1 s1.2).bind fun x2 =>
      if x2 == 0 then
        some true
      else
        (m_net_In s1.1 x1.2.2.2).bind fun r2 =>
        some (!r2) : Option Bool).bind fun s2 =>
    if s2 then
      some (.inl (s1.1, w64 (s1.2 + 1)))
    else
      (
        (idx y0.2.2.2 x1.2.2.2).bind fun x3 =>
        (m_ref27_leader r1).bind fun r3 =>
        if x3.1 == r3 then
          some true
        else
          (idx r1 s1.2).bind fun x4 =>
          some (x4 == 1) : Option Bool).bind fun s3 =>
      if s3 then
        (app s1.1 ([s1.2] : List Int)).bind fun x5 =>
        some (.inl (x5, w64 (s1.2 + 1)))
      else
        some (.inl (s1.1, w64 (s1.2 + 1)))
  else
    some (.inr s1.1)

noncomputable def m_ref27_Leading (y0 : T_Dialogue) : Option (List Int) :=
  (m_ref27_Status y0).bind fun r1 =>
  loop (m_ref27_Leading_L1 y0 r1) (([0] : List Int), 1)

noncomputable def m_ref27_repeated_L1 (y0 : T_Dialogue) (y2 : Int) (s2 : Int) : Option (Int ⊕ (Unit ⊕ Bool)) :=
  if decide (0 < s2) then
    (
      (idx y0.2.2.2 s2).bind fun x1 =>
      if x1.1 == 1 then
        (idx y0.2.2.2 s2).bind fun x2 =>
        some (x2.2.2.1 == y2)
      else
        some false : Option Bool).bind fun s3 =>
    if s3 then
      some (.inr (.inr true))
    else
      (idx y0.2.2.2 s2).bind fun x3 =>
      some (.inl x3.2.2.2)
  else
    some (.inr (.inl ()))

noncomputable def m_ref27_repeated (y0 : T_Dialogue) (y1 : Int) (y2 : Int) : Option Bool :=
  seqE (loop (m_ref27_repeated_L1 y0 y2) y1 : Option (Unit ⊕ Bool)) fun _ =>
  (idx y0.2.2.2 0).bind fun x4 =>
  some (x4.2.2.1 == y2)

noncomputable def m_ref27_attacks_L3 (y0 : T_Dialogue) (x1 : Int) (s2 : (List T_Move) × Int) (s4 : Bool × Int) : Option ((Bool × Int) ⊕ Bool) :=
  if decide (s4.2 < (len y0.2.2.2)) then
    (
      if s4.1 then
        (idx y0.2.2.2 s4.2).bind fun x4 =>
        if x4.2.1 == 2 then
          (idx y0.2.2.2 s4.2).bind fun x5 =>
          if x5.2.2.2 == x1 then
            (idx y0.2.2.2 s4.2).bind fun x6 =>
            some (!(x6.2.2.1 == s2.2))
          else
            some (!false)
        else
          some (!false)
      else
        some false : Option Bool).bind fun s5 =>
    some (.inl (s5, w64 (s4.2 + 1)))
  else
    some (.inr s4.1)

noncomputable def m_ref27_attacks_L2 (y0 : T_Dialogue) (x1 : Int) (r2 : Int) (s1 : (List T_Move) × Int) (s2 : (List T_Move) × Int) : Option (((List T_Move) × Int) ⊕ (((List T_Move) × Int) ⊕ (List T_Move))) :=
  if decide (s2.2 < y0.1.1) then
    (idx y0.2.2.2 x1).bind fun x3 =>
    (m_net_Has y0.1 s2.2 x3.2.2.1).bind fun r4 =>
    (loop (m_ref27_attacks_L3 y0 x1 s2) (r4, 0) : Option Bool).bind fun s3 =>
    (
      if s3 then
        if (w64 (3 - r2)) == 2 then
          some true
        else
          (m_ref27_repeated y0 x1 s2.2).bind fun r5 =>
          some (!r5)
      else
        some false : Option Bool).bind fun s6 =>
    if s6 then
      (app s2.1 ([(w64 (3 - r2), 2, s2.2, x1)] : List T_Move)).bind fun x7 =>
      some (.inl (x7, w64 (s2.2 + 1)))
    else
      some (.inl (s2.1, w64 (s2.2 + 1)))
  else
    some (.inr (.inl (s2.1, w64 (s1.2 + 1))))

noncomputable def m_ref27_attacks_L1 (r3 : (List Int)) (y0 : T_Dialogue) (r2 : Int) (s1 : (List T_Move) × Int) : Option (((List T_Move) × Int) ⊕ (List T_Move)) :=
  if decide (s1.2 < (len r3)) then
    (idx r3 s1.2).bind fun x1 =>
    (idx y0.2.2.2 x1).bind fun x2 =>
    if x2.1 == (w64 (3 - r2)) then
      some (.inl (s1.1, w64 (s1.2 + 1)))
    else
      loop (m_ref27_attacks_L2 y0 x1 r2 s1) (s1.1, 0)
  else
    some (.inr s1.1)

noncomputable def m_ref27_attacks (y0 : T_Dialogue) : Option (List T_Move) :=
  (m_ref27_Status y0).bind fun r1 =>
  (m_ref27_leader r1).bind fun r2 =>
  (m_ref27_Leading y0).bind fun r3 =>
  loop (m_ref27_attacks_L1 r3 y0 r2) (([] : List T_Move), 0)

noncomputable def m_ref27_End_L1 (y0 : T_Dialogue) (r2 : Int) (s2 : Int × Int) : Option ((Int × Int) ⊕ Int) :=
  if decide (s2.2 < (len y0.2.2.2)) then
    (idx y0.2.2.2 s2.2).bind fun x2 =>
    if x2.1 != r2 then
      some (.inl (w64 (s2.1 + 1), w64 (s2.2 + 1)))
    else
      some (.inl (s2.1, w64 (s2.2 + 1)))
  else
    some (.inr s2.1)

noncomputable def m_ref27_End (y0 : T_Dialogue) : Option T_Outcome :=
  (idx y0.2.2.2 (w64 ((len y0.2.2.2) - 1))).bind fun x1 =>
  if x1.2.1 == 4 then
    some (w64 (3 - x1.1), 3)
  else
    (m_ref27_Status y0).bind fun r1 =>
    (m_ref27_leader r1).bind fun r2 =>
    (loop (m_ref27_End_L1 y0 r2) (0, 0) : Option Int).bind fun s1 =>
    if decide (200 ≤ (len y0.2.2.2)) then
      some (r2, 4)
    else
      (idx ([y0.2.2.1.1, y0.2.2.1.2] : List Int) (w64 (2 - r2))).bind fun x3 =>
      if decide (x3 ≤ s1) then
        some (r2, 2)
      else
        (m_ref27_attacks y0).bind fun r3 =>
        if (len r3) == 0 then
          some (r2, 1)
        else
          some (0, 0)

noncomputable def m_ref10_Validate_L1 (y0 : T_Graph) (s1 : Int) : Option (Int ⊕ Int) :=
  if decide (s1 < (len y0.2)) then
    (idx y0.2 s1).bind fun x1 =>
    if (decide (x1.1 < 0)) || ((decide (y0.1 ≤ x1.1)) || ((decide (x1.2 < 0)) || (decide (y0.1 ≤ x1.2)))) then
      some (.inr 1)
    else
      (
        if decide (0 < s1) then
          (idx y0.2 (w64 (s1 - 1))).bind fun x2 =>
          if decide (x1.1 < x2.1) then
            some true
          else
            (idx y0.2 (w64 (s1 - 1))).bind fun x3 =>
            if x3.1 == x1.1 then
              (idx y0.2 (w64 (s1 - 1))).bind fun x4 =>
              some (decide (x1.2 ≤ x4.2))
            else
              some false
        else
          some false : Option Bool).bind fun s2 =>
      if s2 then
        some (.inr 8)
      else
        some (.inl (w64 (s1 + 1)))
  else
    some (.inr 0)

noncomputable def m_ref10_Validate (y0 : T_Graph) : Option Int :=
  if (decide (y0.1 < 0)) || (decide (40 < y0.1)) then
    some 1
  else
    loop (m_ref10_Validate_L1 y0) 0

noncomputable def m_ref27_New (y0 : T_Graph) (y1 : Int) (y2 : Int × Int) : Option (T_Dialogue × Int) :=
  (m_ref10_Validate y0).bind fun r1 =>
  if r1 != 0 then
    some (((0, ([] : List T_Pair)), 0, (0, 0), ([] : List T_Move)), r1)
  else
    if (decide (y1 < 0)) || ((decide (y0.1 ≤ y1)) || ((decide (y2.1 < 1)) || ((decide (200 < y2.1)) || ((decide (y2.2 < 0)) || (decide (200 < y2.2)))))) then
      some (((0, ([] : List T_Pair)), 0, (0, 0), ([] : List T_Move)), 1)
    else
      some ((y0, y1, y2, ([(1, 1, y1, 0)] : List T_Move)), 0)

noncomputable def m_ref28_Full_L1 (y0 : T_Graph) (s2 : Int × (List Int)) : Option ((Int × (List Int)) ⊕ (List Int)) :=
  if decide (s2.1 < y0.1) then
    (app s2.2 ([s2.1] : List Int)).bind fun x1 =>
    some (.inl (w64 (s2.1 + 1), x1))
  else
    some (.inr s2.2)

noncomputable def m_ref28_Full (y0 : T_Graph) (y1 : Int) : Option T_Player :=
  (m_ref10_Validate y0).bind fun r1 =>
  if r1 != 0 then
    some (([] : List Int), ([] : List Int), ([] : List T_Move), 0)
  else
    (loop (m_ref28_Full_L1 y0) (0, ([] : List Int)) : Option (List Int)).bind fun s1 =>
    some (s1, ([] : List Int), ([] : List T_Move), y1)

noncomputable def m_ref27_Turn (y0 : T_Dialogue) : Option Int :=
  (m_ref27_End y0).bind fun r1 =>
  if !(r1 == (0, 0)) then
    some 0
  else
    (m_ref27_Status y0).bind fun r2 =>
    (m_ref27_leader r2).bind fun r3 =>
    some (w64 (3 - r3))

noncomputable def m_ref27_Apply_L1 (r3 : (List T_Move)) (y1 : T_Move) (s3 : Bool × Int) : Option ((Bool × Int) ⊕ Bool) :=
  if decide (s3.2 < (len r3)) then
    (idx r3 s3.2).bind fun x1 =>
    some (.inl (s3.1 || (x1 == y1), w64 (s3.2 + 1)))
  else
    some (.inr s3.1)

noncomputable def m_ref27_Apply (y0 : T_Dialogue) (y1 : T_Move) : Option (T_Dialogue × Int) :=
  (m_ref27_Turn y0).bind fun r1 =>
  if r1 == 0 then
    some (((0, ([] : List T_Pair)), 0, (0, 0), ([] : List T_Move)), 7)
  else
    if (y1.2.1 != 2) && ((y1.2.1 != 3) && (y1.2.1 != 4)) then
      some (((0, ([] : List T_Pair)), 0, (0, 0), ([] : List T_Move)), 4)
    else
      (m_ref27_Turn y0).bind fun r2 =>
      if y1.1 != r2 then
        some (((0, ([] : List T_Pair)), 0, (0, 0), ([] : List T_Move)), 8)
      else
        seqE (
          if y1.2.1 == 2 then
            if (!((decide (0 ≤ y1.2.2.2)) && (decide (y1.2.2.2 < (len y0.2.2.2))))) || ((decide (y1.2.2.1 < 0)) || (decide (y0.1.1 ≤ y1.2.2.1))) then
              some (.inr (((0, ([] : List T_Pair)), 0, (0, 0), ([] : List T_Move)), 1))
            else
              (
                (m_ref27_attacks y0).bind fun r3 =>
                loop (m_ref27_Apply_L1 r3 y1) (false, 0) : Option Bool).bind fun s2 =>
              if !s2 then
                some (.inr (((0, ([] : List T_Pair)), 0, (0, 0), ([] : List T_Move)), 9))
              else
                some (.inl (y1.2.2.1, y1.2.2.2))
          else
            if y1.2.1 == 3 then
              if !((decide (0 ≤ y1.2.2.2)) && (decide (y1.2.2.2 < (len y0.2.2.2)))) then
                some (.inr (((0, ([] : List T_Pair)), 0, (0, 0), ([] : List T_Move)), 1))
              else
                (idx y0.2.2.2 y1.2.2.2).bind fun x2 =>
                (
                  if x2.2.1 != 2 then
                    some true
                  else
                    if x2.1 != y1.1 then
                      some true
                    else
                      (m_ref27_Status y0).bind fun r4 =>
                      (idx r4 y1.2.2.2).bind fun x3 =>
                      some (x3 == 0) : Option Bool).bind fun s4 =>
                if s4 then
                  some (.inr (((0, ([] : List T_Pair)), 0, (0, 0), ([] : List T_Move)), 6))
                else
                  some (.inl (0, y1.2.2.2))
            else
              some (.inl (0, 0)) : Option ((Int × Int) ⊕ (T_Dialogue × Int))) fun s1 =>
        (
          (app ([] : List T_Move) y0.2.2.2).bind fun x4 =>
          (app x4 ([(y1.1, y1.2.1, s1.1, s1.2)] : List T_Move)).bind fun x5 =>
          some x5 : Option (List T_Move)).bind fun s5 =>
        some ((y0.1, y0.2.1, y0.2.2.1, s5), 0)

noncomputable def m_ref27_Legal (y0 : T_Dialogue) : Option (List T_Move) :=
  (m_ref27_Turn y0).bind fun r1 =>
  if r1 == 0 then
    some ([] : List T_Move)
  else
    (m_ref27_attacks y0).bind fun r2 =>
    some r2

noncomputable def m_ref28_Attacks_L1 (r1 : (List T_Move)) (y1 : T_Player) (s1 : (List T_Move) × Int) : Option (((List T_Move) × Int) ⊕ (List T_Move)) :=
  if decide (s1.2 < (len r1)) then
    (idx r1 s1.2).bind fun x1 =>
    (
      (m_net_In y1.1 x1.2.2.1).bind fun r2 =>
      if r2 then
        (m_net_In y1.2.1 x1.2.2.1).bind fun r3 =>
        some (!r3)
      else
        some false : Option Bool).bind fun s2 =>
    if s2 then
      (app s1.1 ([x1] : List T_Move)).bind fun x2 =>
      some (.inl (x2, w64 (s1.2 + 1)))
    else
      some (.inl (s1.1, w64 (s1.2 + 1)))
  else
    some (.inr s1.1)

noncomputable def m_ref28_Attacks (y0 : T_Dialogue) (y1 : T_Player) : Option (List T_Move) :=
  (m_ref27_Legal y0).bind fun r1 =>
  loop (m_ref28_Attacks_L1 r1 y1) (([] : List T_Move), 0)

noncomputable def m_ref28_attackers_L1 (y0 : T_Graph) (y1 : Int) (s1 : Int × Int) : Option ((Int × Int) ⊕ Int) :=
  if decide (s1.2 < (len y0.2)) then
    (idx y0.2 s1.2).bind fun x1 =>
    if x1.2 == y1 then
      some (.inl (w64 (s1.1 + 1), w64 (s1.2 + 1)))
    else
      some (.inl (s1.1, w64 (s1.2 + 1)))
  else
    some (.inr s1.1)

noncomputable def m_ref28_attackers (y0 : T_Graph) (y1 : Int) : Option Int :=
  loop (m_ref28_attackers_L1 y0 y1) (0, 0)

noncomputable def m_ref28_scripted_L1 (y0 : T_Dialogue) (r1 : Int) (s2 : Int × Int) : Option ((Int × Int) ⊕ Int) :=
  if decide (s2.2 < (len y0.2.2.2)) then
    (idx y0.2.2.2 s2.2).bind fun x1 =>
    if x1.1 == r1 then
      some (.inl (w64 (s2.1 + 1), w64 (s2.2 + 1)))
    else
      some (.inl (s2.1, w64 (s2.2 + 1)))
  else
    some (.inr s2.1)

noncomputable def m_ref28_scripted_L2 (y2 : List T_Move) (r1 : Int) (x2 : T_Move) (s5 : Int) : Option (Int ⊕ (Unit ⊕ (Unit ⊕ (T_Move × Bool)))) :=
  if decide (s5 < (len y2)) then
    (idx y2 s5).bind fun x3 =>
    if x3 == (r1, x2.2.1, x2.2.2.1, x2.2.2.2) then
      some (.inr (.inr (.inr ((r1, x2.2.1, x2.2.2.1, x2.2.2.2), true))))
    else
      some (.inl (w64 (s5 + 1)))
  else
    some (.inr (.inl ()))

noncomputable def m_ref28_scripted (y0 : T_Dialogue) (y1 : T_Player) (y2 : List T_Move) : Option (T_Move × Bool) :=
  (m_ref27_Turn y0).bind fun r1 =>
  (loop (m_ref28_scripted_L1 y0 r1) (0, 1) : Option Int).bind fun s1 =>
  if decide ((len y1.2.2.1) ≤ s1) then
    some ((0, 0, 0, 0), false)
  else
    (idx y1.2.2.1 s1).bind fun x2 =>
    seqE (
      if x2.2.1 == 2 then
        seqE (loop (m_ref28_scripted_L2 y2 r1 x2) 0 : Option (Unit ⊕ (Unit ⊕ (T_Move × Bool)))) fun _ =>
        some (.inr ((0, 0, 0, 0), false))
      else
        some (.inl ()) : Option (Unit ⊕ (T_Move × Bool))) fun _ =>
    (m_ref27_Apply y0 (r1, x2.2.1, x2.2.2.1, x2.2.2.2)).bind fun r2 =>
    if r2.2 != 0 then
      some ((0, 0, 0, 0), false)
    else
      (idx r2.1.2.2.2 (w64 ((len r2.1.2.2.2) - 1))).bind fun x4 =>
      some (x4, true)

noncomputable def m_net_Set_L1 (y1 : List Int) (y0 : T_Graph) (s1 : Int) : Option (Int ⊕ Bool) :=
  if decide (s1 < (len y1)) then
    (
      (idx y1 s1).bind fun x1 =>
      if decide (x1 < 0) then
        some true
      else
        (idx y1 s1).bind fun x2 =>
        if decide (y0.1 ≤ x2) then
          some true
        else
          if decide (0 < s1) then
            (idx y1 s1).bind fun x3 =>
            (idx y1 (w64 (s1 - 1))).bind fun x4 =>
            some (decide (x3 ≤ x4))
          else
            some false : Option Bool).bind fun s2 =>
    if s2 then
      some (.inr false)
    else
      some (.inl (w64 (s1 + 1)))
  else
    some (.inr true)

noncomputable def m_net_Set (y0 : T_Graph) (y1 : List Int) : Option Bool :=
  loop (m_net_Set_L1 y1 y0) 0

noncomputable def m_ref28_valid (y0 : T_Graph) (y1 : T_Player) : Option Int :=
  (
    (m_net_Set y0 y1.1).bind fun r1 =>
    if !r1 then
      some true
    else
      (m_net_Set y0 y1.2.1).bind fun r2 =>
      some (!r2) : Option Bool).bind fun s1 =>
  if s1 then
    some 1
  else
    if (decide (y1.2.2.2 < 1)) || (decide (3 < y1.2.2.2)) then
      some 4
    else
      some 0

noncomputable def m_ref28_Choose_L1 (r3 : (List T_Move)) (y1 : T_Player) (y0 : T_Dialogue) (s2 : Int × Int × Int × Int × Int) : Option ((Int × Int × Int × Int × Int) ⊕ (Int × Int × Int × Int)) :=
  if decide (s2.1 < (len r3)) then
    (idx r3 s2.1).bind fun x2 =>
    (
      if y1.2.2.2 == 2 then
        if decide (s2.2.2.2.2 < x2.2.2.2) then
          some true
        else
          if y1.2.2.2 == 3 then
            (m_ref28_attackers y0.1 x2.2.2.1).bind fun r6 =>
            (m_ref28_attackers y0.1 s2.2.2.2.1).bind fun r7 =>
            some (decide (r6 < r7))
          else
            some false
      else
        if y1.2.2.2 == 3 then
          (m_ref28_attackers y0.1 x2.2.2.1).bind fun r8 =>
          (m_ref28_attackers y0.1 s2.2.2.2.1).bind fun r9 =>
          some (decide (r8 < r9))
        else
          some false : Option Bool).bind fun s3 =>
    if s3 then
      some (.inl (w64 (s2.1 + 1), x2.1, x2.2.1, x2.2.2.1, x2.2.2.2))
    else
      some (.inl (w64 (s2.1 + 1), s2.2.1, s2.2.2.1, s2.2.2.2.1, s2.2.2.2.2))
  else
    some (.inr (s2.2.1, s2.2.2.1, s2.2.2.2.1, s2.2.2.2.2))

noncomputable def m_ref28_Choose (y0 : T_Dialogue) (y1 : T_Player) : Option (T_Move × Int) :=
  (m_ref27_Turn y0).bind fun r1 =>
  if r1 == 0 then
    some ((0, 0, 0, 0), 7)
  else
    (m_ref28_valid y0.1 y1).bind fun r2 =>
    if r2 != 0 then
      some ((0, 0, 0, 0), r2)
    else
      (m_ref28_Attacks y0 y1).bind fun r3 =>
      (m_ref28_scripted y0 y1 r3).bind fun r4 =>
      if r4.2 then
        some (r4.1, 0)
      else
        if (len r3) == 0 then
          (m_ref27_Turn y0).bind fun r5 =>
          some ((r5, 4, 0, 0), 0)
        else
          (idx r3 0).bind fun x1 =>
          (loop (m_ref28_Choose_L1 r3 y1 y0) (0, x1.1, x1.2.1, x1.2.2.1, x1.2.2.2) : Option (Int × Int × Int × Int)).bind fun s1 =>
          some ((s1.1, s1.2.1, s1.2.2.1, s1.2.2.2), 0)

noncomputable def m_ref28_Run_L1 (y2 : T_Player) (y1 : T_Player) (s2 : Int × (List T_Pair) × Int × Int × Int × (List T_Move)) : Option ((Int × (List T_Pair) × Int × Int × Int × (List T_Move)) ⊕ (Int × (List T_Pair) × Int × Int × Int × (List T_Move))) :=
  (m_ref27_Turn ((s2.1, s2.2.1), s2.2.2.1, (s2.2.2.2.1, s2.2.2.2.2.1), s2.2.2.2.2.2)).bind fun r3 =>
  if r3 != 0 then
    (
      (m_ref27_Turn ((s2.1, s2.2.1), s2.2.2.1, (s2.2.2.2.1, s2.2.2.2.2.1), s2.2.2.2.2.2)).bind fun r4 =>
      if r4 == 2 then
        some (y2.1, y2.2.1, y2.2.2.1, y2.2.2.2)
      else
        some (y1.1, y1.2.1, y1.2.2.1, y1.2.2.2) : Option ((List Int) × (List Int) × (List T_Move) × Int)).bind fun s3 =>
    (m_ref28_Choose ((s2.1, s2.2.1), s2.2.2.1, (s2.2.2.2.1, s2.2.2.2.2.1), s2.2.2.2.2.2) (s3.1, s3.2.1, s3.2.2.1, s3.2.2.2)).bind fun r5 =>
    (m_ref27_Apply ((s2.1, s2.2.1), s2.2.2.1, (s2.2.2.2.1, s2.2.2.2.2.1), s2.2.2.2.2.2) r5.1).bind fun r6 =>
    some (.inl (r6.1.1.1, r6.1.1.2, r6.1.2.1, r6.1.2.2.1.1, r6.1.2.2.1.2, r6.1.2.2.2))
  else
    some (.inr (s2.1, s2.2.1, s2.2.2.1, s2.2.2.2.1, s2.2.2.2.2.1, s2.2.2.2.2.2))

noncomputable def m_ref28_Run (y0 : T_Dialogue) (y1 : T_Player) (y2 : T_Player) : Option (T_Dialogue × Int) :=
  (m_ref28_valid y0.1 y1).bind fun r1 =>
  if r1 != 0 then
    some (((0, ([] : List T_Pair)), 0, (0, 0), ([] : List T_Move)), r1)
  else
    (m_ref28_valid y0.1 y2).bind fun r2 =>
    if r2 != 0 then
      some (((0, ([] : List T_Pair)), 0, (0, 0), ([] : List T_Move)), r2)
    else
      (loop (m_ref28_Run_L1 y2 y1) (y0.1.1, y0.1.2, y0.2.1, y0.2.2.1.1, y0.2.2.1.2, y0.2.2.2) : Option (Int × (List T_Pair) × Int × Int × Int × (List T_Move))).bind fun s1 =>
      some (((s1.1, s1.2.1), s1.2.2.1, (s1.2.2.2.1, s1.2.2.2.2.1), s1.2.2.2.2.2), 0)

noncomputable def m_ref30_Record (y0 : T_Dialogue) : Option T_Transcript :=
  some (y0.1, y0.2.1, y0.2.2.1, y0.2.2.2)

noncomputable def m_protocol_attacks (y0 : List T_Move) (y1 : Int) : Option Bool :=
  (
    (idx y0 y1).bind fun x1 =>
    if x1.2.1 == 2 then
      (idx y0 y1).bind fun x2 =>
      if decide (0 ≤ x2.2.2.2) then
        (idx y0 y1).bind fun x3 =>
        some (decide (x3.2.2.2 < y1))
      else
        some false
    else
      some false : Option Bool).bind fun s1 =>
  some s1

noncomputable def m_protocol_Status_L1 (y0 : T_Dialogue) (x2 : List Bool) (s2 : (List Bool) × Int) : Option (((List Bool) × Int) ⊕ (List Bool)) :=
  if decide (s2.2 < (len y0.2.2.2)) then
    (idx y0.2.2.2 s2.2).bind fun x3 =>
    if (x3.2.1 == 3) && ((decide (0 ≤ x3.2.2.2)) && (decide (x3.2.2.2 < (len x2)))) then
      (idx s2.1 x3.2.2.2).bind fun _ =>
      some (.inl (List.set s2.1 (Int.toNat x3.2.2.2) true, w64 (s2.2 + 1)))
    else
      some (.inl (s2.1, w64 (s2.2 + 1)))
  else
    some (.inr s2.1)

noncomputable def m_protocol_Status_L2 (y0 : T_Dialogue) (s1 : (List Bool)) (s4 : (List Int) × Int) : Option (((List Int) × Int) ⊕ (List Int)) :=
  if decide (s4.2 < (len y0.2.2.2)) then
    (
      if s4.2 == 0 then
        some true
      else
        (m_protocol_attacks y0.2.2.2 s4.2).bind fun r1 =>
        if r1 then
          (idx s1 s4.2).bind fun x5 =>
          if !x5 then
            (idx y0.2.2.2 s4.2).bind fun x6 =>
            (idx s4.1 x6.2.2.2).bind fun x7 =>
            some (x7 != 0)
          else
            some false
        else
          some false : Option Bool).bind fun s5 =>
    if s5 then
      (idx s4.1 s4.2).bind fun _ =>
      some (.inl (List.set s4.1 (Int.toNat s4.2) 1, w64 (s4.2 + 1)))
    else
      some (.inl (s4.1, w64 (s4.2 + 1)))
  else
    some (.inr s4.1)

noncomputable def m_protocol_Status_L3 (y0 : T_Dialogue) (s6 : (List Int) × Int) : Option (((List Int) × Int) ⊕ (List Int)) :=
  if decide (0 < s6.2) then
    (idx s6.1 s6.2).bind fun x9 =>
    if x9 == 1 then
      (idx y0.2.2.2 s6.2).bind fun x10 =>
      (idx s6.1 x10.2.2.2).bind fun _ =>
      some (.inl (List.set s6.1 (Int.toNat x10.2.2.2) 2, w64 (s6.2 - 1)))
    else
      some (.inl (s6.1, w64 (s6.2 - 1)))
  else
    some (.inr s6.1)

noncomputable def m_protocol_Status (y0 : T_Dialogue) : Option (List Int) :=
  (mkS (len y0.2.2.2) (len y0.2.2.2) (0 : Int)).bind fun x1 =>
  (mkS (len y0.2.2.2) (len y0.2.2.2) (false : Bool)).bind fun x2 =>
  (loop (m_protocol_Status_L1 y0 x2) (x2, 0) : Option (List Bool)).bind fun s1 =>
  (loop (m_protocol_Status_L2 y0 s1) (x1, 0) : Option (List Int)).bind fun s3 =>
  loop (m_protocol_Status_L3 y0) (s3, w64 ((len x1) - 1))

noncomputable def m_protocol_of_L1 (y0 : T_Dialogue) (s1 : T_protocol_table) (s2 : Int) (s4 : Int × (List Bool)) : Option ((Int × (List Bool)) ⊕ (List Bool)) :=
  if decide (s4.1 < (len y0.2.2.2)) then
    (
      (idx s1.2.1 s4.1).bind fun x8 =>
      if x8 == 0 then
        some true
      else
        (idx y0.2.2.2 s4.1).bind fun x9 =>
        (idx s4.2 x9.2.2.2).bind fun x10 =>
        some (!x10) : Option Bool).bind fun s5 =>
    if s5 then
      some (.inl (w64 (s4.1 + 1), s4.2))
    else
      (
        (idx y0.2.2.2 s4.1).bind fun x11 =>
        (idx y0.2.2.2 x11.2.2.2).bind fun x12 =>
        if x12.1 == s2 then
          (idx s4.2 s4.1).bind fun _ =>
          some (List.set s4.2 (Int.toNat s4.1) true)
        else
          (idx s1.2.1 s4.1).bind fun x14 =>
          (idx s4.2 s4.1).bind fun _ =>
          some (List.set s4.2 (Int.toNat s4.1) (x14 == 1)) : Option (List Bool)).bind fun s6 =>
      some (.inl (w64 (s4.1 + 1), s6))
  else
    some (.inr s4.2)

noncomputable def m_protocol_of (y0 : T_Dialogue) : Option T_protocol_table :=
  (
    (m_protocol_Status y0).bind fun r1 =>
    (mkS (len y0.2.2.2) (len y0.2.2.2) (false : Bool)).bind fun x1 =>
    some (y0, r1, 1, x1) : Option T_protocol_table).bind fun s1 =>
  (
    (idx s1.2.1 0).bind fun x6 =>
    if x6 == 2 then
      some 2
    else
      some s1.2.2.1 : Option Int).bind fun s2 =>
  (idx s1.2.2.2 0).bind fun _ =>
  (loop (m_protocol_of_L1 y0 s1 s2) (1, List.set s1.2.2.2 (Int.toNat 0) true) : Option (List Bool)).bind fun s3 =>
  some (s1.1, s1.2.1, s2, s3)

noncomputable def m_protocol_other (y0 : Int) : Option Int :=
  some (w64 (3 - y0))

noncomputable def m_protocol_table_moved_L1 (y0 : T_protocol_table) (y2 : Int) (s1 : Int) : Option (Int ⊕ Bool) :=
  (idx y0.1.2.2.2 s1).bind fun x1 =>
  if (x1.1 == 1) && (x1.2.2.1 == y2) then
    some (.inr true)
  else
    if s1 == 0 then
      some (.inr false)
    else
      some (.inl x1.2.2.2)

noncomputable def m_protocol_table_moved (y0 : T_protocol_table) (y1 : Int) (y2 : Int) : Option Bool :=
  loop (m_protocol_table_moved_L1 y0 y2) y1

noncomputable def m_slices_Index_Move_L1 (y0 : List T_Move) (y1 : T_Move) (s1 : Int) : Option (Int ⊕ Int) :=
  if decide (s1 < (len y0)) then
    (idx y0 s1).bind fun x1 =>
    if y1 == x1 then
      some (.inr s1)
    else
      some (.inl (w64 (s1 + 1)))
  else
    some (.inr (-1))

noncomputable def m_slices_Index_Move (y0 : List T_Move) (y1 : T_Move) : Option Int :=
  loop (m_slices_Index_Move_L1 y0 y1) 0

noncomputable def m_slices_Contains_Move (y0 : List T_Move) (y1 : T_Move) : Option Bool :=
  (m_slices_Index_Move y0 y1).bind fun r1 =>
  some (decide (0 ≤ r1))

noncomputable def m_protocol_table_legal_L2 (y0 : T_protocol_table) (x1 : T_Move) (r1 : Int) (s1 : (List T_Move) × Int) (s3 : (List T_Move) × Int) : Option (((List T_Move) × Int) ⊕ (((List T_Move) × Int) ⊕ (List T_Move))) :=
  if decide (s3.2 < (len y0.1.1.2)) then
    (idx y0.1.1.2 s3.2).bind fun x3 =>
    (
      if x3.2 != x1.2.2.1 then
        some true
      else
        (m_slices_Contains_Move y0.1.2.2.2 (r1, 2, x3.1, s1.2)).bind fun r2 =>
        if r2 then
          some true
        else
          if r1 == 1 then
            (m_protocol_table_moved y0 s1.2 x3.1).bind fun r3 =>
            some r3
          else
            some false : Option Bool).bind fun s4 =>
    if s4 then
      some (.inl (s3.1, w64 (s3.2 + 1)))
    else
      (app s3.1 ([(r1, 2, x3.1, s1.2)] : List T_Move)).bind fun x4 =>
      some (.inl (x4, w64 (s3.2 + 1)))
  else
    some (.inr (.inl (s3.1, w64 (s1.2 + 1))))

noncomputable def m_protocol_table_legal_L1 (y0 : T_protocol_table) (r1 : Int) (s1 : (List T_Move) × Int) : Option (((List T_Move) × Int) ⊕ (List T_Move)) :=
  if decide (s1.2 < (len y0.1.2.2.2)) then
    (idx y0.1.2.2.2 s1.2).bind fun x1 =>
    (
      (idx y0.2.2.2 s1.2).bind fun x2 =>
      if !x2 then
        some true
      else
        some (x1.1 != y0.2.2.1) : Option Bool).bind fun s2 =>
    if s2 then
      some (.inl (s1.1, w64 (s1.2 + 1)))
    else
      loop (m_protocol_table_legal_L2 y0 x1 r1 s1) (s1.1, 0)
  else
    some (.inr s1.1)

noncomputable def m_protocol_table_legal (y0 : T_protocol_table) : Option (List T_Move) :=
  (m_protocol_other y0.2.2.1).bind fun r1 =>
  loop (m_protocol_table_legal_L1 y0 r1) (([] : List T_Move), 0)

noncomputable def m_protocol_table_end_L1 (y0 : T_protocol_table) (s2 : Int × Int) : Option ((Int × Int) ⊕ Int) :=
  if decide (s2.2 < (len y0.1.2.2.2)) then
    (idx y0.1.2.2.2 s2.2).bind fun x1 =>
    (m_protocol_other y0.2.2.1).bind fun r1 =>
    if x1.1 == r1 then
      some (.inl (w64 (s2.1 + 1), w64 (s2.2 + 1)))
    else
      some (.inl (s2.1, w64 (s2.2 + 1)))
  else
    some (.inr s2.1)

noncomputable def m_protocol_table_end (y0 : T_protocol_table) : Option T_Outcome :=
  (loop (m_protocol_table_end_L1 y0) (0, 0) : Option Int).bind fun s1 =>
  (idx y0.1.2.2.2 (w64 ((len y0.1.2.2.2) - 1))).bind fun x2 =>
  if x2.2.1 == 4 then
    (m_protocol_other x2.1).bind fun r2 =>
    some (r2, 3)
  else
    if decide (200 ≤ (len y0.1.2.2.2)) then
      some (y0.2.2.1, 4)
    else
      (m_protocol_other y0.2.2.1).bind fun r3 =>
      (idx ([y0.1.2.2.1.1, y0.1.2.2.1.2] : List Int) (w64 (r3 - 1))).bind fun x3 =>
      if decide (x3 ≤ s1) then
        some (y0.2.2.1, 2)
      else
        (m_protocol_table_legal y0).bind fun r4 =>
        if (len r4) == 0 then
          some (y0.2.2.1, 1)
        else
          some (0, 0)

noncomputable def m_protocol_End (y0 : T_Dialogue) : Option T_Outcome :=
  if (len y0.2.2.2) == 0 then
    some (0, 0)
  else
    (m_protocol_of y0).bind fun r1 =>
    (m_protocol_table_end r1).bind fun r2 =>
    some r2

noncomputable def m_protocol_Turn (y0 : T_Dialogue) : Option Int :=
  (
    if (len y0.2.2.2) == 0 then
      some true
    else
      (m_protocol_End y0).bind fun r1 =>
      some (r1.2 != 0) : Option Bool).bind fun s1 =>
  if s1 then
    some 0
  else
    (m_protocol_of y0).bind fun r2 =>
    (m_protocol_other r2.2.2.1).bind fun r3 =>
    some r3

noncomputable def m_protocol_table_judged (y0 : T_protocol_table) (y1 : T_Move) : Option (T_Move × Int) :=
  (
    if y1.2.1 == 2 then
      some (y1.2.1 == 2)
    else
      if y1.2.1 == 3 then
        some (y1.2.1 == 3)
      else
        some (y1.2.1 == 4) : Option Bool).bind fun s1 =>
  if s1 then
    (m_protocol_other y0.2.2.1).bind fun r1 =>
    if y1.1 != r1 then
      some (y1, 8)
    else
      if y1.2.1 == 4 then
        some ((y1.1, y1.2.1, 0, 0), 0)
      else
        if (decide (y1.2.2.2 < 0)) || ((decide ((len y0.1.2.2.2) ≤ y1.2.2.2)) || ((y1.2.1 == 2) && ((decide (y1.2.2.1 < 0)) || (decide (y0.1.1.1 ≤ y1.2.2.1))))) then
          some (y1, 1)
        else
          if y1.2.1 == 2 then
            (m_protocol_table_legal y0).bind fun r2 =>
            (m_slices_Contains_Move r2 y1).bind fun r3 =>
            if !r3 then
              some (y1, 9)
            else
              some (y1, 0)
          else
            (idx y0.1.2.2.2 y1.2.2.2).bind fun x1 =>
            (
              if x1.1 != y1.1 then
                some true
              else
                if x1.2.1 != 2 then
                  some true
                else
                  (idx y0.2.1 y1.2.2.2).bind fun x2 =>
                  some (x2 == 0) : Option Bool).bind fun s2 =>
            if s2 then
              some (y1, 6)
            else
              some ((y1.1, y1.2.1, 0, y1.2.2.2), 0)
  else
    some (y1, 4)

noncomputable def m_slices_Clone_Move (y0 : List T_Move) : Option (List T_Move) :=
  (app ([] : List T_Move) y0).bind fun x1 =>
  some x1

noncomputable def m_slices_Clone_Pair (y0 : List T_Pair) : Option (List T_Pair) :=
  (app ([] : List T_Pair) y0).bind fun x1 =>
  some x1

noncomputable def m_protocol_Apply (y0 : T_Dialogue) (y1 : T_Move) : Option (T_Dialogue × Int) :=
  (m_protocol_Turn y0).bind fun r1 =>
  if r1 == 0 then
    some (((0, ([] : List T_Pair)), 0, (0, 0), ([] : List T_Move)), 7)
  else
    (
      (m_protocol_of y0).bind fun r2 =>
      (m_protocol_table_judged r2 y1).bind fun r3 =>
      some (r3.2, r3.1) : Option (Int × T_Move)).bind fun s1 =>
    if s1.1 != 0 then
      some (((0, ([] : List T_Pair)), 0, (0, 0), ([] : List T_Move)), s1.1)
    else
      (m_slices_Clone_Pair y0.1.2).bind fun r7 =>
      (
        (m_slices_Clone_Move y0.2.2.2).bind fun r8 =>
        (app r8 ([s1.2] : List T_Move)).bind fun x1 =>
        some x1 : Option (List T_Move)).bind fun s2 =>
      some (((y0.1.1, r7), y0.2.1, y0.2.2.1, s2), 0)

noncomputable def m_protocol_New (y0 : T_Graph) (y1 : Int) (y2 : Int × Int) : Option (T_Dialogue × Int) :=
  (m_graph_Validate y0).bind fun r1 =>
  if r1 != 0 then
    some (((0, ([] : List T_Pair)), 0, (0, 0), ([] : List T_Move)), r1)
  else
    if (decide (y1 < 0)) || ((decide (y0.1 ≤ y1)) || ((decide (y2.1 < 1)) || ((decide (200 < y2.1)) || ((decide (y2.2 < 0)) || (decide (200 < y2.2)))))) then
      some (((0, ([] : List T_Pair)), 0, (0, 0), ([] : List T_Move)), 1)
    else
      (
        (m_slices_Clone_Pair y0.2).bind fun r2 =>
        some (0, y0.1, r2, y1, y2.1, y2.2, ([(1, 1, y1, 0)] : List T_Move)) : Option (Int × Int × (List T_Pair) × Int × Int × Int × (List T_Move))).bind fun s1 =>
      some (((s1.2.1, s1.2.2.1), s1.2.2.2.1, (s1.2.2.2.2.1, s1.2.2.2.2.2.1), s1.2.2.2.2.2.2), s1.1)

noncomputable def m_referee_Replay_L1 (x3 : List T_Move) (s3 : Int × Int × (List T_Pair) × Int × Int × Int × (List T_Move)) : Option ((Int × Int × (List T_Pair) × Int × Int × Int × (List T_Move)) ⊕ ((Int × (List T_Pair) × Int × Int × Int × (List T_Move)) ⊕ (T_Dialogue × Int × Int))) :=
  if decide (s3.1 < (len x3)) then
    (idx x3 s3.1).bind fun x4 =>
    (m_protocol_Apply ((s3.2.1, s3.2.2.1), s3.2.2.2.1, (s3.2.2.2.2.1, s3.2.2.2.2.2.1), s3.2.2.2.2.2.2) x4).bind fun r2 =>
    (
      (
        if r2.2 == 0 then
          (idx r2.1.2.2.2 (w64 (s3.1 + 1))).bind fun x5 =>
          some (!(x5 == x4))
        else
          some false : Option Bool).bind fun s5 =>
      if s5 then
        some 7
      else
        some r2.2 : Option Int).bind fun s4 =>
    if s4 != 0 then
      some (.inr (.inr (((s3.2.1, s3.2.2.1), s3.2.2.2.1, (s3.2.2.2.2.1, s3.2.2.2.2.2.1), s3.2.2.2.2.2.2), w64 (s3.1 + 1), s4)))
    else
      some (.inl (w64 (s3.1 + 1), r2.1.1.1, r2.1.1.2, r2.1.2.1, r2.1.2.2.1.1, r2.1.2.2.1.2, r2.1.2.2.2))
  else
    some (.inr (.inl (s3.2.1, s3.2.2.1, s3.2.2.2.1, s3.2.2.2.2.1, s3.2.2.2.2.2.1, s3.2.2.2.2.2.2)))

noncomputable def m_referee_Replay (y0 : T_Transcript) : Option (T_Dialogue × Int × Int) :=
  (m_protocol_New y0.1 y0.2.1 y0.2.2.1).bind fun r1 =>
  if r1.2 != 0 then
    some (((0, ([] : List T_Pair)), 0, (0, 0), ([] : List T_Move)), 0, r1.2)
  else
    (
      if (len y0.2.2.2) == 0 then
        some true
      else
        (idx y0.2.2.2 0).bind fun x1 =>
        (idx r1.1.2.2.2 0).bind fun x2 =>
        some (!(x1 == x2)) : Option Bool).bind fun s1 =>
    if s1 then
      some (r1.1, 0, 7)
    else
      seqE (
        (sub y0.2.2.2 1 (len y0.2.2.2)).bind fun x3 =>
        loop (m_referee_Replay_L1 x3) (0, r1.1.1.1, r1.1.1.2, r1.1.2.1, r1.1.2.2.1.1, r1.1.2.2.1.2, r1.1.2.2.2) : Option ((Int × (List T_Pair) × Int × Int × Int × (List T_Move)) ⊕ (T_Dialogue × Int × Int))) fun s2 =>
      some (((s2.1, s2.2.1), s2.2.2.1, (s2.2.2.2.1, s2.2.2.2.2.1), s2.2.2.2.2.2), len y0.2.2.2, 0)

noncomputable def m_referee_Judge (y0 : T_Transcript) : Option (T_Outcome × Int) :=
  (m_referee_Replay y0).bind fun r1 =>
  if r1.2.2 != 0 then
    some ((0, 0), r1.2.2)
  else
    (m_protocol_End r1.1).bind fun r2 =>
    some (r2, 0)

noncomputable def m_law30_RefereeChannel_L1 (r10 : T_Dialogue × Int) (s3 : (List Int) × Int) : Option (((List Int) × Int) ⊕ (List Int)) :=
  if decide (s3.2 < (len r10.1.2.2.2)) then
    (idx r10.1.2.2.2 s3.2).bind fun x1 =>
    (app s3.1 ([w64 ((w64 ((w64 ((w64 ((w64 ((w64 (x1.1 * 8)) + x1.2.1)) * 64)) + x1.2.2.1)) * 512)) + x1.2.2.2)] : List Int)).bind fun x2 =>
    some (.inl (x2, w64 (s3.2 + 1)))
  else
    some (.inr s3.1)

noncomputable def m_law30_RefereeChannel_L2 (r1 : T_keep_Src) (s5 : Int × Int × (List Int) × Int × Int × (List Int) × (List T_Packet) × (List T_Packet)) : Option ((Int × Int × (List Int) × Int × Int × (List Int) × (List T_Packet) × (List T_Packet)) ⊕ ((List Int) × Int × Int × (List Int) × (List T_Packet) × (List T_Packet))) :=
  (
    if decide (s5.1 < 50) then
      (m_keep_Src_More (r1.1, s5.2.1)).bind fun r13 =>
      some r13
    else
      some false : Option Bool).bind fun s6 =>
  if s6 then
    (m_keep_Src_Pick (r1.1, s5.2.1) ([1, 1, 2, 2, 3, 4] : List Int)).bind fun r14 =>
    (m_keep_Src_N (r1.1, r14.2) 4).bind fun r15 =>
    (m_channel_Step (s5.2.2.1, s5.2.2.2.1, s5.2.2.2.2.1, s5.2.2.2.2.2.1, s5.2.2.2.2.2.2.1, s5.2.2.2.2.2.2.2) (r14.1, r15.1)).bind fun r16 =>
    if r16.2 == 0 then
      some (.inl (w64 (s5.1 + 1), r15.2, r16.1.1, r16.1.2.1, r16.1.2.2.1, r16.1.2.2.2.1, r16.1.2.2.2.2.1, r16.1.2.2.2.2.2))
    else
      some (.inl (w64 (s5.1 + 1), r15.2, s5.2.2.1, s5.2.2.2.1, s5.2.2.2.2.1, s5.2.2.2.2.2.1, s5.2.2.2.2.2.2.1, s5.2.2.2.2.2.2.2))
  else
    some (.inr (s5.2.2.1, s5.2.2.2.1, s5.2.2.2.2.1, s5.2.2.2.2.2.1, s5.2.2.2.2.2.2.1, s5.2.2.2.2.2.2.2))

noncomputable def m_law30_RefereeChannel_L3 (r17 : T_Channel × Int) (s8 : Int × (List T_Move)) : Option ((Int × (List T_Move)) ⊕ (List T_Move)) :=
  if decide (s8.1 < (len r17.1.2.2.2.1)) then
    (idx r17.1.2.2.2.1 s8.1).bind fun x3 =>
    (quoK .i64 x3 512).bind fun x4 =>
    (quoK .i64 x4 64).bind fun x5 =>
    (quoK .i64 x5 8).bind fun x6 =>
    (quoK .i64 x3 512).bind fun x7 =>
    (quoK .i64 x7 64).bind fun x8 =>
    (remK x8 8).bind fun x9 =>
    (quoK .i64 x3 512).bind fun x10 =>
    (remK x10 64).bind fun x11 =>
    (remK x3 512).bind fun x12 =>
    (app s8.2 ([(x6, x9, x11, x12)] : List T_Move)).bind fun x13 =>
    some (.inl (w64 (s8.1 + 1), x13))
  else
    some (.inr s8.2)

noncomputable def m_law30_RefereeChannel (y0 : List Int) : Option Bool :=
  (m_keep_New y0).bind fun r1 =>
  (m_net_Graph r1 4).bind fun r2 =>
  (
    (m_keep_Src_N (r1.1, r2.2) r2.1.1).bind fun r3 =>
    (m_ref27_New r2.1 r3.1 (20, 20)).bind fun r4 =>
    some (r3.2, r4.1) : Option (Int × T_Dialogue)).bind fun s1 =>
  (m_ref28_Full r2.1 2).bind fun r8 =>
  (m_ref28_Full r2.1 1).bind fun r9 =>
  (m_ref28_Run s1.2 r8 r9).bind fun r10 =>
  (loop (m_law30_RefereeChannel_L1 r10) (([] : List Int), 0) : Option (List Int)).bind fun s2 =>
  (m_keep_Src_Range (r1.1, s1.1) 1 4).bind fun r11 =>
  (m_channel_New s2 r11.1).bind fun r12 =>
  if r12.2 != 0 then
    some false
  else
    (loop (m_law30_RefereeChannel_L2 r1) (0, r11.2, r12.1.1, r12.1.2.1, r12.1.2.2.1, r12.1.2.2.2.1, r12.1.2.2.2.2.1, r12.1.2.2.2.2.2) : Option ((List Int) × Int × Int × (List Int) × (List T_Packet) × (List T_Packet))).bind fun s4 =>
    (m_channel_Finish (s4.1, s4.2.1, s4.2.2.1, s4.2.2.2.1, s4.2.2.2.2.1, s4.2.2.2.2.2)).bind fun r17 =>
    (loop (m_law30_RefereeChannel_L3 r17) (0, ([] : List T_Move)) : Option (List T_Move)).bind fun s7 =>
    (m_referee_Judge (r2.1, r10.1.2.1, r10.1.2.2.1, s7)).bind fun r18 =>
    (
      if r18.2 == 0 then
        (m_ref27_End r10.1).bind fun r19 =>
        if r18.1 == r19 then
          (m_ref30_Record r10.1).bind fun r20 =>
          (m_ref30_Same (r2.1, r10.1.2.1, r10.1.2.2.1, s7) r20).bind fun r21 =>
          if r21 then
            m_law30_awake.bind fun r22 =>
            some r22
          else
            some false
        else
          some false
      else
        some false : Option Bool).bind fun s9 =>
    some s9

end Go.GD
