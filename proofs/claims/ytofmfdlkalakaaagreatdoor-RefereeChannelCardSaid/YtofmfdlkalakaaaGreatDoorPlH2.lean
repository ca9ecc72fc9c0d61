/- The plain law: what the models compute, in plain Lean. Conditions: none. -/
import Derived.Test.YtofmfdlkalakaaaGreatDoorPlH1
namespace Go.GD
set_option autoImplicit false

section
set_option linter.unusedVariables false
def e_net_Pairs_L1 (n_ : Nat) (y0 : List T_Pair) (y1 : List T_Pair) (s1 : Int) : Option (Int ⊕ Bool) :=
  if decide (s1 < (len y0)) then
    (idx y0 s1).bind fun x1 =>
    (idx y1 s1).bind fun x2 =>
    if !(x1 == x2) then
      some (.inr false)
    else
      some (.inl (w64 (s1 + 1)))
  else
    some (.inr true)
theorem le_net_Pairs_L1 (n_ : Nat) (y0 : List T_Pair) (y1 : List T_Pair) (s1 : Int) : Le (e_net_Pairs_L1 n_ y0 y1 s1) (m_net_Pairs_L1 y0 y1 s1) := by
  unfold e_net_Pairs_L1 m_net_Pairs_L1
  repeat with_reducible (first | intro _ | exact Le.refl _ | apply Le.ite | apply Le.seqE | apply Le.bind | apply Le.lp | exact Le.none _)
def e_net_Pairs (n_ : Nat) (y0 : List T_Pair) (y1 : List T_Pair) : Option Bool :=
  if (len y0) != (len y1) then
    some false
  else
    (lp n_) ((e_net_Pairs_L1 n_) y0 y1) 0
theorem le_net_Pairs (n_ : Nat) (y0 : List T_Pair) (y1 : List T_Pair) : Le (e_net_Pairs n_ y0 y1) (m_net_Pairs y0 y1) := by
  unfold e_net_Pairs m_net_Pairs
  repeat with_reducible (first | intro _ | apply le_net_Pairs_L1 | exact Le.refl _ | apply Le.ite | apply Le.seqE | apply Le.bind | apply Le.lp | exact Le.none _)
def e_net_Same (n_ : Nat) (y0 : T_Graph) (y1 : T_Graph) : Option Bool :=
  (
    if y0.1 == y1.1 then
      ((e_net_Pairs n_) y0.2 y1.2).bind fun r1 =>
      some r1
    else
      some false : Option Bool).bind fun s1 =>
  some s1
theorem le_net_Same (n_ : Nat) (y0 : T_Graph) (y1 : T_Graph) : Le (e_net_Same n_ y0 y1) (m_net_Same y0 y1) := by
  unfold e_net_Same m_net_Same
  repeat with_reducible (first | intro _ | apply le_net_Pairs | exact Le.refl _ | apply Le.ite | apply Le.seqE | apply Le.bind | apply Le.lp | exact Le.none _)
def e_ref27_SameMoves_L1 (n_ : Nat) (y0 : List T_Move) (y1 : List T_Move) (s1 : Int) : Option (Int ⊕ Bool) :=
  if decide (s1 < (len y0)) then
    (idx y0 s1).bind fun x1 =>
    (idx y1 s1).bind fun x2 =>
    if !(x1 == x2) then
      some (.inr false)
    else
      some (.inl (w64 (s1 + 1)))
  else
    some (.inr true)
theorem le_ref27_SameMoves_L1 (n_ : Nat) (y0 : List T_Move) (y1 : List T_Move) (s1 : Int) : Le (e_ref27_SameMoves_L1 n_ y0 y1 s1) (m_ref27_SameMoves_L1 y0 y1 s1) := by
  unfold e_ref27_SameMoves_L1 m_ref27_SameMoves_L1
  repeat with_reducible (first | intro _ | exact Le.refl _ | apply Le.ite | apply Le.seqE | apply Le.bind | apply Le.lp | exact Le.none _)
def e_ref27_SameMoves (n_ : Nat) (y0 : List T_Move) (y1 : List T_Move) : Option Bool :=
  if (len y0) != (len y1) then
    some false
  else
    (lp n_) ((e_ref27_SameMoves_L1 n_) y0 y1) 0
theorem le_ref27_SameMoves (n_ : Nat) (y0 : List T_Move) (y1 : List T_Move) : Le (e_ref27_SameMoves n_ y0 y1) (m_ref27_SameMoves y0 y1) := by
  unfold e_ref27_SameMoves m_ref27_SameMoves
  repeat with_reducible (first | intro _ | apply le_ref27_SameMoves_L1 | exact Le.refl _ | apply Le.ite | apply Le.seqE | apply Le.bind | apply Le.lp | exact Le.none _)
def e_ref30_Same (n_ : Nat) (y0 : T_Transcript) (y1 : T_Transcript) : Option Bool :=
  (
    ((e_net_Same n_) y0.1 y1.1).bind fun r1 =>
    if r1 then
      if y0.2.1 == y1.2.1 then
        if y0.2.2.1 == y1.2.2.1 then
          ((e_ref27_SameMoves n_) y0.2.2.2 y1.2.2.2).bind fun r2 =>
          some r2
        else
          some false
      else
        some false
    else
      some false : Option Bool).bind fun s1 =>
  some s1
theorem le_ref30_Same (n_ : Nat) (y0 : T_Transcript) (y1 : T_Transcript) : Le (e_ref30_Same n_ y0 y1) (m_ref30_Same y0 y1) := by
  unfold e_ref30_Same m_ref30_Same
  repeat with_reducible (first | intro _ | apply le_ref27_SameMoves | apply le_net_Same | exact Le.refl _ | apply Le.ite | apply Le.seqE | apply Le.bind | apply Le.lp | exact Le.none _)
def e_cmp_isNaN_int (n_ : Nat) (y0 : Int) : Option Bool :=
  some (y0 != y0)
theorem le_cmp_isNaN_int (n_ : Nat) (y0 : Int) : Le (e_cmp_isNaN_int n_ y0) (m_cmp_isNaN_int y0) := by
  unfold e_cmp_isNaN_int m_cmp_isNaN_int
  repeat with_reducible (first | intro _ | exact Le.refl _ | apply Le.ite | apply Le.seqE | apply Le.bind | apply Le.lp | exact Le.none _)
def e_cmp_Compare_int (n_ : Nat) (y0 : Int) (y1 : Int) : Option Int :=
  ((e_cmp_isNaN_int n_) y0).bind fun r1 =>
  ((e_cmp_isNaN_int n_) y1).bind fun r2 =>
  if r1 then
    if r2 then
      some 0
    else
      some (-1)
  else
    if r2 then
      some 1
    else
      if decide (y0 < y1) then
        some (-1)
      else
        if decide (y1 < y0) then
          some 1
        else
          some 0
theorem le_cmp_Compare_int (n_ : Nat) (y0 : Int) (y1 : Int) : Le (e_cmp_Compare_int n_ y0 y1) (m_cmp_Compare_int y0 y1) := by
  unfold e_cmp_Compare_int m_cmp_Compare_int
  repeat with_reducible (first | intro _ | apply le_cmp_isNaN_int | exact Le.refl _ | apply Le.ite | apply Le.seqE | apply Le.bind | apply Le.lp | exact Le.none _)
def e_cmp_Or_int_L1 (n_ : Nat) (y0 : List Int) (s1 : Int) : Option (Int ⊕ Int) :=
  if decide (s1 < (len y0)) then
    (idx y0 s1).bind fun x1 =>
    if x1 != 0 then
      some (.inr x1)
    else
      some (.inl (w64 (s1 + 1)))
  else
    some (.inr 0)
theorem le_cmp_Or_int_L1 (n_ : Nat) (y0 : List Int) (s1 : Int) : Le (e_cmp_Or_int_L1 n_ y0 s1) (m_cmp_Or_int_L1 y0 s1) := by
  unfold e_cmp_Or_int_L1 m_cmp_Or_int_L1
  repeat with_reducible (first | intro _ | exact Le.refl _ | apply Le.ite | apply Le.seqE | apply Le.bind | apply Le.lp | exact Le.none _)
def e_cmp_Or_int (n_ : Nat) (y0 : List Int) : Option Int :=
  (lp n_) ((e_cmp_Or_int_L1 n_) y0) 0
theorem le_cmp_Or_int (n_ : Nat) (y0 : List Int) : Le (e_cmp_Or_int n_ y0) (m_cmp_Or_int y0) := by
  unfold e_cmp_Or_int m_cmp_Or_int
  repeat with_reducible (first | intro _ | apply le_cmp_Or_int_L1 | exact Le.refl _ | apply Le.ite | apply Le.seqE | apply Le.bind | apply Le.lp | exact Le.none _)
def e_graph_compare (n_ : Nat) (y0 : T_Pair) (y1 : T_Pair) : Option Int :=
  ((e_cmp_Compare_int n_) y0.1 y1.1).bind fun r1 =>
  ((e_cmp_Compare_int n_) y0.2 y1.2).bind fun r2 =>
  ((e_cmp_Or_int n_) ([r1, r2] : List Int)).bind fun r3 =>
  some r3
theorem le_graph_compare (n_ : Nat) (y0 : T_Pair) (y1 : T_Pair) : Le (e_graph_compare n_ y0 y1) (m_graph_compare y0 y1) := by
  unfold e_graph_compare m_graph_compare
  repeat with_reducible (first | intro _ | apply le_cmp_Or_int | apply le_cmp_Compare_int | exact Le.refl _ | apply Le.ite | apply Le.seqE | apply Le.bind | apply Le.lp | exact Le.none _)
def e_graph_Validate_L1 (n_ : Nat) (y0 : T_Graph) (s1 : Int) : Option (Int ⊕ Int) :=
  if decide (s1 < (len y0.2)) then
    (idx y0.2 s1).bind fun x1 =>
    if (decide ((if x1.2 < x1.1 then x1.2 else x1.1) < 0)) || (decide (y0.1 ≤ (if x1.2 > x1.1 then x1.2 else x1.1))) then
      some (.inr 1)
    else
      (
        if decide (0 < s1) then
          (idx y0.2 (w64 (s1 - 1))).bind fun x2 =>
          ((e_graph_compare n_) x2 x1).bind fun r1 =>
          some (decide (0 ≤ r1))
        else
          some false : Option Bool).bind fun s2 =>
      if s2 then
        some (.inr 8)
      else
        some (.inl (w64 (s1 + 1)))
  else
    some (.inr 0)
theorem le_graph_Validate_L1 (n_ : Nat) (y0 : T_Graph) (s1 : Int) : Le (e_graph_Validate_L1 n_ y0 s1) (m_graph_Validate_L1 y0 s1) := by
  unfold e_graph_Validate_L1 m_graph_Validate_L1
  repeat with_reducible (first | intro _ | apply le_graph_compare | exact Le.refl _ | apply Le.ite | apply Le.seqE | apply Le.bind | apply Le.lp | exact Le.none _)
def e_graph_Validate (n_ : Nat) (y0 : T_Graph) : Option Int :=
  if (decide (y0.1 < 0)) || (decide (40 < y0.1)) then
    some 1
  else
    (lp n_) ((e_graph_Validate_L1 n_) y0) 0
theorem le_graph_Validate (n_ : Nat) (y0 : T_Graph) : Le (e_graph_Validate n_ y0) (m_graph_Validate y0) := by
  unfold e_graph_Validate m_graph_Validate
  repeat with_reducible (first | intro _ | apply le_graph_Validate_L1 | exact Le.refl _ | apply Le.ite | apply Le.seqE | apply Le.bind | apply Le.lp | exact Le.none _)
def e_referee_in (n_ : Nat) (y0 : Int) : Option Bool :=
  some ((decide (0 ≤ y0)) && (decide (y0 ≤ 200)))
theorem le_referee_in (n_ : Nat) (y0 : Int) : Le (e_referee_in n_ y0) (m_referee_in y0) := by
  unfold e_referee_in m_referee_in
  repeat with_reducible (first | intro _ | exact Le.refl _ | apply Le.ite | apply Le.seqE | apply Le.bind | apply Le.lp | exact Le.none _)
def e_referee_plain (n_ : Nat) (y0 : T_Move) : Option Bool :=
  (
    if y0.1 != 1 then
      if y0.1 != 2 then
        some true
      else
        ((e_referee_in n_) y0.2.2.1).bind fun r1 =>
        if !r1 then
          some true
        else
          ((e_referee_in n_) y0.2.2.2).bind fun r2 =>
          some (!r2)
    else
      ((e_referee_in n_) y0.2.2.1).bind fun r3 =>
      if !r3 then
        some true
      else
        ((e_referee_in n_) y0.2.2.2).bind fun r4 =>
        some (!r4) : Option Bool).bind fun s1 =>
  if s1 then
    some false
  else
    if y0.2.1 == 1 then
      some (y0.2.2.2 == 0)
    else
      if y0.2.1 == 2 then
        some true
      else
        if y0.2.1 == 3 then
          some (y0.2.2.1 == 0)
        else
          if y0.2.1 == 4 then
            some ((y0.2.2.1 == 0) && (y0.2.2.2 == 0))
          else
            some false
theorem le_referee_plain (n_ : Nat) (y0 : T_Move) : Le (e_referee_plain n_ y0) (m_referee_plain y0) := by
  unfold e_referee_plain m_referee_plain
  repeat with_reducible (first | intro _ | apply le_referee_in | exact Le.refl _ | apply Le.ite | apply Le.seqE | apply Le.bind | apply Le.lp | exact Le.none _)
def e_referee_check_L1 (n_ : Nat) (y0 : T_Transcript) (s2 : Int) : Option (Int ⊕ Int) :=
  if decide (s2 < (len y0.2.2.2)) then
    (idx y0.2.2.2 s2).bind fun x1 =>
    ((e_referee_plain n_) x1).bind fun r5 =>
    if !r5 then
      some (.inr 1)
    else
      some (.inl (w64 (s2 + 1)))
  else
    some (.inr 0)
theorem le_referee_check_L1 (n_ : Nat) (y0 : T_Transcript) (s2 : Int) : Le (e_referee_check_L1 n_ y0 s2) (m_referee_check_L1 y0 s2) := by
  unfold e_referee_check_L1 m_referee_check_L1
  repeat with_reducible (first | intro _ | apply le_referee_plain | exact Le.refl _ | apply Le.ite | apply Le.seqE | apply Le.bind | apply Le.lp | exact Le.none _)
def e_referee_check (n_ : Nat) (y0 : T_Transcript) : Option Int :=
  ((e_graph_Validate n_) y0.1).bind fun r1 =>
  if r1 != 0 then
    some r1
  else
    (
      ((e_referee_in n_) y0.2.1).bind fun r2 =>
      if !r2 then
        some true
      else
        ((e_referee_in n_) y0.2.2.1.1).bind fun r3 =>
        if !r3 then
          some true
        else
          ((e_referee_in n_) y0.2.2.1.2).bind fun r4 =>
          if !r4 then
            some true
          else
            some (decide (200 < (len y0.2.2.2))) : Option Bool).bind fun s1 =>
    if s1 then
      some 1
    else
      (lp n_) ((e_referee_check_L1 n_) y0) 0
theorem le_referee_check (n_ : Nat) (y0 : T_Transcript) : Le (e_referee_check n_ y0) (m_referee_check y0) := by
  unfold e_referee_check m_referee_check
  repeat with_reducible (first | intro _ | apply le_referee_check_L1 | apply le_referee_in | apply le_graph_Validate | exact Le.refl _ | apply Le.ite | apply Le.seqE | apply Le.bind | apply Le.lp | exact Le.none _)
def e_internal_strconv_FormatInt (n_ : Nat) (y0 : Int) (y1 : Int) : Option Str := fmt10 y0 y1
theorem le_internal_strconv_FormatInt (n_ : Nat) (y0 : Int) (y1 : Int) : Le (e_internal_strconv_FormatInt n_ y0 y1) (m_internal_strconv_FormatInt y0 y1) := by
  unfold e_internal_strconv_FormatInt m_internal_strconv_FormatInt
  repeat with_reducible (first | intro _ | exact Le.refl _ | apply Le.ite | apply Le.seqE | apply Le.bind | apply Le.lp | exact Le.none _)
def e_internal_strconv_Itoa (n_ : Nat) (y0 : Int) : Option Str :=
  ((e_internal_strconv_FormatInt n_) y0 10).bind fun r1 =>
  some r1
theorem le_internal_strconv_Itoa (n_ : Nat) (y0 : Int) : Le (e_internal_strconv_Itoa n_ y0) (m_internal_strconv_Itoa y0) := by
  unfold e_internal_strconv_Itoa m_internal_strconv_Itoa
  repeat with_reducible (first | intro _ | apply le_internal_strconv_FormatInt | exact Le.refl _ | apply Le.ite | apply Le.seqE | apply Le.bind | apply Le.lp | exact Le.none _)
def e_strconv_Itoa (n_ : Nat) (y0 : Int) : Option Str :=
  ((e_internal_strconv_Itoa n_) y0).bind fun r1 =>
  some r1
theorem le_strconv_Itoa (n_ : Nat) (y0 : Int) : Le (e_strconv_Itoa n_ y0) (m_strconv_Itoa y0) := by
  unfold e_strconv_Itoa m_strconv_Itoa
  repeat with_reducible (first | intro _ | apply le_internal_strconv_Itoa | exact Le.refl _ | apply Le.ite | apply Le.seqE | apply Le.bind | apply Le.lp | exact Le.none _)
def e_strings_Builder_WriteByte_2 (n_ : Nat) (y0 : Str) (y1 : Int) : Option (Unit × Str) :=
  (some () : Option Unit).bind fun _ =>
  (chk (decide (0 ≤ y1) && decide (y1 < 256) && decide (len y0 + 1 < 4294967296))).bind fun _ =>
  some ((), y0 ++ [UInt8.ofNat y1.toNat])
theorem le_strings_Builder_WriteByte_2 (n_ : Nat) (y0 : Str) (y1 : Int) : Le (e_strings_Builder_WriteByte_2 n_ y0 y1) (m_strings_Builder_WriteByte_2 y0 y1) := by
  unfold e_strings_Builder_WriteByte_2 m_strings_Builder_WriteByte_2
  repeat with_reducible (first | intro _ | exact Le.refl _ | apply Le.ite | apply Le.seqE | apply Le.bind | apply Le.lp | exact Le.none _)
def e_strings_Builder_WriteString_2 (n_ : Nat) (y0 : Str) (y1 : Str) : Option (Int × Unit × Str) := wstrM y0 y1
theorem le_strings_Builder_WriteString_2 (n_ : Nat) (y0 : Str) (y1 : Str) : Le (e_strings_Builder_WriteString_2 n_ y0 y1) (m_strings_Builder_WriteString_2 y0 y1) := by
  unfold e_strings_Builder_WriteString_2 m_strings_Builder_WriteString_2
  repeat with_reducible (first | intro _ | exact Le.refl _ | apply Le.ite | apply Le.seqE | apply Le.bind | apply Le.lp | exact Le.none _)
def e_referee_writer_line_L1 (n_ : Nat) (y1 : List An) (s2 : Int × Str) : Option ((Int × Str) ⊕ Str) :=
  if decide (s2.1 < (len y1)) then
    (idx y1 s2.1).bind fun x1 =>
    (
      if decide (0 < s2.1) then
        ((e_strings_Builder_WriteByte_2 n_) s2.2 32).bind fun r1 =>
        some r1.2
      else
        some s2.2 : Option Str).bind fun s3 =>
    if An.isI x1 then
      ((e_strconv_Itoa n_) (An.int x1)).bind fun r2 =>
      ((e_strings_Builder_WriteString_2 n_) s3 r2).bind fun r3 =>
      some (.inl (w64 (s2.1 + 1), r3.2.2))
    else
      if An.isS x1 then
        ((e_strings_Builder_WriteString_2 n_) s3 (An.str x1)).bind fun r4 =>
        some (.inl (w64 (s2.1 + 1), r4.2.2))
      else
        some (.inl (w64 (s2.1 + 1), s3))
  else
    some (.inr s2.2)
theorem le_referee_writer_line_L1 (n_ : Nat) (y1 : List An) (s2 : Int × Str) : Le (e_referee_writer_line_L1 n_ y1 s2) (m_referee_writer_line_L1 y1 s2) := by
  unfold e_referee_writer_line_L1 m_referee_writer_line_L1
  repeat with_reducible (first | intro _ | apply le_strings_Builder_WriteString_2 | apply le_strconv_Itoa | apply le_strings_Builder_WriteByte_2 | exact Le.refl _ | apply Le.ite | apply Le.seqE | apply Le.bind | apply Le.lp | exact Le.none _)
def e_referee_writer_line (n_ : Nat) (y0 : Str) (y1 : List An) : Option Str :=
  ((lp n_) ((e_referee_writer_line_L1 n_) y1) (0, y0) : Option Str).bind fun s1 =>
  ((e_strings_Builder_WriteByte_2 n_) s1 10).bind fun r5 =>
  some r5.2
theorem le_referee_writer_line (n_ : Nat) (y0 : Str) (y1 : List An) : Le (e_referee_writer_line n_ y0 y1) (m_referee_writer_line y0 y1) := by
  unfold e_referee_writer_line m_referee_writer_line
  repeat with_reducible (first | intro _ | apply le_strings_Builder_WriteByte_2 | apply le_referee_writer_line_L1 | exact Le.refl _ | apply Le.ite | apply Le.seqE | apply Le.bind | apply Le.lp | exact Le.none _)
def e_strings_Builder_Len_2 (n_ : Nat) (y0 : Str) : Option Int := some (len y0)
theorem le_strings_Builder_Len_2 (n_ : Nat) (y0 : Str) : Le (e_strings_Builder_Len_2 n_ y0) (m_strings_Builder_Len_2 y0) := by
  unfold e_strings_Builder_Len_2 m_strings_Builder_Len_2
  repeat with_reducible (first | intro _ | exact Le.refl _ | apply Le.ite | apply Le.seqE | apply Le.bind | apply Le.lp | exact Le.none _)
def e_strings_Builder_String_2 (n_ : Nat) (y0 : Str) : Option Str := some y0
theorem le_strings_Builder_String_2 (n_ : Nat) (y0 : Str) : Le (e_strings_Builder_String_2 n_ y0) (m_strings_Builder_String_2 y0) := by
  unfold e_strings_Builder_String_2 m_strings_Builder_String_2
  repeat with_reducible (first | intro _ | exact Le.refl _ | apply Le.ite | apply Le.seqE | apply Le.bind | apply Le.lp | exact Le.none _)
def e_referee_Format_L1 (n_ : Nat) (y0 : T_Transcript) (s2 : Int × Str) : Option ((Int × Str) ⊕ Str) :=
  if decide (s2.1 < (len y0.1.2)) then
    (idx y0.1.2 s2.1).bind fun x1 =>
    ((e_referee_writer_line n_) s2.2 ([An.s [97, 116, 116, 97, 99, 107], An.i x1.1, An.i x1.2] : List An)).bind fun r3 =>
    some (.inl (w64 (s2.1 + 1), r3))
  else
    some (.inr s2.2)
theorem le_referee_Format_L1 (n_ : Nat) (y0 : T_Transcript) (s2 : Int × Str) : Le (e_referee_Format_L1 n_ y0 s2) (m_referee_Format_L1 y0 s2) := by
  unfold e_referee_Format_L1 m_referee_Format_L1
  repeat with_reducible (first | intro _ | apply le_referee_writer_line | exact Le.refl _ | apply Le.ite | apply Le.seqE | apply Le.bind | apply Le.lp | exact Le.none _)
def e_referee_Format_L2 (n_ : Nat) (y0 : T_Transcript) (s4 : Int × Str) : Option ((Int × Str) ⊕ Str) :=
  if decide (s4.1 < (len y0.2.2.2)) then
    (idx y0.2.2.2 s4.1).bind fun x2 =>
    (idx tab_referee_players x2.1).bind fun x3 =>
    if x2.2.1 == 1 then
      ((e_referee_writer_line n_) s4.2 ([An.s x3, An.s [99, 108, 97, 105, 109, 115], An.i x2.2.2.1] : List An)).bind fun r6 =>
      some (.inl (w64 (s4.1 + 1), r6))
    else
      if x2.2.1 == 2 then
        ((e_referee_writer_line n_) s4.2 ([An.s x3, An.s [109, 111, 118, 101, 115], An.i x2.2.2.1, An.s [97, 103, 97, 105, 110, 115, 116], An.i x2.2.2.2] : List An)).bind fun r7 =>
        some (.inl (w64 (s4.1 + 1), r7))
      else
        if x2.2.1 == 3 then
          ((e_referee_writer_line n_) s4.2 ([An.s x3, An.s [114, 101, 116, 114, 97, 99, 116, 115], An.i x2.2.2.2] : List An)).bind fun r8 =>
          some (.inl (w64 (s4.1 + 1), r8))
        else
          ((e_referee_writer_line n_) s4.2 ([An.s x3, An.s [99, 111, 110, 99, 101, 100, 101, 115]] : List An)).bind fun r9 =>
          some (.inl (w64 (s4.1 + 1), r9))
  else
    some (.inr s4.2)
theorem le_referee_Format_L2 (n_ : Nat) (y0 : T_Transcript) (s4 : Int × Str) : Le (e_referee_Format_L2 n_ y0 s4) (m_referee_Format_L2 y0 s4) := by
  unfold e_referee_Format_L2 m_referee_Format_L2
  repeat with_reducible (first | intro _ | apply le_referee_writer_line | exact Le.refl _ | apply Le.ite | apply Le.seqE | apply Le.bind | apply Le.lp | exact Le.none _)
def e_referee_Format (n_ : Nat) (y0 : T_Transcript) : Option (Str × Int) :=
  ((e_referee_check n_) y0).bind fun r1 =>
  if r1 != 0 then
    some ([], r1)
  else
    ((e_referee_writer_line n_) ([] : Str) ([An.s [110, 111, 100, 101, 115], An.i y0.1.1] : List An)).bind fun r2 =>
    ((lp n_) ((e_referee_Format_L1 n_) y0) (0, r2) : Option Str).bind fun s1 =>
    ((e_referee_writer_line n_) s1 ([An.s [114, 111, 111, 116], An.i y0.2.1] : List An)).bind fun r4 =>
    ((e_referee_writer_line n_) r4 ([An.s [108, 105, 109, 105, 116, 115], An.i y0.2.2.1.1, An.i y0.2.2.1.2] : List An)).bind fun r5 =>
    ((lp n_) ((e_referee_Format_L2 n_) y0) (0, r5) : Option Str).bind fun s3 =>
    ((e_strings_Builder_Len_2 n_) s3).bind fun r10 =>
    if decide (4096 < r10) then
      some ([], 2)
    else
      ((e_strings_Builder_String_2 n_) s3).bind fun r11 =>
      some (r11, 0)
theorem le_referee_Format (n_ : Nat) (y0 : T_Transcript) : Le (e_referee_Format n_ y0) (m_referee_Format y0) := by
  unfold e_referee_Format m_referee_Format
  repeat with_reducible (first | intro _ | apply le_strings_Builder_String_2 | apply le_strings_Builder_Len_2 | apply le_referee_Format_L2 | apply le_referee_Format_L1 | apply le_referee_writer_line | apply le_referee_check | exact Le.refl _ | apply Le.ite | apply Le.seqE | apply Le.bind | apply Le.lp | exact Le.none _)
def e_strconv_Atoi (n_ : Nat) (y0 : Str) : Option (Int × Bool) := atoiM y0
theorem le_strconv_Atoi (n_ : Nat) (y0 : Str) : Le (e_strconv_Atoi n_ y0) (m_strconv_Atoi y0) := by
  unfold e_strconv_Atoi m_strconv_Atoi
  repeat with_reducible (first | intro _ | exact Le.refl _ | apply Le.ite | apply Le.seqE | apply Le.bind | apply Le.lp | exact Le.none _)
def e_strings_Count (n_ : Nat) (y0 : Str) (y1 : Str) : Option Int := count1 y0 y1
theorem le_strings_Count (n_ : Nat) (y0 : Str) (y1 : Str) : Le (e_strings_Count n_ y0 y1) (m_strings_Count y0 y1) := by
  unfold e_strings_Count m_strings_Count
  repeat with_reducible (first | intro _ | exact Le.refl _ | apply Le.ite | apply Le.seqE | apply Le.bind | apply Le.lp | exact Le.none _)
def e_internal_stringslite_Index (n_ : Nat) (y0 : Str) (y1 : Str) : Option Int := index1 y0 y1
theorem le_internal_stringslite_Index (n_ : Nat) (y0 : Str) (y1 : Str) : Le (e_internal_stringslite_Index n_ y0 y1) (m_internal_stringslite_Index y0 y1) := by
  unfold e_internal_stringslite_Index m_internal_stringslite_Index
  repeat with_reducible (first | intro _ | exact Le.refl _ | apply Le.ite | apply Le.seqE | apply Le.bind | apply Le.lp | exact Le.none _)
def e_strings_Index (n_ : Nat) (y0 : Str) (y1 : Str) : Option Int :=
  ((e_internal_stringslite_Index n_) y0 y1).bind fun r1 =>
  some r1
theorem le_strings_Index (n_ : Nat) (y0 : Str) (y1 : Str) : Le (e_strings_Index n_ y0 y1) (m_strings_Index y0 y1) := by
  unfold e_strings_Index m_strings_Index
  repeat with_reducible (first | intro _ | apply le_internal_stringslite_Index | exact Le.refl _ | apply Le.ite | apply Le.seqE | apply Le.bind | apply Le.lp | exact Le.none _)
def e_strings_genSplit_L1 (n_ : Nat) (y0 : Str) (s1 : Int) (y1 : Str) (y2 : Int) (s3 : Str × (List Str) × Int) : Option ((Str × (List Str) × Int) ⊕ (Str × (List Str) × Int)) :=
  if decide (s3.2.2 < (w64 ((if (w64 ((len y0) + 1)) < s1 then w64 ((len y0) + 1) else s1) - 1))) then
    ((e_strings_Index n_) s3.1 y1).bind fun r2 =>
    if decide (r2 < 0) then
      some (.inr (s3.1, s3.2.1, s3.2.2))
    else
      (sub s3.1 0 (w64 (r2 + y2))).bind fun x2 =>
      (idx s3.2.1 s3.2.2).bind fun _ =>
      (sub s3.1 (w64 (r2 + (len y1))) (len s3.1)).bind fun x4 =>
      some (.inl (x4, List.set s3.2.1 (Int.toNat s3.2.2) x2, w64 (s3.2.2 + 1)))
  else
    some (.inr (s3.1, s3.2.1, s3.2.2))
theorem le_strings_genSplit_L1 (n_ : Nat) (y0 : Str) (s1 : Int) (y1 : Str) (y2 : Int) (s3 : Str × (List Str) × Int) : Le (e_strings_genSplit_L1 n_ y0 s1 y1 y2 s3) (m_strings_genSplit_L1 y0 s1 y1 y2 s3) := by
  unfold e_strings_genSplit_L1 m_strings_genSplit_L1
  repeat with_reducible (first | intro _ | apply le_strings_Index | exact Le.refl _ | apply Le.ite | apply Le.seqE | apply Le.bind | apply Le.lp | exact Le.none _)
def e_strings_genSplit (n_ : Nat) (y0 : Str) (y1 : Str) (y2 : Int) (y3 : Int) : Option (List Str) :=
  if y3 == 0 then
    some ([] : List Str)
  else
    if y1 == [] then
      none
    else
      (
        if decide (y3 < 0) then
          ((e_strings_Count n_) y0 y1).bind fun r1 =>
          some (w64 (r1 + 1))
        else
          some y3 : Option Int).bind fun s1 =>
      (mkS (if (w64 ((len y0) + 1)) < s1 then w64 ((len y0) + 1) else s1) (if (w64 ((len y0) + 1)) < s1 then w64 ((len y0) + 1) else s1) ([] : Str)).bind fun x1 =>
      ((lp n_) ((e_strings_genSplit_L1 n_) y0 s1 y1 y2) (y0, x1, 0) : Option (Str × (List Str) × Int)).bind fun s2 =>
      (idx s2.2.1 s2.2.2).bind fun _ =>
      (sub (List.set s2.2.1 (Int.toNat s2.2.2) s2.1) 0 (w64 (s2.2.2 + 1))).bind fun x6 =>
      some x6
theorem le_strings_genSplit (n_ : Nat) (y0 : Str) (y1 : Str) (y2 : Int) (y3 : Int) : Le (e_strings_genSplit n_ y0 y1 y2 y3) (m_strings_genSplit y0 y1 y2 y3) := by
  unfold e_strings_genSplit m_strings_genSplit
  repeat with_reducible (first | intro _ | apply le_strings_genSplit_L1 | apply le_strings_Count | exact Le.refl _ | apply Le.ite | apply Le.seqE | apply Le.bind | apply Le.lp | exact Le.none _)
def e_strings_Split (n_ : Nat) (y0 : Str) (y1 : Str) : Option (List Str) :=
  ((e_strings_genSplit n_) y0 y1 0 (-1)).bind fun r1 =>
  some r1
theorem le_strings_Split (n_ : Nat) (y0 : Str) (y1 : Str) : Le (e_strings_Split n_ y0 y1) (m_strings_Split y0 y1) := by
  unfold e_strings_Split m_strings_Split
  repeat with_reducible (first | intro _ | apply le_strings_genSplit | exact Le.refl _ | apply Le.ite | apply Le.seqE | apply Le.bind | apply Le.lp | exact Le.none _)
def e_referee_numbers_L1 (n_ : Nat) (r2 : (List Str)) (r1 : (List Str)) (s1 : (List Int) × Int) : Option (((List Int) × Int) ⊕ ((List Int) × Bool)) :=
  if decide (s1.2 < (len r2)) then
    (idx r2 s1.2).bind fun x1 =>
    if !(x1 == [35]) then
      (idx r1 s1.2).bind fun x2 =>
      if !(x2 == x1) then
        some (.inr (([] : List Int), false))
      else
        some (.inl (s1.1, w64 (s1.2 + 1)))
    else
      (idx r1 s1.2).bind fun x3 =>
      ((e_strconv_Atoi n_) x3).bind fun r3 =>
      (
        if r3.2 then
          some true
        else
          (idx r1 s1.2).bind fun x4 =>
          if decide (4 < (len x4)) then
            some true
          else
            (idx r1 s1.2).bind fun x5 =>
            ((e_strconv_Itoa n_) r3.1).bind fun r4 =>
            if !(r4 == x5) then
              some true
            else
              some (decide (r3.1 < 0)) : Option Bool).bind fun s2 =>
      if s2 then
        some (.inr (([] : List Int), false))
      else
        (app s1.1 ([r3.1] : List Int)).bind fun x6 =>
        some (.inl (x6, w64 (s1.2 + 1)))
  else
    some (.inr (s1.1, true))
theorem le_referee_numbers_L1 (n_ : Nat) (r2 : (List Str)) (r1 : (List Str)) (s1 : (List Int) × Int) : Le (e_referee_numbers_L1 n_ r2 r1 s1) (m_referee_numbers_L1 r2 r1 s1) := by
  unfold e_referee_numbers_L1 m_referee_numbers_L1
  repeat with_reducible (first | intro _ | apply le_strconv_Itoa | apply le_strconv_Atoi | exact Le.refl _ | apply Le.ite | apply Le.seqE | apply Le.bind | apply Le.lp | exact Le.none _)
def e_referee_numbers (n_ : Nat) (y0 : Str) (y1 : Str) : Option ((List Int) × Bool) :=
  ((e_strings_Split n_) y0 [32]).bind fun r1 =>
  ((e_strings_Split n_) y1 [32]).bind fun r2 =>
  if (len r1) != (len r2) then
    some (([] : List Int), false)
  else
    (lp n_) ((e_referee_numbers_L1 n_) r2 r1) (([] : List Int), 0)
theorem le_referee_numbers (n_ : Nat) (y0 : Str) (y1 : Str) : Le (e_referee_numbers n_ y0 y1) (m_referee_numbers y0 y1) := by
  unfold e_referee_numbers m_referee_numbers
  repeat with_reducible (first | intro _ | apply le_referee_numbers_L1 | apply le_strings_Split | exact Le.refl _ | apply Le.ite | apply Le.seqE | apply Le.bind | apply Le.lp | exact Le.none _)
def e_internal_stringslite_Cut (n_ : Nat) (y0 : Str) (y1 : Str) : Option (Str × Str × Bool) :=
  ((e_internal_stringslite_Index n_) y0 y1).bind fun r1 =>
  if decide (0 ≤ r1) then
    (sub y0 0 r1).bind fun x1 =>
    (sub y0 (w64 (r1 + (len y1))) (len y0)).bind fun x2 =>
    some (x1, x2, true)
  else
    some (y0, [], false)
theorem le_internal_stringslite_Cut (n_ : Nat) (y0 : Str) (y1 : Str) : Le (e_internal_stringslite_Cut n_ y0 y1) (m_internal_stringslite_Cut y0 y1) := by
  unfold e_internal_stringslite_Cut m_internal_stringslite_Cut
  repeat with_reducible (first | intro _ | apply le_internal_stringslite_Index | exact Le.refl _ | apply Le.ite | apply Le.seqE | apply Le.bind | apply Le.lp | exact Le.none _)
def e_strings_Cut (n_ : Nat) (y0 : Str) (y1 : Str) : Option (Str × Str × Bool) :=
  ((e_internal_stringslite_Cut n_) y0 y1).bind fun r1 =>
  some (r1.1, r1.2.1, r1.2.2)
theorem le_strings_Cut (n_ : Nat) (y0 : Str) (y1 : Str) : Le (e_strings_Cut n_ y0 y1) (m_strings_Cut y0 y1) := by
  unfold e_strings_Cut m_strings_Cut
  repeat with_reducible (first | intro _ | apply le_internal_stringslite_Cut | exact Le.refl _ | apply Le.ite | apply Le.seqE | apply Le.bind | apply Le.lp | exact Le.none _)
def e_referee_move (n_ : Nat) (y0 : Str) : Option (T_Move × Bool) :=
  ((e_strings_Cut n_) y0 [32]).bind fun r1 =>
  seqE (
    (idx tab_referee_players 1).bind fun x1 =>
    if r1.1 == x1 then
      some (.inl 1)
    else
      (idx tab_referee_players 2).bind fun x2 =>
      if r1.1 == x2 then
        some (.inl 2)
      else
        some (.inr ((1, 0, 0, 0), false)) : Option (Int ⊕ (T_Move × Bool))) fun s1 =>
  ((e_referee_numbers n_) r1.2.1 [99, 108, 97, 105, 109, 115, 32, 35]).bind fun r2 =>
  if r2.2 then
    (idx r2.1 0).bind fun x3 =>
    some ((s1, 1, x3, 0), true)
  else
    ((e_referee_numbers n_) r1.2.1 [109, 111, 118, 101, 115, 32, 35, 32, 97, 103, 97, 105, 110, 115, 116, 32, 35]).bind fun r3 =>
    if r3.2 then
      (idx r3.1 0).bind fun x4 =>
      (idx r3.1 1).bind fun x5 =>
      some ((s1, 2, x4, x5), true)
    else
      ((e_referee_numbers n_) r1.2.1 [114, 101, 116, 114, 97, 99, 116, 115, 32, 35]).bind fun r4 =>
      if r4.2 then
        (idx r4.1 0).bind fun x6 =>
        some ((s1, 3, 0, x6), true)
      else
        some ((s1, 4, 0, 0), r1.2.1 == [99, 111, 110, 99, 101, 100, 101, 115])
theorem le_referee_move (n_ : Nat) (y0 : Str) : Le (e_referee_move n_ y0) (m_referee_move y0) := by
  unfold e_referee_move m_referee_move
  repeat with_reducible (first | intro _ | apply le_referee_numbers | apply le_strings_Cut | exact Le.refl _ | apply Le.ite | apply Le.seqE | apply Le.bind | apply Le.lp | exact Le.none _)
def e_referee_reader_read (n_ : Nat) (y0 : T_referee_reader) (y1 : Str) : Option (Bool × Int × (List T_Pair) × Int × Int × Int × (List T_Move) × Int) :=
  if y0.2 == 0 then
    ((e_referee_numbers n_) y1 [110, 111, 100, 101, 115, 32, 35]).bind fun r1 =>
    if r1.2 then
      (idx r1.1 0).bind fun x1 =>
      some (r1.2, x1, y0.1.1.2, y0.1.2.1, y0.1.2.2.1.1, y0.1.2.2.1.2, y0.1.2.2.2, 1)
    else
      some (r1.2, y0.1.1.1, y0.1.1.2, y0.1.2.1, y0.1.2.2.1.1, y0.1.2.2.1.2, y0.1.2.2.2, y0.2)
  else
    if y0.2 == 1 then
      ((e_referee_numbers n_) y1 [97, 116, 116, 97, 99, 107, 32, 35, 32, 35]).bind fun r2 =>
      if r2.2 then
        (idx r2.1 0).bind fun x2 =>
        (idx r2.1 1).bind fun x3 =>
        (app y0.1.1.2 ([(x2, x3)] : List T_Pair)).bind fun x4 =>
        some (true, y0.1.1.1, x4, y0.1.2.1, y0.1.2.2.1.1, y0.1.2.2.1.2, y0.1.2.2.2, y0.2)
      else
        ((e_referee_numbers n_) y1 [114, 111, 111, 116, 32, 35]).bind fun r3 =>
        if r3.2 then
          (idx r3.1 0).bind fun x5 =>
          some (r3.2, y0.1.1.1, y0.1.1.2, x5, y0.1.2.2.1.1, y0.1.2.2.1.2, y0.1.2.2.2, 2)
        else
          some (r3.2, y0.1.1.1, y0.1.1.2, y0.1.2.1, y0.1.2.2.1.1, y0.1.2.2.1.2, y0.1.2.2.2, y0.2)
    else
      if y0.2 == 2 then
        ((e_referee_numbers n_) y1 [108, 105, 109, 105, 116, 115, 32, 35, 32, 35]).bind fun r4 =>
        if r4.2 then
          (idx r4.1 0).bind fun x6 =>
          (idx r4.1 1).bind fun x7 =>
          some (r4.2, y0.1.1.1, y0.1.1.2, y0.1.2.1, x6, x7, y0.1.2.2.2, 3)
        else
          some (r4.2, y0.1.1.1, y0.1.1.2, y0.1.2.1, y0.1.2.2.1.1, y0.1.2.2.1.2, y0.1.2.2.2, y0.2)
      else
        ((e_referee_move n_) y1).bind fun r5 =>
        (app y0.1.2.2.2 ([r5.1] : List T_Move)).bind fun x8 =>
        some (r5.2, y0.1.1.1, y0.1.1.2, y0.1.2.1, y0.1.2.2.1.1, y0.1.2.2.1.2, x8, y0.2)
theorem le_referee_reader_read (n_ : Nat) (y0 : T_referee_reader) (y1 : Str) : Le (e_referee_reader_read n_ y0 y1) (m_referee_reader_read y0 y1) := by
  unfold e_referee_reader_read m_referee_reader_read
  repeat with_reducible (first | intro _ | apply le_referee_move | apply le_referee_numbers | exact Le.refl _ | apply Le.ite | apply Le.seqE | apply Le.bind | apply Le.lp | exact Le.none _)
def e_referee_Parse_L1 (n_ : Nat) (s2 : Str × Int × Int × (List T_Pair) × Int × Int × Int × (List T_Move) × Int) : Option ((Str × Int × Int × (List T_Pair) × Int × Int × Int × (List T_Move) × Int) ⊕ ((Int × Int × (List T_Pair) × Int × Int × Int × (List T_Move) × Int) ⊕ (T_Transcript × Int × Int))) :=
  if decide (0 < (len s2.1)) then
    ((e_strings_Cut n_) s2.1 [10]).bind fun r1 =>
    (
      if !r1.2.2 then
        some (true, s2.2.2.1, s2.2.2.2.1, s2.2.2.2.2.1, s2.2.2.2.2.2.1, s2.2.2.2.2.2.2.1, s2.2.2.2.2.2.2.2.1, s2.2.2.2.2.2.2.2.2)
      else
        ((e_referee_reader_read n_) (((s2.2.2.1, s2.2.2.2.1), s2.2.2.2.2.1, (s2.2.2.2.2.2.1, s2.2.2.2.2.2.2.1), s2.2.2.2.2.2.2.2.1), s2.2.2.2.2.2.2.2.2) r1.1).bind fun r2 =>
        some (!r2.1, r2.2.1, r2.2.2.1, r2.2.2.2.1, r2.2.2.2.2.1, r2.2.2.2.2.2.1, r2.2.2.2.2.2.2.1, r2.2.2.2.2.2.2.2) : Option (Bool × Int × (List T_Pair) × Int × Int × Int × (List T_Move) × Int)).bind fun s3 =>
    if s3.1 then
      some (.inr (.inr (((0, ([] : List T_Pair)), 0, (0, 0), ([] : List T_Move)), w64 (s2.2.1 + 1), 3)))
    else
      some (.inl (r1.2.1, w64 (s2.2.1 + 1), s3.2.1, s3.2.2.1, s3.2.2.2.1, s3.2.2.2.2.1, s3.2.2.2.2.2.1, s3.2.2.2.2.2.2.1, s3.2.2.2.2.2.2.2))
  else
    some (.inr (.inl (s2.2.1, s2.2.2.1, s2.2.2.2.1, s2.2.2.2.2.1, s2.2.2.2.2.2.1, s2.2.2.2.2.2.2.1, s2.2.2.2.2.2.2.2.1, s2.2.2.2.2.2.2.2.2)))
theorem le_referee_Parse_L1 (n_ : Nat) (s2 : Str × Int × Int × (List T_Pair) × Int × Int × Int × (List T_Move) × Int) : Le (e_referee_Parse_L1 n_ s2) (m_referee_Parse_L1 s2) := by
  unfold e_referee_Parse_L1 m_referee_Parse_L1
  repeat with_reducible (first | intro _ | apply le_referee_reader_read | apply le_strings_Cut | exact Le.refl _ | apply Le.ite | apply Le.seqE | apply Le.bind | apply Le.lp | exact Le.none _)
def e_referee_Parse (n_ : Nat) (y0 : Str) : Option (T_Transcript × Int × Int) :=
  if decide (4096 < (len y0)) then
    some (((0, ([] : List T_Pair)), 0, (0, 0), ([] : List T_Move)), 0, 2)
  else
    seqE ((lp n_) ((e_referee_Parse_L1 n_)) (y0, 0, 0, ([] : List T_Pair), 0, 0, 0, ([] : List T_Move), 0) : Option ((Int × Int × (List T_Pair) × Int × Int × Int × (List T_Move) × Int) ⊕ (T_Transcript × Int × Int))) fun s1 =>
    if s1.2.2.2.2.2.2.2 != 3 then
      some (((0, ([] : List T_Pair)), 0, (0, 0), ([] : List T_Move)), w64 (s1.1 + 1), 3)
    else
      ((e_referee_check n_) ((s1.2.1, s1.2.2.1), s1.2.2.2.1, (s1.2.2.2.2.1, s1.2.2.2.2.2.1), s1.2.2.2.2.2.2.1)).bind fun r3 =>
      if r3 != 0 then
        some (((0, ([] : List T_Pair)), 0, (0, 0), ([] : List T_Move)), 0, r3)
      else
        some (((s1.2.1, s1.2.2.1), s1.2.2.2.1, (s1.2.2.2.2.1, s1.2.2.2.2.2.1), s1.2.2.2.2.2.2.1), 0, 0)
theorem le_referee_Parse (n_ : Nat) (y0 : Str) : Le (e_referee_Parse n_ y0) (m_referee_Parse y0) := by
  unfold e_referee_Parse m_referee_Parse
  repeat with_reducible (first | intro _ | apply le_referee_check | apply le_referee_Parse_L1 | exact Le.refl _ | apply Le.ite | apply Le.seqE | apply Le.bind | apply Le.lp | exact Le.none _)
def e_law30_awake (n_ : Nat) : Option Bool :=
  ((e_referee_Format n_) ((3, ([(0, 1), (1, 2)] : List T_Pair)), 2, (9, 9), ([(1, 1, 2, 0), (2, 2, 1, 0)] : List T_Move))).bind fun r1 =>
  ((e_referee_Parse n_) r1.1).bind fun r2 =>
  (
    if r1.2 == 0 then
      if r2.2.2 == 0 then
        if r2.2.1 == 0 then
          if r1.1 == [110, 111, 100, 101, 115, 32, 51, 10, 97, 116, 116, 97, 99, 107, 32, 48, 32, 49, 10, 97, 116, 116, 97, 99, 107, 32, 49, 32, 50, 10, 114, 111, 111, 116, 32, 50, 10, 108, 105, 109, 105, 116, 115, 32, 57, 32, 57, 10, 80, 32, 99, 108, 97, 105, 109, 115, 32, 50, 10, 79, 32, 109, 111, 118, 101, 115, 32, 49, 32, 97, 103, 97, 105, 110, 115, 116, 32, 48, 10] then
            ((e_ref30_Same n_) ((3, ([(0, 1), (1, 2)] : List T_Pair)), 2, (9, 9), ([(1, 1, 2, 0), (2, 2, 1, 0)] : List T_Move)) r2.1).bind fun r3 =>
            some r3
          else
            some false
        else
          some false
      else
        some false
    else
      some false : Option Bool).bind fun s1 =>
  some s1
theorem le_law30_awake (n_ : Nat) : Le (e_law30_awake n_ ) (m_law30_awake ) := by
  unfold e_law30_awake m_law30_awake
  repeat with_reducible (first | intro _ | apply le_ref30_Same | apply le_referee_Parse | apply le_referee_Format | exact Le.refl _ | apply Le.ite | apply Le.seqE | apply Le.bind | apply Le.lp | exact Le.none _)
end
section
theorem chn_awake : m_law30_awake = some true := (le_law30_awake 100).el true (by kernel_rfl)
theorem p_law30_RefereeChannel (y0 : List Int) {W0 : Prop} (_w0 : W0) : m_law30_RefereeChannel y0 = some true := p_RefereeChannel chn_awake y0
end

end Go.GD
