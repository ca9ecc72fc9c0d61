/- The plain law: what the models compute, in plain Lean. Conditions: none. -/
import Derived.Test.YtfifhonicjamfaaDoorLib
import Derived.Test.YtfifhonicjamfaaDoorModels
import Derived.Test.YtfifhonicjamfaaDoorJoin
namespace Go.GD
set_option autoImplicit false

section
theorem w64_id {x : Int} (h1 : -9223372036854775808 ≤ x) (h2 : x < 9223372036854775808) : w64 x = x := by
  simp only [w64, IntKind.wrap, IntKind.signed, IntKind.bits]
  simp; omega
end
section
theorem keep_Mod {x n : Int} (h0 : 1 ≤ n) (h1 : n ≤ 4611686018427387904) : ∃ v, m_keep_Mod x n = some v ∧ 0 ≤ v ∧ v < n := by
  unfold m_keep_Mod
  have hn : ¬ n < 1 := by omega
  have hn0 : n ≠ 0 := by omega
  simp only [hn, decide_false, Bool.false_eq_true, if_false, remK, hn0, Option.bind_some]
  have ha := Int.tmod_lt_of_pos x (show 0 < n by omega)
  have hb : -n < x.tmod n := by
    have := Int.lt_tmod_of_pos x (show 0 < n by omega)
    exact this
  by_cases hx : x.tmod n < 0
  · exact ⟨x.tmod n + n, by simp [hx, w64_id (x := x.tmod n + n) (by omega) (by omega)], by omega, by omega⟩
  · exact ⟨x.tmod n, by simp [hx], by omega, ha⟩
end
section
/-- whatever the one answers, the other answers -/
structure Le {α : Type} (a b : Option α) : Prop where
  el : ∀ r, a = some r → b = some r
theorem Le.refl {α : Type} (a : Option α) : Le a a := ⟨fun _ h => h⟩
theorem Le.bind {α β : Type} {a b : Option α} {f g : α → Option β} (h : Le a b) (k : ∀ x, Le (f x) (g x)) : Le (a.bind f) (b.bind g) := ⟨fun r hr => by
  cases a with
  | none => cases hr
  | some x => rw [h.el x rfl]; exact (k x).el r hr⟩
theorem Le.ite {α : Type} {c : Prop} [Decidable c] {a b a' b' : Option α} (h : Le a b) (k : Le a' b') : Le (if c then a else a') (if c then b else b') := by
  split
  · exact h
  · exact k
theorem Le.seqE {σ α : Type} {a b : Option (σ ⊕ α)} {f g : σ → Option α} (h : Le a b) (k : ∀ x, Le (f x) (g x)) : Le (seqE a f) (seqE b g) :=
  Le.bind h fun o => by
    cases o with
    | inl s => exact k s
    | inr r => exact Le.refl _
theorem Le.none {α : Type} (b : Option α) : Le none b := ⟨fun _ h => nomatch h⟩
abbrev lp {σ ρ : Type} (n : Nat) (B : σ → Option (σ ⊕ ρ)) (s : σ) : Option ρ := iter B n s
theorem Le.lp {σ ρ : Type} {B C : σ → Option (σ ⊕ ρ)} (h : ∀ s, Le (B s) (C s)) (n : Nat) (s : σ) : Le (lp n B s) (loop C s) := by
  refine ⟨fun r hr => ?_⟩
  refine loop_of_iter (n := n) ?_
  revert s
  induction n with
  | zero => intro s hr; cases hr
  | succ n ih =>
    intro s hr
    simp only [iter] at hr ⊢
    cases hb : B s with
    | none => rw [hb] at hr; cases hr
    | some o =>
      rw [hb] at hr
      rw [(h s).el o hb]
      cases o with
      | inl s' => exact ih s' hr
      | inr r' => exact hr
end
section
set_option linter.unusedVariables false
def e_keep_Mod (n_ : Nat) (y0 : Int) (y1 : Int) : Option Int :=
  if decide (y1 < 1) then
    some 0
  else
    (remK y0 y1).bind fun x1 =>
    if decide (x1 < 0) then
      some (w64 (x1 + y1))
    else
      some x1
theorem le_keep_Mod (n_ : Nat) (y0 : Int) (y1 : Int) : Le (e_keep_Mod n_ y0 y1) (m_keep_Mod y0 y1) := by
  unfold e_keep_Mod m_keep_Mod
  repeat with_reducible (first | intro _ | exact Le.refl _ | apply Le.ite | apply Le.seqE | apply Le.bind | apply Le.lp | exact Le.none _)
def e_keep_RuleName (n_ : Nat) (y0 : Int) : Option Str :=
  ((e_keep_Mod n_) y0 26).bind fun r1 =>
  (cat [114] (strOf ([IntKind.u8.wrap (w64 (97 + r1))] : List Int))).bind fun x1 =>
  some x1
theorem le_keep_RuleName (n_ : Nat) (y0 : Int) : Le (e_keep_RuleName n_ y0) (m_keep_RuleName y0) := by
  unfold e_keep_RuleName m_keep_RuleName
  repeat with_reducible (first | intro _ | apply le_keep_Mod | exact Le.refl _ | apply Le.ite | apply Le.seqE | apply Le.bind | apply Le.lp | exact Le.none _)
def e_rulebase_Find_1 (n_ : Nat) (y0 : T_Rule) (y1 : Str) : Option Bool :=
  some (y0.1 == y1)
theorem le_rulebase_Find_1 (n_ : Nat) (y0 : T_Rule) (y1 : Str) : Le (e_rulebase_Find_1 n_ y0 y1) (m_rulebase_Find_1 y0 y1) := by
  unfold e_rulebase_Find_1 m_rulebase_Find_1
  repeat with_reducible (first | intro _ | exact Le.refl _ | apply Le.ite | apply Le.seqE | apply Le.bind | apply Le.lp | exact Le.none _)
def e_slices_IndexFunc_Rule__rulebase_Find_1_L1 (n_ : Nat) (y0 : List T_Rule) (y1 : Str) (s1 : Int) : Option (Int ⊕ Int) :=
  if decide (s1 < (len y0)) then
    (idx y0 s1).bind fun x1 =>
    ((e_rulebase_Find_1 n_) x1 y1).bind fun r1 =>
    if r1 then
      some (.inr s1)
    else
      some (.inl (w64 (s1 + 1)))
  else
    some (.inr (-1))
theorem le_slices_IndexFunc_Rule__rulebase_Find_1_L1 (n_ : Nat) (y0 : List T_Rule) (y1 : Str) (s1 : Int) : Le (e_slices_IndexFunc_Rule__rulebase_Find_1_L1 n_ y0 y1 s1) (m_slices_IndexFunc_Rule__rulebase_Find_1_L1 y0 y1 s1) := by
  unfold e_slices_IndexFunc_Rule__rulebase_Find_1_L1 m_slices_IndexFunc_Rule__rulebase_Find_1_L1
  repeat with_reducible (first | intro _ | apply le_rulebase_Find_1 | exact Le.refl _ | apply Le.ite | apply Le.seqE | apply Le.bind | apply Le.lp | exact Le.none _)
def e_slices_IndexFunc_Rule__rulebase_Find_1 (n_ : Nat) (y0 : List T_Rule) (y1 : Str) : Option Int :=
  (lp n_) ((e_slices_IndexFunc_Rule__rulebase_Find_1_L1 n_) y0 y1) 0
theorem le_slices_IndexFunc_Rule__rulebase_Find_1 (n_ : Nat) (y0 : List T_Rule) (y1 : Str) : Le (e_slices_IndexFunc_Rule__rulebase_Find_1 n_ y0 y1) (m_slices_IndexFunc_Rule__rulebase_Find_1 y0 y1) := by
  unfold e_slices_IndexFunc_Rule__rulebase_Find_1 m_slices_IndexFunc_Rule__rulebase_Find_1
  repeat with_reducible (first | intro _ | apply le_slices_IndexFunc_Rule__rulebase_Find_1_L1 | exact Le.refl _ | apply Le.ite | apply Le.seqE | apply Le.bind | apply Le.lp | exact Le.none _)
def e_rulebase_Find (n_ : Nat) (y0 : T_Base) (y1 : Str) : Option Int :=
  ((e_slices_IndexFunc_Rule__rulebase_Find_1 n_) y0.2.1 y1).bind fun r1 =>
  some r1
theorem le_rulebase_Find (n_ : Nat) (y0 : T_Base) (y1 : Str) : Le (e_rulebase_Find n_ y0 y1) (m_rulebase_Find y0 y1) := by
  unfold e_rulebase_Find m_rulebase_Find
  repeat with_reducible (first | intro _ | apply le_slices_IndexFunc_Rule__rulebase_Find_1 | exact Le.refl _ | apply Le.ite | apply Le.seqE | apply Le.bind | apply Le.lp | exact Le.none _)
def e_rulebase_Premise_1 (n_ : Nat) (y0 : T_Premise) (y1 : T_Literal) : Option Bool :=
  some (y0.1 == y1)
theorem le_rulebase_Premise_1 (n_ : Nat) (y0 : T_Premise) (y1 : T_Literal) : Le (e_rulebase_Premise_1 n_ y0 y1) (m_rulebase_Premise_1 y0 y1) := by
  unfold e_rulebase_Premise_1 m_rulebase_Premise_1
  repeat with_reducible (first | intro _ | exact Le.refl _ | apply Le.ite | apply Le.seqE | apply Le.bind | apply Le.lp | exact Le.none _)
def e_slices_IndexFunc_Premise__rulebase_Premise_1_L1 (n_ : Nat) (y0 : List T_Premise) (y1 : T_Literal) (s1 : Int) : Option (Int ⊕ Int) :=
  if decide (s1 < (len y0)) then
    (idx y0 s1).bind fun x1 =>
    ((e_rulebase_Premise_1 n_) x1 y1).bind fun r1 =>
    if r1 then
      some (.inr s1)
    else
      some (.inl (w64 (s1 + 1)))
  else
    some (.inr (-1))
theorem le_slices_IndexFunc_Premise__rulebase_Premise_1_L1 (n_ : Nat) (y0 : List T_Premise) (y1 : T_Literal) (s1 : Int) : Le (e_slices_IndexFunc_Premise__rulebase_Premise_1_L1 n_ y0 y1 s1) (m_slices_IndexFunc_Premise__rulebase_Premise_1_L1 y0 y1 s1) := by
  unfold e_slices_IndexFunc_Premise__rulebase_Premise_1_L1 m_slices_IndexFunc_Premise__rulebase_Premise_1_L1
  repeat with_reducible (first | intro _ | apply le_rulebase_Premise_1 | exact Le.refl _ | apply Le.ite | apply Le.seqE | apply Le.bind | apply Le.lp | exact Le.none _)
def e_slices_IndexFunc_Premise__rulebase_Premise_1 (n_ : Nat) (y0 : List T_Premise) (y1 : T_Literal) : Option Int :=
  (lp n_) ((e_slices_IndexFunc_Premise__rulebase_Premise_1_L1 n_) y0 y1) 0
theorem le_slices_IndexFunc_Premise__rulebase_Premise_1 (n_ : Nat) (y0 : List T_Premise) (y1 : T_Literal) : Le (e_slices_IndexFunc_Premise__rulebase_Premise_1 n_ y0 y1) (m_slices_IndexFunc_Premise__rulebase_Premise_1 y0 y1) := by
  unfold e_slices_IndexFunc_Premise__rulebase_Premise_1 m_slices_IndexFunc_Premise__rulebase_Premise_1
  repeat with_reducible (first | intro _ | apply le_slices_IndexFunc_Premise__rulebase_Premise_1_L1 | exact Le.refl _ | apply Le.ite | apply Le.seqE | apply Le.bind | apply Le.lp | exact Le.none _)
def e_rulebase_Premise (n_ : Nat) (y0 : T_Base) (y1 : T_Literal) : Option Int :=
  ((e_slices_IndexFunc_Premise__rulebase_Premise_1 n_) y0.1 y1).bind fun r1 =>
  some r1
theorem le_rulebase_Premise (n_ : Nat) (y0 : T_Base) (y1 : T_Literal) : Le (e_rulebase_Premise n_ y0 y1) (m_rulebase_Premise y0 y1) := by
  unfold e_rulebase_Premise m_rulebase_Premise
  repeat with_reducible (first | intro _ | apply le_slices_IndexFunc_Premise__rulebase_Premise_1 | exact Le.refl _ | apply Le.ite | apply Le.seqE | apply Le.bind | apply Le.lp | exact Le.none _)
def e_literal_ValidName_L1 (n_ : Nat) (y0 : Str) (s1 : Int) : Option (Int ⊕ Bool) :=
  if decide (s1 < (len y0)) then
    (sidx y0 s1).bind fun x1 =>
    if (decide (97 ≤ x1)) && (decide (x1 ≤ 122)) then
      some (.inl (w64 (s1 + 1)))
    else
      if (decide (0 < s1)) && (if decide (48 ≤ x1) then (decide (x1 ≤ 57)) || (x1 == 95) else x1 == 95) then
        some (.inl (w64 (s1 + 1)))
      else
        some (.inr false)
  else
    some (.inr true)
theorem le_literal_ValidName_L1 (n_ : Nat) (y0 : Str) (s1 : Int) : Le (e_literal_ValidName_L1 n_ y0 s1) (m_literal_ValidName_L1 y0 s1) := by
  unfold e_literal_ValidName_L1 m_literal_ValidName_L1
  repeat with_reducible (first | intro _ | exact Le.refl _ | apply Le.ite | apply Le.seqE | apply Le.bind | apply Le.lp | exact Le.none _)
def e_literal_ValidName (n_ : Nat) (y0 : Str) : Option Bool :=
  if ((len y0) == 0) || (decide (12 < (len y0))) then
    some false
  else
    (lp n_) ((e_literal_ValidName_L1 n_) y0) 0
theorem le_literal_ValidName (n_ : Nat) (y0 : Str) : Le (e_literal_ValidName n_ y0) (m_literal_ValidName y0) := by
  unfold e_literal_ValidName m_literal_ValidName
  repeat with_reducible (first | intro _ | apply le_literal_ValidName_L1 | exact Le.refl _ | apply Le.ite | apply Le.seqE | apply Le.bind | apply Le.lp | exact Le.none _)
def e_literal_Valid (n_ : Nat) (y0 : T_Literal) : Option Bool :=
  ((e_literal_ValidName n_) y0.2).bind fun r1 =>
  some r1
theorem le_literal_Valid (n_ : Nat) (y0 : T_Literal) : Le (e_literal_Valid n_ y0) (m_literal_Valid y0) := by
  unfold e_literal_Valid m_literal_Valid
  repeat with_reducible (first | intro _ | apply le_literal_ValidName | exact Le.refl _ | apply Le.ite | apply Le.seqE | apply Le.bind | apply Le.lp | exact Le.none _)
def e_rulebase_ranked (n_ : Nat) (y0 : Int) : Option Bool :=
  some ((decide (0 ≤ y0)) && (decide (y0 ≤ 9)))
theorem le_rulebase_ranked (n_ : Nat) (y0 : Int) : Le (e_rulebase_ranked n_ y0) (m_rulebase_ranked y0) := by
  unfold e_rulebase_ranked m_rulebase_ranked
  repeat with_reducible (first | intro _ | exact Le.refl _ | apply Le.ite | apply Le.seqE | apply Le.bind | apply Le.lp | exact Le.none _)
def e_rulebase_sourced (n_ : Nat) (y0 : Str) : Option Bool :=
  (
    if y0 == [] then
      some true
    else
      ((e_literal_ValidName n_) y0).bind fun r1 =>
      some r1 : Option Bool).bind fun s1 =>
  some s1
theorem le_rulebase_sourced (n_ : Nat) (y0 : Str) : Le (e_rulebase_sourced n_ y0) (m_rulebase_sourced y0) := by
  unfold e_rulebase_sourced m_rulebase_sourced
  repeat with_reducible (first | intro _ | apply le_literal_ValidName | exact Le.refl _ | apply Le.ite | apply Le.seqE | apply Le.bind | apply Le.lp | exact Le.none _)
def e_rulebase_premise (n_ : Nat) (y0 : T_Premise) : Option Int :=
  seqE (
    (
      if y0.2.1 == 1 then
        some (y0.2.1 == 1)
      else
        some (y0.2.1 == 3) : Option Bool).bind fun s2 =>
    if s2 then
      if y0.2.2.1 != 0 then
        some (.inr 1)
      else
        some (.inl ())
    else
      if y0.2.1 == 2 then
        ((e_rulebase_ranked n_) y0.2.2.1).bind fun r1 =>
        if !r1 then
          some (.inr 1)
        else
          some (.inl ())
      else
        some (.inr 4) : Option (Unit ⊕ Int)) fun _ =>
  (
    ((e_literal_Valid n_) y0.1).bind fun r2 =>
    if !r2 then
      some true
    else
      ((e_rulebase_sourced n_) y0.2.2.2).bind fun r3 =>
      some (!r3) : Option Bool).bind fun s3 =>
  if s3 then
    some 1
  else
    some 0
theorem le_rulebase_premise (n_ : Nat) (y0 : T_Premise) : Le (e_rulebase_premise n_ y0) (m_rulebase_premise y0) := by
  unfold e_rulebase_premise m_rulebase_premise
  repeat with_reducible (first | intro _ | apply le_rulebase_sourced | apply le_literal_Valid | apply le_rulebase_ranked | exact Le.refl _ | apply Le.ite | apply Le.seqE | apply Le.bind | apply Le.lp | exact Le.none _)
def e_rulebase_promotion (n_ : Nat) (y0 : T_Base) (y1 : T_Promotion) : Option Int :=
  (
    ((e_rulebase_ranked n_) y1.2.1).bind fun r1 =>
    if !r1 then
      some true
    else
      ((e_literal_Valid n_) y1.2.2).bind fun r2 =>
      some (!r2) : Option Bool).bind fun s1 =>
  if s1 then
    some 1
  else
    ((e_rulebase_Find n_) y0 y1.1).bind fun r3 =>
    if decide (r3 < 0) then
      some 6
    else
      (idx y0.2.1 r3).bind fun x1 =>
      if x1.2.1 then
        some 4
      else
        some 0
theorem le_rulebase_promotion (n_ : Nat) (y0 : T_Base) (y1 : T_Promotion) : Le (e_rulebase_promotion n_ y0 y1) (m_rulebase_promotion y0 y1) := by
  unfold e_rulebase_promotion m_rulebase_promotion
  repeat with_reducible (first | intro _ | apply le_rulebase_Find | apply le_literal_Valid | apply le_rulebase_ranked | exact Le.refl _ | apply Le.ite | apply Le.seqE | apply Le.bind | apply Le.lp | exact Le.none _)
def e_cmp_isNaN_string (n_ : Nat) (y0 : Str) : Option Bool :=
  some (!(y0 == y0))
theorem le_cmp_isNaN_string (n_ : Nat) (y0 : Str) : Le (e_cmp_isNaN_string n_ y0) (m_cmp_isNaN_string y0) := by
  unfold e_cmp_isNaN_string m_cmp_isNaN_string
  repeat with_reducible (first | intro _ | exact Le.refl _ | apply Le.ite | apply Le.seqE | apply Le.bind | apply Le.lp | exact Le.none _)
def e_cmp_Compare_string (n_ : Nat) (y0 : Str) (y1 : Str) : Option Int :=
  ((e_cmp_isNaN_string n_) y0).bind fun r1 =>
  ((e_cmp_isNaN_string n_) y1).bind fun r2 =>
  if r1 then
    if r2 then
      some 0
    else
      some (-1)
  else
    if r2 then
      some 1
    else
      if sless y0 y1 then
        some (-1)
      else
        if !(sless y0 y1 || y0 == y1) then
          some 1
        else
          some 0
theorem le_cmp_Compare_string (n_ : Nat) (y0 : Str) (y1 : Str) : Le (e_cmp_Compare_string n_ y0 y1) (m_cmp_Compare_string y0 y1) := by
  unfold e_cmp_Compare_string m_cmp_Compare_string
  repeat with_reducible (first | intro _ | apply le_cmp_isNaN_string | exact Le.refl _ | apply Le.ite | apply Le.seqE | apply Le.bind | apply Le.lp | exact Le.none _)
def e_literal_Compare (n_ : Nat) (y0 : T_Literal) (y1 : T_Literal) : Option Int :=
  ((e_cmp_Compare_string n_) y0.2 y1.2).bind fun r1 =>
  if (r1 != 0) || (y0.1 == y1.1) then
    some r1
  else
    if y1.1 then
      some (-1)
    else
      some 1
theorem le_literal_Compare (n_ : Nat) (y0 : T_Literal) (y1 : T_Literal) : Le (e_literal_Compare n_ y0 y1) (m_literal_Compare y0 y1) := by
  unfold e_literal_Compare m_literal_Compare
  repeat with_reducible (first | intro _ | apply le_cmp_Compare_string | exact Le.refl _ | apply Le.ite | apply Le.seqE | apply Le.bind | apply Le.lp | exact Le.none _)
def e_rulebase_rule_L1 (n_ : Nat) (y0 : T_Rule) (s3 : Int) : Option (Int ⊕ (Unit ⊕ Int)) :=
  if decide (s3 < (len y0.2.2.2.1)) then
    (idx y0.2.2.2.1 s3).bind fun x1 =>
    ((e_literal_Valid n_) x1).bind fun r4 =>
    if !r4 then
      some (.inr (.inr 1))
    else
      some (.inl (w64 (s3 + 1)))
  else
    some (.inr (.inl ()))
theorem le_rulebase_rule_L1 (n_ : Nat) (y0 : T_Rule) (s3 : Int) : Le (e_rulebase_rule_L1 n_ y0 s3) (m_rulebase_rule_L1 y0 s3) := by
  unfold e_rulebase_rule_L1 m_rulebase_rule_L1
  repeat with_reducible (first | intro _ | apply le_literal_Valid | exact Le.refl _ | apply Le.ite | apply Le.seqE | apply Le.bind | apply Le.lp | exact Le.none _)
def e_rulebase_rule_L2 (n_ : Nat) (y0 : T_Rule) (s4 : Int) : Option (Int ⊕ Int) :=
  if decide (s4 < (len y0.2.2.2.1)) then
    (idx y0.2.2.2.1 (w64 (s4 - 1))).bind fun x2 =>
    (idx y0.2.2.2.1 s4).bind fun x3 =>
    ((e_literal_Compare n_) x2 x3).bind fun r5 =>
    if decide (0 ≤ r5) then
      some (.inr 8)
    else
      some (.inl (w64 (s4 + 1)))
  else
    some (.inr 0)
theorem le_rulebase_rule_L2 (n_ : Nat) (y0 : T_Rule) (s4 : Int) : Le (e_rulebase_rule_L2 n_ y0 s4) (m_rulebase_rule_L2 y0 s4) := by
  unfold e_rulebase_rule_L2 m_rulebase_rule_L2
  repeat with_reducible (first | intro _ | apply le_literal_Compare | exact Le.refl _ | apply Le.ite | apply Le.seqE | apply Le.bind | apply Le.lp | exact Le.none _)
def e_rulebase_rule (n_ : Nat) (y0 : T_Rule) : Option Int :=
  if decide (4 < (len y0.2.2.2.1)) then
    some 2
  else
    (
      ((e_literal_ValidName n_) y0.1).bind fun r1 =>
      if !r1 then
        some true
      else
        ((e_literal_Valid n_) y0.2.2.2.2).bind fun r2 =>
        if !r2 then
          some true
        else
          ((e_rulebase_ranked n_) y0.2.2.1).bind fun r3 =>
          if !r3 then
            some true
          else
            if y0.2.1 then
              some (y0.2.2.1 != 0)
            else
              some false : Option Bool).bind fun s1 =>
    if s1 then
      some 1
    else
      seqE ((lp n_) ((e_rulebase_rule_L1 n_) y0) 0 : Option (Unit ⊕ Int)) fun _ =>
      (lp n_) ((e_rulebase_rule_L2 n_) y0) 1
theorem le_rulebase_rule (n_ : Nat) (y0 : T_Rule) : Le (e_rulebase_rule n_ y0) (m_rulebase_rule y0) := by
  unfold e_rulebase_rule m_rulebase_rule
  repeat with_reducible (first | intro _ | apply le_rulebase_rule_L2 | apply le_rulebase_rule_L1 | apply le_rulebase_ranked | apply le_literal_Valid | apply le_literal_ValidName | exact Le.refl _ | apply Le.ite | apply Le.seqE | apply Le.bind | apply Le.lp | exact Le.none _)
def e_rulebase_Validate_L1 (n_ : Nat) (y0 : T_Base) (s2 : Int) : Option (Int ⊕ (Unit ⊕ Int)) :=
  if decide (s2 < (len y0.1)) then
    (idx y0.1 s2).bind fun x1 =>
    ((e_rulebase_premise n_) x1).bind fun r1 =>
    if r1 != 0 then
      some (.inr (.inr r1))
    else
      ((e_rulebase_Premise n_) y0 x1.1).bind fun r2 =>
      if decide (r2 < s2) then
        some (.inr (.inr 5))
      else
        some (.inl (w64 (s2 + 1)))
  else
    some (.inr (.inl ()))
theorem le_rulebase_Validate_L1 (n_ : Nat) (y0 : T_Base) (s2 : Int) : Le (e_rulebase_Validate_L1 n_ y0 s2) (m_rulebase_Validate_L1 y0 s2) := by
  unfold e_rulebase_Validate_L1 m_rulebase_Validate_L1
  repeat with_reducible (first | intro _ | apply le_rulebase_Premise | apply le_rulebase_premise | exact Le.refl _ | apply Le.ite | apply Le.seqE | apply Le.bind | apply Le.lp | exact Le.none _)
def e_rulebase_Validate_L2 (n_ : Nat) (y0 : T_Base) (s4 : Int) : Option (Int ⊕ (Unit ⊕ Int)) :=
  if decide (s4 < (len y0.2.1)) then
    (idx y0.2.1 s4).bind fun x2 =>
    ((e_rulebase_rule n_) x2).bind fun r3 =>
    if r3 != 0 then
      some (.inr (.inr r3))
    else
      ((e_rulebase_Find n_) y0 x2.1).bind fun r4 =>
      if decide (r4 < s4) then
        some (.inr (.inr 5))
      else
        some (.inl (w64 (s4 + 1)))
  else
    some (.inr (.inl ()))
theorem le_rulebase_Validate_L2 (n_ : Nat) (y0 : T_Base) (s4 : Int) : Le (e_rulebase_Validate_L2 n_ y0 s4) (m_rulebase_Validate_L2 y0 s4) := by
  unfold e_rulebase_Validate_L2 m_rulebase_Validate_L2
  repeat with_reducible (first | intro _ | apply le_rulebase_Find | apply le_rulebase_rule | exact Le.refl _ | apply Le.ite | apply Le.seqE | apply Le.bind | apply Le.lp | exact Le.none _)
def e_rulebase_Validate_L3 (n_ : Nat) (y0 : T_Base) (s5 : Int) : Option (Int ⊕ Int) :=
  if decide (s5 < (len y0.2.2)) then
    (idx y0.2.2 s5).bind fun x3 =>
    ((e_rulebase_promotion n_) y0 x3).bind fun r5 =>
    if r5 != 0 then
      some (.inr r5)
    else
      some (.inl (w64 (s5 + 1)))
  else
    some (.inr 0)
theorem le_rulebase_Validate_L3 (n_ : Nat) (y0 : T_Base) (s5 : Int) : Le (e_rulebase_Validate_L3 n_ y0 s5) (m_rulebase_Validate_L3 y0 s5) := by
  unfold e_rulebase_Validate_L3 m_rulebase_Validate_L3
  repeat with_reducible (first | intro _ | apply le_rulebase_promotion | exact Le.refl _ | apply Le.ite | apply Le.seqE | apply Le.bind | apply Le.lp | exact Le.none _)
def e_rulebase_Validate (n_ : Nat) (y0 : T_Base) : Option Int :=
  if (decide (16 < (len y0.1))) || ((decide (24 < (len y0.2.1))) || (decide (8 < (len y0.2.2)))) then
    some 2
  else
    seqE ((lp n_) ((e_rulebase_Validate_L1 n_) y0) 0 : Option (Unit ⊕ Int)) fun _ =>
    seqE ((lp n_) ((e_rulebase_Validate_L2 n_) y0) 0 : Option (Unit ⊕ Int)) fun _ =>
    (lp n_) ((e_rulebase_Validate_L3 n_) y0) 0
theorem le_rulebase_Validate (n_ : Nat) (y0 : T_Base) : Le (e_rulebase_Validate n_ y0) (m_rulebase_Validate y0) := by
  unfold e_rulebase_Validate m_rulebase_Validate
  repeat with_reducible (first | intro _ | apply le_rulebase_Validate_L3 | apply le_rulebase_Validate_L2 | apply le_rulebase_Validate_L1 | exact Le.refl _ | apply Le.ite | apply Le.seqE | apply Le.bind | apply Le.lp | exact Le.none _)
def e_literal_Format (n_ : Nat) (y0 : T_Literal) : Option Str :=
  ((e_literal_Valid n_) y0).bind fun r1 =>
  if !r1 then
    some []
  else
    if y0.1 then
      (cat [126] y0.2).bind fun x1 =>
      some x1
    else
      some y0.2
theorem le_literal_Format (n_ : Nat) (y0 : T_Literal) : Le (e_literal_Format n_ y0) (m_literal_Format y0) := by
  unfold e_literal_Format m_literal_Format
  repeat with_reducible (first | intro _ | apply le_literal_Valid | exact Le.refl _ | apply Le.ite | apply Le.seqE | apply Le.bind | apply Le.lp | exact Le.none _)
def e_internal_strconv_small (n_ : Nat) (y0 : Int) : Option Str :=
  if decide (y0 < 10) then
    (sub [48, 49, 50, 51, 52, 53, 54, 55, 56, 57, 97, 98, 99, 100, 101, 102, 103, 104, 105, 106, 107, 108, 109, 110, 111, 112, 113, 114, 115, 116, 117, 118, 119, 120, 121, 122] y0 (w64 (y0 + 1))).bind fun x1 =>
    some x1
  else
    (sub [48, 48, 48, 49, 48, 50, 48, 51, 48, 52, 48, 53, 48, 54, 48, 55, 48, 56, 48, 57, 49, 48, 49, 49, 49, 50, 49, 51, 49, 52, 49, 53, 49, 54, 49, 55, 49, 56, 49, 57, 50, 48, 50, 49, 50, 50, 50, 51, 50, 52, 50, 53, 50, 54, 50, 55, 50, 56, 50, 57, 51, 48, 51, 49, 51, 50, 51, 51, 51, 52, 51, 53, 51, 54, 51, 55, 51, 56, 51, 57, 52, 48, 52, 49, 52, 50, 52, 51, 52, 52, 52, 53, 52, 54, 52, 55, 52, 56, 52, 57, 53, 48, 53, 49, 53, 50, 53, 51, 53, 52, 53, 53, 53, 54, 53, 55, 53, 56, 53, 57, 54, 48, 54, 49, 54, 50, 54, 51, 54, 52, 54, 53, 54, 54, 54, 55, 54, 56, 54, 57, 55, 48, 55, 49, 55, 50, 55, 51, 55, 52, 55, 53, 55, 54, 55, 55, 55, 56, 55, 57, 56, 48, 56, 49, 56, 50, 56, 51, 56, 52, 56, 53, 56, 54, 56, 55, 56, 56, 56, 57, 57, 48, 57, 49, 57, 50, 57, 51, 57, 52, 57, 53, 57, 54, 57, 55, 57, 56, 57, 57] (w64 (y0 * 2)) (w64 ((w64 (y0 * 2)) + 2))).bind fun x2 =>
    some x2
theorem le_internal_strconv_small (n_ : Nat) (y0 : Int) : Le (e_internal_strconv_small n_ y0) (m_internal_strconv_small y0) := by
  unfold e_internal_strconv_small m_internal_strconv_small
  repeat with_reducible (first | intro _ | exact Le.refl _ | apply Le.ite | apply Le.seqE | apply Le.bind | apply Le.lp | exact Le.none _)
def e_internal_strconv_FormatInt (n_ : Nat) (y0 : Int) (y1 : Int) : Option Str :=
  if y1 == 10 then
    if (decide (0 ≤ y0)) && (decide (y0 < 100)) then
      ((e_internal_strconv_small n_) y0).bind fun r1 =>
      some r1
    else
      none
  else
    none
theorem le_internal_strconv_FormatInt (n_ : Nat) (y0 : Int) (y1 : Int) : Le (e_internal_strconv_FormatInt n_ y0 y1) (m_internal_strconv_FormatInt y0 y1) := by
  unfold e_internal_strconv_FormatInt m_internal_strconv_FormatInt
  repeat with_reducible (first | intro _ | apply le_internal_strconv_small | exact Le.refl _ | apply Le.ite | apply Le.seqE | apply Le.bind | apply Le.lp | exact Le.none _)
def e_internal_strconv_Itoa (n_ : Nat) (y0 : Int) : Option Str :=
  ((e_internal_strconv_FormatInt n_) y0 10).bind fun r1 =>
  some r1
theorem le_internal_strconv_Itoa (n_ : Nat) (y0 : Int) : Le (e_internal_strconv_Itoa n_ y0) (m_internal_strconv_Itoa y0) := by
  unfold e_internal_strconv_Itoa m_internal_strconv_Itoa
  repeat with_reducible (first | intro _ | apply le_internal_strconv_FormatInt | exact Le.refl _ | apply Le.ite | apply Le.seqE | apply Le.bind | apply Le.lp | exact Le.none _)
def e_strconv_Itoa (n_ : Nat) (y0 : Int) : Option Str :=
  ((e_internal_strconv_Itoa n_) y0).bind fun r1 =>
  some r1
theorem le_strconv_Itoa (n_ : Nat) (y0 : Int) : Le (e_strconv_Itoa n_ y0) (m_strconv_Itoa y0) := by
  unfold e_strconv_Itoa m_strconv_Itoa
  repeat with_reducible (first | intro _ | apply le_internal_strconv_Itoa | exact Le.refl _ | apply Le.ite | apply Le.seqE | apply Le.bind | apply Le.lp | exact Le.none _)
def e_strings_Join (n_ : Nat) (y0 : List Str) (y1 : Str) : Option Str := joinM y0 y1
theorem le_strings_Join (n_ : Nat) (y0 : List Str) (y1 : Str) : Le (e_strings_Join n_ y0 y1) (m_strings_Join y0 y1) := by
  unfold e_strings_Join m_strings_Join
  repeat with_reducible (first | intro _ | exact Le.refl _ | apply Le.ite | apply Le.seqE | apply Le.bind | apply Le.lp | exact Le.none _)
def e_rulebase_premiseLine (n_ : Nat) (y0 : T_Premise) : Option Str :=
  (idx tab_rulebase_kinds y0.2.1).bind fun x1 =>
  ((e_literal_Format n_) y0.1).bind fun r1 =>
  (
    if y0.2.1 == 2 then
      ((e_strconv_Itoa n_) y0.2.2.1).bind fun r2 =>
      (app ([x1, r1] : List Str) ([r2] : List Str)).bind fun x2 =>
      some x2
    else
      some ([x1, r1] : List Str) : Option (List Str)).bind fun s1 =>
  (
    if !(y0.2.2.2 == []) then
      (app s1 ([[102, 114, 111, 109], y0.2.2.2] : List Str)).bind fun x3 =>
      some x3
    else
      some s1 : Option (List Str)).bind fun s2 =>
  ((e_strings_Join n_) s2 [32]).bind fun r3 =>
  some r3
theorem le_rulebase_premiseLine (n_ : Nat) (y0 : T_Premise) : Le (e_rulebase_premiseLine n_ y0) (m_rulebase_premiseLine y0) := by
  unfold e_rulebase_premiseLine m_rulebase_premiseLine
  repeat with_reducible (first | intro _ | apply le_strings_Join | apply le_strconv_Itoa | apply le_literal_Format | exact Le.refl _ | apply Le.ite | apply Le.seqE | apply Le.bind | apply Le.lp | exact Le.none _)
def e_rulebase_promotionLine (n_ : Nat) (y0 : T_Promotion) : Option Str :=
  (cat [112, 114, 111, 109, 111, 116, 101, 32] y0.1).bind fun x1 =>
  (cat x1 [32]).bind fun x2 =>
  ((e_strconv_Itoa n_) y0.2.1).bind fun r1 =>
  (cat x2 r1).bind fun x3 =>
  (cat x3 [32, 105, 102, 32]).bind fun x4 =>
  ((e_literal_Format n_) y0.2.2).bind fun r2 =>
  (cat x4 r2).bind fun x5 =>
  some x5
theorem le_rulebase_promotionLine (n_ : Nat) (y0 : T_Promotion) : Le (e_rulebase_promotionLine n_ y0) (m_rulebase_promotionLine y0) := by
  unfold e_rulebase_promotionLine m_rulebase_promotionLine
  repeat with_reducible (first | intro _ | apply le_literal_Format | apply le_strconv_Itoa | exact Le.refl _ | apply Le.ite | apply Le.seqE | apply Le.bind | apply Le.lp | exact Le.none _)
def e_rulebase_ruleLine_L1 (n_ : Nat) (y0 : T_Rule) (s3 : (List Str) × Int) : Option (((List Str) × Int) ⊕ (List Str)) :=
  if decide (s3.2 < (len y0.2.2.2.1)) then
    (idx y0.2.2.2.1 s3.2).bind fun x3 =>
    ((e_literal_Format n_) x3).bind fun r2 =>
    (
      if decide (s3.2 < (w64 ((len y0.2.2.2.1) - 1))) then
        (cat r2 [44]).bind fun x4 =>
        some x4
      else
        some r2 : Option Str).bind fun s4 =>
    (app s3.1 ([s4] : List Str)).bind fun x5 =>
    some (.inl (x5, w64 (s3.2 + 1)))
  else
    some (.inr s3.1)
theorem le_rulebase_ruleLine_L1 (n_ : Nat) (y0 : T_Rule) (s3 : (List Str) × Int) : Le (e_rulebase_ruleLine_L1 n_ y0 s3) (m_rulebase_ruleLine_L1 y0 s3) := by
  unfold e_rulebase_ruleLine_L1 m_rulebase_ruleLine_L1
  repeat with_reducible (first | intro _ | apply le_literal_Format | exact Le.refl _ | apply Le.ite | apply Le.seqE | apply Le.bind | apply Le.lp | exact Le.none _)
def e_rulebase_ruleLine (n_ : Nat) (y0 : T_Rule) : Option Str :=
  (cat y0.1 [58]).bind fun x1 =>
  (
    if !y0.2.1 then
      ((e_strconv_Itoa n_) y0.2.2.1).bind fun r1 =>
      (cat r1 [58]).bind fun x2 =>
      some (([[114, 117, 108, 101], y0.1, x2] : List Str), [61, 62])
    else
      some (([[115, 116, 114, 105, 99, 116], x1] : List Str), [45, 62]) : Option ((List Str) × Str)).bind fun s1 =>
  ((lp n_) ((e_rulebase_ruleLine_L1 n_) y0) (s1.1, 0) : Option (List Str)).bind fun s2 =>
  ((e_literal_Format n_) y0.2.2.2.2).bind fun r3 =>
  (app s2 ([s1.2, r3] : List Str)).bind fun x6 =>
  ((e_strings_Join n_) x6 [32]).bind fun r4 =>
  some r4
theorem le_rulebase_ruleLine (n_ : Nat) (y0 : T_Rule) : Le (e_rulebase_ruleLine n_ y0) (m_rulebase_ruleLine y0) := by
  unfold e_rulebase_ruleLine m_rulebase_ruleLine
  repeat with_reducible (first | intro _ | apply le_strings_Join | apply le_literal_Format | apply le_rulebase_ruleLine_L1 | apply le_strconv_Itoa | exact Le.refl _ | apply Le.ite | apply Le.seqE | apply Le.bind | apply Le.lp | exact Le.none _)
def e_strings_Builder_Len (n_ : Nat) (y0 : Str) : Option Int := some (len y0)
theorem le_strings_Builder_Len (n_ : Nat) (y0 : Str) : Le (e_strings_Builder_Len n_ y0) (m_strings_Builder_Len y0) := by
  unfold e_strings_Builder_Len m_strings_Builder_Len
  repeat with_reducible (first | intro _ | exact Le.refl _ | apply Le.ite | apply Le.seqE | apply Le.bind | apply Le.lp | exact Le.none _)
def e_strings_Builder_String (n_ : Nat) (y0 : Str) : Option Str := some y0
theorem le_strings_Builder_String (n_ : Nat) (y0 : Str) : Le (e_strings_Builder_String n_ y0) (m_strings_Builder_String y0) := by
  unfold e_strings_Builder_String m_strings_Builder_String
  repeat with_reducible (first | intro _ | exact Le.refl _ | apply Le.ite | apply Le.seqE | apply Le.bind | apply Le.lp | exact Le.none _)
def e_strings_Builder_WriteString (n_ : Nat) (y0 : Str) (y1 : Str) : Option (Int × Unit × Str) := wstrM y0 y1
theorem le_strings_Builder_WriteString (n_ : Nat) (y0 : Str) (y1 : Str) : Le (e_strings_Builder_WriteString n_ y0 y1) (m_strings_Builder_WriteString y0 y1) := by
  unfold e_strings_Builder_WriteString m_strings_Builder_WriteString
  repeat with_reducible (first | intro _ | exact Le.refl _ | apply Le.ite | apply Le.seqE | apply Le.bind | apply Le.lp | exact Le.none _)
def e_rulebase_Format_L1 (n_ : Nat) (y0 : T_Base) (s2 : Int × Str) : Option ((Int × Str) ⊕ Str) :=
  if decide (s2.1 < (len y0.1)) then
    (idx y0.1 s2.1).bind fun x1 =>
    ((e_rulebase_premiseLine n_) x1).bind fun r2 =>
    (cat r2 [10]).bind fun x2 =>
    ((e_strings_Builder_WriteString n_) s2.2 x2).bind fun r3 =>
    some (.inl (w64 (s2.1 + 1), r3.2.2))
  else
    some (.inr s2.2)
theorem le_rulebase_Format_L1 (n_ : Nat) (y0 : T_Base) (s2 : Int × Str) : Le (e_rulebase_Format_L1 n_ y0 s2) (m_rulebase_Format_L1 y0 s2) := by
  unfold e_rulebase_Format_L1 m_rulebase_Format_L1
  repeat with_reducible (first | intro _ | apply le_strings_Builder_WriteString | apply le_rulebase_premiseLine | exact Le.refl _ | apply Le.ite | apply Le.seqE | apply Le.bind | apply Le.lp | exact Le.none _)
def e_rulebase_Format_L2 (n_ : Nat) (y0 : T_Base) (s4 : Int × Str) : Option ((Int × Str) ⊕ Str) :=
  if decide (s4.1 < (len y0.2.1)) then
    (idx y0.2.1 s4.1).bind fun x3 =>
    ((e_rulebase_ruleLine n_) x3).bind fun r4 =>
    (cat r4 [10]).bind fun x4 =>
    ((e_strings_Builder_WriteString n_) s4.2 x4).bind fun r5 =>
    some (.inl (w64 (s4.1 + 1), r5.2.2))
  else
    some (.inr s4.2)
theorem le_rulebase_Format_L2 (n_ : Nat) (y0 : T_Base) (s4 : Int × Str) : Le (e_rulebase_Format_L2 n_ y0 s4) (m_rulebase_Format_L2 y0 s4) := by
  unfold e_rulebase_Format_L2 m_rulebase_Format_L2
  repeat with_reducible (first | intro _ | apply le_strings_Builder_WriteString | apply le_rulebase_ruleLine | exact Le.refl _ | apply Le.ite | apply Le.seqE | apply Le.bind | apply Le.lp | exact Le.none _)
def e_rulebase_Format_L3 (n_ : Nat) (y0 : T_Base) (s6 : Int × Str) : Option ((Int × Str) ⊕ Str) :=
  if decide (s6.1 < (len y0.2.2)) then
    (idx y0.2.2 s6.1).bind fun x5 =>
    ((e_rulebase_promotionLine n_) x5).bind fun r6 =>
    (cat r6 [10]).bind fun x6 =>
    ((e_strings_Builder_WriteString n_) s6.2 x6).bind fun r7 =>
    some (.inl (w64 (s6.1 + 1), r7.2.2))
  else
    some (.inr s6.2)
theorem le_rulebase_Format_L3 (n_ : Nat) (y0 : T_Base) (s6 : Int × Str) : Le (e_rulebase_Format_L3 n_ y0 s6) (m_rulebase_Format_L3 y0 s6) := by
  unfold e_rulebase_Format_L3 m_rulebase_Format_L3
  repeat with_reducible (first | intro _ | apply le_strings_Builder_WriteString | apply le_rulebase_promotionLine | exact Le.refl _ | apply Le.ite | apply Le.seqE | apply Le.bind | apply Le.lp | exact Le.none _)
def e_rulebase_Format (n_ : Nat) (y0 : T_Base) : Option (Str × Int) :=
  ((e_rulebase_Validate n_) y0).bind fun r1 =>
  if r1 != 0 then
    some ([], r1)
  else
    ((lp n_) ((e_rulebase_Format_L1 n_) y0) (0, ([] : Str)) : Option Str).bind fun s1 =>
    ((lp n_) ((e_rulebase_Format_L2 n_) y0) (0, s1) : Option Str).bind fun s3 =>
    ((lp n_) ((e_rulebase_Format_L3 n_) y0) (0, s3) : Option Str).bind fun s5 =>
    ((e_strings_Builder_Len n_) s5).bind fun r8 =>
    if decide (4096 < r8) then
      some ([], 2)
    else
      ((e_strings_Builder_String n_) s5).bind fun r9 =>
      some (r9, 0)
theorem le_rulebase_Format (n_ : Nat) (y0 : T_Base) : Le (e_rulebase_Format n_ y0) (m_rulebase_Format y0) := by
  unfold e_rulebase_Format m_rulebase_Format
  repeat with_reducible (first | intro _ | apply le_strings_Builder_String | apply le_strings_Builder_Len | apply le_rulebase_Format_L3 | apply le_rulebase_Format_L2 | apply le_rulebase_Format_L1 | apply le_rulebase_Validate | exact Le.refl _ | apply Le.ite | apply Le.seqE | apply Le.bind | apply Le.lp | exact Le.none _)
def e_rulebase_words_next (n_ : Nat) (y0 : T_rulebase_words) : Option (Str × (List Str) × Bool) :=
  if (len y0.1) == 0 then
    some ([], y0.1, true)
  else
    (idx y0.1 0).bind fun x1 =>
    (sub y0.1 1 (len y0.1)).bind fun x2 =>
    some (x1, x2, y0.2)
theorem le_rulebase_words_next (n_ : Nat) (y0 : T_rulebase_words) : Le (e_rulebase_words_next n_ y0) (m_rulebase_words_next y0) := by
  unfold e_rulebase_words_next m_rulebase_words_next
  repeat with_reducible (first | intro _ | exact Le.refl _ | apply Le.ite | apply Le.seqE | apply Le.bind | apply Le.lp | exact Le.none _)
def e_literal_Parse (n_ : Nat) (y0 : Str) : Option (T_Literal × Int) :=
  (
    (
      if decide (0 < (len y0)) then
        (sidx y0 0).bind fun x1 =>
        some (x1 == 126)
      else
        some false : Option Bool).bind fun s2 =>
    if s2 then
      (sub y0 1 (len y0)).bind fun x2 =>
      some (x2, true)
    else
      some (y0, false) : Option (Str × Bool)).bind fun s1 =>
  ((e_literal_Valid n_) (s1.2, s1.1)).bind fun r1 =>
  if !r1 then
    some ((false, []), 3)
  else
    some ((s1.2, s1.1), 0)
theorem le_literal_Parse (n_ : Nat) (y0 : Str) : Le (e_literal_Parse n_ y0) (m_literal_Parse y0) := by
  unfold e_literal_Parse m_literal_Parse
  repeat with_reducible (first | intro _ | apply le_literal_Valid | exact Le.refl _ | apply Le.ite | apply Le.seqE | apply Le.bind | apply Le.lp | exact Le.none _)
def e_internal_stringslite_HasSuffix (n_ : Nat) (y0 : Str) (y1 : Str) : Option Bool :=
  (
    if decide ((len y1) ≤ (len y0)) then
      (sub y0 (w64 ((len y0) - (len y1))) (len y0)).bind fun x1 =>
      some (x1 == y1)
    else
      some false : Option Bool).bind fun s1 =>
  some s1
theorem le_internal_stringslite_HasSuffix (n_ : Nat) (y0 : Str) (y1 : Str) : Le (e_internal_stringslite_HasSuffix n_ y0 y1) (m_internal_stringslite_HasSuffix y0 y1) := by
  unfold e_internal_stringslite_HasSuffix m_internal_stringslite_HasSuffix
  repeat with_reducible (first | intro _ | exact Le.refl _ | apply Le.ite | apply Le.seqE | apply Le.bind | apply Le.lp | exact Le.none _)
def e_internal_stringslite_CutSuffix (n_ : Nat) (y0 : Str) (y1 : Str) : Option (Str × Bool) :=
  ((e_internal_stringslite_HasSuffix n_) y0 y1).bind fun r1 =>
  if !r1 then
    some (y0, false)
  else
    (sub y0 0 (w64 ((len y0) - (len y1)))).bind fun x1 =>
    some (x1, true)
theorem le_internal_stringslite_CutSuffix (n_ : Nat) (y0 : Str) (y1 : Str) : Le (e_internal_stringslite_CutSuffix n_ y0 y1) (m_internal_stringslite_CutSuffix y0 y1) := by
  unfold e_internal_stringslite_CutSuffix m_internal_stringslite_CutSuffix
  repeat with_reducible (first | intro _ | apply le_internal_stringslite_HasSuffix | exact Le.refl _ | apply Le.ite | apply Le.seqE | apply Le.bind | apply Le.lp | exact Le.none _)
def e_strings_CutSuffix (n_ : Nat) (y0 : Str) (y1 : Str) : Option (Str × Bool) :=
  ((e_internal_stringslite_CutSuffix n_) y0 y1).bind fun r1 =>
  some (r1.1, r1.2)
theorem le_strings_CutSuffix (n_ : Nat) (y0 : Str) (y1 : Str) : Le (e_strings_CutSuffix n_ y0 y1) (m_strings_CutSuffix y0 y1) := by
  unfold e_strings_CutSuffix m_strings_CutSuffix
  repeat with_reducible (first | intro _ | apply le_internal_stringslite_CutSuffix | exact Le.refl _ | apply Le.ite | apply Le.seqE | apply Le.bind | apply Le.lp | exact Le.none _)
def e_rulebase_words_literal (n_ : Nat) (y0 : T_rulebase_words) (y1 : Str) : Option (T_Literal × (List Str) × Bool) :=
  ((e_rulebase_words_next n_) y0).bind fun r1 =>
  ((e_strings_CutSuffix n_) r1.1 y1).bind fun r2 =>
  ((e_literal_Parse n_) r2.1).bind fun r3 =>
  (
    if r1.2.2 then
      some true
    else
      if !r2.2 then
        some true
      else
        some (r3.2 != 0) : Option Bool).bind fun s1 =>
  some (r3.1, r1.2.1, s1)
theorem le_rulebase_words_literal (n_ : Nat) (y0 : T_rulebase_words) (y1 : Str) : Le (e_rulebase_words_literal n_ y0 y1) (m_rulebase_words_literal y0 y1) := by
  unfold e_rulebase_words_literal m_rulebase_words_literal
  repeat with_reducible (first | intro _ | apply le_literal_Parse | apply le_strings_CutSuffix | apply le_rulebase_words_next | exact Le.refl _ | apply Le.ite | apply Le.seqE | apply Le.bind | apply Le.lp | exact Le.none _)
def e_rulebase_words_name (n_ : Nat) (y0 : T_rulebase_words) (y1 : Str) : Option (Str × (List Str) × Bool) :=
  ((e_rulebase_words_next n_) y0).bind fun r1 =>
  ((e_strings_CutSuffix n_) r1.1 y1).bind fun r2 =>
  (
    if r1.2.2 then
      some true
    else
      if !r2.2 then
        some true
      else
        ((e_literal_ValidName n_) r2.1).bind fun r3 =>
        some (!r3) : Option Bool).bind fun s1 =>
  some (r2.1, r1.2.1, s1)
theorem le_rulebase_words_name (n_ : Nat) (y0 : T_rulebase_words) (y1 : Str) : Le (e_rulebase_words_name n_ y0 y1) (m_rulebase_words_name y0 y1) := by
  unfold e_rulebase_words_name m_rulebase_words_name
  repeat with_reducible (first | intro _ | apply le_literal_ValidName | apply le_strings_CutSuffix | apply le_rulebase_words_next | exact Le.refl _ | apply Le.ite | apply Le.seqE | apply Le.bind | apply Le.lp | exact Le.none _)
def e_rulebase_words_rank (n_ : Nat) (y0 : T_rulebase_words) (y1 : Str) : Option (Int × (List Str) × Bool) :=
  ((e_rulebase_words_next n_) y0).bind fun r1 =>
  ((e_strings_CutSuffix n_) r1.1 y1).bind fun r2 =>
  (
    if !r2.2 then
      some true
    else
      if (len r2.1) != 1 then
        some true
      else
        (sidx r2.1 0).bind fun x1 =>
        if decide (x1 < 48) then
          some true
        else
          (sidx r2.1 0).bind fun x2 =>
          some (decide (57 < x2)) : Option Bool).bind fun s1 =>
  if s1 then
    some (0, r1.2.1, true)
  else
    (sidx r2.1 0).bind fun x3 =>
    some (w64 (IntKind.u8.wrap (x3 - 48)), r1.2.1, r1.2.2)
theorem le_rulebase_words_rank (n_ : Nat) (y0 : T_rulebase_words) (y1 : Str) : Le (e_rulebase_words_rank n_ y0 y1) (m_rulebase_words_rank y0 y1) := by
  unfold e_rulebase_words_rank m_rulebase_words_rank
  repeat with_reducible (first | intro _ | apply le_strings_CutSuffix | apply le_rulebase_words_next | exact Le.refl _ | apply Le.ite | apply Le.seqE | apply Le.bind | apply Le.lp | exact Le.none _)
def e_rulebase_words_premise (n_ : Nat) (y0 : T_rulebase_words) (y1 : Int) : Option (T_Premise × (List Str) × Bool) :=
  ((e_rulebase_words_literal n_) y0 []).bind fun r1 =>
  (
    if y1 == 2 then
      ((e_rulebase_words_rank n_) (r1.2.1, r1.2.2) []).bind fun r2 =>
      some (r2.2.1, r2.2.2, r2.1)
    else
      some (r1.2.1, r1.2.2, 0) : Option ((List Str) × Bool × Int)).bind fun s1 =>
  (
    if decide (0 < (len s1.1)) then
      (
        if s1.2.1 then
          some (s1.1, true)
        else
          ((e_rulebase_words_next n_) (s1.1, s1.2.1)).bind fun r3 =>
          some (r3.2.1, !(r3.1 == [102, 114, 111, 109])) : Option ((List Str) × Bool)).bind fun s3 =>
      ((e_rulebase_words_name n_) (s3.1, s3.2) []).bind fun r4 =>
      some (r4.2.1, r4.2.2, r4.1)
    else
      some (s1.1, s1.2.1, []) : Option ((List Str) × Bool × Str)).bind fun s2 =>
  some ((r1.1, y1, s1.2.2, s2.2.2), s2.1, s2.2.1)
theorem le_rulebase_words_premise (n_ : Nat) (y0 : T_rulebase_words) (y1 : Int) : Le (e_rulebase_words_premise n_ y0 y1) (m_rulebase_words_premise y0 y1) := by
  unfold e_rulebase_words_premise m_rulebase_words_premise
  repeat with_reducible (first | intro _ | apply le_rulebase_words_name | apply le_rulebase_words_next | apply le_rulebase_words_rank | apply le_rulebase_words_literal | exact Le.refl _ | apply Le.ite | apply Le.seqE | apply Le.bind | apply Le.lp | exact Le.none _)
def e_rulebase_words_promotion (n_ : Nat) (y0 : T_rulebase_words) : Option (T_Promotion × (List Str) × Bool) :=
  ((e_rulebase_words_name n_) y0 []).bind fun r1 =>
  ((e_rulebase_words_rank n_) (r1.2.1, r1.2.2) []).bind fun r2 =>
  (
    if r2.2.2 then
      some (r2.2.1, true)
    else
      ((e_rulebase_words_next n_) (r2.2.1, r2.2.2)).bind fun r3 =>
      some (r3.2.1, !(r3.1 == [105, 102])) : Option ((List Str) × Bool)).bind fun s1 =>
  ((e_rulebase_words_literal n_) (s1.1, s1.2) []).bind fun r4 =>
  some ((r1.1, r2.1, r4.1), r4.2.1, r4.2.2)
theorem le_rulebase_words_promotion (n_ : Nat) (y0 : T_rulebase_words) : Le (e_rulebase_words_promotion n_ y0) (m_rulebase_words_promotion y0) := by
  unfold e_rulebase_words_promotion m_rulebase_words_promotion
  repeat with_reducible (first | intro _ | apply le_rulebase_words_literal | apply le_rulebase_words_next | apply le_rulebase_words_rank | apply le_rulebase_words_name | exact Le.refl _ | apply Le.ite | apply Le.seqE | apply Le.bind | apply Le.lp | exact Le.none _)
def e_rulebase_words_rule_L1 (n_ : Nat) (s3 : (List Str) × Bool × (List T_Literal)) : Option (((List Str) × Bool × (List T_Literal)) ⊕ ((List Str) × Bool × (List T_Literal))) :=
  if (decide (2 < (len s3.1))) && (!s3.2.1) then
    (
      if (len s3.1) == 3 then
        some []
      else
        some [44] : Option Str).bind fun s4 =>
    ((e_rulebase_words_literal n_) (s3.1, s3.2.1) s4).bind fun r4 =>
    (app s3.2.2 ([r4.1] : List T_Literal)).bind fun x1 =>
    some (.inl (r4.2.1, r4.2.2, x1))
  else
    some (.inr (s3.1, s3.2.1, s3.2.2))
theorem le_rulebase_words_rule_L1 (n_ : Nat) (s3 : (List Str) × Bool × (List T_Literal)) : Le (e_rulebase_words_rule_L1 n_ s3) (m_rulebase_words_rule_L1 s3) := by
  unfold e_rulebase_words_rule_L1 m_rulebase_words_rule_L1
  repeat with_reducible (first | intro _ | apply le_rulebase_words_literal | exact Le.refl _ | apply Le.ite | apply Le.seqE | apply Le.bind | apply Le.lp | exact Le.none _)
def e_rulebase_words_rule (n_ : Nat) (y0 : T_rulebase_words) (y1 : Bool) : Option (T_Rule × (List Str) × Bool) :=
  (
    if y1 then
      ((e_rulebase_words_name n_) y0 [58]).bind fun r1 =>
      some ([45, 62], r1.2.1, r1.2.2, r1.1, 0)
    else
      ((e_rulebase_words_name n_) y0 []).bind fun r2 =>
      ((e_rulebase_words_rank n_) (r2.2.1, r2.2.2) [58]).bind fun r3 =>
      some ([61, 62], r3.2.1, r3.2.2, r2.1, r3.1) : Option (Str × (List Str) × Bool × Str × Int)).bind fun s1 =>
  ((lp n_) ((e_rulebase_words_rule_L1 n_)) (s1.2.1, s1.2.2.1, ([] : List T_Literal)) : Option ((List Str) × Bool × (List T_Literal))).bind fun s2 =>
  (
    if s2.2.1 then
      some (s2.1, true)
    else
      ((e_rulebase_words_next n_) (s2.1, s2.2.1)).bind fun r5 =>
      some (r5.2.1, !(r5.1 == s1.1)) : Option ((List Str) × Bool)).bind fun s5 =>
  ((e_rulebase_words_literal n_) (s5.1, s5.2) []).bind fun r6 =>
  some ((s1.2.2.2.1, y1, s1.2.2.2.2, s2.2.2, r6.1), r6.2.1, r6.2.2)
theorem le_rulebase_words_rule (n_ : Nat) (y0 : T_rulebase_words) (y1 : Bool) : Le (e_rulebase_words_rule n_ y0 y1) (m_rulebase_words_rule y0 y1) := by
  unfold e_rulebase_words_rule m_rulebase_words_rule
  repeat with_reducible (first | intro _ | apply le_rulebase_words_literal | apply le_rulebase_words_next | apply le_rulebase_words_rule_L1 | apply le_rulebase_words_rank | apply le_rulebase_words_name | exact Le.refl _ | apply Le.ite | apply Le.seqE | apply Le.bind | apply Le.lp | exact Le.none _)
def e_rulebase_words_add_L1 (n_ : Nat) (r1 : Str × (List Str) × Bool) (s3 : Int × Int) : Option ((Int × Int) ⊕ Int) :=
  if decide (s3.2 < 4) then
    (idx tab_rulebase_kinds s3.2).bind fun x1 =>
    if x1 == r1.1 then
      some (.inl (s3.2, w64 (s3.2 + 1)))
    else
      some (.inl (s3.1, w64 (s3.2 + 1)))
  else
    some (.inr s3.1)
theorem le_rulebase_words_add_L1 (n_ : Nat) (r1 : Str × (List Str) × Bool) (s3 : Int × Int) : Le (e_rulebase_words_add_L1 n_ r1 s3) (m_rulebase_words_add_L1 r1 s3) := by
  unfold e_rulebase_words_add_L1 m_rulebase_words_add_L1
  repeat with_reducible (first | intro _ | exact Le.refl _ | apply Le.ite | apply Le.seqE | apply Le.bind | apply Le.lp | exact Le.none _)
def e_rulebase_words_add (n_ : Nat) (y0 : T_rulebase_words) (y1 : T_Base) : Option (Int × Str × (List Str) × Bool × (List T_Premise) × (List T_Rule) × (List T_Promotion)) :=
  ((e_rulebase_words_next n_) y0).bind fun r1 =>
  (
    if r1.1 == [97, 120, 105, 111, 109] then
      some (r1.1 == [97, 120, 105, 111, 109])
    else
      if r1.1 == [112, 114, 101, 109, 105, 115, 101] then
        some (r1.1 == [112, 114, 101, 109, 105, 115, 101])
      else
        some (r1.1 == [97, 115, 115, 117, 109, 101]) : Option Bool).bind fun s1 =>
  if s1 then
    ((lp n_) ((e_rulebase_words_add_L1 n_) r1) (1, 0) : Option Int).bind fun s2 =>
    ((e_rulebase_words_premise n_) (r1.2.1, r1.2.2) s2).bind fun r2 =>
    (app y1.1 ([r2.1] : List T_Premise)).bind fun x2 =>
    ((e_rulebase_premiseLine n_) r2.1).bind fun r3 =>
    some (1, r3, r2.2.1, r2.2.2, x2, y1.2.1, y1.2.2)
  else
    (
      if r1.1 == [115, 116, 114, 105, 99, 116] then
        some (r1.1 == [115, 116, 114, 105, 99, 116])
      else
        some (r1.1 == [114, 117, 108, 101]) : Option Bool).bind fun s4 =>
    if s4 then
      ((e_rulebase_words_rule n_) (r1.2.1, r1.2.2) (r1.1 == [115, 116, 114, 105, 99, 116])).bind fun r4 =>
      (app y1.2.1 ([r4.1] : List T_Rule)).bind fun x3 =>
      ((e_rulebase_ruleLine n_) r4.1).bind fun r5 =>
      some (2, r5, r4.2.1, r4.2.2, y1.1, x3, y1.2.2)
    else
      if r1.1 == [112, 114, 111, 109, 111, 116, 101] then
        ((e_rulebase_words_promotion n_) (r1.2.1, r1.2.2)).bind fun r6 =>
        (app y1.2.2 ([r6.1] : List T_Promotion)).bind fun x4 =>
        ((e_rulebase_promotionLine n_) r6.1).bind fun r7 =>
        some (3, r7, r6.2.1, r6.2.2, y1.1, y1.2.1, x4)
      else
        some (0, [], r1.2.1, r1.2.2, y1.1, y1.2.1, y1.2.2)
theorem le_rulebase_words_add (n_ : Nat) (y0 : T_rulebase_words) (y1 : T_Base) : Le (e_rulebase_words_add n_ y0 y1) (m_rulebase_words_add y0 y1) := by
  unfold e_rulebase_words_add m_rulebase_words_add
  repeat with_reducible (first | intro _ | apply le_rulebase_promotionLine | apply le_rulebase_words_promotion | apply le_rulebase_ruleLine | apply le_rulebase_words_rule | apply le_rulebase_premiseLine | apply le_rulebase_words_premise | apply le_rulebase_words_add_L1 | apply le_rulebase_words_next | exact Le.refl _ | apply Le.ite | apply Le.seqE | apply Le.bind | apply Le.lp | exact Le.none _)
def e_internal_stringslite_Index (n_ : Nat) (y0 : Str) (y1 : Str) : Option Int := index1 y0 y1
theorem le_internal_stringslite_Index (n_ : Nat) (y0 : Str) (y1 : Str) : Le (e_internal_stringslite_Index n_ y0 y1) (m_internal_stringslite_Index y0 y1) := by
  unfold e_internal_stringslite_Index m_internal_stringslite_Index
  repeat with_reducible (first | intro _ | exact Le.refl _ | apply Le.ite | apply Le.seqE | apply Le.bind | apply Le.lp | exact Le.none _)
def e_internal_stringslite_Cut (n_ : Nat) (y0 : Str) (y1 : Str) : Option (Str × Str × Bool) :=
  ((e_internal_stringslite_Index n_) y0 y1).bind fun r1 =>
  if decide (0 ≤ r1) then
    (sub y0 0 r1).bind fun x1 =>
    (sub y0 (w64 (r1 + (len y1))) (len y0)).bind fun x2 =>
    some (x1, x2, true)
  else
    some (y0, [], false)
theorem le_internal_stringslite_Cut (n_ : Nat) (y0 : Str) (y1 : Str) : Le (e_internal_stringslite_Cut n_ y0 y1) (m_internal_stringslite_Cut y0 y1) := by
  unfold e_internal_stringslite_Cut m_internal_stringslite_Cut
  repeat with_reducible (first | intro _ | apply le_internal_stringslite_Index | exact Le.refl _ | apply Le.ite | apply Le.seqE | apply Le.bind | apply Le.lp | exact Le.none _)
def e_strings_Cut (n_ : Nat) (y0 : Str) (y1 : Str) : Option (Str × Str × Bool) :=
  ((e_internal_stringslite_Cut n_) y0 y1).bind fun r1 =>
  some (r1.1, r1.2.1, r1.2.2)
theorem le_strings_Cut (n_ : Nat) (y0 : Str) (y1 : Str) : Le (e_strings_Cut n_ y0 y1) (m_strings_Cut y0 y1) := by
  unfold e_strings_Cut m_strings_Cut
  repeat with_reducible (first | intro _ | apply le_internal_stringslite_Cut | exact Le.refl _ | apply Le.ite | apply Le.seqE | apply Le.bind | apply Le.lp | exact Le.none _)
def e_strings_Fields (n_ : Nat) (y0 : Str) : Option (List Str) := fieldsM y0
theorem le_strings_Fields (n_ : Nat) (y0 : Str) : Le (e_strings_Fields n_ y0) (m_strings_Fields y0) := by
  unfold e_strings_Fields m_strings_Fields
  repeat with_reducible (first | intro _ | exact Le.refl _ | apply Le.ite | apply Le.seqE | apply Le.bind | apply Le.lp | exact Le.none _)
def e_rulebase_Parse_L1 (n_ : Nat) (s2 : Str × Int × Int × (List T_Premise) × (List T_Rule) × (List T_Promotion)) : Option ((Str × Int × Int × (List T_Premise) × (List T_Rule) × (List T_Promotion)) ⊕ (((List T_Premise) × (List T_Rule) × (List T_Promotion)) ⊕ (T_Base × Int × Int))) :=
  if !(s2.1 == []) then
    ((e_strings_Cut n_) s2.1 [10]).bind fun r1 =>
    ((e_strings_Fields n_) r1.1).bind fun r2 =>
    ((e_rulebase_words_add n_) (r2, false) (s2.2.2.2.1, s2.2.2.2.2.1, s2.2.2.2.2.2)).bind fun r3 =>
    if (!r1.2.2) || (r3.2.2.2.1 || ((decide (0 < (len r3.2.2.1))) || ((!(r3.2.1 == r1.1)) || (decide (r3.1 < s2.2.1))))) then
      some (.inr (.inr ((([] : List T_Premise), ([] : List T_Rule), ([] : List T_Promotion)), s2.2.2.1, 3)))
    else
      some (.inl (r1.2.1, r3.1, w64 (s2.2.2.1 + 1), r3.2.2.2.2.1, r3.2.2.2.2.2.1, r3.2.2.2.2.2.2))
  else
    some (.inr (.inl (s2.2.2.2.1, s2.2.2.2.2.1, s2.2.2.2.2.2)))
theorem le_rulebase_Parse_L1 (n_ : Nat) (s2 : Str × Int × Int × (List T_Premise) × (List T_Rule) × (List T_Promotion)) : Le (e_rulebase_Parse_L1 n_ s2) (m_rulebase_Parse_L1 s2) := by
  unfold e_rulebase_Parse_L1 m_rulebase_Parse_L1
  repeat with_reducible (first | intro _ | apply le_rulebase_words_add | apply le_strings_Fields | apply le_strings_Cut | exact Le.refl _ | apply Le.ite | apply Le.seqE | apply Le.bind | apply Le.lp | exact Le.none _)
def e_rulebase_Parse (n_ : Nat) (y0 : Str) : Option (T_Base × Int × Int) :=
  if decide (4096 < (len y0)) then
    some ((([] : List T_Premise), ([] : List T_Rule), ([] : List T_Promotion)), 0, 2)
  else
    seqE ((lp n_) ((e_rulebase_Parse_L1 n_)) (y0, 1, 1, ([] : List T_Premise), ([] : List T_Rule), ([] : List T_Promotion)) : Option (((List T_Premise) × (List T_Rule) × (List T_Promotion)) ⊕ (T_Base × Int × Int))) fun s1 =>
    ((e_rulebase_Validate n_) (s1.1, s1.2.1, s1.2.2)).bind fun r4 =>
    if r4 != 0 then
      some ((([] : List T_Premise), ([] : List T_Rule), ([] : List T_Promotion)), 0, r4)
    else
      some ((s1.1, s1.2.1, s1.2.2), 0, 0)
theorem le_rulebase_Parse (n_ : Nat) (y0 : Str) : Le (e_rulebase_Parse n_ y0) (m_rulebase_Parse y0) := by
  unfold e_rulebase_Parse m_rulebase_Parse
  repeat with_reducible (first | intro _ | apply le_rulebase_Validate | apply le_rulebase_Parse_L1 | exact Le.refl _ | apply Le.ite | apply Le.seqE | apply Le.bind | apply Le.lp | exact Le.none _)
def e_law05_awake (n_ : Nat) : Option Bool :=
  ((e_rulebase_Parse n_) [97, 120, 105, 111, 109, 32, 112, 10, 112, 114, 101, 109, 105, 115, 101, 32, 113, 32, 51, 32, 102, 114, 111, 109, 32, 97, 110, 110, 10, 115, 116, 114, 105, 99, 116, 32, 115, 49, 58, 32, 112, 44, 32, 113, 32, 45, 62, 32, 114, 10, 114, 117, 108, 101, 32, 100, 49, 32, 50, 58, 32, 114, 32, 61, 62, 32, 126, 116, 10, 112, 114, 111, 109, 111, 116, 101, 32, 100, 49, 32, 53, 32, 105, 102, 32, 113, 10]).bind fun r1 =>
  ((e_rulebase_Format n_) r1.1).bind fun r2 =>
  ((e_rulebase_Parse n_) [115, 116, 114, 105, 99, 116, 32, 115, 58, 32, 113, 44, 32, 112, 32, 45, 62, 32, 114, 10]).bind fun r3 =>
  ((e_rulebase_Parse n_) [97, 120, 105, 111, 109, 32, 112, 10, 114, 117, 108, 101, 32, 100, 32, 49, 50, 58, 32, 61, 62, 32, 112, 10]).bind fun r4 =>
  (
    if r1.2.2 == 0 then
      if r1.2.1 == 0 then
        if r2.2 == 0 then
          if r2.1 == [97, 120, 105, 111, 109, 32, 112, 10, 112, 114, 101, 109, 105, 115, 101, 32, 113, 32, 51, 32, 102, 114, 111, 109, 32, 97, 110, 110, 10, 115, 116, 114, 105, 99, 116, 32, 115, 49, 58, 32, 112, 44, 32, 113, 32, 45, 62, 32, 114, 10, 114, 117, 108, 101, 32, 100, 49, 32, 50, 58, 32, 114, 32, 61, 62, 32, 126, 116, 10, 112, 114, 111, 109, 111, 116, 101, 32, 100, 49, 32, 53, 32, 105, 102, 32, 113, 10] then
            if (len r1.1.2.1) == 2 then
              if r3.2.2 == 8 then
                if r3.2.1 == 0 then
                  if r4.2.2 == 3 then
                    if r4.2.1 == 2 then
                      ((e_rulebase_Find n_) r1.1 [100, 49]).bind fun r5 =>
                      some (r5 == 1)
                    else
                      some false
                  else
                    some false
                else
                  some false
              else
                some false
            else
              some false
          else
            some false
        else
          some false
      else
        some false
    else
      some false : Option Bool).bind fun s1 =>
  some s1
theorem le_law05_awake (n_ : Nat) : Le (e_law05_awake n_ ) (m_law05_awake ) := by
  unfold e_law05_awake m_law05_awake
  repeat with_reducible (first | intro _ | apply le_rulebase_Find | apply le_rulebase_Format | apply le_rulebase_Parse | exact Le.refl _ | apply Le.ite | apply Le.seqE | apply Le.bind | apply Le.lp | exact Le.none _)
def e_ref01_ValidName_L1 (n_ : Nat) (y0 : Str) (s2 : Int) : Option (Int ⊕ Bool) :=
  if decide (s2 < (len y0)) then
    (
      (sidx y0 s2).bind fun x3 =>
      if decide (x3 < 97) then
        (sidx y0 s2).bind fun x4 =>
        if decide (x4 < 48) then
          (sidx y0 s2).bind fun x5 =>
          some (x5 != 95)
        else
          (sidx y0 s2).bind fun x6 =>
          if decide (57 < x6) then
            (sidx y0 s2).bind fun x7 =>
            some (x7 != 95)
          else
            some false
      else
        (sidx y0 s2).bind fun x8 =>
        if decide (122 < x8) then
          (sidx y0 s2).bind fun x9 =>
          if decide (x9 < 48) then
            (sidx y0 s2).bind fun x10 =>
            some (x10 != 95)
          else
            (sidx y0 s2).bind fun x11 =>
            if decide (57 < x11) then
              (sidx y0 s2).bind fun x12 =>
              some (x12 != 95)
            else
              some false
        else
          some false : Option Bool).bind fun s3 =>
    if s3 then
      some (.inr false)
    else
      some (.inl (w64 (s2 + 1)))
  else
    some (.inr true)
theorem le_ref01_ValidName_L1 (n_ : Nat) (y0 : Str) (s2 : Int) : Le (e_ref01_ValidName_L1 n_ y0 s2) (m_ref01_ValidName_L1 y0 s2) := by
  unfold e_ref01_ValidName_L1 m_ref01_ValidName_L1
  repeat with_reducible (first | intro _ | exact Le.refl _ | apply Le.ite | apply Le.seqE | apply Le.bind | apply Le.lp | exact Le.none _)
def e_ref01_ValidName (n_ : Nat) (y0 : Str) : Option Bool :=
  (
    if decide ((len y0) < 1) then
      some true
    else
      if decide (12 < (len y0)) then
        some true
      else
        (sidx y0 0).bind fun x1 =>
        if decide (x1 < 97) then
          some true
        else
          (sidx y0 0).bind fun x2 =>
          some (decide (122 < x2)) : Option Bool).bind fun s1 =>
  if s1 then
    some false
  else
    (lp n_) ((e_ref01_ValidName_L1 n_) y0) 0
theorem le_ref01_ValidName (n_ : Nat) (y0 : Str) : Le (e_ref01_ValidName n_ y0) (m_ref01_ValidName y0) := by
  unfold e_ref01_ValidName m_ref01_ValidName
  repeat with_reducible (first | intro _ | apply le_ref01_ValidName_L1 | exact Le.refl _ | apply Le.ite | apply Le.seqE | apply Le.bind | apply Le.lp | exact Le.none _)
def e_ref01_Valid (n_ : Nat) (y0 : T_Literal) : Option Bool :=
  ((e_ref01_ValidName n_) y0.2).bind fun r1 =>
  some r1
theorem le_ref01_Valid (n_ : Nat) (y0 : T_Literal) : Le (e_ref01_Valid n_ y0) (m_ref01_Valid y0) := by
  unfold e_ref01_Valid m_ref01_Valid
  repeat with_reducible (first | intro _ | apply le_ref01_ValidName | exact Le.refl _ | apply Le.ite | apply Le.seqE | apply Le.bind | apply Le.lp | exact Le.none _)
def e_law05_RulebaseLimits_L1 (n_ : Nat) (r1 : Int) (s2 : Int × (List T_Premise) × (List T_Rule) × (List T_Promotion)) : Option ((Int × (List T_Premise) × (List T_Rule) × (List T_Promotion)) ⊕ ((List T_Premise) × (List T_Rule) × (List T_Promotion))) :=
  if decide (s2.1 < r1) then
    (quoK .i64 s2.1 2).bind fun x1 =>
    ((e_keep_RuleName n_) x1).bind fun r2 =>
    (app s2.2.1 ([(((band .i64 s2.1 1) == 1, r2), 3, 0, [])] : List T_Premise)).bind fun x2 =>
    (
      (remK s2.1 26).bind fun x3 =>
      (quoK .i64 s2.1 26).bind fun x4 =>
      ((e_keep_RuleName n_) x3).bind fun r3 =>
      (cat [120] r3).bind fun x5 =>
      (cat x5 (strOf ([IntKind.u8.wrap (w64 (97 + x4))] : List Int))).bind fun x6 =>
      (app s2.2.2.1 ([(x6, false, 0, ([] : List T_Literal), ((band .i64 s2.1 1) == 1, r2))] : List T_Rule)).bind fun x7 =>
      some x7 : Option (List T_Rule)).bind fun s3 =>
    (app s2.2.2.2 ([([114], 0, ((band .i64 s2.1 1) == 1, r2))] : List T_Promotion)).bind fun x14 =>
    some (.inl (w64 (s2.1 + 1), x2, s3, x14))
  else
    some (.inr (s2.2.1, s2.2.2.1, s2.2.2.2))
theorem le_law05_RulebaseLimits_L1 (n_ : Nat) (r1 : Int) (s2 : Int × (List T_Premise) × (List T_Rule) × (List T_Promotion)) : Le (e_law05_RulebaseLimits_L1 n_ r1 s2) (m_law05_RulebaseLimits_L1 r1 s2) := by
  unfold e_law05_RulebaseLimits_L1 m_law05_RulebaseLimits_L1
  repeat with_reducible (first | intro _ | apply le_keep_RuleName | exact Le.refl _ | apply Le.ite | apply Le.seqE | apply Le.bind | apply Le.lp | exact Le.none _)
def e_law05_RulebaseLimits (n_ : Nat) (y0 : Int) : Option Bool :=
  ((e_keep_Mod n_) y0 40).bind fun r1 =>
  ((lp n_) ((e_law05_RulebaseLimits_L1 n_) r1) (0, ([] : List T_Premise), ([] : List T_Rule), ([] : List T_Promotion)) : Option ((List T_Premise) × (List T_Rule) × (List T_Promotion))).bind fun s1 =>
  (
    ((e_rulebase_Validate n_) (s1.1, ([] : List T_Rule), ([] : List T_Promotion))).bind fun r6 =>
    if (r6 == 0) == (decide (r1 ≤ 16)) then
      ((e_rulebase_Validate n_) (([] : List T_Premise), s1.2.1, ([] : List T_Promotion))).bind fun r7 =>
      if (r7 == 0) == (decide (r1 ≤ 24)) then
        ((e_rulebase_Validate n_) (([] : List T_Premise), ([([114], false, 0, ([] : List T_Literal), (false, [112]))] : List T_Rule), s1.2.2)).bind fun r8 =>
        if (r8 == 0) == (decide (r1 ≤ 8)) then
          ((e_ref01_Valid n_) (false, [114])).bind fun r9 =>
          if r9 then
            (e_law05_awake n_).bind fun r10 =>
            some r10
          else
            some false
        else
          some false
      else
        some false
    else
      some false : Option Bool).bind fun s4 =>
  some s4
theorem le_law05_RulebaseLimits (n_ : Nat) (y0 : Int) : Le (e_law05_RulebaseLimits n_ y0) (m_law05_RulebaseLimits y0) := by
  unfold e_law05_RulebaseLimits m_law05_RulebaseLimits
  repeat with_reducible (first | intro _ | apply le_law05_awake | apply le_ref01_Valid | apply le_rulebase_Validate | apply le_law05_RulebaseLimits_L1 | apply le_keep_Mod | exact Le.refl _ | apply Le.ite | apply Le.seqE | apply Le.bind | apply Le.lp | exact Le.none _)
end
section
theorem rb_limits_all : ((List.range 40).all fun k => e_law05_RulebaseLimits 200 (k : Int) == some true) = true := by kernel_rfl
theorem rb_mod_all : ((List.range 40).all fun k => e_keep_Mod 200 (k : Int) 40 == some (k : Int)) = true := by kernel_rfl
theorem p_law05_RulebaseLimits (y0 : Int) (_w0 : wInt .i64 y0) : m_law05_RulebaseLimits y0 = some true := by
  obtain ⟨v, hv, h0, h1⟩ := keep_Mod (x := y0) (n := 40) (by omega) (by omega)
  obtain ⟨k, rfl⟩ : ∃ k : Nat, v = k := ⟨v.toNat, by omega⟩
  have hk : k ∈ List.range 40 := List.mem_range.2 (by omega)
  have h2 := (le_law05_RulebaseLimits 200 (k : Int)).el true (by simpa using List.all_eq_true.1 rb_limits_all k hk)
  have h3 := (le_keep_Mod 200 (k : Int) 40).el (k : Int) (by simpa using List.all_eq_true.1 rb_mod_all k hk)
  unfold m_law05_RulebaseLimits at h2 ⊢
  rw [h3] at h2
  rw [hv]
  exact h2
end

end Go.GD
