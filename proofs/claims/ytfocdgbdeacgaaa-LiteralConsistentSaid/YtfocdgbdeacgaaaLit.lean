/- Names, literals, their order: what the functions of layer 1 compute. Conditions: none. -/
import Derived.Test.YtfocdgbdeacgaaaKeep
namespace Go.GD
set_option autoImplicit false

/-! ### Strings in order -/

theorem sless_irrefl : ∀ a : Str, sless a a = false
  | [] => rfl
  | a :: x => by simp [sless, sless_irrefl x, UInt8.lt_irrefl]
theorem sless_trans : ∀ {a b c : Str}, sless a b = true → sless b c = true → sless a c = true
  | _, _, [], _, h => by simp [sless] at h
  | _, [], _ :: _, h, _ => by simp [sless] at h
  | [], _ :: _, _ :: _, _, _ => rfl
  | a :: x, b :: y, c :: z, h1, h2 => by
    simp only [sless, Bool.or_eq_true, decide_eq_true_eq, Bool.and_eq_true, beq_iff_eq] at *
    rcases h1 with h1 | ⟨rfl, h1⟩ <;> rcases h2 with h2 | ⟨rfl, h2⟩
    · exact .inl (UInt8.lt_trans h1 h2)
    · exact .inl h1
    · exact .inl h2
    · exact .inr ⟨rfl, sless_trans h1 h2⟩
theorem sless_tri : ∀ a b : Str, sless a b = true ∨ a = b ∨ sless b a = true
  | [], [] => .inr (.inl rfl)
  | [], _ :: _ => .inl rfl
  | _ :: _, [] => .inr (.inr rfl)
  | a :: x, b :: y => by
    simp only [sless, Bool.or_eq_true, decide_eq_true_eq, Bool.and_eq_true, beq_iff_eq, List.cons.injEq]
    rcases UInt8.lt_or_lt_of_ne (a := a) (b := b) |> fun f => (Classical.em (a = b)).imp id f with rfl | h | h
    · rcases sless_tri x y with h | rfl | h
      · exact .inl (.inr ⟨rfl, h⟩)
      · exact .inr (.inl ⟨rfl, rfl⟩)
      · exact .inr (.inr (.inr ⟨rfl, h⟩))
    · exact .inl (.inl h)
    · exact .inr (.inr (.inl h))
theorem sless_asymm {a b : Str} (h : sless a b = true) : sless b a = false := by
  cases hb : sless b a with
  | false => rfl
  | true => have := sless_trans h hb; rw [sless_irrefl] at this; cases this

theorem cmp_string (a b : Str) : m_cmp_Compare_string a b = some (if sless a b then -1 else if a = b then 0 else 1) := by
  have hn : ∀ x : Str, m_cmp_isNaN_string x = some false := fun x => by simp [m_cmp_isNaN_string]
  simp only [m_cmp_Compare_string, hn, Option.bind_some, Bool.false_eq_true, if_false]
  by_cases h1 : sless a b = true
  · simp [h1]
  · by_cases h2 : a = b
    · simp [h2, sless_irrefl]
    · simp [h1, h2]

/-! ### Names -/

def loB (b : UInt8) : Bool := decide (97 ≤ (b.toNat : Int)) && decide ((b.toNat : Int) ≤ 122)
def okB (b : UInt8) : Bool := loB b || (if decide (48 ≤ (b.toNat : Int)) then decide ((b.toNat : Int) ≤ 57) || (b.toNat : Int) == 95 else (b.toNat : Int) == 95)
/-- is it a name? -/
def vName : Str → Bool
  | [] => false
  | c :: r => decide (r.length + 1 ≤ 12) && loB c && r.all okB

theorem validName (s : Str) : m_literal_ValidName s = some (vName s) := by
  unfold m_literal_ValidName
  cases s with
  | nil => rfl
  | cons c r =>
    have h0 : ((len (c :: r)) == 0) = false := by rw [beq_eq_false_iff_ne]; simp [len]; omega
    by_cases hl : r.length + 1 ≤ 12
    · have h1 : decide (12 < len (c :: r)) = false := by simp [len]; omega
      rw [h0, h1]
      simp only [Bool.or_self, Bool.false_eq_true, if_false]
      have h := loop_runL0 (B := m_literal_ValidName_L1 (c :: r)) (fun i (_ : Unit) => (i : Int)) (c :: r)
        (fun i _ b => some (if loB b then .inl () else if decide (0 < (i : Int)) && okB b then .inl () else .inr false)) (fun _ => some true) ?_ ?_ ()
      · rw [show ((0 : Nat) : Int) = 0 from rfl] at h
        rw [h]
        have key : ∀ (l : List UInt8) (i : Nat), 0 < i → runL (fun (i : Nat) (_ : Unit) (b : UInt8) => some (if loB b then .inl () else if decide (0 < (i : Int)) && okB b then .inl () else .inr false)) (fun _ => some true) i l () = some (l.all okB) := by
          intro l
          induction l with
          | nil => intro i _; rfl
          | cons b l ih =>
            intro i hi
            have hd : decide (0 < (i : Int)) = true := by simp; omega
            by_cases hb : okB b = true
            · by_cases hlo : loB b = true
              · simp only [runL, hlo, if_true]; rw [ih (i + 1) (by omega)]; simp [hb]
              · simp only [runL, hlo, if_false, hd, hb, Bool.and_self, if_true, Bool.false_eq_true]; rw [ih (i + 1) (by omega)]; simp [hb]
            · have hlo : ¬ loB b = true := fun h => hb (by simp [okB, h])
              simp [runL, hlo, hb]
        by_cases hlo : loB c = true
        · simp only [runL, hlo, if_true]
          rw [key r 1 (by omega)]
          simp [vName, hlo, hl]
        · simp [runL, hlo, vName]
      · intro i x s hx
        have hi := (List.getElem?_eq_some_iff.1 hx).1
        have hlt : decide ((i : Int) < len (c :: r)) = true := by simp [len] at hi ⊢; omega
        unfold m_literal_ValidName_L1
        rw [sidx_nat, hx, w64_succ i (by simp at hi; omega)]
        simp only [hlt, if_true, Option.map_some, Option.bind_some]
        by_cases hlo : loB x = true
        · have hlo' := hlo
          unfold loB at hlo'
          simp only [hlo', if_true, hlo]
        · have hlo' := hlo
          unfold loB at hlo'
          simp only [hlo', if_false, hlo, Bool.false_eq_true]
          by_cases hc : (decide (0 < (i : Int)) && okB x) = true
          · have hc' := hc
            unfold okB at hc'
            simp only [hlo, Bool.false_or] at hc'
            simp only [hc', if_true, hc]
          · have hc' := hc
            unfold okB at hc'
            simp only [hlo, Bool.false_or] at hc'
            simp only [hc', if_false, hc, Bool.false_eq_true]
      · intro s
        unfold m_literal_ValidName_L1
        simp [len]
    · have h1 : decide (12 < len (c :: r)) = true := by simp [len]; omega
      rw [h1]
      simp [vName, hl]

theorem ref_validName (s : Str) : m_ref01_ValidName s = some (vName s) := by
  unfold m_ref01_ValidName
  cases s with
  | nil => rfl
  | cons c r =>
    have h0 : decide ((len (c :: r)) < 1) = false := by simp [len]; omega
    have hs0 : sidx (c :: r) 0 = some (c.toNat : Int) := rfl
    rw [h0]
    by_cases hl : r.length + 1 ≤ 12
    · have h1 : decide (12 < len (c :: r)) = false := by simp [len]; omega
      rw [h1]
      simp only [Bool.false_eq_true, if_false, hs0, Option.bind_some]
      by_cases hlo : loB c = true
      · have ha : decide ((c.toNat : Int) < 97) = false := by simp [loB] at hlo ⊢; omega
        have hb : decide (122 < (c.toNat : Int)) = false := by simp [loB] at hlo ⊢; omega
        simp only [ha, hb, Bool.false_eq_true, if_false, Option.bind_some]
        have h := loop_runL0 (B := m_ref01_ValidName_L1 (c :: r)) (fun i (_ : Unit) => (i : Int)) (c :: r)
          (fun _ _ b => some (if okB b then .inl () else .inr false)) (fun _ => some true) ?_ ?_ ()
        · rw [show ((0 : Nat) : Int) = 0 from rfl] at h
          rw [h]
          have key : ∀ (l : List UInt8) (i : Nat), runL (fun (_ : Nat) (_ : Unit) (b : UInt8) => some (if okB b then .inl () else .inr false)) (fun _ => some true) i l () = some (l.all okB) := by
            intro l
            induction l with
            | nil => intro i; rfl
            | cons b l ih =>
              intro i
              by_cases hb : okB b = true
              · simp only [runL, hb, if_true]; rw [ih (i + 1)]; simp [hb]
              · simp [runL, hb]
          rw [key]
          simp [vName, hlo, hl, okB]
        · intro i x s hx
          have hi := (List.getElem?_eq_some_iff.1 hx).1
          have hlt : decide ((i : Int) < len (c :: r)) = true := by simp [len] at hi ⊢; omega
          unfold m_ref01_ValidName_L1
          rw [sidx_nat, hx, w64_succ i (by simp at hi; omega)]
          simp only [hlt, if_true, Option.map_some, Option.bind_some]
          have hok : okB x = !(if decide ((x.toNat : Int) < 97) then (if decide ((x.toNat : Int) < 48) then ((x.toNat : Int) != 95) else if decide (57 < (x.toNat : Int)) then ((x.toNat : Int) != 95) else false)
              else if decide (122 < (x.toNat : Int)) then (if decide ((x.toNat : Int) < 48) then ((x.toNat : Int) != 95) else if decide (57 < (x.toNat : Int)) then ((x.toNat : Int) != 95) else false) else false) := by
            unfold okB loB
            generalize (x.toNat : Int) = n
            rw [Bool.eq_iff_iff]
            simp
            constructor
            · intro h
              by_cases h1 : n < 97 <;> by_cases h2 : n < 48 <;> by_cases h3 : 57 < n <;> by_cases h4 : 122 < n <;> simp [h1, h2, h3, h4] <;> (split at h <;> (try simp at h) <;> omega)
            · intro h
              by_cases h1 : n < 97 <;> by_cases h2 : n < 48 <;> by_cases h3 : 57 < n <;> by_cases h4 : 122 < n <;> simp [h1, h2, h3, h4] at h <;> (split <;> (try simp) <;> omega)
          rw [hok]
          cases decide ((x.toNat : Int) < 97) <;> cases decide ((x.toNat : Int) < 48) <;> cases decide (57 < (x.toNat : Int)) <;> cases decide (122 < (x.toNat : Int)) <;> cases ((x.toNat : Int) != 95) <;> rfl
        · intro s
          unfold m_ref01_ValidName_L1
          simp [len]
      · have hor : (decide ((c.toNat : Int) < 97) || decide (122 < (c.toNat : Int))) = true := by simp [loB] at hlo ⊢; omega
        have hv : vName (c :: r) = false := by simp [vName, hlo]
        rw [hv]
        cases h1 : decide ((c.toNat : Int) < 97) with
        | true => rfl
        | false => rw [h1] at hor; simp only [Bool.false_or] at hor; simp only [Bool.false_eq_true, if_false, hor, Option.bind_some, if_true]
    · have h1 : decide (12 < len (c :: r)) = true := by simp [len]; omega
      rw [h1]
      simp [vName, hl]

theorem lit_valid (x : T_Literal) : m_literal_Valid x = some (vName x.2) := by simp [m_literal_Valid, validName]
theorem ref_valid (x : T_Literal) : m_ref01_Valid x = some (vName x.2) := by simp [m_ref01_Valid, ref_validName]

theorem vName_len {s : Str} (h : vName s = true) : 1 ≤ s.length ∧ s.length ≤ 12 := by
  cases s with
  | nil => simp [vName] at h
  | cons c r => simp [vName] at h; simp; omega

/-- the text of a literal -/
def litText (x : T_Literal) : Str := if vName x.2 then (if x.1 then 126 :: x.2 else x.2) else []
theorem lit_format (x : T_Literal) : m_literal_Format x = some (litText x) := by
  unfold m_literal_Format litText
  rw [lit_valid]
  cases h : vName x.2 with
  | false => rfl
  | true =>
    have := vName_len h
    cases hx : x.1 <;> simp [cat_ok (l := [126]) (m := x.2) (by simp; omega)]
theorem ref_format (x : T_Literal) : m_ref01_Format x = some (litText x) := by
  unfold m_ref01_Format litText
  rw [ref_valid]
  cases h : vName x.2 with
  | false => rfl
  | true =>
    have := vName_len h
    cases hx : x.1 <;> simp [cat_ok (l := [126]) (m := x.2) (by simp; omega)]
theorem litText_len (x : T_Literal) : (litText x).length ≤ 13 := by
  unfold litText
  cases h : vName x.2 with
  | false => simp
  | true => have := vName_len h; cases x.1 <;> simp <;> omega

/-- the literal of a text, with the error -/
def litParse (s : Str) : T_Literal × Int :=
  let x : T_Literal := match s with
    | 126 :: r => (true, r)
    | _ => (false, s)
  if vName x.2 then (x, 0) else ((false, []), 3)
theorem litParse_tilde (r : Str) : litParse (126 :: r) = if vName r then ((true, r), 0) else ((false, []), 3) := rfl
theorem litParse_plain {s : Str} (h : ∀ r, s ≠ 126 :: r) : litParse s = if vName s then ((false, s), 0) else ((false, []), 3) := by
  unfold litParse
  split
  · rename_i r; exact absurd rfl (h r)
  · rfl

theorem lit_parse (s : Str) : m_literal_Parse s = some (litParse s) := by
  unfold m_literal_Parse
  cases s with
  | nil => simp [len, lit_valid, litParse_plain, vName]
  | cons c r =>
    have h0 : decide (0 < len (c :: r)) = true := by simp [len]
    have hs0 : sidx (c :: r) 0 = some (c.toNat : Int) := rfl
    simp only [h0, if_true, hs0, Option.bind_some]
    by_cases hc : c = 126
    · subst hc
      have hs := sub_suf (l := (126 :: r : Str)) (i := 1) (by omega) (by simp; omega)
      have h1 : (((126 : UInt8).toNat : Int) == 126) = true := rfl
      simp only [h1, if_true, hs, Option.bind_some, lit_valid]
      rw [litParse_tilde]
      cases hv : vName r <;> simp [hv]
    · have h1 : ((c.toNat : Int) == 126) = false := by
        rw [beq_eq_false_iff_ne]
        intro h; exact hc (UInt8.toNat_inj.1 (by simpa using (by omega : c.toNat = 126)))
      simp only [h1, if_false, Option.bind_some, lit_valid, Bool.false_eq_true]
      rw [litParse_plain (fun r' h => hc (by simp at h; exact h.1))]
      cases hv : vName (c :: r) <;> simp
theorem ref_parse (s : Str) : m_ref01_Parse s = some (litParse s) := by
  unfold m_ref01_Parse
  cases s with
  | nil => simp [len, ref_valid, litParse_plain, vName]
  | cons c r =>
    have h0 : decide (0 < len (c :: r)) = true := by simp [len]
    have hs0 : sidx (c :: r) 0 = some (c.toNat : Int) := rfl
    simp only [h0, if_true, hs0, Option.bind_some]
    by_cases hc : c = 126
    · subst hc
      have hs := sub_suf (l := (126 :: r : Str)) (i := 1) (by omega) (by simp; omega)
      have h1 : (((126 : UInt8).toNat : Int) == 126) = true := rfl
      simp only [h1, if_true, hs, Option.bind_some, ref_valid]
      rw [litParse_tilde]
      cases hv : vName r <;> simp [hv]
    · have h1 : ((c.toNat : Int) == 126) = false := by
        rw [beq_eq_false_iff_ne]
        intro h; exact hc (UInt8.toNat_inj.1 (by simpa using (by omega : c.toNat = 126)))
      simp only [h1, if_false, Option.bind_some, ref_valid, Bool.false_eq_true]
      rw [litParse_plain (fun r' h => hc (by simp at h; exact h.1))]
      cases hv : vName (c :: r) <;> simp

/-! ### The order of literals -/

def litLt (a b : T_Literal) : Bool := sless a.2 b.2 || (a.2 == b.2 && (!a.1 && b.1))
/-- the comparison of literals -/
def litCmp (a b : T_Literal) : Int := if litLt a b then -1 else if a = b then 0 else 1

theorem litLt_irrefl (a : T_Literal) : litLt a a = false := by simp [litLt, sless_irrefl]
theorem litLt_trans {a b c : T_Literal} (h1 : litLt a b = true) (h2 : litLt b c = true) : litLt a c = true := by
  obtain ⟨g, a⟩ := a; obtain ⟨g', b⟩ := b; obtain ⟨g'', c⟩ := c
  simp only [litLt, Bool.or_eq_true, Bool.and_eq_true, beq_iff_eq, Bool.not_eq_true'] at *
  rcases h1 with h1 | ⟨rfl, h1, h1'⟩ <;> rcases h2 with h2 | ⟨rfl, h2, h2'⟩
  · exact .inl (sless_trans h1 h2)
  · exact .inl h1
  · exact .inl h2
  · rw [h1'] at h2; cases h2
theorem litLt_tri (a b : T_Literal) : litLt a b = true ∨ a = b ∨ litLt b a = true := by
  obtain ⟨g, a⟩ := a; obtain ⟨g', b⟩ := b
  simp only [litLt, Bool.or_eq_true, Bool.and_eq_true, beq_iff_eq, Bool.not_eq_true', Prod.mk.injEq]
  rcases sless_tri a b with h | rfl | h
  · exact .inl (.inl h)
  · cases g <;> cases g' <;> simp
  · exact .inr (.inr (.inl h))
theorem litLt_asymm {a b : T_Literal} (h : litLt a b = true) : litLt b a = false := by
  cases hb : litLt b a with
  | false => rfl
  | true => have := litLt_trans h hb; rw [litLt_irrefl] at this; cases this
theorem litLt_ne {a b : T_Literal} (h : litLt a b = true) : a ≠ b := fun e => by subst e; rw [litLt_irrefl] at h; cases h

theorem lit_compare (a b : T_Literal) : m_literal_Compare a b = some (litCmp a b) := by
  obtain ⟨g, a⟩ := a; obtain ⟨g', b⟩ := b
  unfold m_literal_Compare litCmp litLt
  rw [cmp_string]
  by_cases h1 : sless a b = true
  · simp [h1]
  · by_cases h2 : a = b
    · subst h2
      cases g <;> cases g' <;> simp [sless_irrefl]
    · simp [h1, h2]
theorem ref_compare (a b : T_Literal) : m_ref01_Compare a b = some (litCmp a b) := by
  obtain ⟨g, a⟩ := a; obtain ⟨g', b⟩ := b
  unfold m_ref01_Compare litCmp litLt
  by_cases h1 : sless a b = true
  · have h2 : a ≠ b := fun e => by subst e; rw [sless_irrefl] at h1; cases h1
    simp [h1, h2]
  · by_cases h2 : a = b
    · subst h2
      cases g <;> cases g' <;> simp [sless_irrefl]
    · simp [h1, h2]

theorem ordF_lit : OrdF m_literal_Compare := by
  have hlt : ∀ x y, ltF m_literal_Compare x y = litLt x y := fun x y => by
    simp only [ltF, lit_compare, litCmp, Option.getD_some]
    cases h : litLt x y with
    | true => simp
    | false => by_cases he : x = y <;> simp [he]
  refine ⟨fun x y => ⟨_, lit_compare x y⟩, fun x => by rw [hlt, litLt_irrefl], fun x y z h1 h2 => ?_, fun x y z h1 h2 => ?_, fun x y h1 h2 => ?_⟩
  · rw [hlt] at *; exact litLt_trans h1 h2
  · rw [hlt] at *
    cases h3 : litLt x z with
    | false => rfl
    | true =>
      rcases litLt_tri x y with h | rfl | h
      · rw [h] at h1; cases h1
      · rw [h3] at h2; cases h2
      · have := litLt_trans h h3; rw [this] at h2; cases h2
  · rw [hlt] at *
    rcases litLt_tri x y with h | h | h
    · rw [h] at h1; cases h1
    · exact h
    · rw [h] at h2; cases h2
theorem ltF_lit (x y : T_Literal) : ltF m_literal_Compare x y = litLt x y := by
  simp only [ltF, lit_compare, litCmp, Option.getD_some]
  cases h : litLt x y with
  | true => simp
  | false => by_cases he : x = y <;> simp [he]

end Go.GD
