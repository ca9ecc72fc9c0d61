/- Layer 1: lists of literals. Conditions: none. -/
import Derived.Test.YtfocdgbdeacgaaaLit
import Derived.Test.YtfocdgbdeacgaaaGen
namespace Go.GD
set_option autoImplicit false

theorem ord_lit : Ord1 litLt := ⟨litLt_irrefl, fun _ _ _ => litLt_trans, litLt_tri⟩

theorem clone_lit {l : List T_Literal} (h : l.length < 4294967296) : m_slices_Clone_Literal l = some l := by
  simp [m_slices_Clone_Literal, app_ok (l := ([] : List T_Literal)) (m := l) (by simpa using h)]
theorem sort_lit {l : List T_Literal} (h : l.length < 4294967296) : m_slices_SortFunc_Literal__literal_Compare l = some (l.mergeSort fun x y => !litLt y x) := by
  simp only [m_slices_SortFunc_Literal__literal_Compare, sortF]
  rw [if_pos ⟨ordF_lit, h⟩]
  simp only [ltF_lit]
theorem compact_lit {l : List T_Literal} (h : l.length < 4294967296) : m_slices_Compact_Literal l = some (dedup l) :=
  (show m_slices_Compact_Literal l = compactM (false, []) l from rfl).trans (compactM_spec _ l (by omega))
theorem lit_normal {l : List T_Literal} (h : l.length < 4294967296) : m_literal_Normal l = some (nrm litLt l) := by
  simp only [m_literal_Normal, clone_lit h, sort_lit h, Option.bind_some]
  rw [compact_lit (by simpa using h)]
  rfl

theorem lit_has {l : List T_Literal} (x : T_Literal) (h : l.length < 9223372036854775807) : m_literal_Has l x = some (decide (x ∈ l)) := by
  obtain ⟨r, hr, hi⟩ := indexM_spec l x h
  have e : m_slices_Index_Literal l x = some r := (show m_slices_Index_Literal l x = indexM l x from rfl).trans hr
  simp only [m_literal_Has, m_slices_Contains_Literal, e, Option.bind_some]
  congr 1
  rw [decide_eq_decide, hi]
  simp

/-- the other one -/
def compl (x : T_Literal) : T_Literal := (!x.1, x.2)
theorem lit_complement (x : T_Literal) : m_literal_Complement x = some (compl x) := rfl
theorem compl_compl (x : T_Literal) : compl (compl x) = x := by simp [compl]

/-- is no literal the complement of another one? -/
def consistent (l : List T_Literal) : Bool := l.all fun x => !decide (compl x ∈ l)

theorem mget_put {κ ν : Type} [BEq κ] [LawfulBEq κ] : ∀ (m : List (κ × ν)) (k : κ) (v : ν) (q : κ), (mget (mput m k v) q).isSome = ((q == k) || (mget m q).isSome)
  | [], k, v, q => by simp only [mput, mget]; split <;> simp_all
  | x :: r, k, v, q => by
    by_cases h : k == x.1
    · have h' := eq_of_beq h
      subst h'
      by_cases hq : q == x.1 <;> simp [mput, mget, hq]
    · by_cases hq : q == x.1
      · simp [mput, h, mget, hq]
      · have := mget_put r k v q
        simp [mput, h, mget, hq, this]

theorem lit_consistent {l : List T_Literal} (h : l.length < 9223372036854775807) : m_literal_Consistent l = some (consistent l) := by
  have hh := loop_forI (B := m_literal_Consistent_L1 l) (fun i (s : List (T_Literal × Unit)) => (s, (i : Int))) l
    (fun i s => (∀ q, (mget s q).isSome = true ↔ ∃ j, j < i ∧ l[j]? = some q) ∧ ∀ j x, j < i → l[j]? = some x → ∀ k, k < i → l[k]? ≠ some (compl x)) (fun r => r = consistent l) ?_ ?_ [] ⟨by simp [mget], by simp⟩
  · obtain ⟨r, h1, rfl⟩ := hh; exact h1
  · intro i x s hx hI
    obtain ⟨h1, h2⟩ := hI
    have hi := (List.getElem?_eq_some_iff.1 hx).1
    have hlt : decide ((i : Int) < len l) = true := by simp [len]; omega
    unfold m_literal_Consistent_L1
    simp only [hlt, if_true, idx_nat, hx, Option.bind_some, lit_complement, w64_succ i (by omega)]
    have hput : ∀ q, (mget (mput s x ()) q).isSome = true ↔ ∃ j, j < i + 1 ∧ l[j]? = some q := by
      intro q
      rw [mget_put, Bool.or_eq_true, h1]
      constructor
      · rintro (hq | ⟨j, hj, hl⟩)
        · exact ⟨i, by omega, by rw [hx, eq_of_beq hq]⟩
        · exact ⟨j, by omega, hl⟩
      · rintro ⟨j, hj, hl⟩
        rcases Nat.lt_succ_iff_lt_or_eq.1 hj with h | rfl
        · exact .inr ⟨j, h, hl⟩
        · rw [hx] at hl; cases hl; exact .inl (by simp)
    cases hs : (mget (mput s x ()) (compl x)).isSome with
    | true =>
      refine .inr ⟨false, by simp, ?_⟩
      obtain ⟨j, hj, hl⟩ := (hput (compl x)).1 hs
      symm
      rw [consistent, List.all_eq_false]
      exact ⟨x, List.mem_of_getElem? hx, by simp [List.mem_of_getElem? hl]⟩
    | false =>
      refine .inl ⟨mput s x (), by simp, hput, fun j y hj hy k hk hkl => ?_⟩
      have hno : ∀ k, k < i + 1 → l[k]? ≠ some (compl x) := fun k hk hkl => by
        have := (hput (compl x)).2 ⟨k, hk, hkl⟩
        rw [hs] at this; cases this
      rcases Nat.lt_succ_iff_lt_or_eq.1 hj with h3 | rfl
      · rcases Nat.lt_succ_iff_lt_or_eq.1 hk with h4 | rfl
        · exact h2 j y h3 hy k h4 hkl
        · rw [hx] at hkl
          cases hkl
          exact hno j (by omega) (by rw [hy, compl_compl])
      · rw [hx] at hy; cases hy; exact hno k hk hkl
  · rintro s ⟨h1, h2⟩
    refine ⟨true, by unfold m_literal_Consistent_L1; simp [len], ?_⟩
    symm
    rw [consistent, List.all_eq_true]
    intro x hx
    obtain ⟨j, hj⟩ := List.mem_iff_getElem?.1 hx
    simp only [Bool.not_eq_true', decide_eq_false_iff_not]
    intro hc
    obtain ⟨k, hk⟩ := List.mem_iff_getElem?.1 hc
    exact h2 j x (List.getElem?_eq_some_iff.1 hj).1 hj k (List.getElem?_eq_some_iff.1 hk).1 hk

theorem lit_awake : m_law01_awake = some true := by
  have h1 : m_literal_Parse [126, 126, 112] = some ((false, []), 3) := by rw [lit_parse]; rfl
  have h2 : m_literal_Normal ([(false, [113]), (true, [112]), (false, [113])] : List T_Literal) = some [(true, [112]), (false, [113])] := by
    rw [lit_normal (by decide), nrm_eq (lt := litLt) ord_lit (m := [(true, [112]), (false, [113])]) (by simp [Asc, litLt, sless]) (by intro x; simp; intro h; exact .inr h)]
  have h3 : m_literal_Format (true, [112]) = some [126, 112] := by rw [lit_format]; rfl
  have h4 : m_literal_Compare (false, [112]) (true, [112]) = some (-1) := by rw [lit_compare]; rfl
  have h5 : m_literal_Compare (true, [112]) (false, [113]) = some (-1) := by rw [lit_compare]; rfl
  have h6 : m_literal_Consistent ([(false, [112]), (false, [113]), (true, [112])] : List T_Literal) = some false := by rw [lit_consistent (by decide)]; rfl
  unfold m_law01_awake
  simp [h1, h2, h3, h4, h5, h6, len, idx]

end Go.GD
