/- Layer 1: names; the reference's lists. Conditions: none. -/
import Derived.Test.YtfocdgbdeacgaaaLit2
namespace Go.GD
set_option autoImplicit false

theorem ord_str : Ord1 sless := ⟨sless_irrefl, fun _ _ _ => sless_trans, sless_tri⟩

theorem sless_lt : ∀ a b : Str, sless a b = true ↔ a < b
  | a, [] => by simp [sless]
  | [], b :: y => by simp [sless]
  | a :: x, b :: y => by
    simp only [sless, Bool.or_eq_true, decide_eq_true_eq, Bool.and_eq_true, beq_iff_eq, sless_lt x y, List.cons_lt_cons_iff]
theorem sless_le (a b : Str) : decide (a ≤ b) = !sless b a := by
  cases h : sless b a with
  | true => simp only [Bool.not_true, decide_eq_false_iff_not]; exact fun hle => hle ((sless_lt b a).1 h)
  | false => simp only [Bool.not_false, decide_eq_true_eq]; exact fun hlt => by rw [(sless_lt b a).2 hlt] at h; cases h

theorem sortS_ok {l : List Str} (h : l.length < 4294967296) : sortS l = some (l.mergeSort fun x y => !sless y x) := by
  unfold sortS
  rw [if_pos h]
  congr 2
  funext x y
  exact sless_le x y

theorem dedup_sub {α : Type} [BEq α] (l : List α) : (dedup l).Sublist l := by
  have key : ∀ (r : List α) (a : α), (dd a r).Sublist r := by
    intro r
    induction r with
    | nil => intro a; exact List.Sublist.refl _
    | cons b r ih =>
      intro a
      simp only [dd]
      split
      · exact List.Sublist.cons _ (ih b)
      · exact List.Sublist.cons_cons _ (ih b)
  cases l with
  | nil => exact List.Sublist.refl _
  | cons a r => exact List.Sublist.cons_cons _ (key r a)

theorem nrm_congr {α : Type} [BEq α] [LawfulBEq α] {lt : α → α → Bool} (O : Ord1 lt) {l m : List α} (h : ∀ x, x ∈ l ↔ x ∈ m) : nrm lt l = nrm lt m := by
  obtain ⟨h1, h2⟩ := nrm_spec O m
  exact nrm_eq O h1 fun x => by rw [h2, h]

/-- the names of literals -/
def litNames (l : List T_Literal) : List Str := nrm sless (l.map (·.2))

theorem lit_names {l : List T_Literal} (h : l.length < 2147483648) : m_literal_Names l = some (litNames l) := by
  have hloop : loop (m_literal_Names_L1 l) (([] : List Str), 0) = some (l.map (·.2)) := by
    have hh := loop_forI (B := m_literal_Names_L1 l) (fun i (s : List Str) => (s, (i : Int))) l (fun i s => s = (l.take i).map (·.2)) (fun r => r = l.map (·.2)) ?_ ?_ [] rfl
    · obtain ⟨r, h1, rfl⟩ := hh; exact h1
    · rintro i x s hx rfl
      have hi := (List.getElem?_eq_some_iff.1 hx).1
      have hlt : decide ((i : Int) < len l) = true := by simp [len]; omega
      refine .inl ⟨_, ?_, rfl⟩
      unfold m_literal_Names_L1
      simp only [hlt, if_true, idx_nat, hx, Option.bind_some, w64_succ i (by omega)]
      rw [app_ok (by simp; omega)]
      rw [List.take_add_one, hx]
      simp
    · rintro s rfl
      refine ⟨_, by unfold m_literal_Names_L1; simp [len], rfl⟩
  unfold m_literal_Names
  rw [hloop]
  simp only [Option.bind_some, m_slices_Sort_string]
  rw [sortS_ok (by simp; omega)]
  simp only [Option.bind_some]
  have hc : ∀ z : List Str, z.length < 4294967296 → m_slices_Compact_string z = some (dedup z) := fun z hz =>
    (show m_slices_Compact_string z = compactM [] z from rfl).trans (compactM_spec _ z (by omega))
  rw [hc _ (by simp; omega)]
  rfl

theorem litNames_len (l : List T_Literal) : (litNames l).length ≤ l.length := by
  have := nrm_len sless (l.map (·.2))
  simpa [litNames] using this

/-! ### The reference -/

theorem ref_insert {l : List T_Literal} (x : T_Literal) (h : l.length < 1073741824) (ha : Asc litLt l) : ∃ r, m_ref01_Insert l x = some r ∧ Asc litLt r ∧ (∀ y, y ∈ r ↔ y = x ∨ y ∈ l) ∧ r.length ≤ l.length + 1 := by
  have hloop : ∃ k, loop (m_ref01_Insert_L1 l x) 0 = some k ∧ ∃ n : Nat, k = n ∧ n ≤ l.length ∧ (∀ j y, j < n → l[j]? = some y → litLt y x = true) ∧ ∀ y, l[n]? = some y → litLt y x = false := by
    refine loop_forI (B := m_ref01_Insert_L1 l x) (fun i (_ : Unit) => (i : Int)) l (fun i _ => ∀ j y, j < i → l[j]? = some y → litLt y x = true) _ ?_ ?_ () (by simp)
    · intro i y s hy hI
      have hi := (List.getElem?_eq_some_iff.1 hy).1
      have hlt : decide ((i : Int) < len l) = true := by simp [len]; omega
      unfold m_ref01_Insert_L1
      simp only [hlt, if_true, idx_nat, hy, Option.bind_some, ref_compare]
      cases hc : litLt y x with
      | true =>
        refine .inl ⟨(), by simp [litCmp, hc, w64_succ i (by omega)], fun j z hj hz => ?_⟩
        rcases Nat.lt_succ_iff_lt_or_eq.1 hj with h | rfl
        · exact hI j z h hz
        · rw [hy] at hz; cases hz; exact hc
      | false =>
        refine .inr ⟨(i : Int), ?_, i, rfl, by omega, hI, fun z hz => by rw [hy] at hz; cases hz; exact hc⟩
        have : decide (litCmp y x < 0) = false := by simp [litCmp, hc]; split <;> omega
        simp only [this, Bool.false_eq_true, if_false]
    · intro s hI
      refine ⟨(l.length : Int), by unfold m_ref01_Insert_L1; simp [len], l.length, rfl, Nat.le_refl _, hI, fun y hy => by simp at hy⟩
  obtain ⟨_, hk, n, rfl, hn, hlo, hhi⟩ := hloop
  unfold m_ref01_Insert
  rw [hk]
  simp only [Option.bind_some]
  by_cases hx : l[n]? = some x
  · have hlt : decide ((n : Int) < len l) = true := by have := (List.getElem?_eq_some_iff.1 hx).1; simp [len]; omega
    refine ⟨l, by simp only [hlt, if_true, idx_nat, hx, Option.bind_some, beq_self_eq_true], ha, fun y => ⟨.inr, fun h => ?_⟩, by omega⟩
    rcases h with rfl | h
    · exact List.mem_of_getElem? hx
    · exact h
  · have hcond : ((if decide ((n : Int) < len l) = true then (idx l (n : Int)).bind fun x2 => some (x2 == x) else some false : Option Bool)) = some false := by
      by_cases hlt : n < l.length
      · have hy : l[n]? = some l[n] := List.getElem?_eq_getElem hlt
        have h1 : decide ((n : Int) < len l) = true := by simp [len]; omega
        have h2 : (l[n] == x) = false := beq_eq_false_iff_ne.2 (fun e => hx (by rw [hy, e]))
        simp only [h1, if_true, idx_nat, hy, Option.bind_some, h2]
      · have h1 : decide ((n : Int) < len l) = false := by simp [len]; omega
        simp only [h1, Bool.false_eq_true, if_false]
    rw [hcond]
    simp only [Option.bind_some, Bool.false_eq_true, if_false]
    rw [sub_pre (by omega) (by omega), sub_suf (by omega) (by omega)]
    simp only [Option.bind_some, Int.toNat_natCast]
    rw [app_ok (by simp; omega)]
    simp only [Option.bind_some, List.nil_append]
    rw [app_ok (by simp; omega)]
    simp only [Option.bind_some]
    rw [app_ok (by simp; omega)]
    refine ⟨_, rfl, ?_, fun y => ?_, by simp; omega⟩
    · have hsplit := List.take_append_drop n l
      rw [← hsplit] at ha
      obtain ⟨h1, h2, h3⟩ := List.pairwise_append.1 ha
      have hlow : ∀ y ∈ l.take n, litLt y x = true := fun y hy => by
        obtain ⟨j, hj⟩ := List.mem_iff_getElem?.1 hy
        rw [List.getElem?_take] at hj
        split at hj
        · exact hlo j y ‹_› hj
        · cases hj
      have hhigh : ∀ y ∈ l.drop n, litLt x y = true := fun y hy => by
        by_cases hlt : n < l.length
        · have hfirst : litLt x l[n] = true := by
            rcases litLt_tri x l[n] with h | h | h
            · exact h
            · exact absurd (by rw [List.getElem?_eq_getElem hlt, ← h]) hx
            · rw [hhi _ (List.getElem?_eq_getElem hlt)] at h; cases h
          rw [List.drop_eq_getElem_cons hlt] at hy h2
          rcases List.mem_cons.1 hy with rfl | hy
          · exact hfirst
          · exact litLt_trans hfirst ((List.pairwise_cons.1 h2).1 y hy)
        · rw [List.drop_of_length_le (by omega)] at hy; cases hy
      rw [List.append_assoc]
      refine List.pairwise_append.2 ⟨h1, List.pairwise_append.2 ⟨by simp, h2, fun a ha b hb => ?_⟩, fun a ha b hb => ?_⟩
      · simp at ha; subst ha; exact hhigh b hb
      · rcases List.mem_append.1 hb with hb | hb
        · simp at hb; subst hb; exact hlow a ha
        · exact h3 a ha b hb
    · rw [List.mem_append, List.mem_append, List.mem_singleton]
      have : y ∈ l ↔ y ∈ l.take n ∨ y ∈ l.drop n := by rw [← List.mem_append, List.take_append_drop]
      rw [this]
      constructor
      · rintro ((h | h) | h)
        · exact .inr (.inl h)
        · exact .inl h
        · exact .inr (.inr h)
      · rintro (h | h | h)
        · exact .inl (.inr h)
        · exact .inl (.inl h)
        · exact .inr h

theorem ref_normal {l : List T_Literal} (h : l.length < 1073741824) : m_ref01_Normal l = some (nrm litLt l) := by
  have hh := loop_forI (B := m_ref01_Normal_L1 l) (fun i (s : List T_Literal) => (s, (i : Int))) l (fun i s => Asc litLt s ∧ (∀ y, y ∈ s ↔ y ∈ l.take i) ∧ s.length ≤ i) (fun r => r = nrm litLt l) ?_ ?_ [] ⟨by simp, by simp, Nat.le_refl _⟩
  · obtain ⟨r, h1, rfl⟩ := hh; exact h1
  · rintro i x s hx ⟨h1, h2, h3⟩
    have hi := (List.getElem?_eq_some_iff.1 hx).1
    have hlt : decide ((i : Int) < len l) = true := by simp [len]; omega
    obtain ⟨r, hr, g1, g2, g3⟩ := ref_insert x (l := s) (by omega) h1
    refine .inl ⟨r, ?_, g1, fun y => ?_, by omega⟩
    · unfold m_ref01_Normal_L1
      simp only [hlt, if_true, idx_nat, hx, Option.bind_some, w64_succ i (by omega), hr]
    · rw [g2, List.take_add_one, hx, List.mem_append, h2]
      simp only [Option.toList_some, List.mem_singleton]
      exact or_comm
  · rintro s ⟨h1, h2, _⟩
    refine ⟨s, by unfold m_ref01_Normal_L1; simp [len], ?_⟩
    rw [List.take_length] at h2
    exact (nrm_eq ord_lit h1 h2).symm

theorem ref_has {l : List T_Literal} (x : T_Literal) (h : l.length < 9223372036854775807) : m_ref01_Has l x = some (decide (x ∈ l)) := by
  have hh := loop_forI (B := m_ref01_Has_L1 l x) (fun i (_ : Unit) => (i : Int)) l (fun i _ => ∀ j, j < i → l[j]? ≠ some x) (fun r => r = decide (x ∈ l)) ?_ ?_ () (by simp)
  · obtain ⟨r, h1, rfl⟩ := hh; exact h1
  · intro i y s hy hI
    have hi := (List.getElem?_eq_some_iff.1 hy).1
    have hlt : decide ((i : Int) < len l) = true := by simp [len]; omega
    unfold m_ref01_Has_L1
    simp only [hlt, if_true, idx_nat, hy, Option.bind_some]
    by_cases hxy : y = x
    · subst hxy
      refine .inr ⟨true, by simp, ?_⟩
      simp [List.mem_of_getElem? hy]
    · refine .inl ⟨(), by simp [hxy, w64_succ i (by omega)], fun j hj => ?_⟩
      rcases Nat.lt_succ_iff_lt_or_eq.1 hj with h | rfl
      · exact hI j h
      · rw [hy]; simpa using hxy
  · intro s hI
    refine ⟨false, by unfold m_ref01_Has_L1; simp [len], ?_⟩
    symm
    rw [decide_eq_false_iff_not]
    intro hm
    obtain ⟨j, hj⟩ := List.mem_iff_getElem?.1 hm
    exact hI j (List.getElem?_eq_some_iff.1 hj).1 hj

theorem ref_consistent {l : List T_Literal} (h : l.length < 9223372036854775807) : m_ref01_Consistent l = some (consistent l) := by
  have hh := loop_forI (B := m_ref01_Consistent_L1 l) (fun i (_ : Unit) => (i : Int)) l (fun i _ => ∀ j x, j < i → l[j]? = some x → compl x ∉ l) (fun r => r = consistent l) ?_ ?_ () (by simp)
  · obtain ⟨r, h1, rfl⟩ := hh; exact h1
  · intro i x s hx hI
    have hi := (List.getElem?_eq_some_iff.1 hx).1
    have hlt : decide ((i : Int) < len l) = true := by simp [len]; omega
    unfold m_ref01_Consistent_L1
    simp only [hlt, if_true, idx_nat, hx, Option.bind_some, show ∀ z : T_Literal, m_ref01_Complement z = some (compl z) from fun _ => rfl, ref_has _ h]
    by_cases hc : compl x ∈ l
    · refine .inr ⟨false, by simp [hc], ?_⟩
      symm
      rw [consistent, List.all_eq_false]
      exact ⟨x, List.mem_of_getElem? hx, by simp [hc]⟩
    · refine .inl ⟨(), by simp [hc, w64_succ i (by omega)], fun j y hj hy => ?_⟩
      rcases Nat.lt_succ_iff_lt_or_eq.1 hj with h | rfl
      · exact hI j y h hy
      · rw [hx] at hy; cases hy; exact hc
  · intro s hI
    refine ⟨true, by unfold m_ref01_Consistent_L1; simp [len], ?_⟩
    symm
    rw [consistent, List.all_eq_true]
    intro x hx
    obtain ⟨j, hj⟩ := List.mem_iff_getElem?.1 hx
    simpa using hI j x (List.getElem?_eq_some_iff.1 hj).1 hj

theorem ref_same (l m : List T_Literal) (h : l.length < 9223372036854775807) : m_ref01_Same l m = some (decide (l = m)) :=
  (show m_ref01_Same l m = sameM l m from rfl).trans (sameM_spec l m h)

theorem names_sorted {l : List T_Literal} (h : Asc litLt l) : (l.map (·.2)).Pairwise (fun x y => sless y x = false) := by
  rw [List.pairwise_map]
  refine h.imp fun {a b} hab => ?_
  cases hs : sless b.2 a.2 with
  | false => rfl
  | true =>
    have : litLt b a = true := by simp [litLt, hs]
    rw [litLt_asymm hab] at this; cases this

theorem names_dedup (l : List T_Literal) : litNames l = dedup ((nrm litLt l).map (·.2)) := by
  obtain ⟨h1, h2⟩ := nrm_spec ord_lit l
  obtain ⟨h3, h4⟩ := asc_dedup ord_str (names_sorted h1)
  exact nrm_eq ord_str h3 fun x => by rw [h4]; simp only [List.mem_map, h2]

theorem ref_names {l : List T_Literal} (h : l.length < 1073741824) : m_ref01_Names l = some (litNames l) := by
  unfold m_ref01_Names
  rw [ref_normal h, names_dedup]
  have hn := nrm_len litLt l
  generalize nrm litLt l = n at hn
  simp only [Option.bind_some]
  have hh := loop_forI (B := m_ref01_Names_L1 n) (fun i (s : List Str) => (s, (i : Int))) n (fun i s => s = dedup ((n.map (·.2)).take i)) (fun r => r = dedup (n.map (·.2))) ?_ ?_ [] (by simp [dedup])
  · obtain ⟨r, h1, rfl⟩ := hh; exact h1
  · rintro i x s hx rfl
    have hi := (List.getElem?_eq_some_iff.1 hx).1
    have hlt : decide ((i : Int) < len n) = true := by simp [len]; omega
    have hsl : (dedup ((n.map (·.2)).take i)).length ≤ i := by have := dedup_len ((n.map (·.2)).take i); simp at this; omega
    refine .inl ⟨_, ?_, rfl⟩
    unfold m_ref01_Names_L1
    simp only [hlt, if_true, idx_nat, hx, Option.bind_some, w64_succ i (by omega)]
    cases i with
    | zero =>
      simp only [Int.natCast_zero, beq_self_eq_true, if_true, Option.bind_some]
      rw [app_ok (by simp [dedup])]
      cases n with
      | nil => simp at hi
      | cons y n => simp at hx; subst hx; simp [dedup, dd]
    | succ i =>
      have hy : n[i]? = some n[i] := List.getElem?_eq_getElem (by omega)
      have h0 : (((i + 1 : Nat) : Int) == 0) = false := by rw [beq_eq_false_iff_ne]; omega
      have hw : w64 (((i + 1 : Nat) : Int) - 1) = (i : Nat) := by rw [w64_id (by omega) (by omega)]; omega
      have hdt := dedup_take (l := n.map (·.2)) (j := i) (y := n[i].2) (x := x.2) (by rw [List.getElem?_map, hy]; rfl) (by rw [List.getElem?_map, hx]; rfl)
      simp only [h0, Bool.false_eq_true, if_false, hw, idx_nat, hy, Option.bind_some]
      rw [hdt, BEq.comm]
      cases hb : n[i].2 == x.2 with
      | true => simp
      | false =>
        simp only [Bool.not_false, if_true]
        rw [app_ok (by simp; omega)]
        simp
  · rintro s rfl
    refine ⟨_, by unfold m_ref01_Names_L1; simp [len]; rfl, ?_⟩
    rw [List.take_of_length_le (by simp)]

end Go.GD
