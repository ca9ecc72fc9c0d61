/- Comparisons of ints, one after the other: cmp.Or, cmp.Compare, slices.SortFunc, slices.Compact. Conditions: none. -/
import Derived.Test.YtofgcpbdgokpjaaGreatGen
import Derived.Test.YtofgcpbdgokpjaaGreatTwin
namespace Go.GD
set_option autoImplicit false

abbrev ltI (x y : Int) : Bool := decide (x < y)
abbrev cmpI (x y : Int) : Int := if x < y then -1 else if y < x then 1 else 0
/-- the first number that is not 0 -/
def orF : List Int → Int
  | [] => 0
  | x :: r => if x != 0 then x else orF r
/-- first by the one, then by the other -/
abbrev lexLt {α β : Type} [BEq α] (lt1 : α → α → Bool) (lt2 : β → β → Bool) (x y : α × β) : Bool := lt1 x.1 y.1 || (x.1 == y.1 && lt2 x.2 y.2)

theorem ord_ltI : Ord1 ltI := ⟨fun x => by simp, fun x y z h1 h2 => by simp at *; omega, fun x y => by simp; omega⟩
theorem ord_lex {α β : Type} [BEq α] [LawfulBEq α] {lt1 : α → α → Bool} {lt2 : β → β → Bool} (O1 : Ord1 lt1) (O2 : Ord1 lt2) : Ord1 (lexLt lt1 lt2) := by
  refine ⟨fun x => by simp [O1.irrefl, O2.irrefl], fun x y z h1 h2 => ?_, fun x y => ?_⟩
  · simp only [lexLt, Bool.or_eq_true, Bool.and_eq_true, beq_iff_eq] at *
    rcases h1 with h1 | ⟨h1, h1'⟩ <;> rcases h2 with h2 | ⟨h2, h2'⟩
    · exact .inl (O1.trans _ _ _ h1 h2)
    · exact .inl (h2 ▸ h1)
    · exact .inl (h1 ▸ h2)
    · exact .inr ⟨h1.trans h2, O2.trans _ _ _ h1' h2'⟩
  · obtain ⟨a, b⟩ := x; obtain ⟨c, d⟩ := y
    simp only [lexLt, Bool.or_eq_true, Bool.and_eq_true, beq_iff_eq, Prod.mk.injEq]
    rcases O1.tri a c with h | rfl | h
    · exact .inl (.inl h)
    · rcases O2.tri b d with h | rfl | h
      · exact .inl (.inr ⟨rfl, h⟩)
      · exact .inr (.inl ⟨rfl, rfl⟩)
      · exact .inr (.inr (.inr ⟨rfl, h⟩))
    · exact .inr (.inr (.inl h))

theorem OrdF.of {α : Type} {f : α → α → Option Int} {lt : α → α → Bool} (O : Ord1 lt) (ht : ∀ x y, ∃ n, f x y = some n) (h : ∀ x y, ltF f x y = lt x y) : OrdF f := by
  refine ⟨ht, fun x => by rw [h, O.irrefl], fun x y z h1 h2 => ?_, fun x y z h1 h2 => ?_, fun x y h1 h2 => ?_⟩
  · rw [h] at *; exact O.trans _ _ _ h1 h2
  · rw [h] at *
    cases h3 : lt x z with
    | false => rfl
    | true =>
      rcases O.tri x y with h4 | rfl | h4
      · rw [h4] at h1; cases h1
      · rw [h3] at h2; cases h2
      · have := O.trans _ _ _ h4 h3; rw [this] at h2; cases h2
  · rw [h] at *
    rcases O.tri x y with h4 | h4 | h4
    · rw [h4] at h1; cases h1
    · exact h4
    · rw [h4] at h2; cases h2

theorem sortF_ok {α : Type} {f : α → α → Option Int} {lt : α → α → Bool} (O : Ord1 lt) (ht : ∀ x y, ∃ n, f x y = some n) (h : ∀ x y, ltF f x y = lt x y) {l : List α} (hl : l.length < 4294967296) :
    sortF f l = some (l.mergeSort fun x y => !lt y x) := by
  unfold sortF
  rw [if_pos ⟨OrdF.of O ht h, hl⟩]
  have : (fun x y => !ltF f y x) = fun x y => !lt y x := by funext x y; rw [h]
  rw [this]

/-! ### as the program prints them -/
noncomputable def orL (y0 : List Int) (s1 : Int) : Option (Int ⊕ Int) :=
  if decide (s1 < (len y0)) then
    (idx y0 s1).bind fun x1 =>
    if x1 != 0 then
      some (.inr x1)
    else
      some (.inl (w64 (s1 + 1)))
  else
    some (.inr 0)
theorem orL_spec (l : List Int) (hb : l.length < 9223372036854775807) : loop (orL l) 0 = some (orF l) := by
  have h := loop_runL0 (B := orL l) (fun i (_ : Unit) => (i : Int)) l (fun _ _ x => if x != 0 then some (.inr x) else some (.inl ())) (fun _ => some 0) (fun i x s hx => ?_) (fun s => by simp [orL, len]) ()
  · have key : ∀ (l : List Int) (i : Nat), runL (fun _ (_ : Unit) (x : Int) => if x != 0 then some (Sum.inr x) else some (.inl ())) (fun _ => some 0) i l () = some (orF l) := by
      intro l
      induction l with
      | nil => intro i; rfl
      | cons x l ih =>
        intro i
        by_cases hx : x = 0
        · subst hx; exact ih (i + 1)
        · simp [runL, orF, hx]
    rw [key] at h
    exact h
  · have hi := (List.getElem?_eq_some_iff.1 hx).1
    unfold orL
    have hlt : decide ((i : Int) < len l) = true := by simp [len]; omega
    simp only [hlt, if_true, idx_nat, hx, Option.bind_some]
    by_cases h0 : x = 0
    · subst h0; simp [w64_succ i (by omega)]
    · simp [h0]

/-! ### sorting that can be computed -/
section
variable {α : Type} {lt : α → α → Bool}
theorem ins_perm (x : α) : ∀ l : List α, (ins lt x l).Perm (x :: l)
  | [] => List.Perm.refl _
  | y :: r => by
    unfold ins
    split
    · exact ((ins_perm x r).cons y).trans (List.Perm.swap x y r)
    · exact List.Perm.refl _
theorem isort_perm : ∀ l : List α, (isort lt l).Perm l
  | [] => List.Perm.refl _
  | x :: r => (ins_perm x _).trans ((isort_perm r).cons x)
theorem ins_sorted (O : Ord1 lt) (x : α) : ∀ l : List α, l.Pairwise (fun x y => lt y x = false) → (ins lt x l).Pairwise (fun x y => lt y x = false)
  | [], _ => by simp [ins]
  | y :: r, h => by
    obtain ⟨h1, h2⟩ := List.pairwise_cons.1 h
    unfold ins
    split
    · rename_i hlt
      refine List.pairwise_cons.2 ⟨fun z hz => ?_, ins_sorted O x r h2⟩
      rcases List.mem_cons.1 ((ins_perm x r).mem_iff.1 hz) with rfl | hz
      · exact O.asymm hlt
      · exact h1 z hz
    · rename_i hlt
      have hyx : lt y x = false := by simpa using hlt
      refine List.pairwise_cons.2 ⟨fun z hz => ?_, h⟩
      rcases List.mem_cons.1 hz with rfl | hz
      · exact hyx
      · cases hzx : lt z x with
        | false => rfl
        | true =>
          have hzy := h1 z hz
          rcases O.tri x y with h3 | rfl | h3
          · rw [O.trans _ _ _ hzx h3] at hzy; cases hzy
          · rw [hzx] at hzy; cases hzy
          · rw [h3] at hyx; cases hyx
theorem isort_sorted (O : Ord1 lt) : ∀ l : List α, (isort lt l).Pairwise (fun x y => lt y x = false)
  | [] => List.Pairwise.nil
  | x :: r => ins_sorted O x _ (isort_sorted O r)
theorem merge_isort (O : Ord1 lt) (l : List α) : (l.mergeSort fun x y => !lt y x) = isort lt l := by
  refine List.Perm.eq_of_pairwise (le := fun x y => lt y x = false) (fun a b _ _ h1 h2 => ?_) (sorted_merge O l) (isort_sorted O l) ((List.mergeSort_perm _ _).trans (isort_perm l).symm)
  rcases O.tri a b with h | h | h
  · rw [h] at h2; cases h2
  · exact h
  · rw [h] at h1; cases h1
end
theorem sortI_isort {l : List Int} (h : l.length < 4294967296) : sortI l = some (isort ltI l) := by
  unfold sortI
  rw [if_pos h, ← merge_isort ord_ltI]
  have : (fun x y : Int => decide (x ≤ y)) = fun x y => !ltI y x := by
    funext x y
    rw [Bool.eq_iff_iff]; simp
  rw [this]

end Go.GD
