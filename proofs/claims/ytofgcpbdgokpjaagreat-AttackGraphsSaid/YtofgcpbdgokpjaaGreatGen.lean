/- Library functions at whatever type, as the program prints them; sorted lists. Conditions: none. -/
import Derived.Test.YtofgcpbdgokpjaaGreatPlain
namespace Go.GD
set_option autoImplicit false

/-! ### slices.Compact -/

theorem idxV_nat {α : Type} (l : List α) (i k : Nat) : idxV l (i : Int) (k : Int) = l[i + k]? := by
  simp only [idxV]
  rw [if_pos (by omega), show ((i : Int) + (k : Int)) = ((i + k : Nat) : Int) by omega, idx_nat]

section
variable {α : Type} [BEq α]

noncomputable def compactL2 (y0 : List α) (s1 : Int) (s3 : (List α) × Int × Int) : Option (((List α) × Int × Int) ⊕ ((List α) × Int)) :=
  if decide (s3.2.2 < ((Int.toNat (((List.length y0 : Nat) : Int) - s1) : Nat) : Int)) then
    (idxV s3.1 s1 s3.2.2).bind fun x3 =>
    (idxV s3.1 s1 (w64 (s3.2.2 - 1))).bind fun x4 =>
    if !(x3 == x4) then
      (idxV s3.1 s1 s3.2.2).bind fun x5 =>
      (idx s3.1 s3.2.1).bind fun _ =>
      some (.inl (List.set s3.1 (Int.toNat s3.2.1) x5, w64 (s3.2.1 + 1), w64 (s3.2.2 + 1)))
    else
      some (.inl (s3.1, s3.2.1, w64 (s3.2.2 + 1)))
  else
    some (.inr (s3.1, s3.2.1))
noncomputable def compactL1 (z : α) (y0 : List α) (s1 : Int) : Option (Int ⊕ (List α)) :=
  if decide (s1 < (len y0)) then
    (idx y0 s1).bind fun x1 =>
    (idx y0 (w64 (s1 - 1))).bind fun x2 =>
    if x1 == x2 then
      (chk (decide (0 ≤ s1) && decide (s1 ≤ len y0))).bind fun _ =>
      (loop (compactL2 y0 s1) (y0, s1, 1) : Option ((List α) × Int)).bind fun s2 =>
      (chk (decide (0 ≤ s2.2) && decide (s2.2 ≤ len s2.1))).bind fun _ =>
      (sub (clearFrom s2.1 s2.2 z) 0 s2.2).bind fun x7 =>
      some (.inr x7)
    else
      some (.inl (w64 (s1 + 1)))
  else
    some (.inr y0)
noncomputable def compactM (z : α) (y0 : List α) : Option (List α) :=
  if decide ((len y0) < 2) then
    some y0
  else
    loop (compactL1 z y0) 1

/-- adjacent repetitions left out -/
def dd (a : α) : List α → List α
  | [] => []
  | b :: r => if a == b then dd b r else b :: dd b r
def dedup : List α → List α
  | [] => []
  | a :: r => a :: dd a r

theorem dd_append : ∀ (r s : List α) (a : α), dd a (r ++ s) = dd a r ++ dd (r.getLastD a) s
  | [], s, a => rfl
  | b :: r, s, a => by
    simp only [List.cons_append, dd, dd_append r s b, List.getLastD_cons]
    split <;> simp
theorem dedup_take {l : List α} {j : Nat} {y x : α} (h1 : l[j]? = some y) (h2 : l[j + 1]? = some x) : dedup (l.take (j + 2)) = dedup (l.take (j + 1)) ++ if y == x then [] else [x] := by
  have e1 : l.take (j + 2) = l.take (j + 1) ++ [x] := by
    rw [List.take_add_one (i := j + 1), h2]; rfl
  have e2 : l.take (j + 1) = l.take j ++ [y] := by rw [List.take_add_one, h1]; rfl
  rw [e1]
  cases hl : l.take (j + 1) with
  | nil => rw [hl] at e2; cases h3 : l.take j <;> simp [h3] at e2
  | cons a r =>
    have hlast : r.getLastD a = y := by
      have : (a :: r).getLast? = some y := by rw [← hl, e2]; simp
      rw [← List.getLastD_cons (a := a) (b := a) (l := r), List.getLastD_eq_getLast?, this]; rfl
    simp only [List.cons_append, dedup, dd_append, hlast, dd]
theorem dd_len : ∀ (r : List α) (a : α), (dd a r).length ≤ r.length
  | [], _ => Nat.le_refl _
  | b :: r, a => by
    simp only [dd]
    have := dd_len r b
    split <;> simp <;> omega
theorem dedup_len (l : List α) : (dedup l).length ≤ l.length := by
  cases l with
  | nil => simp [dedup]
  | cons a r => have := dd_len r a; simp [dedup]; omega
theorem dedup_mem_sub {l : List α} {x : α} (h : x ∈ dedup l) : x ∈ l := by
  have key : ∀ (r : List α) (a : α), x ∈ dd a r → x ∈ r := by
    intro r
    induction r with
    | nil => intro a h; cases h
    | cons b r ih =>
      intro a h
      simp only [dd] at h
      split at h
      · exact List.mem_cons_of_mem _ (ih b h)
      · rcases List.mem_cons.1 h with rfl | h
        · exact List.mem_cons_self
        · exact List.mem_cons_of_mem _ (ih b h)
  cases l with
  | nil => cases h
  | cons a r =>
    rcases List.mem_cons.1 h with rfl | h
    · exact List.mem_cons_self
    · exact List.mem_cons_of_mem _ (key r a h)

/-- the inner loop -/
theorem compactL2_spec [LawfulBEq α] (l : List α) (i0 : Nat) (h0 : 1 ≤ i0) (hi : i0 < l.length) (hbig : l.length < 9223372036854775807) (hd : dedup (l.take (i0 + 1)) = dedup (l.take i0)) (hk : dedup (l.take i0) = l.take i0) :
    ∃ c k, loop (compactL2 l (i0 : Int)) (l, (i0 : Int), 1) = some (c, ((k : Nat) : Int)) ∧ c.length = l.length ∧ k ≤ l.length ∧ c.take k = dedup l := by
  have key : ∀ n k2 (c : List α) (k : Nat), i0 + k2 + n = l.length → 1 ≤ k2 → c.length = l.length → k + 1 ≤ i0 + k2 → (∀ j, i0 + k2 ≤ j + 1 → c[j]? = l[j]?) → c.take k = dedup (l.take (i0 + k2)) →
      ∃ c' k', loop (compactL2 l (i0 : Int)) (c, (k : Int), (k2 : Int)) = some (c', ((k' : Nat) : Int)) ∧ c'.length = l.length ∧ k' ≤ l.length ∧ c'.take k' = dedup l := by
    intro n
    induction n with
    | zero =>
      intro k2 c k hn h1 hc hk1 hsame htake
      refine ⟨c, k, ?_, hc, by omega, ?_⟩
      · rw [loop_eq]
        unfold compactL2
        have : decide ((k2 : Int) < ((Int.toNat (((List.length l : Nat) : Int) - (i0 : Int)) : Nat) : Int)) = false := by simp; omega
        simp only [this, Bool.false_eq_true, if_false]
      · rw [htake, List.take_of_length_le (by omega)]
    | succ n ih =>
      intro k2 c k hn h1 hc hk1 hsame htake
      have hx : l[i0 + k2]? = some l[i0 + k2] := List.getElem?_eq_getElem (by omega)
      have hy : l[i0 + k2 - 1]? = some l[i0 + k2 - 1] := List.getElem?_eq_getElem (by omega)
      have hcx : c[i0 + k2]? = some l[i0 + k2] := by rw [hsame _ (by omega)]; exact hx
      have hcy : c[i0 + (k2 - 1)]? = some l[i0 + k2 - 1] := by rw [hsame _ (by omega), ← hy]; congr 1; omega
      have hlt : decide ((k2 : Int) < ((Int.toNat (((List.length l : Nat) : Int) - (i0 : Int)) : Nat) : Int)) = true := by simp; omega
      have hw1 : w64 ((k2 : Int) - 1) = ((k2 - 1 : Nat) : Int) := by rw [w64_id (by omega) (by omega)]; omega
      have hdt := dedup_take (l := l) (j := i0 + k2 - 1) (y := l[i0 + k2 - 1]) (x := l[i0 + k2]) hy (by rw [show i0 + k2 - 1 + 1 = i0 + k2 by omega]; exact hx)
      rw [show i0 + k2 - 1 + 2 = i0 + (k2 + 1) by omega, show i0 + k2 - 1 + 1 = i0 + k2 by omega] at hdt
      have hklt : k < c.length := by omega
      rw [loop_eq]
      unfold compactL2
      simp only [hlt, if_true, idxV_nat, hcx, Option.bind_some, hw1, hcy]
      rw [BEq.comm]
      have hklt' : idx c (k : Int) = some c[k] := by rw [idx_nat]; exact List.getElem?_eq_getElem hklt
      cases hb : l[i0 + k2 - 1] == l[i0 + k2] with
      | true =>
        simp only [Bool.not_true, Bool.false_eq_true, if_false]
        rw [w64_succ k2 (by omega)]
        have := ih (k2 + 1) c k (by omega) (by omega) hc (by omega) (fun j hj => hsame j (by omega)) (by rw [hdt, hb]; simpa using htake)
        exact this
      | false =>
        simp only [Bool.not_false, if_true, hklt', Option.bind_some]
        rw [w64_succ k2 (by omega), w64_succ k (by omega), Int.toNat_natCast]
        refine ih (k2 + 1) (c.set k l[i0 + k2]) (k + 1) (by omega) (by omega) (by simp [hc]) (by omega) (fun j hj => ?_) ?_
        · rw [List.getElem?_set_ne (by omega)]; exact hsame j (by omega)
        · rw [hdt, hb, ← htake]
          rw [List.take_add_one, List.getElem?_set_self hklt, List.take_set_of_le (Nat.le_refl _)]
          rfl
  have hsome : l[i0]? = some l[i0] := List.getElem?_eq_getElem hi
  refine key (l.length - (i0 + 1)) 1 l i0 (by omega) (Nat.le_refl _) rfl (by omega) (fun j _ => rfl) ?_
  rw [hd, hk]

theorem compactM_spec [LawfulBEq α] (z : α) (l : List α) (hbig : l.length < 9223372036854775807) : compactM z l = some (dedup l) := by
  unfold compactM
  by_cases h2 : l.length < 2
  · have : decide (len l < 2) = true := by simp [len]; omega
    simp only [this, if_true]
    match l, h2 with
    | [], _ => rfl
    | [a], _ => rfl
  · have : decide (len l < 2) = false := by simp [len]; omega
    simp only [this, Bool.false_eq_true, if_false]
    have key : ∀ n k, k + n = l.length → 1 ≤ k → dedup (l.take k) = l.take k → loop (compactL1 z l) (k : Int) = some (dedup l) := by
      intro n
      induction n with
      | zero =>
        intro k hn h1 hp
        rw [loop_eq]
        unfold compactL1
        have : decide ((k : Int) < len l) = false := by simp [len]; omega
        simp only [this, Bool.false_eq_true, if_false]
        rw [List.take_of_length_le (by omega)] at hp
        rw [hp]
      | succ n ih =>
        intro k hn h1 hp
        have hx : l[k]? = some l[k] := List.getElem?_eq_getElem (by omega)
        have hy : l[k - 1]? = some l[k - 1] := List.getElem?_eq_getElem (by omega)
        have hlt : decide ((k : Int) < len l) = true := by simp [len]; omega
        have hw1 : w64 ((k : Int) - 1) = ((k - 1 : Nat) : Int) := by rw [w64_id (by omega) (by omega)]; omega
        have hdt := dedup_take (l := l) (j := k - 1) (y := l[k - 1]) (x := l[k]) hy (by rw [show k - 1 + 1 = k by omega]; exact hx)
        rw [show k - 1 + 2 = k + 1 by omega, show k - 1 + 1 = k by omega, hp] at hdt
        rw [loop_eq]
        unfold compactL1
        simp only [hlt, if_true, idx_nat, hx, hw1, hy, Option.bind_some]
        rw [BEq.comm]
        cases hb : l[k - 1] == l[k] with
        | true =>
          have hc1 : (decide (0 ≤ (k : Int)) && decide ((k : Int) ≤ len l)) = true := by simp [len]; omega
          obtain ⟨c, q, hl, hcl, hq, htk⟩ := compactL2_spec l k h1 (by omega) hbig (by rw [hdt, hb, hp]; simp) hp
          have hc2 : (decide (0 ≤ ((q : Nat) : Int)) && decide (((q : Nat) : Int) ≤ len c)) = true := by simp [len]; omega
          simp only [if_true, hc1, chk, Option.bind_some, hl, hc2]
          rw [sub_pre (by omega) (by rw [length_clearFrom, hcl]; omega)]
          simp only [Option.bind_some, Int.toNat_natCast, clearFrom, htk]
          have hdl : (dedup l).length = q := by rw [← htk, List.length_take]; omega
          rw [← hdl, List.take_left]
        | false =>
          simp only [Bool.false_eq_true, if_false]
          rw [w64_succ k (by omega)]
          refine ih (k + 1) (by omega) (by omega) ?_
          rw [hdt, hb, List.take_add_one, hx]; rfl
    exact key (l.length - 1) 1 (by omega) (Nat.le_refl _) (by match l, h2 with | a :: r, _ => rfl)
end

/-! ### Sorted lists -/

section
variable {α : Type} {lt : α → α → Bool}

/-- a strict order in which two that do not differ are one -/
structure Ord1 (lt : α → α → Bool) : Prop where
  irrefl : ∀ x, lt x x = false
  trans : ∀ x y z, lt x y = true → lt y z = true → lt x z = true
  tri : ∀ x y, lt x y = true ∨ x = y ∨ lt y x = true

abbrev Asc (lt : α → α → Bool) (l : List α) : Prop := l.Pairwise fun x y => lt x y = true

theorem Ord1.asymm (O : Ord1 lt) {x y : α} (h : lt x y = true) : lt y x = false := by
  cases hb : lt y x with
  | false => rfl
  | true => have := O.trans _ _ _ h hb; rw [O.irrefl] at this; cases this

/-- two ascending lists with the same elements are one -/
theorem Asc.ext (O : Ord1 lt) : ∀ {l m : List α}, Asc lt l → Asc lt m → (∀ x, x ∈ l ↔ x ∈ m) → l = m
  | [], [], _, _, _ => rfl
  | [], y :: m, _, _, h => by have := (h y).2 (List.mem_cons_self); cases this
  | x :: l, [], _, _, h => by have := (h x).1 (List.mem_cons_self); cases this
  | x :: l, y :: m, hl, hm, h => by
    obtain ⟨h1, h2⟩ := List.pairwise_cons.1 hl
    obtain ⟨h3, h4⟩ := List.pairwise_cons.1 hm
    have hxy : x = y := by
      rcases List.mem_cons.1 ((h x).1 (List.mem_cons_self)) with h5 | h5
      · exact h5
      · rcases List.mem_cons.1 ((h y).2 (List.mem_cons_self)) with h6 | h6
        · exact h6.symm
        · have := O.asymm (h3 x h5); rw [h1 y h6] at this; cases this
    subst hxy
    congr 1
    refine Asc.ext O h2 h4 fun z => ⟨fun hz => ?_, fun hz => ?_⟩
    · rcases List.mem_cons.1 ((h z).1 (List.mem_cons_of_mem _ hz)) with rfl | h5
      · have := h1 z hz; rw [O.irrefl] at this; cases this
      · exact h5
    · rcases List.mem_cons.1 ((h z).2 (List.mem_cons_of_mem _ hz)) with rfl | h5
      · have := h3 z hz; rw [O.irrefl] at this; cases this
      · exact h5

/-- in order, repetitions allowed -/
theorem asc_dedup [BEq α] [LawfulBEq α] (O : Ord1 lt) : ∀ {l : List α}, l.Pairwise (fun x y => lt y x = false) → Asc lt (dedup l) ∧ ∀ x, x ∈ dedup l ↔ x ∈ l := by
  have key : ∀ (r : List α) (a : α), (a :: r).Pairwise (fun x y => lt y x = false) → Asc lt (a :: dd a r) ∧ ∀ x, x ∈ a :: dd a r ↔ x ∈ a :: r := by
    intro r
    induction r with
    | nil => intro a _; simp [dd]
    | cons b r ih =>
      intro a h
      obtain ⟨h1, h2⟩ := List.pairwise_cons.1 h
      obtain ⟨i1, i2⟩ := ih b h2
      by_cases hab : a = b
      · subst hab
        simp only [dd, beq_self_eq_true, if_true]
        refine ⟨i1, fun x => ?_⟩
        rw [i2]; simp
      · have hb : (a == b) = false := beq_eq_false_iff_ne.2 hab
        simp only [dd, hb, Bool.false_eq_true, if_false]
        have hlt : lt a b = true := by
          rcases O.tri a b with h | h | h
          · exact h
          · exact absurd h hab
          · rw [h1 b (List.mem_cons_self)] at h; cases h
        refine ⟨List.pairwise_cons.2 ⟨fun y hy => ?_, i1⟩, fun x => ?_⟩
        · rcases List.mem_cons.1 hy with rfl | hy
          · exact hlt
          · exact O.trans _ _ _ hlt ((List.pairwise_cons.1 i1).1 y hy)
        · rw [List.mem_cons, i2]; simp
  intro l h
  cases l with
  | nil => simp [dedup]
  | cons a r => exact key r a h

theorem sorted_merge (O : Ord1 lt) (l : List α) : (l.mergeSort fun x y => !lt y x).Pairwise (fun x y => lt y x = false) := by
  have h := List.pairwise_mergeSort (le := fun x y => !lt y x) (fun a b c h1 h2 => ?_) (fun a b => ?_) l
  · exact h.imp fun h => by simpa using h
  · simp only [Bool.not_eq_true'] at *
    cases h3 : lt c a with
    | false => rfl
    | true =>
      rcases O.tri a b with h | rfl | h
      · have := O.trans _ _ _ h3 h; rw [this] at h2; cases h2
      · rw [h3] at h2; cases h2
      · rw [h] at h1; cases h1
  · cases h : lt b a with
    | false => simp
    | true => simp [O.asymm h]

/-- sorted, each once -/
def nrm [BEq α] (lt : α → α → Bool) (l : List α) : List α := dedup (l.mergeSort fun x y => !lt y x)
theorem nrm_spec [BEq α] [LawfulBEq α] (O : Ord1 lt) (l : List α) : Asc lt (nrm lt l) ∧ ∀ x, x ∈ nrm lt l ↔ x ∈ l := by
  obtain ⟨h1, h2⟩ := asc_dedup O (sorted_merge O l)
  exact ⟨h1, fun x => by rw [nrm, h2, List.mem_mergeSort]⟩
theorem nrm_eq [BEq α] [LawfulBEq α] (O : Ord1 lt) {l m : List α} (h1 : Asc lt m) (h2 : ∀ x, x ∈ m ↔ x ∈ l) : nrm lt l = m := by
  obtain ⟨h3, h4⟩ := nrm_spec O l
  exact Asc.ext O h3 h1 fun x => by rw [h4, h2]
theorem nrm_len [BEq α] (lt : α → α → Bool) (l : List α) : (nrm lt l).length ≤ l.length := by
  have := dedup_len (l.mergeSort fun x y => !lt y x)
  simpa [nrm] using this

end

/-! ### slices.Index, Contains; lists held side by side -/

section
variable {α : Type} [BEq α]
noncomputable def indexL (y0 : List α) (y1 : α) (s1 : Int) : Option (Int ⊕ Int) :=
  if decide (s1 < (len y0)) then
    (idx y0 s1).bind fun x1 =>
    if y1 == x1 then
      some (.inr s1)
    else
      some (.inl (w64 (s1 + 1)))
  else
    some (.inr (-1))
noncomputable def indexM (y0 : List α) (y1 : α) : Option Int := loop (indexL y0 y1) 0

theorem indexM_spec (l : List α) (x : α) (hb : l.length < 9223372036854775807) : ∃ r, indexM l x = some r ∧ (0 ≤ r ↔ ∃ y ∈ l, x == y) := by
  have h := loop_forI (B := indexL l x) (fun i (_ : Unit) => (i : Int)) l (fun i _ => ∀ j y, j < i → l[j]? = some y → (x == y) = false) (fun r => (0 ≤ r ↔ ∃ y ∈ l, x == y)) ?_ ?_ () (by simp)
  · exact h
  · intro i y s hy hI
    have hi := (List.getElem?_eq_some_iff.1 hy).1
    have hlt : decide ((i : Int) < len l) = true := by simp [len]; omega
    unfold indexL
    simp only [hlt, if_true, idx_nat, hy, Option.bind_some]
    cases hxy : x == y with
    | true => exact .inr ⟨_, rfl, ⟨fun _ => ⟨y, List.mem_of_getElem? hy, hxy⟩, fun _ => by omega⟩⟩
    | false =>
      refine .inl ⟨(), by simp [w64_succ i (by omega)], fun j z hj hz => ?_⟩
      rcases Nat.lt_succ_iff_lt_or_eq.1 hj with h | rfl
      · exact hI j z h hz
      · rw [hy] at hz; cases hz; exact hxy
  · intro s hI
    unfold indexL
    refine ⟨-1, by simp [len], ⟨fun h => by omega, fun ⟨y, hy, hxy⟩ => ?_⟩⟩
    obtain ⟨j, hj⟩ := List.mem_iff_getElem?.1 hy
    rw [hI j y (List.getElem?_eq_some_iff.1 hj).1 hj] at hxy
    cases hxy

noncomputable def sameL (y0 : List α) (y1 : List α) (s1 : Int) : Option (Int ⊕ Bool) :=
  if decide (s1 < (len y0)) then
    (idx y0 s1).bind fun x1 =>
    (idx y1 s1).bind fun x2 =>
    if !(x1 == x2) then
      some (.inr false)
    else
      some (.inl (w64 (s1 + 1)))
  else
    some (.inr true)
noncomputable def sameM (y0 : List α) (y1 : List α) : Option Bool :=
  if (len y0) != (len y1) then
    some false
  else
    loop (sameL y0 y1) 0

theorem sameM_spec [DecidableEq α] [LawfulBEq α] (l m : List α) (hb : l.length < 9223372036854775807) : sameM l m = some (decide (l = m)) := by
  unfold sameM
  by_cases hl : l.length = m.length
  · have h0 : (len l != len m) = false := by simp [len, hl]
    simp only [h0, Bool.false_eq_true, if_false]
    have h := loop_forI (B := sameL l m) (fun i (_ : Unit) => (i : Int)) l (fun i _ => ∀ j, j < i → l[j]? = m[j]?) (fun r => r = decide (l = m)) ?_ ?_ () (by simp)
    · obtain ⟨r, h1, rfl⟩ := h; exact h1
    · intro i x s hx hI
      have hi := (List.getElem?_eq_some_iff.1 hx).1
      have hy : m[i]? = some m[i] := List.getElem?_eq_getElem (by omega)
      have hlt : decide ((i : Int) < len l) = true := by simp [len]; omega
      unfold sameL
      simp only [hlt, if_true, idx_nat, hx, hy, Option.bind_some]
      by_cases he : x = m[i]
      · refine .inl ⟨(), by simp [he, w64_succ i (by omega)], fun j hj => ?_⟩
        rcases Nat.lt_succ_iff_lt_or_eq.1 hj with h | rfl
        · exact hI j h
        · rw [hx, hy, he]
      · refine .inr ⟨false, by simp [he], ?_⟩
        symm
        rw [decide_eq_false_iff_not]
        intro h; subst h
        rw [hx] at hy; cases hy; exact he rfl
    · intro s hI
      refine ⟨true, by unfold sameL; simp [len], ?_⟩
      symm
      rw [decide_eq_true_iff]
      apply List.ext_getElem?
      intro j
      by_cases hj : j < l.length
      · exact hI j hj
      · rw [List.getElem?_eq_none (by omega), List.getElem?_eq_none (by omega)]
  · have h0 : (len l != len m) = true := by simp [len]; omega
    simp only [h0, if_true]
    congr 1; symm
    rw [decide_eq_false_iff_not]
    intro h; subst h; exact hl rfl

end
end Go.GD
