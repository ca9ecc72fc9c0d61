/- The plain law: what the models compute, in plain Lean. Conditions: none. -/
import Derived.Test.YteleongkifgjhaaGreatDoorLib
import Derived.Test.YteleongkifgjhaaGreatDoorModels
import Derived.Shelf.Strings.FieldsAny
import Derived.Test.YteleongkifgjhaaGreatDoorJoin
namespace Go.GD
set_option autoImplicit false

section
theorem w64_id {x : Int} (h1 : -9223372036854775808 ≤ x) (h2 : x < 9223372036854775808) : w64 x = x := by
  simp only [w64, IntKind.wrap, IntKind.signed, IntKind.bits]
  simp; omega
theorem w64_succ (n : Nat) (h : n + 1 < 9223372036854775808) : w64 ((n : Int) + 1) = ((n + 1 : Nat) : Int) := by rw [w64_id (by omega) (by omega)]; omega
theorem idx_nat {α : Type} (l : List α) (i : Nat) : idx l (i : Int) = l[i]? := by simp [idx]
theorem sidx_nat (l : Str) (i : Nat) : sidx l (i : Int) = (l[i]?).map (fun b => (b.toNat : Int)) := by simp [sidx]
theorem idx_some {α : Type} {l : List α} {i : Int} (h0 : 0 ≤ i) (h1 : i < l.length) : ∃ x, idx l i = some x ∧ l[i.toNat]? = some x := by
  have : l[i.toNat]? = some l[i.toNat] := List.getElem?_eq_getElem (by omega)
  exact ⟨_, by simp [idx, h0, this], this⟩
theorem app_ok {α : Type} {l m : List α} (h : l.length + m.length < 4294967296) : app l m = some (l ++ m) := by simp [app, h]
theorem cat_ok {l m : Str} (h : l.length + m.length < 4294967296) : cat l m = some (l ++ m) := by simp [cat, h]
theorem sub_pre {α : Type} {l : List α} {j : Int} (h1 : 0 ≤ j) (h2 : j ≤ l.length) : sub l 0 j = some (l.take j.toNat) := by simp [sub, h1, h2]
theorem sub_suf {α : Type} {l : List α} {i : Int} (h1 : 0 ≤ i) (h2 : i ≤ l.length) : sub l i (len l) = some (l.drop i.toNat) := by simp [sub, h1, h2]
/-- a walk along a list -/
def runL {σ ρ α : Type} (step : Nat → σ → α → Option (σ ⊕ ρ)) (fin : σ → Option ρ) : Nat → List α → σ → Option ρ
  | _, [], s => fin s
  | i, x :: l, s => match step i s x with
    | none => none
    | some (.inl s') => runL step fin (i + 1) l s'
    | some (.inr r) => some r
theorem loop_runL {σ ρ α τ : Type} {B : τ → Option (τ ⊕ ρ)} (mk : Nat → σ → τ) (l : List α) (step : Nat → σ → α → Option (σ ⊕ ρ)) (fin : σ → Option ρ)
    (hB : ∀ i x s, l[i]? = some x → B (mk i s) = (step i s x).map fun o => match o with | .inl s' => .inl (mk (i + 1) s') | .inr r => .inr r)
    (he : ∀ s, B (mk l.length s) = (fin s).map .inr) : ∀ (n i : Nat) (s : σ), i + n = l.length → loop B (mk i s) = runL step fin i (l.drop i) s := by
  intro n
  induction n with
  | zero =>
    intro i s h
    rw [Nat.add_zero] at h
    subst h
    rw [loop_eq, he, List.drop_length]
    cases hf : fin s <;> simp [runL, hf]
  | succ n ih =>
    intro i s h
    have hx : l[i]? = some l[i] := List.getElem?_eq_getElem (by omega)
    rw [loop_eq, hB i _ s hx, List.drop_eq_getElem_cons (by omega)]
    cases hs : step i s l[i] with
    | none => simp [runL, hs]
    | some o =>
      cases o with
      | inl s' => simp only [Option.map_some, runL, hs]; exact ih (i + 1) s' (by omega)
      | inr r => simp [runL, hs]
theorem loop_runL0 {σ ρ α τ : Type} {B : τ → Option (τ ⊕ ρ)} (mk : Nat → σ → τ) (l : List α) (step : Nat → σ → α → Option (σ ⊕ ρ)) (fin : σ → Option ρ)
    (hB : ∀ i x s, l[i]? = some x → B (mk i s) = (step i s x).map fun o => match o with | .inl s' => .inl (mk (i + 1) s') | .inr r => .inr r)
    (he : ∀ s, B (mk l.length s) = (fin s).map .inr) (s : σ) : loop B (mk 0 s) = runL step fin 0 l s := by
  have := loop_runL mk l step fin hB he l.length 0 s (by omega)
  simpa using this
/-- a loop that goes through to its end -/
theorem loop_for {ρ α : Type} {B : Int → Option (Int ⊕ ρ)} {l : List α} {r : ρ} (hB : ∀ (i : Nat) (x : α), l[i]? = some x → B (i : Int) = some (.inl ((i + 1 : Nat) : Int)))
    (he : B (l.length : Int) = some (.inr r)) : loop B 0 = some r := by
  have h := loop_runL0 (B := B) (fun i (_ : Unit) => (i : Int)) l (fun _ _ _ => some (.inl ())) (fun _ => some r) (fun i x s hx => by simp [hB i x hx]) (fun s => by simp [he]) ()
  have key : ∀ (l : List α) (i : Nat), runL (fun _ (_ : Unit) (_ : α) => some (.inl ())) (fun _ => some r) i l () = some r := by
    intro l
    induction l with
    | nil => intro i; rfl
    | cons x l ih => intro i; exact ih (i + 1)
  rw [key] at h
  exact h
/-- the same, with a state of which I holds -/
theorem loop_forI {ρ α σ τ : Type} {B : τ → Option (τ ⊕ ρ)} (mk : Nat → σ → τ) (l : List α) (I : Nat → σ → Prop) (Q : ρ → Prop)
    (hB : ∀ i x s, l[i]? = some x → I i s → (∃ s', B (mk i s) = some (.inl (mk (i + 1) s')) ∧ I (i + 1) s') ∨ ∃ r, B (mk i s) = some (.inr r) ∧ Q r)
    (he : ∀ s, I l.length s → ∃ r, B (mk l.length s) = some (.inr r) ∧ Q r) : ∀ s, I 0 s → ∃ r, loop B (mk 0 s) = some r ∧ Q r := by
  have key : ∀ n i s, i + n = l.length → I i s → ∃ r, loop B (mk i s) = some r ∧ Q r := by
    intro n
    induction n with
    | zero =>
      intro i s h hI
      rw [Nat.add_zero] at h
      subst h
      obtain ⟨r, h1, h2⟩ := he s hI
      exact ⟨r, by rw [loop_eq, h1], h2⟩
    | succ n ih =>
      intro i s h hI
      have hx : l[i]? = some l[i] := List.getElem?_eq_getElem (by omega)
      rcases hB i _ s hx hI with ⟨s', h1, h2⟩ | ⟨r, h1, h2⟩
      · obtain ⟨r, h3, h4⟩ := ih (i + 1) s' (by omega) h2
        exact ⟨r, by rw [loop_eq, h1]; exact h3, h4⟩
      · exact ⟨r, by rw [loop_eq, h1], h2⟩
  exact fun s hI => key l.length 0 s (by omega) hI
end
section
/-- the reader's state as it is kept -/
structure SrcOk (s : T_keep_Src) : Prop where
  lo : 0 ≤ s.2
  hi : s.2 ≤ s.1.length
  small : s.1.length ≤ 2000
theorem keep_New (l : List Int) : m_keep_New l = some (l.take 2000, 0) := by
  unfold m_keep_New
  by_cases h : 2000 < len l
  · rw [if_pos h, sub_pre (by omega) (by simp [len] at h; omega)]; rfl
  · rw [if_neg h, sub_pre (by simp [len]) (by simp [len])]
    simp only [Option.bind_some]
    rw [List.take_of_length_le (by simp), List.take_of_length_le (by simp [len] at h; omega)]
theorem srcOk_New (l : List Int) : SrcOk (l.take 2000, 0) := ⟨Int.le_refl _, by simp, by simp; omega⟩
theorem keep_Raw {s : T_keep_Src} (h : SrcOk s) : ∃ v k, m_keep_Src_Raw s = some (v, k) ∧ SrcOk (s.1, k) := by
  obtain ⟨h1, h2, h3⟩ := h
  unfold m_keep_Src_Raw
  by_cases hk : len s.1 ≤ s.2
  · exact ⟨0, s.2, by simp [hk], h1, h2, h3⟩
  · have hk' : s.2 < s.1.length := by simpa [len] using hk
    obtain ⟨x, hx, _⟩ := idx_some h1 hk'
    refine ⟨x, s.2 + 1, ?_, by show (0 : Int) ≤ s.2 + 1; omega, by show s.2 + 1 ≤ (s.1.length : Int); omega, h3⟩
    simp only [hk, decide_false, Bool.false_eq_true, if_false]
    rw [w64_id (x := s.2 + 1) (by omega) (by omega), show s.2 + 1 - 1 = s.2 by omega, w64_id (by omega) (by omega), hx]; rfl
theorem keep_Mod {x n : Int} (h0 : 1 ≤ n) (h1 : n ≤ 4611686018427387904) : ∃ v, m_keep_Mod x n = some v ∧ 0 ≤ v ∧ v < n := by
  unfold m_keep_Mod
  have hn : ¬ n < 1 := by omega
  have hn0 : n ≠ 0 := by omega
  simp only [hn, decide_false, Bool.false_eq_true, if_false, remK, hn0, Option.bind_some]
  have ha := Int.tmod_lt_of_pos x (show 0 < n by omega)
  have hb : -n < x.tmod n := by
    have := Int.lt_tmod_of_pos x (show 0 < n by omega)
    exact this
  by_cases hx : x.tmod n < 0
  · exact ⟨x.tmod n + n, by simp [hx, w64_id (x := x.tmod n + n) (by omega) (by omega)], by omega, by omega⟩
  · exact ⟨x.tmod n, by simp [hx], by omega, ha⟩
theorem keep_N {s : T_keep_Src} {n : Int} (h : SrcOk s) (h0 : 1 ≤ n) (h1 : n ≤ 4611686018427387904) : ∃ v k, m_keep_Src_N s n = some (v, k) ∧ 0 ≤ v ∧ v < n ∧ SrcOk (s.1, k) := by
  obtain ⟨v, k, hr, hk⟩ := keep_Raw h
  obtain ⟨u, hu, h2, h3⟩ := keep_Mod (x := v) h0 h1
  exact ⟨u, k, by simp [m_keep_Src_N, hr, hu], h2, h3, hk⟩
theorem keep_Text {s : T_keep_Src} {l : List Str} (h : SrcOk s) (h0 : l ≠ []) (h1 : l.length ≤ 1000) : ∃ x k, m_keep_Src_Text s l = some (x, k) ∧ x ∈ l ∧ SrcOk (s.1, k) := by
  have hp := List.length_pos_iff.2 h0
  obtain ⟨v, k, hr, h2, h3, hk⟩ := keep_N (n := len l) h (by simp [len]; omega) (by simp [len]; omega)
  obtain ⟨x, hx, hx2⟩ := idx_some h2 h3
  exact ⟨x, k, by simp [m_keep_Src_Text, hr, hx], List.mem_of_getElem? hx2, hk⟩
end
section
section
variable {α : Type} [BEq α]
/-- adjacent repetitions left out -/
def dd (a : α) : List α → List α
  | [] => []
  | b :: r => if a == b then dd b r else b :: dd b r
def dedup : List α → List α
  | [] => []
  | a :: r => a :: dd a r
end
section
variable {α : Type} {lt : α → α → Bool}
/-- a strict order in which two that do not differ are one -/
structure Ord1 (lt : α → α → Bool) : Prop where
  irrefl : ∀ x, lt x x = false
  trans : ∀ x y z, lt x y = true → lt y z = true → lt x z = true
  tri : ∀ x y, lt x y = true ∨ x = y ∨ lt y x = true
abbrev Asc (lt : α → α → Bool) (l : List α) : Prop := l.Pairwise fun x y => lt x y = true
theorem Ord1.asymm (O : Ord1 lt) {x y : α} (h : lt x y = true) : lt y x = false := by
  cases hb : lt y x with
  | false => rfl
  | true => have := O.trans _ _ _ h hb; rw [O.irrefl] at this; cases this
/-- two ascending lists with the same elements are one -/
theorem Asc.ext (O : Ord1 lt) : ∀ {l m : List α}, Asc lt l → Asc lt m → (∀ x, x ∈ l ↔ x ∈ m) → l = m
  | [], [], _, _, _ => rfl
  | [], y :: m, _, _, h => by have := (h y).2 (List.mem_cons_self); cases this
  | x :: l, [], _, _, h => by have := (h x).1 (List.mem_cons_self); cases this
  | x :: l, y :: m, hl, hm, h => by
    obtain ⟨h1, h2⟩ := List.pairwise_cons.1 hl
    obtain ⟨h3, h4⟩ := List.pairwise_cons.1 hm
    have hxy : x = y := by
      rcases List.mem_cons.1 ((h x).1 (List.mem_cons_self)) with h5 | h5
      · exact h5
      · rcases List.mem_cons.1 ((h y).2 (List.mem_cons_self)) with h6 | h6
        · exact h6.symm
        · have := O.asymm (h3 x h5); rw [h1 y h6] at this; cases this
    subst hxy
    congr 1
    refine Asc.ext O h2 h4 fun z => ⟨fun hz => ?_, fun hz => ?_⟩
    · rcases List.mem_cons.1 ((h z).1 (List.mem_cons_of_mem _ hz)) with rfl | h5
      · have := h1 z hz; rw [O.irrefl] at this; cases this
      · exact h5
    · rcases List.mem_cons.1 ((h z).2 (List.mem_cons_of_mem _ hz)) with rfl | h5
      · have := h3 z hz; rw [O.irrefl] at this; cases this
      · exact h5
/-- in order, repetitions allowed -/
theorem asc_dedup [BEq α] [LawfulBEq α] (O : Ord1 lt) : ∀ {l : List α}, l.Pairwise (fun x y => lt y x = false) → Asc lt (dedup l) ∧ ∀ x, x ∈ dedup l ↔ x ∈ l := by
  have key : ∀ (r : List α) (a : α), (a :: r).Pairwise (fun x y => lt y x = false) → Asc lt (a :: dd a r) ∧ ∀ x, x ∈ a :: dd a r ↔ x ∈ a :: r := by
    intro r
    induction r with
    | nil => intro a _; simp [dd]
    | cons b r ih =>
      intro a h
      obtain ⟨h1, h2⟩ := List.pairwise_cons.1 h
      obtain ⟨i1, i2⟩ := ih b h2
      by_cases hab : a = b
      · subst hab
        simp only [dd, beq_self_eq_true, if_true]
        refine ⟨i1, fun x => ?_⟩
        rw [i2]; simp
      · have hb : (a == b) = false := beq_eq_false_iff_ne.2 hab
        simp only [dd, hb, Bool.false_eq_true, if_false]
        have hlt : lt a b = true := by
          rcases O.tri a b with h | h | h
          · exact h
          · exact absurd h hab
          · rw [h1 b (List.mem_cons_self)] at h; cases h
        refine ⟨List.pairwise_cons.2 ⟨fun y hy => ?_, i1⟩, fun x => ?_⟩
        · rcases List.mem_cons.1 hy with rfl | hy
          · exact hlt
          · exact O.trans _ _ _ hlt ((List.pairwise_cons.1 i1).1 y hy)
        · rw [List.mem_cons, i2]; simp
  intro l h
  cases l with
  | nil => simp [dedup]
  | cons a r => exact key r a h
theorem sorted_merge (O : Ord1 lt) (l : List α) : (l.mergeSort fun x y => !lt y x).Pairwise (fun x y => lt y x = false) := by
  have h := List.pairwise_mergeSort (le := fun x y => !lt y x) (fun a b c h1 h2 => ?_) (fun a b => ?_) l
  · exact h.imp fun h => by simpa using h
  · simp only [Bool.not_eq_true'] at *
    cases h3 : lt c a with
    | false => rfl
    | true =>
      rcases O.tri a b with h | rfl | h
      · have := O.trans _ _ _ h3 h; rw [this] at h2; cases h2
      · rw [h3] at h2; cases h2
      · rw [h] at h1; cases h1
  · cases h : lt b a with
    | false => simp
    | true => simp [O.asymm h]
/-- sorted, each once -/
def nrm [BEq α] (lt : α → α → Bool) (l : List α) : List α := dedup (l.mergeSort fun x y => !lt y x)
theorem nrm_spec [BEq α] [LawfulBEq α] (O : Ord1 lt) (l : List α) : Asc lt (nrm lt l) ∧ ∀ x, x ∈ nrm lt l ↔ x ∈ l := by
  obtain ⟨h1, h2⟩ := asc_dedup O (sorted_merge O l)
  exact ⟨h1, fun x => by rw [nrm, h2, List.mem_mergeSort]⟩
theorem nrm_eq [BEq α] [LawfulBEq α] (O : Ord1 lt) {l m : List α} (h1 : Asc lt m) (h2 : ∀ x, x ∈ m ↔ x ∈ l) : nrm lt l = m := by
  obtain ⟨h3, h4⟩ := nrm_spec O l
  exact Asc.ext O h3 h1 fun x => by rw [h4, h2]
end
section
variable {α : Type} [BEq α]
noncomputable def indexL (y0 : List α) (y1 : α) (s1 : Int) : Option (Int ⊕ Int) :=
  if decide (s1 < (len y0)) then
    (idx y0 s1).bind fun x1 =>
    if y1 == x1 then
      some (.inr s1)
    else
      some (.inl (w64 (s1 + 1)))
  else
    some (.inr (-1))
noncomputable def indexM (y0 : List α) (y1 : α) : Option Int := loop (indexL y0 y1) 0
theorem indexM_spec (l : List α) (x : α) (hb : l.length < 9223372036854775807) : ∃ r, indexM l x = some r ∧ (0 ≤ r ↔ ∃ y ∈ l, x == y) := by
  have h := loop_forI (B := indexL l x) (fun i (_ : Unit) => (i : Int)) l (fun i _ => ∀ j y, j < i → l[j]? = some y → (x == y) = false) (fun r => (0 ≤ r ↔ ∃ y ∈ l, x == y)) ?_ ?_ () (by simp)
  · exact h
  · intro i y s hy hI
    have hi := (List.getElem?_eq_some_iff.1 hy).1
    have hlt : decide ((i : Int) < len l) = true := by simp [len]; omega
    unfold indexL
    simp only [hlt, if_true, idx_nat, hy, Option.bind_some]
    cases hxy : x == y with
    | true => exact .inr ⟨_, rfl, ⟨fun _ => ⟨y, List.mem_of_getElem? hy, hxy⟩, fun _ => by omega⟩⟩
    | false =>
      refine .inl ⟨(), by simp [w64_succ i (by omega)], fun j z hj hz => ?_⟩
      rcases Nat.lt_succ_iff_lt_or_eq.1 hj with h | rfl
      · exact hI j z h hz
      · rw [hy] at hz; cases hz; exact hxy
  · intro s hI
    unfold indexL
    refine ⟨-1, by simp [len], ⟨fun h => by omega, fun ⟨y, hy, hxy⟩ => ?_⟩⟩
    obtain ⟨j, hj⟩ := List.mem_iff_getElem?.1 hy
    rw [hI j y (List.getElem?_eq_some_iff.1 hj).1 hj] at hxy
    cases hxy
end
end
section
/-- whatever the one answers, the other answers -/
structure Le {α : Type} (a b : Option α) : Prop where
  el : ∀ r, a = some r → b = some r
theorem Le.refl {α : Type} (a : Option α) : Le a a := ⟨fun _ h => h⟩
theorem Le.bind {α β : Type} {a b : Option α} {f g : α → Option β} (h : Le a b) (k : ∀ x, Le (f x) (g x)) : Le (a.bind f) (b.bind g) := ⟨fun r hr => by
  cases a with
  | none => cases hr
  | some x => rw [h.el x rfl]; exact (k x).el r hr⟩
theorem Le.ite {α : Type} {c : Prop} [Decidable c] {a b a' b' : Option α} (h : Le a b) (k : Le a' b') : Le (if c then a else a') (if c then b else b') := by
  split
  · exact h
  · exact k
theorem Le.seqE {σ α : Type} {a b : Option (σ ⊕ α)} {f g : σ → Option α} (h : Le a b) (k : ∀ x, Le (f x) (g x)) : Le (seqE a f) (seqE b g) :=
  Le.bind h fun o => by
    cases o with
    | inl s => exact k s
    | inr r => exact Le.refl _
theorem Le.none {α : Type} (b : Option α) : Le none b := ⟨fun _ h => nomatch h⟩
abbrev lp {σ ρ : Type} (n : Nat) (B : σ → Option (σ ⊕ ρ)) (s : σ) : Option ρ := iter B n s
theorem Le.lp {σ ρ : Type} {B C : σ → Option (σ ⊕ ρ)} (h : ∀ s, Le (B s) (C s)) (n : Nat) (s : σ) : Le (lp n B s) (loop C s) := by
  refine ⟨fun r hr => ?_⟩
  refine loop_of_iter (n := n) ?_
  revert s
  induction n with
  | zero => intro s hr; cases hr
  | succ n ih =>
    intro s hr
    simp only [iter] at hr ⊢
    cases hb : B s with
    | none => rw [hb] at hr; cases hr
    | some o =>
      rw [hb] at hr
      rw [(h s).el o hb]
      cases o with
      | inl s' => exact ih s' hr
      | inr r' => exact hr
theorem Le.lim {α : Type} {a : Option α} {f : Nat → Option α} (n : Nat) (h : ∀ m, n ≤ m → Le a (f m)) : Le a (limM f) := ⟨fun r hr => limM_of n fun m hm => (h m hm).el r hr⟩
end
section
section
variable {α : Type} {l : List α} {i : Nat} {x : α}
theorem at_lt (h : l[i]? = some x) : i < l.length := (List.getElem?_eq_some_iff.1 h).1
theorem at_dec (h : l[i]? = some x) : decide ((i : Int) < len l) = true := by have := at_lt h; simp [len]; omega
theorem end_dec (l : List α) : decide (((l.length : Nat) : Int) < len l) = false := by simp [len]
theorem at_idx (h : l[i]? = some x) : idx l (i : Int) = some x := by rw [idx_nat]; exact h
theorem at_suc (h : l[i]? = some x) (hl : l.length < 4294967296) : w64 ((i : Int) + 1) = ((i + 1 : Nat) : Int) := w64_succ i (by have := at_lt h; omega)
theorem take_suc (h : l[i]? = some x) : l.take (i + 1) = l.take i ++ [x] := by rw [List.take_add_one, h]; rfl
theorem mem_at (h : l[i]? = some x) : x ∈ l := List.mem_of_getElem? h
end
section
variable {α σ ρ : Type}
/-- a walk along a list with a state: (state, place) -/
theorem loop_fold {B : σ × Int → Option ((σ × Int) ⊕ ρ)} (l : List α) (f : σ → α → σ) (fin : σ → ρ) (I : Nat → σ → Prop) (s : σ) (h0 : I 0 s)
    (hB : ∀ (i : Nat) x s, l[i]? = some x → I i s → B (s, (i : Int)) = some (.inl (f s x, ((i + 1 : Nat) : Int))) ∧ I (i + 1) (f s x))
    (he : ∀ s, I l.length s → B (s, (l.length : Int)) = some (.inr (fin s))) : loop B (s, 0) = some (fin (l.foldl f s)) ∧ I l.length (l.foldl f s) := by
  have key : ∀ (n i : Nat) (s : σ), i + n = l.length → I i s → loop B (s, (i : Int)) = some (fin ((l.drop i).foldl f s)) ∧ I l.length ((l.drop i).foldl f s) := by
    intro n
    induction n with
    | zero =>
      intro i s h hI
      rw [Nat.add_zero] at h
      subst h
      rw [loop_eq, he s hI, List.drop_length]
      exact ⟨rfl, hI⟩
    | succ n ih =>
      intro i s h hI
      have hx : l[i]? = some l[i] := List.getElem?_eq_getElem (by omega)
      obtain ⟨h1, h2⟩ := hB i _ s hx hI
      rw [loop_eq, h1, List.drop_eq_getElem_cons (by omega)]
      exact ih (i + 1) _ (by omega) h2
  have := key l.length 0 s (by omega) h0
  simpa using this
/-- (place, state) -/
theorem loop_fold' {B : Int × σ → Option ((Int × σ) ⊕ ρ)} (l : List α) (f : σ → α → σ) (fin : σ → ρ) (I : Nat → σ → Prop) (s : σ) (h0 : I 0 s)
    (hB : ∀ (i : Nat) x s, l[i]? = some x → I i s → B ((i : Int), s) = some (.inl (((i + 1 : Nat) : Int), f s x)) ∧ I (i + 1) (f s x))
    (he : ∀ s, I l.length s → B ((l.length : Int), s) = some (.inr (fin s))) : loop B (0, s) = some (fin (l.foldl f s)) ∧ I l.length (l.foldl f s) := by
  have key : ∀ (n i : Nat) (s : σ), i + n = l.length → I i s → loop B ((i : Int), s) = some (fin ((l.drop i).foldl f s)) ∧ I l.length ((l.drop i).foldl f s) := by
    intro n
    induction n with
    | zero =>
      intro i s h hI
      rw [Nat.add_zero] at h
      subst h
      rw [loop_eq, he s hI, List.drop_length]
      exact ⟨rfl, hI⟩
    | succ n ih =>
      intro i s h hI
      have hx : l[i]? = some l[i] := List.getElem?_eq_getElem (by omega)
      obtain ⟨h1, h2⟩ := hB i _ s hx hI
      rw [loop_eq, h1, List.drop_eq_getElem_cons (by omega)]
      exact ih (i + 1) _ (by omega) h2
  have := key l.length 0 s (by omega) h0
  simpa using this
/-- is there one? the answer at the first -/
theorem loop_find {B : Int → Option (Int ⊕ ρ)} (l : List α) (p : α → Bool) (yes no : ρ)
    (hB : ∀ (i : Nat) x, l[i]? = some x → B (i : Int) = some (if p x then .inr yes else .inl ((i + 1 : Nat) : Int))) (he : B (l.length : Int) = some (.inr no)) :
    loop B 0 = some (if l.any p then yes else no) := by
  have key : ∀ (n i : Nat), i + n = l.length → loop B (i : Int) = some (if (l.drop i).any p then yes else no) := by
    intro n
    induction n with
    | zero =>
      intro i h
      rw [Nat.add_zero] at h
      subst h
      rw [loop_eq, he, List.drop_length]
      rfl
    | succ n ih =>
      intro i h
      have hx : l[i]? = some l[i] := List.getElem?_eq_getElem (by omega)
      rw [loop_eq, hB i _ hx, List.drop_eq_getElem_cons (by omega)]
      cases hp : p l[i] with
      | true => simp only [if_true, List.any_cons, hp, Bool.true_or]
      | false =>
        simp only [Bool.false_eq_true, if_false, List.any_cons, hp, Bool.false_or]
        exact ih (i + 1) (by omega)
  have := key l.length 0 (by omega)
  simpa using this
theorem loop_any {B : Int → Option (Int ⊕ Bool)} (l : List α) (p : α → Bool) (hB : ∀ (i : Nat) x, l[i]? = some x → B (i : Int) = some (if p x then .inr true else .inl ((i + 1 : Nat) : Int))) (he : B (l.length : Int) = some (.inr false)) :
    loop B 0 = some (l.any p) := by
  rw [loop_find l p true false hB he]
  cases l.any p <;> rfl
end
theorem foldl_app_map {α β : Type} (g : α → β) : ∀ (l : List α) (acc : List β), l.foldl (fun s x => s ++ [g x]) acc = acc ++ l.map g
  | [], acc => by simp
  | x :: l, acc => by simp only [List.foldl_cons, foldl_app_map g l]; simp
theorem foldl_app_flat {α β : Type} (g : α → List β) : ∀ (l : List α) (acc : List β), l.foldl (fun s x => s ++ g x) acc = acc ++ l.flatMap g
  | [], acc => by simp
  | x :: l, acc => by simp only [List.foldl_cons, foldl_app_flat g l]; simp
end
section
/-- a loop that puts lists together -/
theorem loop_flat {α β ρ : Type} {B : List β × Int → Option ((List β × Int) ⊕ ρ)} (l : List α) (g : α → List β) (fin : List β → ρ) (c : Nat) (hg : ∀ x ∈ l, (g x).length ≤ c) (acc : List β)
    (hB : ∀ (i : Nat) x s, l[i]? = some x → s.length ≤ acc.length + c * i → B (s, (i : Int)) = some (.inl (s ++ g x, ((i + 1 : Nat) : Int))))
    (he : ∀ s, B (s, (l.length : Int)) = some (.inr (fin s))) : loop B (acc, 0) = some (fin (acc ++ l.flatMap g)) := by
  have h := loop_fold (B := B) l (fun s x => s ++ g x) fin (fun i s => s.length ≤ acc.length + c * i) acc (by simp) (fun i x s hx hI => ⟨hB i x s hx hI, by
    have := hg x (mem_at hx)
    rw [List.length_append, Nat.mul_add]; omega⟩) (fun s _ => he s)
  rw [foldl_app_flat] at h
  exact h.1
theorem flat_le {α β : Type} (g : α → List β) (c : Nat) : ∀ (l : List α), (∀ x ∈ l, (g x).length ≤ c) → (l.flatMap g).length ≤ l.length * c
  | [], _ => by simp
  | x :: l, h => by
    have h1 := flat_le g c l fun y hy => h y (List.mem_cons_of_mem _ hy)
    have h2 := h x List.mem_cons_self
    simp only [List.flatMap_cons, List.length_append, List.length_cons, Nat.add_mul, Nat.one_mul]
    omega
section
variable {α : Type}
noncomputable def indexFL (p : α → Option Bool) (y0 : List α) (s1 : Int) : Option (Int ⊕ Int) :=
  if decide (s1 < (len y0)) then
    (idx y0 s1).bind fun x1 =>
    (p x1).bind fun r1 =>
    if r1 then
      some (.inr s1)
    else
      some (.inl (w64 (s1 + 1)))
  else
    some (.inr (-1))
theorem indexFL_spec (p : α → Option Bool) (q : α → Bool) (l : List α) (hb : l.length < 4294967296) (hp : ∀ x ∈ l, p x = some (q x)) :
    (l.any q = false ∧ loop (indexFL p l) 0 = some (-1)) ∨ ∃ (k : Nat) (x : α), loop (indexFL p l) 0 = some (k : Int) ∧ l[k]? = some x ∧ q x = true ∧ ∀ j y, j < k → l[j]? = some y → q y = false := by
  have h := loop_forI (B := indexFL p l) (fun i (_ : Unit) => (i : Int)) l (fun i _ => ∀ j y, j < i → l[j]? = some y → q y = false)
    (fun r => (l.any q = false ∧ r = -1) ∨ ∃ (k : Nat) (x : α), r = (k : Int) ∧ l[k]? = some x ∧ q x = true ∧ ∀ j y, j < k → l[j]? = some y → q y = false) ?_ ?_ () (by omega)
  · obtain ⟨r, h1, ⟨h2, rfl⟩ | ⟨k, x, rfl, h2⟩⟩ := h
    · exact .inl ⟨h2, h1⟩
    · exact .inr ⟨k, x, h1, h2⟩
  · intro i x s hx hI
    unfold indexFL
    simp only [at_dec hx, if_true, at_idx hx, Option.bind_some, hp x (mem_at hx)]
    cases hq : q x with
    | true => exact .inr ⟨_, by simp only [if_true], .inr ⟨i, x, rfl, hx, hq, hI⟩⟩
    | false =>
      refine .inl ⟨(), by simp only [Bool.false_eq_true, if_false, at_suc hx hb], fun j y hj hy => ?_⟩
      rcases Nat.lt_succ_iff_lt_or_eq.1 hj with h | rfl
      · exact hI j y h hy
      · rw [hx] at hy; cases hy; exact hq
  · intro s hI
    unfold indexFL
    refine ⟨-1, by simp only [end_dec, Bool.false_eq_true, if_false], .inl ⟨?_, rfl⟩⟩
    rw [List.any_eq_false]
    intro x hx
    obtain ⟨j, hj⟩ := List.mem_iff_getElem?.1 hx
    simp [hI j x (at_lt hj) hj]
/-- slices.ContainsFunc -/
theorem containsF (p : α → Option Bool) (q : α → Bool) (l : List α) (hb : l.length < 4294967296) (hp : ∀ x ∈ l, p x = some (q x)) : ((loop (indexFL p l) 0).bind fun r1 => some (decide (0 ≤ r1))) = some (l.any q) := by
  rcases indexFL_spec p q l hb hp with ⟨h1, h2⟩ | ⟨k, x, h1, h2, h3, _⟩
  · rw [h2, h1]; rfl
  · rw [h1, List.any_eq_true.2 ⟨x, mem_at h2, h3⟩]; simp
end
end
section
theorem sless_irrefl : ∀ a : Str, sless a a = false
  | [] => rfl
  | a :: x => by simp [sless, sless_irrefl x, UInt8.lt_irrefl]
theorem sless_trans : ∀ {a b c : Str}, sless a b = true → sless b c = true → sless a c = true
  | _, _, [], _, h => by simp [sless] at h
  | _, [], _ :: _, h, _ => by simp [sless] at h
  | [], _ :: _, _ :: _, _, _ => rfl
  | a :: x, b :: y, c :: z, h1, h2 => by
    simp only [sless, Bool.or_eq_true, decide_eq_true_eq, Bool.and_eq_true, beq_iff_eq] at *
    rcases h1 with h1 | ⟨rfl, h1⟩ <;> rcases h2 with h2 | ⟨rfl, h2⟩
    · exact .inl (UInt8.lt_trans h1 h2)
    · exact .inl h1
    · exact .inl h2
    · exact .inr ⟨rfl, sless_trans h1 h2⟩
theorem sless_tri : ∀ a b : Str, sless a b = true ∨ a = b ∨ sless b a = true
  | [], [] => .inr (.inl rfl)
  | [], _ :: _ => .inl rfl
  | _ :: _, [] => .inr (.inr rfl)
  | a :: x, b :: y => by
    simp only [sless, Bool.or_eq_true, decide_eq_true_eq, Bool.and_eq_true, beq_iff_eq, List.cons.injEq]
    rcases UInt8.lt_or_lt_of_ne (a := a) (b := b) |> fun f => (Classical.em (a = b)).imp id f with rfl | h | h
    · rcases sless_tri x y with h | rfl | h
      · exact .inl (.inr ⟨rfl, h⟩)
      · exact .inr (.inl ⟨rfl, rfl⟩)
      · exact .inr (.inr (.inr ⟨rfl, h⟩))
    · exact .inl (.inl h)
    · exact .inr (.inr (.inl h))
theorem cmp_string (a b : Str) : m_cmp_Compare_string a b = some (if sless a b then -1 else if a = b then 0 else 1) := by
  have hn : ∀ x : Str, m_cmp_isNaN_string x = some false := fun x => by simp [m_cmp_isNaN_string]
  simp only [m_cmp_Compare_string, hn, Option.bind_some, Bool.false_eq_true, if_false]
  by_cases h1 : sless a b = true
  · simp [h1]
  · by_cases h2 : a = b
    · simp [h2, sless_irrefl]
    · simp [h1, h2]
def loB (b : UInt8) : Bool := decide (97 ≤ (b.toNat : Int)) && decide ((b.toNat : Int) ≤ 122)
def okB (b : UInt8) : Bool := loB b || (if decide (48 ≤ (b.toNat : Int)) then decide ((b.toNat : Int) ≤ 57) || (b.toNat : Int) == 95 else (b.toNat : Int) == 95)
/-- is it a name? -/
def vName : Str → Bool
  | [] => false
  | c :: r => decide (r.length + 1 ≤ 12) && loB c && r.all okB
theorem validName (s : Str) : m_literal_ValidName s = some (vName s) := by
  unfold m_literal_ValidName
  cases s with
  | nil => rfl
  | cons c r =>
    have h0 : ((len (c :: r)) == 0) = false := by rw [beq_eq_false_iff_ne]; simp [len]; omega
    by_cases hl : r.length + 1 ≤ 12
    · have h1 : decide (12 < len (c :: r)) = false := by simp [len]; omega
      rw [h0, h1]
      simp only [Bool.or_self, Bool.false_eq_true, if_false]
      have h := loop_runL0 (B := m_literal_ValidName_L1 (c :: r)) (fun i (_ : Unit) => (i : Int)) (c :: r)
        (fun i _ b => some (if loB b then .inl () else if decide (0 < (i : Int)) && okB b then .inl () else .inr false)) (fun _ => some true) ?_ ?_ ()
      · rw [show ((0 : Nat) : Int) = 0 from rfl] at h
        rw [h]
        have key : ∀ (l : List UInt8) (i : Nat), 0 < i → runL (fun (i : Nat) (_ : Unit) (b : UInt8) => some (if loB b then .inl () else if decide (0 < (i : Int)) && okB b then .inl () else .inr false)) (fun _ => some true) i l () = some (l.all okB) := by
          intro l
          induction l with
          | nil => intro i _; rfl
          | cons b l ih =>
            intro i hi
            have hd : decide (0 < (i : Int)) = true := by simp; omega
            by_cases hb : okB b = true
            · by_cases hlo : loB b = true
              · simp only [runL, hlo, if_true]; rw [ih (i + 1) (by omega)]; simp [hb]
              · simp only [runL, hlo, if_false, hd, hb, Bool.and_self, if_true, Bool.false_eq_true]; rw [ih (i + 1) (by omega)]; simp [hb]
            · have hlo : ¬ loB b = true := fun h => hb (by simp [okB, h])
              simp [runL, hlo, hb]
        by_cases hlo : loB c = true
        · simp only [runL, hlo, if_true]
          rw [key r 1 (by omega)]
          simp [vName, hlo, hl]
        · simp [runL, hlo, vName]
      · intro i x s hx
        have hi := (List.getElem?_eq_some_iff.1 hx).1
        have hlt : decide ((i : Int) < len (c :: r)) = true := by simp [len] at hi ⊢; omega
        unfold m_literal_ValidName_L1
        rw [sidx_nat, hx, w64_succ i (by simp at hi; omega)]
        simp only [hlt, if_true, Option.map_some, Option.bind_some]
        by_cases hlo : loB x = true
        · have hlo' := hlo
          unfold loB at hlo'
          simp only [hlo', if_true, hlo]
        · have hlo' := hlo
          unfold loB at hlo'
          simp only [hlo', if_false, hlo, Bool.false_eq_true]
          by_cases hc : (decide (0 < (i : Int)) && okB x) = true
          · have hc' := hc
            unfold okB at hc'
            simp only [hlo, Bool.false_or] at hc'
            simp only [hc', if_true, hc]
          · have hc' := hc
            unfold okB at hc'
            simp only [hlo, Bool.false_or] at hc'
            simp only [hc', if_false, hc, Bool.false_eq_true]
      · intro s
        unfold m_literal_ValidName_L1
        simp [len]
    · have h1 : decide (12 < len (c :: r)) = true := by simp [len]; omega
      rw [h1]
      simp [vName, hl]
theorem ref_validName (s : Str) : m_ref01_ValidName s = some (vName s) := by
  unfold m_ref01_ValidName
  cases s with
  | nil => rfl
  | cons c r =>
    have h0 : decide ((len (c :: r)) < 1) = false := by simp [len]; omega
    have hs0 : sidx (c :: r) 0 = some (c.toNat : Int) := rfl
    rw [h0]
    by_cases hl : r.length + 1 ≤ 12
    · have h1 : decide (12 < len (c :: r)) = false := by simp [len]; omega
      rw [h1]
      simp only [Bool.false_eq_true, if_false, hs0, Option.bind_some]
      by_cases hlo : loB c = true
      · have ha : decide ((c.toNat : Int) < 97) = false := by simp [loB] at hlo ⊢; omega
        have hb : decide (122 < (c.toNat : Int)) = false := by simp [loB] at hlo ⊢; omega
        simp only [ha, hb, Bool.false_eq_true, if_false, Option.bind_some]
        have h := loop_runL0 (B := m_ref01_ValidName_L1 (c :: r)) (fun i (_ : Unit) => (i : Int)) (c :: r)
          (fun _ _ b => some (if okB b then .inl () else .inr false)) (fun _ => some true) ?_ ?_ ()
        · rw [show ((0 : Nat) : Int) = 0 from rfl] at h
          rw [h]
          have key : ∀ (l : List UInt8) (i : Nat), runL (fun (_ : Nat) (_ : Unit) (b : UInt8) => some (if okB b then .inl () else .inr false)) (fun _ => some true) i l () = some (l.all okB) := by
            intro l
            induction l with
            | nil => intro i; rfl
            | cons b l ih =>
              intro i
              by_cases hb : okB b = true
              · simp only [runL, hb, if_true]; rw [ih (i + 1)]; simp [hb]
              · simp [runL, hb]
          rw [key]
          simp [vName, hlo, hl, okB]
        · intro i x s hx
          have hi := (List.getElem?_eq_some_iff.1 hx).1
          have hlt : decide ((i : Int) < len (c :: r)) = true := by simp [len] at hi ⊢; omega
          unfold m_ref01_ValidName_L1
          rw [sidx_nat, hx, w64_succ i (by simp at hi; omega)]
          simp only [hlt, if_true, Option.map_some, Option.bind_some]
          have hok : okB x = !(if decide ((x.toNat : Int) < 97) then (if decide ((x.toNat : Int) < 48) then ((x.toNat : Int) != 95) else if decide (57 < (x.toNat : Int)) then ((x.toNat : Int) != 95) else false)
              else if decide (122 < (x.toNat : Int)) then (if decide ((x.toNat : Int) < 48) then ((x.toNat : Int) != 95) else if decide (57 < (x.toNat : Int)) then ((x.toNat : Int) != 95) else false) else false) := by
            unfold okB loB
            generalize (x.toNat : Int) = n
            rw [Bool.eq_iff_iff]
            simp
            constructor
            · intro h
              by_cases h1 : n < 97 <;> by_cases h2 : n < 48 <;> by_cases h3 : 57 < n <;> by_cases h4 : 122 < n <;> simp [h1, h2, h3, h4] <;> (split at h <;> (try simp at h) <;> omega)
            · intro h
              by_cases h1 : n < 97 <;> by_cases h2 : n < 48 <;> by_cases h3 : 57 < n <;> by_cases h4 : 122 < n <;> simp [h1, h2, h3, h4] at h <;> (split <;> (try simp) <;> omega)
          rw [hok]
          cases decide ((x.toNat : Int) < 97) <;> cases decide ((x.toNat : Int) < 48) <;> cases decide (57 < (x.toNat : Int)) <;> cases decide (122 < (x.toNat : Int)) <;> cases ((x.toNat : Int) != 95) <;> rfl
        · intro s
          unfold m_ref01_ValidName_L1
          simp [len]
      · have hor : (decide ((c.toNat : Int) < 97) || decide (122 < (c.toNat : Int))) = true := by simp [loB] at hlo ⊢; omega
        have hv : vName (c :: r) = false := by simp [vName, hlo]
        rw [hv]
        cases h1 : decide ((c.toNat : Int) < 97) with
        | true => rfl
        | false => rw [h1] at hor; simp only [Bool.false_or] at hor; simp only [Bool.false_eq_true, if_false, hor, Option.bind_some, if_true]
    · have h1 : decide (12 < len (c :: r)) = true := by simp [len]; omega
      rw [h1]
      simp [vName, hl]
theorem lit_valid (x : T_Literal) : m_literal_Valid x = some (vName x.2) := by simp [m_literal_Valid, validName]
theorem ref_valid (x : T_Literal) : m_ref01_Valid x = some (vName x.2) := by simp [m_ref01_Valid, ref_validName]
theorem vName_len {s : Str} (h : vName s = true) : 1 ≤ s.length ∧ s.length ≤ 12 := by
  cases s with
  | nil => simp [vName] at h
  | cons c r => simp [vName] at h; simp; omega
/-- the text of a literal -/
def litText (x : T_Literal) : Str := if vName x.2 then (if x.1 then 126 :: x.2 else x.2) else []
theorem lit_format (x : T_Literal) : m_literal_Format x = some (litText x) := by
  unfold m_literal_Format litText
  rw [lit_valid]
  cases h : vName x.2 with
  | false => rfl
  | true =>
    have := vName_len h
    cases hx : x.1 <;> simp [cat_ok (l := [126]) (m := x.2) (by simp; omega)]
theorem ref_format (x : T_Literal) : m_ref01_Format x = some (litText x) := by
  unfold m_ref01_Format litText
  rw [ref_valid]
  cases h : vName x.2 with
  | false => rfl
  | true =>
    have := vName_len h
    cases hx : x.1 <;> simp [cat_ok (l := [126]) (m := x.2) (by simp; omega)]
theorem litText_len (x : T_Literal) : (litText x).length ≤ 13 := by
  unfold litText
  cases h : vName x.2 with
  | false => simp
  | true => have := vName_len h; cases x.1 <;> simp <;> omega
def litLt (a b : T_Literal) : Bool := sless a.2 b.2 || (a.2 == b.2 && (!a.1 && b.1))
/-- the comparison of literals -/
def litCmp (a b : T_Literal) : Int := if litLt a b then -1 else if a = b then 0 else 1
theorem litLt_irrefl (a : T_Literal) : litLt a a = false := by simp [litLt, sless_irrefl]
theorem litLt_trans {a b c : T_Literal} (h1 : litLt a b = true) (h2 : litLt b c = true) : litLt a c = true := by
  obtain ⟨g, a⟩ := a; obtain ⟨g', b⟩ := b; obtain ⟨g'', c⟩ := c
  simp only [litLt, Bool.or_eq_true, Bool.and_eq_true, beq_iff_eq, Bool.not_eq_true'] at *
  rcases h1 with h1 | ⟨rfl, h1, h1'⟩ <;> rcases h2 with h2 | ⟨rfl, h2, h2'⟩
  · exact .inl (sless_trans h1 h2)
  · exact .inl h1
  · exact .inl h2
  · rw [h1'] at h2; cases h2
theorem litLt_tri (a b : T_Literal) : litLt a b = true ∨ a = b ∨ litLt b a = true := by
  obtain ⟨g, a⟩ := a; obtain ⟨g', b⟩ := b
  simp only [litLt, Bool.or_eq_true, Bool.and_eq_true, beq_iff_eq, Bool.not_eq_true', Prod.mk.injEq]
  rcases sless_tri a b with h | rfl | h
  · exact .inl (.inl h)
  · cases g <;> cases g' <;> simp
  · exact .inr (.inr (.inl h))
theorem lit_compare (a b : T_Literal) : m_literal_Compare a b = some (litCmp a b) := by
  obtain ⟨g, a⟩ := a; obtain ⟨g', b⟩ := b
  unfold m_literal_Compare litCmp litLt
  rw [cmp_string]
  by_cases h1 : sless a b = true
  · simp [h1]
  · by_cases h2 : a = b
    · subst h2
      cases g <;> cases g' <;> simp [sless_irrefl]
    · simp [h1, h2]
theorem ref_compare (a b : T_Literal) : m_ref01_Compare a b = some (litCmp a b) := by
  obtain ⟨g, a⟩ := a; obtain ⟨g', b⟩ := b
  unfold m_ref01_Compare litCmp litLt
  by_cases h1 : sless a b = true
  · have h2 : a ≠ b := fun e => by subst e; rw [sless_irrefl] at h1; cases h1
    simp [h1, h2]
  · by_cases h2 : a = b
    · subst h2
      cases g <;> cases g' <;> simp [sless_irrefl]
    · simp [h1, h2]
end
section
theorem ord_lit : Ord1 litLt := ⟨litLt_irrefl, fun _ _ _ => litLt_trans, litLt_tri⟩
/-- the other one -/
def compl (x : T_Literal) : T_Literal := (!x.1, x.2)
theorem lit_complement (x : T_Literal) : m_literal_Complement x = some (compl x) := rfl
theorem compl_compl (x : T_Literal) : compl (compl x) = x := by simp [compl]
/-- is no literal the complement of another one? -/
def consistent (l : List T_Literal) : Bool := l.all fun x => !decide (compl x ∈ l)
theorem mget_put {κ ν : Type} [BEq κ] [LawfulBEq κ] : ∀ (m : List (κ × ν)) (k : κ) (v : ν) (q : κ), (mget (mput m k v) q).isSome = ((q == k) || (mget m q).isSome)
  | [], k, v, q => by simp only [mput, mget]; split <;> simp_all
  | x :: r, k, v, q => by
    by_cases h : k == x.1
    · have h' := eq_of_beq h
      subst h'
      by_cases hq : q == x.1 <;> simp [mput, mget, hq]
    · by_cases hq : q == x.1
      · simp [mput, h, mget, hq]
      · have := mget_put r k v q
        simp [mput, h, mget, hq, this]
theorem lit_consistent {l : List T_Literal} (h : l.length < 9223372036854775807) : m_literal_Consistent l = some (consistent l) := by
  have hh := loop_forI (B := m_literal_Consistent_L1 l) (fun i (s : List (T_Literal × Unit)) => (s, (i : Int))) l
    (fun i s => (∀ q, (mget s q).isSome = true ↔ ∃ j, j < i ∧ l[j]? = some q) ∧ ∀ j x, j < i → l[j]? = some x → ∀ k, k < i → l[k]? ≠ some (compl x)) (fun r => r = consistent l) ?_ ?_ [] ⟨by simp [mget], by simp⟩
  · obtain ⟨r, h1, rfl⟩ := hh; exact h1
  · intro i x s hx hI
    obtain ⟨h1, h2⟩ := hI
    have hi := (List.getElem?_eq_some_iff.1 hx).1
    have hlt : decide ((i : Int) < len l) = true := by simp [len]; omega
    unfold m_literal_Consistent_L1
    simp only [hlt, if_true, idx_nat, hx, Option.bind_some, lit_complement, w64_succ i (by omega)]
    have hput : ∀ q, (mget (mput s x ()) q).isSome = true ↔ ∃ j, j < i + 1 ∧ l[j]? = some q := by
      intro q
      rw [mget_put, Bool.or_eq_true, h1]
      constructor
      · rintro (hq | ⟨j, hj, hl⟩)
        · exact ⟨i, by omega, by rw [hx, eq_of_beq hq]⟩
        · exact ⟨j, by omega, hl⟩
      · rintro ⟨j, hj, hl⟩
        rcases Nat.lt_succ_iff_lt_or_eq.1 hj with h | rfl
        · exact .inr ⟨j, h, hl⟩
        · rw [hx] at hl; cases hl; exact .inl (by simp)
    cases hs : (mget (mput s x ()) (compl x)).isSome with
    | true =>
      refine .inr ⟨false, by simp, ?_⟩
      obtain ⟨j, hj, hl⟩ := (hput (compl x)).1 hs
      symm
      rw [consistent, List.all_eq_false]
      exact ⟨x, List.mem_of_getElem? hx, by simp [List.mem_of_getElem? hl]⟩
    | false =>
      refine .inl ⟨mput s x (), by simp, hput, fun j y hj hy k hk hkl => ?_⟩
      have hno : ∀ k, k < i + 1 → l[k]? ≠ some (compl x) := fun k hk hkl => by
        have := (hput (compl x)).2 ⟨k, hk, hkl⟩
        rw [hs] at this; cases this
      rcases Nat.lt_succ_iff_lt_or_eq.1 hj with h3 | rfl
      · rcases Nat.lt_succ_iff_lt_or_eq.1 hk with h4 | rfl
        · exact h2 j y h3 hy k h4 hkl
        · rw [hx] at hkl
          cases hkl
          exact hno j (by omega) (by rw [hy, compl_compl])
      · rw [hx] at hy; cases hy; exact hno k hk hkl
  · rintro s ⟨h1, h2⟩
    refine ⟨true, by unfold m_literal_Consistent_L1; simp [len], ?_⟩
    symm
    rw [consistent, List.all_eq_true]
    intro x hx
    obtain ⟨j, hj⟩ := List.mem_iff_getElem?.1 hx
    simp only [Bool.not_eq_true', decide_eq_false_iff_not]
    intro hc
    obtain ⟨k, hk⟩ := List.mem_iff_getElem?.1 hc
    exact h2 j x (List.getElem?_eq_some_iff.1 hj).1 hj k (List.getElem?_eq_some_iff.1 hk).1 hk
end
section
theorem ref_insert {l : List T_Literal} (x : T_Literal) (h : l.length < 1073741824) (ha : Asc litLt l) : ∃ r, m_ref01_Insert l x = some r ∧ Asc litLt r ∧ (∀ y, y ∈ r ↔ y = x ∨ y ∈ l) ∧ r.length ≤ l.length + 1 := by
  have hloop : ∃ k, loop (m_ref01_Insert_L1 l x) 0 = some k ∧ ∃ n : Nat, k = n ∧ n ≤ l.length ∧ (∀ j y, j < n → l[j]? = some y → litLt y x = true) ∧ ∀ y, l[n]? = some y → litLt y x = false := by
    refine loop_forI (B := m_ref01_Insert_L1 l x) (fun i (_ : Unit) => (i : Int)) l (fun i _ => ∀ j y, j < i → l[j]? = some y → litLt y x = true) _ ?_ ?_ () (by simp)
    · intro i y s hy hI
      have hi := (List.getElem?_eq_some_iff.1 hy).1
      have hlt : decide ((i : Int) < len l) = true := by simp [len]; omega
      unfold m_ref01_Insert_L1
      simp only [hlt, if_true, idx_nat, hy, Option.bind_some, ref_compare]
      cases hc : litLt y x with
      | true =>
        refine .inl ⟨(), by simp [litCmp, hc, w64_succ i (by omega)], fun j z hj hz => ?_⟩
        rcases Nat.lt_succ_iff_lt_or_eq.1 hj with h | rfl
        · exact hI j z h hz
        · rw [hy] at hz; cases hz; exact hc
      | false =>
        refine .inr ⟨(i : Int), ?_, i, rfl, by omega, hI, fun z hz => by rw [hy] at hz; cases hz; exact hc⟩
        have : decide (litCmp y x < 0) = false := by simp [litCmp, hc]; split <;> omega
        simp only [this, Bool.false_eq_true, if_false]
    · intro s hI
      refine ⟨(l.length : Int), by unfold m_ref01_Insert_L1; simp [len], l.length, rfl, Nat.le_refl _, hI, fun y hy => by simp at hy⟩
  obtain ⟨_, hk, n, rfl, hn, hlo, hhi⟩ := hloop
  unfold m_ref01_Insert
  rw [hk]
  simp only [Option.bind_some]
  by_cases hx : l[n]? = some x
  · have hlt : decide ((n : Int) < len l) = true := by have := (List.getElem?_eq_some_iff.1 hx).1; simp [len]; omega
    refine ⟨l, by simp only [hlt, if_true, idx_nat, hx, Option.bind_some, beq_self_eq_true], ha, fun y => ⟨.inr, fun h => ?_⟩, by omega⟩
    rcases h with rfl | h
    · exact List.mem_of_getElem? hx
    · exact h
  · have hcond : ((if decide ((n : Int) < len l) = true then (idx l (n : Int)).bind fun x2 => some (x2 == x) else some false : Option Bool)) = some false := by
      by_cases hlt : n < l.length
      · have hy : l[n]? = some l[n] := List.getElem?_eq_getElem hlt
        have h1 : decide ((n : Int) < len l) = true := by simp [len]; omega
        have h2 : (l[n] == x) = false := beq_eq_false_iff_ne.2 (fun e => hx (by rw [hy, e]))
        simp only [h1, if_true, idx_nat, hy, Option.bind_some, h2]
      · have h1 : decide ((n : Int) < len l) = false := by simp [len]; omega
        simp only [h1, Bool.false_eq_true, if_false]
    rw [hcond]
    simp only [Option.bind_some, Bool.false_eq_true, if_false]
    rw [sub_pre (by omega) (by omega), sub_suf (by omega) (by omega)]
    simp only [Option.bind_some, Int.toNat_natCast]
    rw [app_ok (by simp; omega)]
    simp only [Option.bind_some, List.nil_append]
    rw [app_ok (by simp; omega)]
    simp only [Option.bind_some]
    rw [app_ok (by simp; omega)]
    refine ⟨_, rfl, ?_, fun y => ?_, by simp; omega⟩
    · have hsplit := List.take_append_drop n l
      rw [← hsplit] at ha
      obtain ⟨h1, h2, h3⟩ := List.pairwise_append.1 ha
      have hlow : ∀ y ∈ l.take n, litLt y x = true := fun y hy => by
        obtain ⟨j, hj⟩ := List.mem_iff_getElem?.1 hy
        rw [List.getElem?_take] at hj
        split at hj
        · exact hlo j y ‹_› hj
        · cases hj
      have hhigh : ∀ y ∈ l.drop n, litLt x y = true := fun y hy => by
        by_cases hlt : n < l.length
        · have hfirst : litLt x l[n] = true := by
            rcases litLt_tri x l[n] with h | h | h
            · exact h
            · exact absurd (by rw [List.getElem?_eq_getElem hlt, ← h]) hx
            · rw [hhi _ (List.getElem?_eq_getElem hlt)] at h; cases h
          rw [List.drop_eq_getElem_cons hlt] at hy h2
          rcases List.mem_cons.1 hy with rfl | hy
          · exact hfirst
          · exact litLt_trans hfirst ((List.pairwise_cons.1 h2).1 y hy)
        · rw [List.drop_of_length_le (by omega)] at hy; cases hy
      rw [List.append_assoc]
      refine List.pairwise_append.2 ⟨h1, List.pairwise_append.2 ⟨by simp, h2, fun a ha b hb => ?_⟩, fun a ha b hb => ?_⟩
      · simp at ha; subst ha; exact hhigh b hb
      · rcases List.mem_append.1 hb with hb | hb
        · simp at hb; subst hb; exact hlow a ha
        · exact h3 a ha b hb
    · rw [List.mem_append, List.mem_append, List.mem_singleton]
      have : y ∈ l ↔ y ∈ l.take n ∨ y ∈ l.drop n := by rw [← List.mem_append, List.take_append_drop]
      rw [this]
      constructor
      · rintro ((h | h) | h)
        · exact .inr (.inl h)
        · exact .inl h
        · exact .inr (.inr h)
      · rintro (h | h | h)
        · exact .inl (.inr h)
        · exact .inl (.inl h)
        · exact .inr h
theorem ref_normal {l : List T_Literal} (h : l.length < 1073741824) : m_ref01_Normal l = some (nrm litLt l) := by
  have hh := loop_forI (B := m_ref01_Normal_L1 l) (fun i (s : List T_Literal) => (s, (i : Int))) l (fun i s => Asc litLt s ∧ (∀ y, y ∈ s ↔ y ∈ l.take i) ∧ s.length ≤ i) (fun r => r = nrm litLt l) ?_ ?_ [] ⟨by simp, by simp, Nat.le_refl _⟩
  · obtain ⟨r, h1, rfl⟩ := hh; exact h1
  · rintro i x s hx ⟨h1, h2, h3⟩
    have hi := (List.getElem?_eq_some_iff.1 hx).1
    have hlt : decide ((i : Int) < len l) = true := by simp [len]; omega
    obtain ⟨r, hr, g1, g2, g3⟩ := ref_insert x (l := s) (by omega) h1
    refine .inl ⟨r, ?_, g1, fun y => ?_, by omega⟩
    · unfold m_ref01_Normal_L1
      simp only [hlt, if_true, idx_nat, hx, Option.bind_some, w64_succ i (by omega), hr]
    · rw [g2, List.take_add_one, hx, List.mem_append, h2]
      simp only [Option.toList_some, List.mem_singleton]
      exact or_comm
  · rintro s ⟨h1, h2, _⟩
    refine ⟨s, by unfold m_ref01_Normal_L1; simp [len], ?_⟩
    rw [List.take_length] at h2
    exact (nrm_eq ord_lit h1 h2).symm
end
section
section
variable {α ρ : Type}
/-- the place of the first, or -1 -/
def fidx (q : α → Bool) (l : List α) : Int := if l.any q then (l.findIdx q : Int) else -1
theorem fidx_loop {B : Int → Option (Int ⊕ ρ)} (q : α → Bool) (l : List α) (no : ρ) (yes : Int → ρ) (hB : ∀ (i : Nat) x, l[i]? = some x → B (i : Int) = some (if q x then .inr (yes (i : Int)) else .inl ((i + 1 : Nat) : Int))) (he : B (l.length : Int) = some (.inr no)) :
    loop B 0 = some (if l.any q then yes (fidx q l) else no) := by
  have key : ∀ (n i : Nat), i + n = l.length → loop B (i : Int) = some (if (l.drop i).any q then yes ((i + (l.drop i).findIdx q : Nat) : Int) else no) := by
    intro n
    induction n with
    | zero =>
      intro i h
      rw [Nat.add_zero] at h
      subst h
      rw [loop_eq, he, List.drop_length]
      rfl
    | succ n ih =>
      intro i h
      have hx : l[i]? = some l[i] := List.getElem?_eq_getElem (by omega)
      rw [loop_eq, hB i _ hx, List.drop_eq_getElem_cons (by omega)]
      cases hp : q l[i] with
      | true => simp only [if_true, List.any_cons, hp, Bool.true_or, List.findIdx_cons, cond_true, Nat.add_zero]
      | false =>
        simp only [Bool.false_eq_true, if_false, List.any_cons, hp, Bool.false_or, List.findIdx_cons, cond_false]
        rw [ih (i + 1) (by omega)]
        rw [show i + 1 + (l.drop (i + 1)).findIdx q = i + ((l.drop (i + 1)).findIdx q + 1) by omega]
  have h := key l.length 0 (by omega)
  simp only [List.drop_zero, Nat.zero_add] at h
  rw [show loop B 0 = _ from h, fidx]
  cases l.any q <;> rfl
theorem fidx_at {q : α → Bool} {l : List α} (h : 0 ≤ fidx q l) : ∃ (k : Nat) (x : α), fidx q l = (k : Int) ∧ l[k]? = some x ∧ q x = true ∧ ∀ j y, j < k → l[j]? = some y → q y = false := by
  unfold fidx at h ⊢
  split at h
  · rename_i ha
    rw [if_pos ha]
    obtain ⟨x, hx, hq⟩ := List.any_eq_true.1 ha
    have hlt : l.findIdx q < l.length := List.findIdx_lt_length_of_exists ⟨x, hx, hq⟩
    refine ⟨_, l[l.findIdx q], rfl, List.getElem?_eq_getElem hlt, List.findIdx_getElem, fun j y hj hy => ?_⟩
    have hjl := at_lt hy
    rw [List.getElem?_eq_getElem hjl] at hy
    have := List.not_of_lt_findIdx hj
    rw [← Option.some.inj hy]
    simpa using this
  · omega
theorem fidx_neg {q : α → Bool} {l : List α} : fidx q l < 0 ↔ l.any q = false := by
  unfold fidx
  cases h : l.any q
  · simp
  · simp
end
/-- each literal before the next -/
def ascB : List T_Literal → Bool
  | a :: b :: r => litLt a b && ascB (b :: r)
  | _ => true
theorem fidx_id {α : Type} (q : α → Bool) (l : List α) : (if l.any q then fidx q l else -1) = fidx q l := by unfold fidx; split <;> rfl
end
section
theorem ascB_of : ∀ {l : List T_Literal}, Asc litLt l → ascB l = true
  | [], _ => rfl
  | [_], _ => rfl
  | x :: y :: r, h => by
    obtain ⟨h1, h2⟩ := List.pairwise_cons.1 h
    unfold ascB
    rw [h1 y List.mem_cons_self, ascB_of h2]
    rfl
end
section
/-- there is an answer, and it is so -/
def Ok {α : Type} (x : Option α) (Q : α → Prop) : Prop := ∃ a, x = some a ∧ Q a
section
variable {α β : Type}
theorem Ok.ret {a : α} {Q : α → Prop} (h : Q a) : Ok (some a) Q := ⟨a, rfl, h⟩
theorem Ok.bind {x : Option α} {f : α → Option β} {I : α → Prop} {Q : β → Prop} (h : Ok x I) (k : ∀ a, I a → Ok (f a) Q) : Ok (x.bind f) Q := by
  obtain ⟨a, rfl, ha⟩ := h; exact k a ha
theorem Ok.ite {c : Bool} {x y : Option α} {Q : α → Prop} (hx : c = true → Ok x Q) (hy : c = false → Ok y Q) : Ok (if c = true then x else y) Q := by
  cases c with
  | true => exact hx rfl
  | false => exact hy rfl
theorem Ok.imp {x : Option α} {I Q : α → Prop} (h : Ok x I) (k : ∀ a, I a → Q a) : Ok x Q := by
  obtain ⟨a, h1, h2⟩ := h; exact ⟨a, h1, k a h2⟩
theorem Ok.idx {l : List α} {i : Int} (h0 : 0 ≤ i) (h1 : i < l.length) : Ok (idx l i) fun x => x ∈ l ∧ l[i.toNat]? = some x := by
  obtain ⟨x, h2, h3⟩ := idx_some h0 h1
  exact ⟨x, h2, List.mem_of_getElem? h3, h3⟩
theorem Ok.app {l m : List α} (h : l.length + m.length < 4294967296) : Ok (app l m) fun z => z = l ++ m := ⟨_, app_ok h, rfl⟩
theorem Ok.cat {l m : Str} (h : l.length + m.length < 4294967296) : Ok (cat l m) fun z => z = l ++ m := ⟨_, cat_ok h, rfl⟩
end
section
variable {s : T_keep_Src}
theorem Ok.N {n : Int} (h : SrcOk s) (h0 : 0 ≤ n) (h1 : n ≤ 4611686018427387904) : Ok (m_keep_Src_N s n) fun r => 0 ≤ r.1 ∧ (1 ≤ n → r.1 < n) ∧ SrcOk (s.1, r.2) := by
  by_cases hn : 1 ≤ n
  · obtain ⟨v, k, e, a, b, c⟩ := keep_N h hn h1
    exact ⟨_, e, a, fun _ => b, c⟩
  · obtain ⟨v, k, hr, hk⟩ := keep_Raw h
    have hn1 : n < 1 := by omega
    refine ⟨(0, k), ?_, Int.le_refl _, fun h => absurd h hn, hk⟩
    simp [m_keep_Src_N, hr, m_keep_Mod, hn1]
theorem Ok.Text {l : List Str} (h : SrcOk s) (h0 : l ≠ []) (h1 : l.length ≤ 1000) : Ok (m_keep_Src_Text s l) fun r => r.1 ∈ l ∧ SrcOk (s.1, r.2) := by
  obtain ⟨x, k, e, a, b⟩ := keep_Text h h0 h1; exact ⟨_, e, a, b⟩
end
section
variable {α β σ τ ρ : Type}
/-- one round more, or an end -/
def Nx (mk : Nat → σ → τ) (I : Nat → σ → Prop) (Q : ρ → Prop) (i : Nat) : τ ⊕ ρ → Prop
  | .inl t => ∃ s, t = mk i s ∧ I i s
  | .inr r => Q r
def Fin (Q : ρ → Prop) : τ ⊕ ρ → Prop
  | .inl _ => False
  | .inr r => Q r
theorem Ok.forI {B : τ → Option (τ ⊕ ρ)} (mk : Nat → σ → τ) (l : List α) (I : Nat → σ → Prop) (Q : ρ → Prop) (hB : ∀ i x s, l[i]? = some x → I i s → Ok (B (mk i s)) (Nx mk I Q (i + 1)))
    (he : ∀ s, I l.length s → Ok (B (mk l.length s)) (Fin Q)) (s : σ) (h : I 0 s) : Ok (loop B (mk 0 s)) Q := by
  refine loop_forI mk l I Q (fun i x s hx hI => ?_) (fun s hI => ?_) s h
  · obtain ⟨o, h1, h2⟩ := hB i x s hx hI
    cases o with
    | inl t => obtain ⟨s', rfl, h3⟩ := h2; exact .inl ⟨s', h1, h3⟩
    | inr r => exact .inr ⟨r, h1, h2⟩
  · obtain ⟨o, h1, h2⟩ := he s hI
    cases o with
    | inl t => exact h2.elim
    | inr r => exact ⟨r, h1, h2⟩
theorem Ok.seqE {x : Option (σ ⊕ α)} {f : σ → Option α} {I : σ ⊕ α → Prop} {Q : α → Prop} (h : Ok x I) (k : ∀ a, I (.inl a) → Ok (f a) Q) (k2 : ∀ r, I (.inr r) → Q r) : Ok (seqE x f) Q := by
  obtain ⟨a, rfl, ha⟩ := h
  cases a with
  | inl a => exact k a ha
  | inr r => exact ⟨r, rfl, k2 r ha⟩
end
theorem dec_lt {α : Type} {l : List α} {i : Nat} {x : α} (h : l[i]? = some x) : decide ((i : Int) < len l) = true := decide_eq_true (show (i : Int) < (l.length : Int) by have := (List.getElem?_eq_some_iff.1 h).1; omega)
theorem dec_end {α : Type} {l : List α} : decide ((l.length : Int) < len l) = false := decide_eq_false (show ¬ (l.length : Int) < (l.length : Int) by omega)
theorem mem_set_of {α : Type} {l : List α} {i : Nat} {y x : α} (h : x ∈ l.set i y) : x = y ∨ x ∈ l := by
  rcases List.mem_or_eq_of_mem_set h with h | h
  · exact .inr h
  · exact .inl h
theorem app_nil_ok {α : Type} {l : List α} (h : l.length < 4294967296) : app ([] : List α) l = some l := by rw [app_ok (by simpa using h), List.nil_append]
end
section
/-- words with a blank between -/
def jn (l : List Str) : Str := [(32 : UInt8)].intercalate l
theorem jn_nil : jn [] = [] := rfl
theorem jn_one (w : Str) : jn [w] = w := by simp [jn, List.intercalate]
theorem jn_cons (w x : Str) (l : List Str) : jn (w :: x :: l) = w ++ 32 :: jn (x :: l) := by simp [jn, List.intercalate]
theorem jn_len : ∀ l : List Str, (jn l).length ≤ (l.map List.length).sum + l.length
  | [] => by simp [jn_nil]
  | [w] => by simp [jn_one]
  | w :: x :: l => by
    have := jn_len (x :: l)
    rw [jn_cons]
    simp only [List.length_append, List.length_cons, List.map_cons, List.sum_cons] at this ⊢
    omega
theorem join_ok {l : List Str} (h1 : l.length ≤ 1000000) (h2 : (l.map List.length).sum ≤ 1000000000) : m_strings_Join l [32] = some (jn l) := by
  have := jn_len l
  unfold m_strings_Join joinM
  rw [if_pos]
  · rfl
  · refine ⟨by omega, ?_⟩
    show (jn l).length ≤ _
    omega
end
section
/-- the states of a commitment that are not allowed -/
def coS (c : T_Commitment) : Bool := ((c.2.1 || decide (0 < c.2.2.2.length)) && c.2.2.1) || ((c.2.1 && decide (0 < c.2.2.2.length)) || decide (c.1 ∈ c.2.2.2))
def coV (c : T_Commitment) : Bool := vName c.1.2 && c.2.2.2.all fun x => vName x.2
def clm (l : List T_Commitment) : List T_Literal := l.map (·.1)
def comE (s : List (List T_Commitment)) : Int :=
  if decide (6 < s.length) || (s.any (fun l => decide (40 < l.length)) || s.any (fun l => l.any fun c => decide (6 < c.2.2.2.length))) then 2
  else if s.any (fun l => l.any fun c => !coV c) then 3
  else if s.any (fun l => !ascB (clm l)) || s.any (fun l => l.any fun c => !ascB c.2.2.2) then 8
  else if s.any (fun l => l.any coS) then 7
  else if s.any (fun l => !consistent (clm l)) then 10 else 0
structure CntS (s : List (List T_Commitment)) : Prop where
  n : s.length ≤ 1000
  l : ∀ l ∈ s, l.length ≤ 1000
  g : ∀ l ∈ s, ∀ c ∈ l, c.2.2.2.length ≤ 1000
theorem litCmp_ge (x y : T_Literal) : decide (0 ≤ litCmp x y) = !litLt x y := by
  unfold litCmp
  cases litLt x y with
  | true => simp
  | false =>
    simp only [Bool.false_eq_true, if_false]
    split <;> simp
theorem litCmp_neg (x y : T_Literal) : decide (litCmp x y < 0) = litLt x y := by
  unfold litCmp
  cases litLt x y with
  | true => simp
  | false =>
    simp only [Bool.false_eq_true, if_false]
    split <;> simp
theorem asc_loop {ρ : Type} {B : Int → Option (Int ⊕ ρ)} (l : List T_Literal) (bad good : ρ)
    (hB : ∀ (i : Nat) x y, l[i]? = some x → l[i + 1]? = some y → B ((i + 1 : Nat) : Int) = some (if decide (0 ≤ litCmp x y) then .inr bad else .inl ((i + 1 + 1 : Nat) : Int))) (he : ∀ k : Nat, l.length ≤ k → B (k : Int) = some (.inr good)) :
    loop B 1 = some (if ascB l then good else bad) := by
  have key : ∀ (n i : Nat), i + 1 + n = l.length → loop B ((i + 1 : Nat) : Int) = some (if ascB (l.drop i) then good else bad) := by
    intro n
    induction n with
    | zero =>
      intro i h
      rw [loop_eq, he (i + 1) (by omega), List.drop_eq_getElem_cons (by omega), List.drop_of_length_le (by omega)]
      rfl
    | succ n ih =>
      intro i h
      have hx : l[i]? = some l[i] := List.getElem?_eq_getElem (by omega)
      have hy : l[i + 1]? = some l[i + 1] := List.getElem?_eq_getElem (by omega)
      rw [loop_eq, hB i _ _ hx hy, List.drop_eq_getElem_cons (by omega), List.drop_eq_getElem_cons (by omega), litCmp_ge]
      cases hlt : litLt l[i] l[i + 1] with
      | true =>
        simp only [Bool.not_true, Bool.false_eq_true, if_false]
        rw [ih (i + 1) (by omega), List.drop_eq_getElem_cons (show i + 1 < l.length by omega)]
        simp only [ascB, hlt, Bool.true_and]
      | false => simp only [Bool.not_false, if_true, ascB, hlt, Bool.false_and, Bool.false_eq_true, if_false]
  match l, hB, he, key with
  | [], _, he, _ => rw [loop_eq, show (1 : Int) = ((1 : Nat) : Int) from rfl, he 1 (by simp)]; rfl
  | x :: r, _, _, key => exact key r.length 0 (by simp; omega)
theorem com_rising {l : List T_Literal} (h : l.length ≤ 1000) : m_commitment_rising l = some (ascB l) := by
  unfold m_commitment_rising
  rw [asc_loop (B := m_commitment_rising_L1 l) l false true (fun i x y hx hy => by
    unfold m_commitment_rising_L1
    have e1 : w64 (((i + 1 : Nat) : Int) - 1) = (i : Int) := by have := at_lt hy; rw [w64_id (by omega) (by omega)]; omega
    simp only [at_dec hy, if_true, at_idx hy, e1, at_idx hx, Option.bind_some, lit_compare, at_suc hy (show l.length < 4294967296 by omega)]
    split <;> rfl) (fun k hk => by
    unfold m_commitment_rising_L1
    have : decide ((k : Int) < len l) = false := by simp [len]; omega
    simp only [this, Bool.false_eq_true, if_false])]
  cases ascB l <;> rfl
theorem com_claims {l : List T_Commitment} (h : l.length ≤ 1000) : m_commitment_claims l = some (clm l) := by
  have := (loop_fold (B := m_commitment_claims_L1 l) l (fun s x => s ++ [x.1]) (fun s => s) (fun i s => s.length = i) [] rfl (fun i x s hx hI => ⟨by
    have hi := at_lt hx
    unfold m_commitment_claims_L1
    simp only [at_dec hx, if_true, at_idx hx, Option.bind_some, app_ok (show s.length + ([x.1] : List T_Literal).length < 4294967296 by simp; omega), at_suc hx (show l.length < 4294967296 by omega)], by simp [hI]⟩) (fun s _ => by
    unfold m_commitment_claims_L1
    simp only [end_dec, Bool.false_eq_true, if_false])).1
  unfold m_commitment_claims
  rw [this, foldl_app_map]
  rfl
theorem com_sound {l : List T_Literal} (h : l.length ≤ 1000) : m_commitment_sound l = some (l.all fun x => vName x.2) := by
  have := containsF m_commitment_sound_1 (fun x => !vName x.2) l (by omega) (fun x _ => by unfold m_commitment_sound_1; rw [lit_valid]; rfl)
  unfold m_commitment_sound
  rw [show m_slices_ContainsFunc_Literal__commitment_sound_1 l = some (l.any fun x => !vName x.2) from this, Option.bind_some, List.all_eq_not_any_not]
theorem com_has {l : List T_Literal} (x : T_Literal) (h : l.length ≤ 1000) : m_slices_Contains_Literal l x = some (decide (x ∈ l)) := by
  obtain ⟨r, hr, hi⟩ := indexM_spec l x (by omega)
  have e : m_slices_Index_Literal l x = some r := (show m_slices_Index_Literal l x = indexM l x from rfl).trans hr
  simp only [m_slices_Contains_Literal, e, Option.bind_some]
  congr 1
  rw [decide_eq_decide, hi]
  simp
theorem com_v3 (c : T_Commitment) (h : c.2.2.2.length ≤ 1000) : m_commitment_Validate_3 c = some (!coV c) := by
  unfold m_commitment_Validate_3 coV
  rw [lit_valid, Option.bind_some]
  cases vName c.1.2 with
  | false => rfl
  | true => simp only [Bool.not_true, Bool.false_eq_true, if_false, com_sound h, Option.bind_some, Bool.true_and]
theorem com_v5 (c : T_Commitment) (h : c.2.2.2.length ≤ 1000) : m_commitment_Validate_5 c = some (!ascB c.2.2.2) := by
  unfold m_commitment_Validate_5
  rw [com_rising h, Option.bind_some]
theorem com_v6 (c : T_Commitment) (h : c.2.2.2.length ≤ 1000) : m_commitment_Validate_6 c = some (coS c) := by
  unfold m_commitment_Validate_6 coS
  have e : decide (0 < len c.2.2.2) = decide (0 < c.2.2.2.length) := by simp [len]
  simp only [com_has c.1 h, Option.bind_some, e]
  cases c.2.1 <;> cases c.2.2.1 <;> cases decide (0 < c.2.2.2.length) <;> cases decide (c.1 ∈ c.2.2.2) <;> rfl
section
variable {s : List (List T_Commitment)} (h : CntS s)
include h
theorem com_c1 : m_slices_ContainsFunc_Commitment__commitment_Validate_1 s = some (s.any fun l => decide (40 < l.length)) :=
  containsF m_commitment_Validate_1 _ s (by have := h.n; omega) fun l _ => by unfold m_commitment_Validate_1; exact congrArg some (decide_eq_decide.2 (show (40 : Int) < (l.length : Int) ↔ _ by omega))
theorem com_c4 : m_slices_ContainsFunc_Commitment__commitment_Validate_4 s = some (s.any fun l => !ascB (clm l)) :=
  containsF m_commitment_Validate_4 _ s (by have := h.n; omega) fun l hl => by
    unfold m_commitment_Validate_4
    rw [com_claims (h.l l hl), Option.bind_some, com_rising (by have := h.l l hl; simpa [clm] using this), Option.bind_some]
theorem com_c7 : m_slices_ContainsFunc_Commitment__commitment_Validate_7 s = some (s.any fun l => !consistent (clm l)) :=
  containsF m_commitment_Validate_7 _ s (by have := h.n; omega) fun l hl => by
    unfold m_commitment_Validate_7
    rw [com_claims (h.l l hl), Option.bind_some, lit_consistent (by have := h.l l hl; simp only [clm, List.length_map]; omega), Option.bind_some]
theorem com_s2 : m_commitment_some__commitment_Validate_2 s = some (s.any fun l => l.any fun c => decide (6 < c.2.2.2.length)) :=
  congrArg (fun o : Option Bool => o.bind fun r => some r) (containsF m_commitment_some_1__commitment_Validate_2 _ s (by have := h.n; omega) fun l hl =>
    congrArg (fun o : Option Bool => o.bind fun r => some r) (containsF m_commitment_Validate_2 (fun c => decide (6 < c.2.2.2.length)) l (by have := h.l l hl; omega) fun c _ => by unfold m_commitment_Validate_2; exact congrArg some (decide_eq_decide.2 (show (6 : Int) < (c.2.2.2.length : Int) ↔ _ by omega))))
theorem com_s3 : m_commitment_some__commitment_Validate_3 s = some (s.any fun l => l.any fun c => !coV c) :=
  congrArg (fun o : Option Bool => o.bind fun r => some r) (containsF m_commitment_some_1__commitment_Validate_3 _ s (by have := h.n; omega) fun l hl =>
    congrArg (fun o : Option Bool => o.bind fun r => some r) (containsF m_commitment_Validate_3 (fun c => !coV c) l (by have := h.l l hl; omega) fun c hc => com_v3 c (h.g l hl c hc)))
theorem com_s5 : m_commitment_some__commitment_Validate_5 s = some (s.any fun l => l.any fun c => !ascB c.2.2.2) :=
  congrArg (fun o : Option Bool => o.bind fun r => some r) (containsF m_commitment_some_1__commitment_Validate_5 _ s (by have := h.n; omega) fun l hl =>
    congrArg (fun o : Option Bool => o.bind fun r => some r) (containsF m_commitment_Validate_5 (fun c => !ascB c.2.2.2) l (by have := h.l l hl; omega) fun c hc => com_v5 c (h.g l hl c hc)))
theorem com_s6 : m_commitment_some__commitment_Validate_6 s = some (s.any fun l => l.any coS) :=
  congrArg (fun o : Option Bool => o.bind fun r => some r) (containsF m_commitment_some_1__commitment_Validate_6 _ s (by have := h.n; omega) fun l hl =>
    congrArg (fun o : Option Bool => o.bind fun r => some r) (containsF m_commitment_Validate_6 coS l (by have := h.l l hl; omega) fun c hc => com_v6 c (h.g l hl c hc)))
theorem com_Validate : m_commitment_Validate s = some (comE s) := by
  unfold m_commitment_Validate comE
  have e : decide (6 < len s) = decide (6 < s.length) := by simp [len]; omega
  simp only [com_c1 h, com_c4 h, com_c7 h, com_s2 h, com_s3 h, com_s5 h, com_s6 h, Option.bind_some, e]
  generalize decide (6 < s.length) = b0
  generalize (s.any fun l => decide (40 < l.length)) = b1
  generalize (s.any fun l => l.any fun c => decide (6 < c.2.2.2.length)) = b2
  generalize (s.any fun l => l.any fun c => !coV c) = b3
  generalize (s.any fun l => !ascB (clm l)) = b4
  generalize (s.any fun l => l.any fun c => !ascB c.2.2.2) = b5
  generalize (s.any fun l => l.any coS) = b6
  generalize (s.any fun l => !consistent (clm l)) = b7
  cases b0 <;> cases b1 <;> cases b2 <;> cases b3 <;> cases b4 <;> cases b5 <;> cases b6 <;> cases b7 <;> rfl
end
theorem r26_asc {l : List T_Literal} (h : l.length ≤ 1000) : m_ref26_ascending l = some (ascB l) := by
  unfold m_ref26_ascending
  rw [asc_loop (B := m_ref26_ascending_L1 l) l false true (fun i x y hx hy => by
    unfold m_ref26_ascending_L1
    have e1 : w64 (((i + 1 : Nat) : Int) - 1) = (i : Int) := by have := at_lt hy; rw [w64_id (by omega) (by omega)]; omega
    simp only [at_dec hy, if_true, at_idx hy, e1, at_idx hx, Option.bind_some, ref_compare, at_suc hy (show l.length < 4294967296 by omega)]
    split <;> rfl) (fun k hk => by
    unfold m_ref26_ascending_L1
    have : decide ((k : Int) < len l) = false := by simp [len]; omega
    simp only [this, Bool.false_eq_true, if_false])]
  cases ascB l <;> rfl
theorem r26_in {l : List T_Literal} (x : T_Literal) (h : l.length ≤ 1000) : m_ref26_in l x = some (decide (x ∈ l)) := by
  unfold m_ref26_in
  rw [loop_any (B := m_ref26_in_L1 l x) l (fun y => y == x) (fun i y hy => by
    unfold m_ref26_in_L1
    simp only [at_dec hy, if_true, at_idx hy, Option.bind_some, at_suc hy (show l.length < 4294967296 by omega)]
    split <;> rfl) (by unfold m_ref26_in_L1; simp only [end_dec, Bool.false_eq_true, if_false])]
  congr 1
  rw [Bool.eq_iff_iff]
  simp
/-- the place of a claim -/
def plc (l : List T_Commitment) (x : T_Literal) : Int := fidx (fun c : T_Commitment => c.1 == x) l
theorem plc_neg {l : List T_Commitment} {x : T_Literal} : plc l x < 0 ↔ x ∉ clm l := by
  unfold plc
  rw [fidx_neg, List.any_eq_false]
  unfold clm
  simp only [List.mem_map, beq_iff_eq, not_exists, not_and]
theorem r26_find {l : List T_Commitment} (x : T_Literal) (h : l.length ≤ 1000) : m_ref26_find l x = some (plc l x) := by
  unfold m_ref26_find plc
  rw [fidx_loop (B := m_ref26_find_L1 l x) (fun c : T_Commitment => c.1 == x) l (-1) (fun i => i) (fun i y hy => by
    unfold m_ref26_find_L1
    simp only [at_dec hy, if_true, at_idx hy, Option.bind_some, at_suc hy (show l.length < 4294967296 by omega)]
    split <;> rfl) (by unfold m_ref26_find_L1; simp only [end_dec, Bool.false_eq_true, if_false]), fidx_id]
theorem ascB_snoc : ∀ (m : List T_Literal) (y x : T_Literal), ascB (m ++ [y, x]) = (ascB (m ++ [y]) && litLt y x)
  | [], y, x => by simp [ascB]
  | [a], y, x => by simp [ascB]
  | a :: b :: m, y, x => by
    have := ascB_snoc (b :: m) y x
    simp only [List.cons_append] at this ⊢
    simp only [ascB, this, Bool.and_assoc]
/-- what is right with a store -/
def rightS (l p : List T_Commitment) : Bool × Bool × Bool × Bool × Bool :=
  (decide (l.length ≤ 40) && p.all fun c => decide (c.2.2.2.length ≤ 6), p.all coV, p.all (fun c => ascB c.2.2.2) && ascB (clm p), p.all fun c => !coS c, p.all fun c => !decide (compl c.1 ∈ clm l))
theorem rightS_snoc {l p : List T_Commitment} {c : T_Commitment} {b : Bool} (hb : ascB (clm (p ++ [c])) = (ascB (clm p) && b)) : rightS l (p ++ [c]) =
    ((rightS l p).1 && decide (c.2.2.2.length ≤ 6), (rightS l p).2.1 && coV c, (rightS l p).2.2.1 && (ascB c.2.2.2 && b), (rightS l p).2.2.2.1 && !coS c, (rightS l p).2.2.2.2 && !decide (compl c.1 ∈ clm l)) := by
  unfold rightS
  simp only [List.all_append, List.all_cons, List.all_nil, Bool.and_true, Bool.and_assoc, hb]
  generalize (p.all fun c => ascB c.2.2.2) = q1
  generalize ascB (clm p) = q2
  generalize ascB c.2.2.2 = q3
  cases q1 <;> cases q2 <;> cases q3 <;> rfl
theorem iteA (a b : Bool) : (if a = true then some b else some false : Option Bool) = some (a && b) := by cases a <;> rfl
theorem r26_right {l : List T_Commitment} (h : l.length ≤ 1000) (hg : ∀ c ∈ l, c.2.2.2.length ≤ 1000) : m_ref26_right l = some (rightS l l) := by
  unfold m_ref26_right
  have h40 : decide (len l ≤ 40) = decide (l.length ≤ 40) := by simp [len]; omega
  have hh := loop_forI (B := m_ref26_right_L1 l) (fun i (s : Bool × Bool × Bool × Bool × Bool) => ((i : Int), s.1, s.2.1, s.2.2.1, s.2.2.2.1, s.2.2.2.2)) l (fun i s => s = rightS l (l.take i)) (fun r => r = rightS l l) (fun i c s hc hI => ?_) (fun s hI => ?_) (decide (l.length ≤ 40), true, true, true, true) (by simp [rightS, clm, ascB])
  · obtain ⟨r, h1, h2⟩ := hh
    rw [h40]
    dsimp only at h1
    rw [show ((0 : Nat) : Int) = 0 from rfl] at h1
    rw [h1, h2, Option.bind_some]
  · left
    subst hI
    have hi := at_lt hc
    have hcg := hg c (mem_at hc)
    refine ⟨_, ?_, (rfl : rightS l (l.take (i + 1)) = rightS l (l.take (i + 1)))⟩
    have hlv := (loop_fold' (B := m_ref26_right_L2 c) c.2.2.2 (fun s x => s && vName x.2) (fun s => s) (fun _ _ => True) ((rightS l (l.take i)).2.1 && vName c.1.2) trivial (fun k x s hx _ => ⟨by
      unfold m_ref26_right_L2
      simp only [at_dec hx, if_true, at_idx hx, Option.bind_some, ref_valid, at_suc hx (show c.2.2.2.length < 4294967296 by omega)]
      cases s <;> rfl, trivial⟩) (fun s _ => by unfold m_ref26_right_L2; simp only [end_dec, Bool.false_eq_true, if_false])).1
    have hf : ∀ (m : List T_Literal) (g : Bool), m.foldl (fun s x => s && vName x.2) g = (g && m.all (fun x => vName x.2)) := by
      intro m
      induction m with
      | nil => intro g; simp
      | cons x m ih => intro g; rw [List.foldl_cons, ih, List.all_cons, Bool.and_assoc]
    rw [hf] at hlv
    have h6 : decide (len c.2.2.2 ≤ 6) = decide (c.2.2.2.length ≤ 6) := by simp [len]; omega
    have h0 : decide (0 < len c.2.2.2) = decide (0 < c.2.2.2.length) := by simp [len]
    have hnot : m_ref26_not c.1 = some (compl c.1) := rfl
    have hfd : m_ref26_find l (compl c.1) = some (plc l (compl c.1)) := r26_find _ h
    have hpl : decide (plc l (compl c.1) < 0) = !decide (compl c.1 ∈ clm l) := by
      rw [Bool.eq_iff_iff]
      simp [plc_neg]
    -- the order
    have hord : ∃ b : Bool, (if ((i : Int) == 0) = true then some true else (idx l (w64 ((i : Int) - 1))).bind fun x3 => (m_ref01_Compare x3.1 c.1).bind fun r4 => some (decide (r4 < 0))) = some b ∧ ascB (clm (l.take (i + 1))) = (ascB (clm (l.take i)) && b) := by
      cases i with
      | zero =>
        refine ⟨true, rfl, ?_⟩
        rw [take_suc hc]
        simp [clm, ascB]
      | succ j =>
        have hy : l[j]? = some l[j] := List.getElem?_eq_getElem (by omega)
        refine ⟨litLt l[j].1 c.1, ?_, ?_⟩
        · have hz : (((j + 1 : Nat) : Int) == 0) = false := by simp; omega
          have e1 : w64 (((j + 1 : Nat) : Int) - 1) = (j : Int) := by rw [w64_id (by omega) (by omega)]; omega
          simp only [hz, Bool.false_eq_true, if_false, e1, at_idx hy, Option.bind_some, ref_compare, litCmp_neg]
        · rw [take_suc hc, take_suc hy]
          simp only [clm, List.map_append, List.map_cons, List.map_nil, List.append_assoc, List.cons_append, List.nil_append, ascB_snoc]
    obtain ⟨b, hb1, hb2⟩ := hord
    rw [take_suc hc] at hb2 ⊢
    rw [rightS_snoc hb2]
    unfold m_ref26_right_L1
    simp only [at_dec hc, if_true, at_idx hc, Option.bind_some, h6, h0, ref_valid, r26_asc hcg, r26_in c.1 hcg, hnot, hfd, hpl, at_suc hc (show l.length < 4294967296 by omega), iteA]
    rw [hlv]
    simp only [Option.bind_some]
    rw [hb1]
    unfold coS coV
    generalize rightS l (l.take i) = R
    generalize (c.2.2.2.all fun x => vName x.2) = q4
    cases c.2.1 <;> cases c.2.2.1 <;> cases decide (0 < c.2.2.2.length) <;> simp only [iteA, if_true, Bool.false_eq_true, if_false, Bool.not_true, Bool.not_false, Option.bind_some, Bool.and_assoc] <;> rfl
  · subst hI
    refine ⟨_, ?_, rfl⟩
    rw [List.take_length]
    unfold m_ref26_right_L1
    simp only [end_dec, Bool.false_eq_true, if_false]
theorem any_or {α : Type} (p q : α → Bool) : ∀ l : List α, (l.any fun x => p x || q x) = (l.any p || l.any q)
  | [] => rfl
  | x :: l => by
    simp only [List.any_cons, any_or p q l]
    cases p x <;> cases q x <;> cases l.any p <;> rfl
theorem any_congr {α : Type} {p q : α → Bool} {l : List α} (h : ∀ x ∈ l, p x = q x) : l.any p = l.any q := by
  induction l with
  | nil => rfl
  | cons x l ih => rw [List.any_cons, List.any_cons, h x List.mem_cons_self, ih fun y hy => h y (List.mem_cons_of_mem _ hy)]
theorem not_all {α : Type} (p : α → Bool) (l : List α) : (!l.all p) = l.any fun x => !p x := by
  rw [List.all_eq_not_any_not, Bool.not_not]
theorem r26_Validate {s : List (List T_Commitment)} (h : CntS s) : m_ref26_Validate s = some (comE s) := by
  unfold m_ref26_Validate comE
  have e : decide (6 < len s) = decide (6 < s.length) := by simp [len]; omega
  rw [e]
  cases h6 : decide (6 < s.length) with
  | true => rfl
  | false =>
    simp only [Bool.false_eq_true, if_false, Bool.false_or]
    have hL2 : ∀ (k err : Int) (q : List T_Commitment → Bool), (∀ l ∈ s, idx [(rightS l l).1, (rightS l l).2.1, (rightS l l).2.2.1, (rightS l l).2.2.2.1, (rightS l l).2.2.2.2] k = some (!q l)) → idx ([2, 3, 8, 7, 10] : List Int) k = some err →
        loop (m_ref26_Validate_L2 s k) 0 = some (if s.any q then .inr err else .inl (w64 (k + 1))) := by
      intro k err q hq he
      rw [loop_find (B := m_ref26_Validate_L2 s k) s q (.inr err : Int ⊕ Int) (.inl (w64 (k + 1))) (fun i l hl => by
        unfold m_ref26_Validate_L2
        have hm := mem_at hl
        simp only [at_dec hl, if_true, at_idx hl, Option.bind_some, r26_right (h.l l hm) (h.g l hm), hq l hm, Bool.not_not, he, at_suc hl (show s.length < 4294967296 by have := h.n; omega)]
        cases q l <;> rfl) (by unfold m_ref26_Validate_L2; simp only [end_dec, Bool.false_eq_true, if_false])]
    have a0 := hL2 0 2 (fun l => !(rightS l l).1) (fun l _ => by rw [Bool.not_not]; rfl) rfl
    have a1 := hL2 1 3 (fun l => !(rightS l l).2.1) (fun l _ => by rw [Bool.not_not]; rfl) rfl
    have a2 := hL2 2 8 (fun l => !(rightS l l).2.2.1) (fun l _ => by rw [Bool.not_not]; rfl) rfl
    have a3 := hL2 3 7 (fun l => !(rightS l l).2.2.2.1) (fun l _ => by rw [Bool.not_not]; rfl) rfl
    have a4 := hL2 4 10 (fun l => !(rightS l l).2.2.2.2) (fun l _ => by rw [Bool.not_not]; rfl) rfl
    have e0 : (s.any fun l => !(rightS l l).1) = (s.any (fun l => decide (40 < l.length)) || s.any (fun l => l.any fun c => decide (6 < c.2.2.2.length))) := by
      rw [← any_or]
      refine any_congr fun l _ => ?_
      unfold rightS
      dsimp only
      rw [Bool.not_and, not_all, ← decide_not]
      congr 1
      · exact decide_eq_decide.2 (by omega)
      · refine any_congr fun c _ => ?_
        rw [← decide_not]
        exact decide_eq_decide.2 (by omega)
    have e1 : (s.any fun l => !(rightS l l).2.1) = s.any fun l => l.any fun c => !coV c := any_congr fun l _ => not_all _ l
    have e2 : (s.any fun l => !(rightS l l).2.2.1) = (s.any (fun l => !ascB (clm l)) || s.any (fun l => l.any fun c => !ascB c.2.2.2)) := by
      rw [← any_or]
      refine any_congr fun l _ => ?_
      unfold rightS
      dsimp only
      rw [Bool.not_and, not_all, Bool.or_comm]
    have e3 : (s.any fun l => !(rightS l l).2.2.2.1) = s.any fun l => l.any coS := any_congr fun l _ => by
      unfold rightS
      dsimp only
      rw [not_all]
      exact any_congr fun c _ => Bool.not_not _
    have e4 : (s.any fun l => !(rightS l l).2.2.2.2) = s.any fun l => !consistent (clm l) := any_congr fun l _ => by
      unfold rightS consistent
      dsimp only
      congr 1
      unfold clm
      rw [List.all_map]
      rfl
    rw [e0] at a0
    rw [e1] at a1
    rw [e2] at a2
    rw [e3] at a3
    rw [e4] at a4
    have st : ∀ k : Int, k < 5 → m_ref26_Validate_L1 s k = loop (m_ref26_Validate_L2 s k) 0 := fun k hk => by unfold m_ref26_Validate_L1; simp only [decide_eq_true hk, if_true]
    have st5 : m_ref26_Validate_L1 s 5 = some (.inr 0) := rfl
    rw [loop_eq, st 0 (by omega), a0]
    generalize (s.any (fun l => decide (40 < l.length)) || s.any (fun l => l.any fun c => decide (6 < c.2.2.2.length))) = b0
    cases b0 with
    | true => rfl
    | false =>
      simp only [Bool.false_eq_true, if_false]
      rw [show w64 (0 + 1) = 1 from rfl, loop_eq, st 1 (by omega), a1]
      generalize (s.any fun l => l.any fun c => !coV c) = b1
      cases b1 with
      | true => rfl
      | false =>
        simp only [Bool.false_eq_true, if_false]
        rw [show w64 (1 + 1) = 2 from rfl, loop_eq, st 2 (by omega), a2]
        generalize (s.any (fun l => !ascB (clm l)) || s.any (fun l => l.any fun c => !ascB c.2.2.2)) = b2
        cases b2 with
        | true => rfl
        | false =>
          simp only [Bool.false_eq_true, if_false]
          rw [show w64 (2 + 1) = 3 from rfl, loop_eq, st 3 (by omega), a3]
          generalize (s.any fun l => l.any coS) = b3
          cases b3 with
          | true => rfl
          | false =>
            simp only [Bool.false_eq_true, if_false]
            rw [show w64 (3 + 1) = 4 from rfl, loop_eq, st 4 (by omega), a4]
            generalize (s.any fun l => !consistent (clm l)) = b4
            cases b4 with
            | true => rfl
            | false =>
              simp only [Bool.false_eq_true, if_false]
              rw [show w64 (4 + 1) = 5 from rfl, loop_eq, st5]
end
section
def OkC (c : T_Commitment) : Prop := c.2.2.2.length ≤ 6 ∧ vName c.1.2 = true ∧ (∀ x ∈ c.2.2.2, vName x.2 = true) ∧ ascB c.2.2.2 = true ∧ coS c = false
structure OkSt (l : List T_Commitment) : Prop where
  n : l.length ≤ 40
  c : ∀ c ∈ l, OkC c
  asc : Asc litLt (clm l)
  con : ∀ x ∈ clm l, compl x ∉ clm l
def OkS (s : List (List T_Commitment)) : Prop := s.length ≤ 6 ∧ ∀ l ∈ s, OkSt l
theorem asc_of_ascB : ∀ {l : List T_Literal}, ascB l = true → Asc litLt l
  | [], _ => .nil
  | [x], _ => List.pairwise_singleton _ x
  | x :: y :: r, h => by
    simp only [ascB, Bool.and_eq_true] at h
    have ih := asc_of_ascB h.2
    refine List.pairwise_cons.2 ⟨fun z hz => ?_, ih⟩
    rcases List.mem_cons.1 hz with rfl | hz
    · exact h.1
    · exact litLt_trans h.1 ((List.pairwise_cons.1 ih).1 z hz)
theorem coV_iff {c : T_Commitment} : coV c = true ↔ vName c.1.2 = true ∧ ∀ x ∈ c.2.2.2, vName x.2 = true := by
  unfold coV
  rw [Bool.and_eq_true, List.all_eq_true]
theorem comE_zero {s : List (List T_Commitment)} : comE s = 0 ↔ OkS s := by
  have h0 : comE s = 0 ↔ decide (6 < s.length) = false ∧ (s.any fun l => decide (40 < l.length)) = false ∧ (s.any fun l => l.any fun c => decide (6 < c.2.2.2.length)) = false ∧ (s.any fun l => l.any fun c => !coV c) = false ∧ (s.any fun l => !ascB (clm l)) = false ∧ (s.any fun l => l.any fun c => !ascB c.2.2.2) = false ∧ (s.any fun l => l.any coS) = false ∧ (s.any fun l => !consistent (clm l)) = false := by
    unfold comE
    generalize decide (6 < s.length) = b0
    generalize (s.any fun l => decide (40 < l.length)) = b1
    generalize (s.any fun l => l.any fun c => decide (6 < c.2.2.2.length)) = b2
    generalize (s.any fun l => l.any fun c => !coV c) = b3
    generalize (s.any fun l => !ascB (clm l)) = b4
    generalize (s.any fun l => l.any fun c => !ascB c.2.2.2) = b5
    generalize (s.any fun l => l.any coS) = b6
    generalize (s.any fun l => !consistent (clm l)) = b7
    cases b0 <;> cases b1 <;> cases b2 <;> cases b3 <;> cases b4 <;> cases b5 <;> cases b6 <;> cases b7 <;> decide
  rw [h0]
  simp only [List.any_eq_false]
  constructor
  · rintro ⟨a0, a1, a2, a3, a4, a5, a6, a7⟩
    refine ⟨by have := of_decide_eq_false a0; omega, fun l hl => ⟨?_, fun c hc => ⟨?_, ?_, ?_, ?_, ?_⟩, ?_, ?_⟩⟩
    · have := a1 l hl; simp at this; exact this
    · have := a2 l hl; simp only [List.any_eq_false, Bool.not_eq_true] at this; have := this c hc; simp at this; exact this
    · have := a3 l hl; simp only [List.any_eq_false, Bool.not_eq_true, Bool.not_eq_false'] at this; exact (coV_iff.1 (this c hc)).1
    · have := a3 l hl; simp only [List.any_eq_false, Bool.not_eq_true, Bool.not_eq_false'] at this; exact (coV_iff.1 (this c hc)).2
    · have := a5 l hl; simp only [List.any_eq_false, Bool.not_eq_true] at this; have := this c hc; simpa using this
    · have := a6 l hl; simp only [List.any_eq_false, Bool.not_eq_true] at this; exact this c hc
    · have := a4 l hl; simp at this; exact asc_of_ascB this
    · have := a7 l hl
      simp only [Bool.not_eq_true', Bool.not_eq_false, consistent, List.all_eq_true] at this
      intro x hx hn
      have := this x hx
      simp [hn] at this
  · rintro ⟨h6, h⟩
    refine ⟨decide_eq_false (by omega), fun l hl => ?_, fun l hl => ?_, fun l hl => ?_, fun l hl => ?_, fun l hl => ?_, fun l hl => ?_, fun l hl => ?_⟩
    · have := (h l hl).n; simp; omega
    · simp only [Bool.not_eq_true, List.any_eq_false]; intro c hc; have := ((h l hl).c c hc).1; simp; omega
    · simp only [Bool.not_eq_true, List.any_eq_false]; intro c hc; obtain ⟨_, h2, h3, _⟩ := (h l hl).c c hc; rw [coV_iff.2 ⟨h2, h3⟩]; rfl
    · rw [ascB_of (h l hl).asc]; simp
    · simp only [Bool.not_eq_true, List.any_eq_false]; intro c hc; rw [((h l hl).c c hc).2.2.2.1]; rfl
    · simp only [Bool.not_eq_true, List.any_eq_false]; exact fun c hc => ((h l hl).c c hc).2.2.2.2
    · have := (h l hl).con
      have hc : consistent (clm l) = true := by
        unfold consistent
        rw [List.all_eq_true]
        intro x hx
        simpa using this x hx
      rw [hc]; simp
theorem OkS.cnt {s : List (List T_Commitment)} (h : OkS s) : CntS s :=
  ⟨by have := h.1; omega, fun l hl => by have := (h.2 l hl).n; omega, fun l hl c hc => by have := ((h.2 l hl).c c hc).1; omega⟩
/-- what putting in does -/
structure Put (l : List T_Commitment) (c : T_Commitment) (r : List T_Commitment) : Prop where
  asc : Asc litLt (clm r)
  mem : ∀ y ∈ r, y = c ∨ y ∈ l
  clm : ∀ x, x ∈ clm r ↔ x = c.1 ∨ x ∈ clm l
  len : r.length ≤ l.length + 1
  same : c.1 ∈ Go.GD.clm l → r.length ≤ l.length
theorem put_of {l a b : List T_Commitment} {c : T_Commitment} {m : List T_Commitment} (hl : l = a ++ m ++ b) (hm : m = [] ∨ ∃ y, m = [y] ∧ y.1 = c.1) (ha : ∀ y ∈ a, litLt y.1 c.1 = true) (hb : ∀ y ∈ b, litLt c.1 y.1 = true) (h : Asc litLt (clm l)) : Put l c (a ++ [c] ++ b) := by
  have hac : Asc litLt (clm (a ++ [c] ++ b)) := by
    rw [hl] at h
    unfold clm at h ⊢
    simp only [List.map_append, List.map_cons, List.map_nil] at h ⊢
    rw [List.append_assoc] at h
    obtain ⟨h1, h2, h3⟩ := List.pairwise_append.1 h
    obtain ⟨_, h5, _⟩ := List.pairwise_append.1 h2
    rw [List.append_assoc]
    refine List.pairwise_append.2 ⟨h1, List.pairwise_append.2 ⟨List.pairwise_singleton _ _, h5, fun x hx y hy => ?_⟩, fun x hx y hy => ?_⟩
    · simp only [List.mem_singleton] at hx
      subst hx
      obtain ⟨z, hz, rfl⟩ := List.mem_map.1 hy
      exact hb z hz
    · rcases List.mem_append.1 hy with hy | hy
      · simp only [List.mem_singleton] at hy
        subst hy
        obtain ⟨z, hz, rfl⟩ := List.mem_map.1 hx
        exact ha z hz
      · exact h3 x hx y (List.mem_append_right _ hy)
  refine ⟨hac, fun y hy => ?_, fun x => ?_, ?_, fun hin => ?_⟩
  · rw [hl]
    simp only [List.mem_append, List.mem_singleton] at hy ⊢
    rcases hy with (hy | hy) | hy
    · exact .inr (.inl (.inl hy))
    · exact .inl hy
    · exact .inr (.inr hy)
  · rw [hl]
    unfold Go.GD.clm
    simp only [List.map_append, List.mem_append, List.map_cons, List.map_nil, List.mem_singleton]
    rcases hm with rfl | ⟨y, rfl, hy⟩
    · simp only [List.map_nil, List.not_mem_nil, or_false]
      constructor
      · rintro ((h | h) | h)
        · exact .inr (.inl h)
        · exact .inl h
        · exact .inr (.inr h)
      · rintro (h | h | h)
        · exact .inl (.inr h)
        · exact .inl (.inl h)
        · exact .inr h
    · simp only [List.map_cons, List.map_nil, List.mem_singleton, hy]
      constructor
      · rintro ((h | h) | h)
        · exact .inr (.inl (.inl h))
        · exact .inl h
        · exact .inr (.inr h)
      · rintro (h | (h | h) | h)
        · exact .inl (.inr h)
        · exact .inl (.inl h)
        · exact .inl (.inr h)
        · exact .inr h
  · rw [hl]
    simp only [List.length_append, List.length_singleton]
    omega
  · rcases hm with rfl | ⟨y, rfl, hy⟩
    · exfalso
      rw [hl] at hin
      unfold Go.GD.clm at hin
      simp only [List.append_nil, List.map_append, List.mem_append, List.mem_map] at hin
      rcases hin with ⟨z, hz, he⟩ | ⟨z, hz, he⟩
      · have := ha z hz; rw [he, litLt_irrefl] at this; cases this
      · have := hb z hz; rw [he, litLt_irrefl] at this; cases this
    · rw [hl]
      simp only [List.length_append, List.length_singleton]
      omega
theorem r26_with {l : List T_Commitment} (hn : l.length ≤ 1000) (h : Asc litLt (clm l)) (c : T_Commitment) : Ok (m_ref26_with l c) (Put l c) := by
  have hloop : ∃ r : List T_Commitment × Int, loop (m_ref26_with_L1 l c) (([] : List T_Commitment), 0) = some r ∧ ∃ n : Nat, r = (l.take n, (n : Int)) ∧ n ≤ l.length ∧ (∀ y ∈ l.take n, litLt y.1 c.1 = true) ∧ ∀ y, l[n]? = some y → litLt y.1 c.1 = false := by
    refine loop_forI (B := m_ref26_with_L1 l c) (fun i (_ : Unit) => (l.take i, (i : Int))) l (fun i _ => ∀ y ∈ l.take i, litLt y.1 c.1 = true) _ (fun i y s hy hI => ?_) (fun s hI => ?_) () (by simp)
    · have hi := at_lt hy
      unfold m_ref26_with_L1
      simp only [at_dec hy, if_true, at_idx hy, Option.bind_some, ref_compare, litCmp_neg]
      cases hc : litLt y.1 c.1 with
      | true =>
        refine .inl ⟨(), ?_, fun z hz => ?_⟩
        · simp only [if_true]
          rw [app_ok (show (l.take i).length + ([y] : List T_Commitment).length < 4294967296 by simp; omega), Option.bind_some, at_suc hy (by omega), take_suc hy]
        · rw [take_suc hy] at hz
          rcases List.mem_append.1 hz with hz | hz
          · exact hI z hz
          · simp only [List.mem_singleton] at hz; subst hz; exact hc
      | false => exact .inr ⟨_, rfl, i, rfl, by omega, hI, fun z hz => by rw [hy] at hz; cases hz; exact hc⟩
    · refine ⟨_, ?_, l.length, rfl, Nat.le_refl _, hI, fun y hy => by simp at hy⟩
      unfold m_ref26_with_L1
      simp only [end_dec, Bool.false_eq_true, if_false, Option.bind_some]
  obtain ⟨_, hk, n, rfl, hn2, hlo, hhi⟩ := hloop
  unfold m_ref26_with
  rw [hk, Option.bind_some]
  dsimp only
  rw [app_ok (show (l.take n).length + ([c] : List T_Commitment).length < 4294967296 by simp; omega), Option.bind_some]
  have hcut : ∀ k : Nat, k ≤ l.length → (sub l (k : Int) (len l)).bind (fun x6 => (app (l.take n ++ [c]) x6).bind fun x7 => some x7) = some (l.take n ++ [c] ++ l.drop k) := fun k hk => by
    rw [sub_suf (by omega) (by omega), Option.bind_some, Int.toNat_natCast, app_ok (show (l.take n ++ [c]).length + (l.drop k).length < 4294967296 by simp; omega), Option.bind_some]
  cases hy : l[n]? with
  | none =>
    have hge : l.length ≤ n := List.getElem?_eq_none_iff.1 hy
    have hd : decide ((n : Int) < len l) = false := decide_eq_false (show ¬ (n : Int) < (l.length : Int) by omega)
    simp only [hd, Bool.false_eq_true, if_false, Option.bind_some]
    rw [hcut n (by omega)]
    refine .ret (put_of (m := []) ?_ (.inl rfl) hlo (fun y hy => ?_) h)
    · rw [List.append_nil, List.take_append_drop]
    · rw [List.drop_of_length_le hge] at hy; cases hy
  | some y =>
    have hlt := hhi y hy
    have hdn : l.drop n = y :: l.drop (n + 1) := by
      have := (List.getElem?_eq_some_iff.1 hy)
      rw [List.drop_eq_getElem_cons this.1, this.2]
    have hal : ∀ z ∈ l.drop (n + 1), litLt y.1 z.1 = true := fun z hz => by
      have h2 : Asc litLt (clm (l.drop n)) := by unfold clm; rw [List.map_drop]; exact List.Pairwise.sublist (List.drop_sublist _ _) h
      rw [hdn] at h2
      exact (List.pairwise_cons.1 h2).1 z.1 (List.mem_map.2 ⟨z, hz, rfl⟩)
    simp only [at_dec hy, if_true, at_idx hy, Option.bind_some]
    by_cases he : y.1 = c.1
    · have : (y.1 == c.1) = true := by simpa using he
      simp only [this, if_true, Option.bind_some, at_suc hy (show l.length < 4294967296 by omega)]
      rw [hcut (n + 1) (by have := at_lt hy; omega)]
      refine .ret (put_of (m := [y]) ?_ (.inr ⟨y, rfl, he⟩) hlo (fun z hz => he ▸ hal z hz) h)
      rw [List.append_assoc, List.singleton_append, ← hdn, List.take_append_drop]
    · have : (y.1 == c.1) = false := by simpa using he
      simp only [this, Bool.false_eq_true, if_false, Option.bind_some]
      rw [hcut n hn2]
      have hcy : litLt c.1 y.1 = true := by
        rcases litLt_tri c.1 y.1 with h | h | h
        · exact h
        · exact absurd h.symm he
        · rw [hlt] at h; cases h
      refine .ret (put_of (m := []) ?_ (.inl rfl) hlo (fun z hz => ?_) h)
      · rw [List.append_nil, List.take_append_drop]
      · rw [hdn] at hz
        rcases List.mem_cons.1 hz with rfl | hz
        · exact hcy
        · exact litLt_trans hcy (hal z hz)
theorem compl_ne (x : T_Literal) : compl x ≠ x := fun h => by
  have := congrArg Prod.fst h
  simp [compl] at this
theorem put_ok {l : List T_Commitment} {c : T_Commitment} {r : List T_Commitment} (h : OkSt l) (hc : OkC c) (hn : compl c.1 ∉ clm l) (hl : c.1 ∈ clm l ∨ l.length < 40) (p : Put l c r) : OkSt r := by
  refine ⟨?_, fun y hy => ?_, p.asc, fun x hx hy => ?_⟩
  · rcases hl with hl | hl
    · have := p.same hl; have := h.n; omega
    · have := p.len; omega
  · rcases p.mem y hy with rfl | hy
    · exact hc
    · exact h.c y hy
  · rcases (p.clm _).1 hx with rfl | hx <;> rcases (p.clm _).1 hy with hy | hy
    · exact compl_ne _ hy
    · exact hn hy
    · rw [← hy, compl_compl] at hn; exact hn hx
    · exact h.con x hx hy
theorem Ok.with {l : List T_Commitment} {c : T_Commitment} (h : OkSt l) (hc : OkC c) (hn : compl c.1 ∉ clm l) (hl : c.1 ∈ clm l ∨ l.length < 40) : Ok (m_ref26_with l c) fun r => OkSt r ∧ Put l c r :=
  (r26_with (by have := h.n; omega) h.asc c).imp fun _ p => ⟨put_ok h hc hn hl p, p⟩
theorem Ok.set26 {s : List (List T_Commitment)} {i : Int} {l : List T_Commitment} (h : OkS s) (h0 : 0 ≤ i) (h1 : i < s.length) (hl : OkSt l) : Ok (m_ref26_set s i l) fun r => OkS r ∧ r.length = s.length := by
  have h6 := h.1
  unfold m_ref26_set
  rw [app_nil_ok (by omega), Option.bind_some]
  refine .bind (.idx h0 h1) fun _ _ => .ret ⟨⟨by simp; omega, fun y hy => ?_⟩, by simp⟩
  rcases mem_set_of hy with rfl | hy
  · exact hl
  · exact h.2 y hy
/-- one commitment without grounds -/
theorem okC_of {x : T_Literal} {a b : Bool} (h : vName x.2 = true) (hab : (a && b) = false) : OkC (x, a, b, []) :=
  ⟨by simp, h, by simp, rfl, by unfold coS; simpa using hab⟩
section
variable {s : List (List T_Commitment)} {x : T_Speech} (h : OkS s) (hv : vName x.2.2.2.1.2 = true)
abbrev SayQ (s : List (List T_Commitment)) (r : List (List T_Commitment) × Int) : Prop := r.2 = 0 → OkS r.1 ∧ r.1.length = s.length
include h
theorem st_at {i : Int} (h0 : 0 ≤ i) (h1 : i < s.length) : ∃ l, idx s i = some l ∧ l ∈ s ∧ OkSt l := by
  obtain ⟨l, e, hl⟩ := idx_some h0 h1
  exact ⟨l, e, List.mem_of_getElem? hl, h.2 l (List.mem_of_getElem? hl)⟩
include hv
theorem Ok.assert26 (h0 : 0 ≤ x.2.1) (h1 : x.2.1 < s.length) : Ok (m_ref26_assert s x) (SayQ s) := by
  obtain ⟨l, e, _, hl⟩ := st_at h h0 h1
  have hn := hl.n
  unfold m_ref26_assert
  rw [e, Option.bind_some, r26_find _ (by omega), Option.bind_some]
  refine .bind (I := fun _ => True) (.ite (fun hk => ?_) fun _ => .ret trivial) fun b _ => .ite (fun _ => .ret (by intro h; cases h)) fun _ => ?_
  · obtain ⟨k, c, e2, hc, _⟩ := fidx_at (of_decide_eq_true hk)
    refine .bind (I := fun _ => True) ?_ fun _ _ => .ret trivial
    unfold plc
    rw [e2, at_idx hc]
    exact .ret trivial
  · rw [show m_ref26_not x.2.2.2.1 = some (compl x.2.2.2.1) from rfl, Option.bind_some, r26_find _ (by omega), Option.bind_some]
    refine .ite (fun _ => .ret (by intro h; cases h)) fun hk => .ite (fun _ => .ret (by intro h; cases h)) fun hf => ?_
    have hc : compl x.2.2.2.1 ∉ clm l := plc_neg.1 (by have := of_decide_eq_false hk; omega)
    refine .bind (Ok.with hl (okC_of hv rfl) hc ?_) fun r hr => .bind (Ok.set26 h h0 h1 hr.1) fun z hz => .ret fun _ => hz
    by_cases hm : x.2.2.2.1 ∈ clm l
    · exact .inl hm
    · right
      rw [decide_eq_true (plc_neg.2 hm), Bool.true_and] at hf
      have : ¬ (40 : Int) ≤ (l.length : Int) := of_decide_eq_false hf
      omega
theorem Ok.challenge26 (h0 : 0 ≤ x.2.1) (h1 : x.2.1 < s.length) (h2 : 0 ≤ x.2.2.1) (h3 : x.2.2.1 < s.length) : Ok (m_ref26_challenge s x) (SayQ s) := by
  obtain ⟨l, e, _, hl⟩ := st_at h h2 h3
  obtain ⟨l', e', _, hl'⟩ := st_at h h0 h1
  have hn := hl.n
  have hn' := hl'.n
  unfold m_ref26_challenge
  refine .ite (fun _ => .ret (by intro h; cases h)) fun _ => ?_
  rw [e, Option.bind_some, r26_find _ (by omega), Option.bind_some]
  by_cases hp : plc l x.2.2.2.1 < 0
  · rw [decide_eq_true hp]
    exact .ret (by intro h; cases h)
  · rw [decide_eq_false hp]
    have hin : x.2.2.2.1 ∈ clm l := Classical.byContradiction fun hq => hp (plc_neg.2 hq)
    obtain ⟨k, c, e2, hc, _⟩ := fidx_at (Int.not_lt.1 hp)
    have hid : Go.GD.idx l (plc l x.2.2.2.1) = some c := by unfold plc; rw [e2, at_idx hc]
    simp only [Bool.false_eq_true, if_false, hid, Option.bind_some]
    refine .ite (fun _ => .ret (by intro h; cases h)) fun _ => .ite (fun _ => .ret (by intro h; cases h)) fun _ => ?_
    rw [e', Option.bind_some, r26_find _ (by omega), Option.bind_some]
    refine .ite (fun _ => .ret (by intro h; cases h)) fun _ => ?_
    exact .bind (Ok.with hl (okC_of hv rfl) (hl.con _ hin) (.inl hin)) fun r hr => .bind (Ok.set26 h h2 h3 hr.1) fun z hz => .ret fun _ => hz
theorem Ok.concede26 (h0 : 0 ≤ x.2.1) (h1 : x.2.1 < s.length) : Ok (m_ref26_concede s x) (SayQ s) := by
  obtain ⟨l, e, _, hl⟩ := st_at h h0 h1
  have hn := hl.n
  have h6 := h.1
  unfold m_ref26_concede
  rw [e, Option.bind_some]
  refine .bind (I := fun _ => True) ?_ fun b _ => ?_
  · refine Ok.forI (fun i (b : Bool) => (b, (i : Int))) s (fun _ _ => True) _ (fun i y b hy _ => ?_) (fun b _ => ?_) false trivial
    · unfold m_ref26_concede_L1
      simp only [at_dec hy, if_true, at_idx hy, Option.bind_some]
      refine .bind (I := fun _ => True) (.ite (fun _ => .ret trivial) fun _ => .ite (fun _ => ?_) fun _ => .ret trivial) fun b' _ => .ret ⟨b', by rw [at_suc hy (by omega)], trivial⟩
      rw [r26_find _ (by have := (h.2 y (mem_at hy)).n; omega)]
      exact .ret trivial
    · unfold m_ref26_concede_L1
      simp only [end_dec, Bool.false_eq_true, if_false]
      exact .ret trivial
  · rw [r26_find _ (by omega), Option.bind_some]
    refine .ite (fun _ => .ret (by intro h; cases h)) fun _ => .ite (fun _ => .ret (by intro h; cases h)) fun _ => ?_
    rw [show m_ref26_not x.2.2.2.1 = some (compl x.2.2.2.1) from rfl, Option.bind_some, r26_find _ (by omega), Option.bind_some]
    refine .ite (fun _ => .ret (by intro h; cases h)) fun hk => .ite (fun _ => .ret (by intro h; cases h)) fun hf => ?_
    have hc : compl x.2.2.2.1 ∉ clm l := plc_neg.1 (by have := of_decide_eq_false hk; omega)
    have : ¬ (40 : Int) ≤ (l.length : Int) := of_decide_eq_false hf
    exact .bind (Ok.with hl (okC_of hv rfl) hc (.inr (by omega))) fun r hr => .bind (Ok.set26 h h0 h1 hr.1) fun z hz => .ret fun _ => hz
omit hv in
theorem Ok.retract26 (h0 : 0 ≤ x.2.1) (h1 : x.2.1 < s.length) : Ok (m_ref26_retract s x) (SayQ s) := by
  obtain ⟨l, e, _, hl⟩ := st_at h h0 h1
  have hn := hl.n
  unfold m_ref26_retract
  rw [e, Option.bind_some, r26_find _ (by omega), Option.bind_some]
  refine .ite (fun _ => .ret (by intro h; cases h)) fun _ => ?_
  refine .bind (I := fun r => OkSt r) ?_ fun r hr => .bind (Ok.set26 h h0 h1 hr) fun z hz => .ret fun _ => hz
  refine Ok.forI (fun i (o : List T_Commitment) => (o, (i : Int))) l (fun i o => o.length ≤ i ∧ (∀ c ∈ o, OkC c) ∧ (clm o).Sublist (clm (l.take i))) _ (fun i y o hy hI => ?_) (fun o hI => ?_) [] ⟨by simp, by simp, by simp [clm]⟩
  · have hi := at_lt hy
    obtain ⟨i1, i2, i3⟩ := hI
    have hyc := hl.c y (mem_at hy)
    have hct : clm (l.take (i + 1)) = clm (l.take i) ++ [y.1] := by rw [take_suc hy]; simp [clm]
    unfold m_ref26_retract_L1
    simp only [at_dec hy, if_true, at_idx hy, Option.bind_some]
    refine .ite (fun _ => .ret ⟨o, by rw [at_suc hy (by omega)], by omega, i2, by rw [hct]; exact i3.trans (List.sublist_append_left _ _)⟩) fun _ => ?_
    refine .bind (I := fun z => OkC (y.1, z.1, z.2.1, z.2.2)) ?_ fun z hz => ?_
    · rw [r26_in _ (by have := hyc.1; omega), Option.bind_some]
      exact .ite (fun _ => .ret (okC_of hyc.2.1 rfl)) fun _ => .ret hyc
    · rw [app_ok (show o.length + ([(y.1, z.1, z.2.1, z.2.2)] : List T_Commitment).length < 4294967296 by simp; omega), Option.bind_some]
      refine .ret ⟨_, by rw [at_suc hy (by omega)], by simp; omega, fun c hc => ?_, ?_⟩
      · rcases List.mem_append.1 hc with hc | hc
        · exact i2 c hc
        · simp only [List.mem_singleton] at hc; subst hc; exact hz
      · rw [hct]
        unfold clm at i3 ⊢
        simp only [List.map_append, List.map_cons, List.map_nil]
        exact List.Sublist.append i3 (List.Sublist.refl _)
  · obtain ⟨i1, i2, i3⟩ := hI
    rw [List.take_length] at i3
    unfold m_ref26_retract_L1
    simp only [end_dec, Bool.false_eq_true, if_false]
    exact .ret ⟨by omega, i2, List.Pairwise.sublist i3 hl.asc, fun z hz hz2 => hl.con z (i3.subset hz) (i3.subset hz2)⟩
end
end
section
/-- grounds that may be given -/
structure GrOk (l : List T_Commitment) (g : List T_Literal) (x : T_Literal) : Prop where
  n : g.length ≤ 6
  v : ∀ y ∈ g, vName y.2 = true
  asc : ascB g = true
  ne : x ∉ g
  con : ∀ y ∈ g, compl y ∉ clm l ∧ compl y ∉ g
  room : l.length + (g.filter fun y => !decide (y ∈ clm l)).length ≤ 40
theorem Ok.grounds26 {l : List T_Commitment} (x : T_Speech) (hl : OkSt l) : Ok (m_ref26_grounds l x) fun e => e = 0 → GrOk l x.2.2.2.2 x.2.2.2.1 := by
  have hn := hl.n
  unfold m_ref26_grounds
  refine .ite (fun _ => .ret (by intro h; cases h)) fun _ => .ite (fun _ => .ret (by intro h; cases h)) fun h6 => ?_
  have h6 : ¬ (6 : Int) < (x.2.2.2.2.length : Int) := of_decide_eq_false h6
  have hg6 : x.2.2.2.2.length ≤ 6 := by omega
  have h1 := loop_find (B := m_ref26_grounds_L1 x) x.2.2.2.2 (fun y => !vName y.2) (.inr 3 : Unit ⊕ Int) (.inl ()) (fun i y hy => by
    unfold m_ref26_grounds_L1
    simp only [at_dec hy, if_true, at_idx hy, Option.bind_some, ref_valid, at_suc hy (show x.2.2.2.2.length < 4294967296 by omega)]
    cases vName y.2 <;> rfl) (by unfold m_ref26_grounds_L1; simp only [end_dec, Bool.false_eq_true, if_false])
  rw [h1]
  cases hv : x.2.2.2.2.any fun y => !vName y.2 with
  | true => exact ⟨3, rfl, by intro h; cases h⟩
  | false =>
    simp only [Bool.false_eq_true, if_false, Option.bind_some, r26_asc (show x.2.2.2.2.length ≤ 1000 by omega), r26_in _ (show x.2.2.2.2.length ≤ 1000 by omega)]
    refine .ite (fun _ => .ret (by intro h; cases h)) fun ha => .ite (fun _ => .ret (by intro h; cases h)) fun hi => ?_
    refine .bind (I := fun o => match o with
      | .inl m => (∀ y ∈ x.2.2.2.2, compl y ∉ clm l ∧ compl y ∉ x.2.2.2.2) ∧ m = ((x.2.2.2.2.filter fun y => !decide (y ∈ clm l)).length : Int)
      | .inr e => e = 10) ?_ fun o ho => ?_
    · refine Ok.forI (fun i (m : Int) => (m, (i : Int))) x.2.2.2.2 (fun i m => (∀ y ∈ x.2.2.2.2.take i, compl y ∉ clm l ∧ compl y ∉ x.2.2.2.2) ∧ m = (((x.2.2.2.2.take i).filter fun y => !decide (y ∈ clm l)).length : Int)) _ (fun i y m hy hI => ?_) (fun m hI => ?_) 0 ⟨by simp, by simp⟩
      · have hi' := at_lt hy
        obtain ⟨i1, i2⟩ := hI
        unfold m_ref26_grounds_L2
        simp only [at_dec hy, if_true, at_idx hy, Option.bind_some, show m_ref26_not y = some (compl y) from rfl, r26_find _ (show l.length ≤ 1000 by omega), r26_in _ (show x.2.2.2.2.length ≤ 1000 by omega)]
        refine .bind (I := fun b => b = false → compl y ∉ clm l ∧ compl y ∉ x.2.2.2.2) (.ite (fun _ => .ret (by intro h; cases h)) fun h0 => .ret fun h1 => ⟨plc_neg.1 (by have := of_decide_eq_false h0; omega), by simpa using h1⟩) fun b hb => .ite (fun _ => .ret rfl) fun h2 => ?_
        have hc := hb h2
        have htk : ∀ z ∈ x.2.2.2.2.take (i + 1), compl z ∉ clm l ∧ compl z ∉ x.2.2.2.2 := fun z hz => by
          rw [take_suc hy] at hz
          rcases List.mem_append.1 hz with hz | hz
          · exact i1 z hz
          · simp only [List.mem_singleton] at hz; subst hz; exact hc
        have hlen : ((x.2.2.2.2.take i).filter fun y => !decide (y ∈ clm l)).length ≤ 6 := Nat.le_trans (List.length_filter_le _ _) (by rw [List.length_take]; omega)
        refine .ite (fun h3 => .ret ⟨m + 1, by rw [w64_id (by omega) (by omega), at_suc hy (by omega)], htk, ?_⟩) fun h3 => .ret ⟨m, by rw [at_suc hy (by omega)], htk, ?_⟩
        · have : y ∉ clm l := plc_neg.1 (of_decide_eq_true h3)
          rw [take_suc hy, List.filter_append, i2]
          simp [this]
        · have : y ∈ clm l := Classical.byContradiction fun hq => by have := plc_neg.2 hq; have := of_decide_eq_false h3; omega
          rw [take_suc hy, List.filter_append, i2]
          simp [this]
      · unfold m_ref26_grounds_L2
        simp only [end_dec, Bool.false_eq_true, if_false]
        rw [List.take_length] at hI
        exact .ret hI
    · cases o with
      | inr e => exact ⟨e, rfl, by dsimp only at ho; subst ho; intro h; cases h⟩
      | inl m =>
        obtain ⟨o1, o2⟩ := ho
        dsimp only
        refine .ite (fun _ => .ret (by intro h; cases h)) fun h40 => .ret fun _ => ?_
        have hfl : (x.2.2.2.2.filter fun y => !decide (y ∈ clm l)).length ≤ 6 := Nat.le_trans (List.length_filter_le _ _) hg6
        have h40 : ¬ (40 : Int) < w64 ((l.length : Int) + m) := of_decide_eq_false h40
        rw [o2, w64_id (by omega) (by omega)] at h40
        refine ⟨hg6, fun y hy => ?_, by simpa using ha, by simpa using hi, o1, by omega⟩
        have := List.any_eq_false.1 hv y hy
        simpa using this
section
variable {s : List (List T_Commitment)} {x : T_Speech} (h : OkS s) (hv : vName x.2.2.2.1.2 = true)
include h hv
theorem Ok.argue26 (h0 : 0 ≤ x.2.1) (h1 : x.2.1 < s.length) : Ok (m_ref26_argue s x) (SayQ s) := by
  obtain ⟨l, e, _, hl⟩ := st_at h h0 h1
  have hn := hl.n
  unfold m_ref26_argue
  rw [e, Option.bind_some, r26_find _ (by omega), Option.bind_some]
  by_cases hp : plc l x.2.2.2.1 < 0
  · rw [decide_eq_true hp]
    exact .ret (by intro h; cases h)
  · rw [decide_eq_false hp]
    have hin : x.2.2.2.1 ∈ clm l := Classical.byContradiction fun hq => hp (plc_neg.2 hq)
    obtain ⟨k, c, e2, hc, _⟩ := fidx_at (Int.not_lt.1 hp)
    have hid : Go.GD.idx l (plc l x.2.2.2.1) = some c := by unfold plc; rw [e2, at_idx hc]
    simp only [Bool.false_eq_true, if_false, hid, Option.bind_some]
    refine .ite (fun _ => .ret (by intro h; cases h)) fun _ => ?_
    refine .bind (Ok.grounds26 x hl) fun e he => .ite (fun h2 => .ret fun h3 => ?_) fun h2 => ?_
    · dsimp only at h3
      rw [h3] at h2
      cases h2
    · have g := he (by simpa using h2)
      have hg6 := g.n
      rw [app_nil_ok (by omega), Option.bind_some]
      have hcx : OkC (x.2.2.2.1, false, false, x.2.2.2.2) := ⟨hg6, hv, g.v, g.asc, by
        unfold coS
        have := g.ne
        simpa using this⟩
      refine .bind (Ok.with hl hcx (hl.con _ hin) (.inl hin)) fun r hr => ?_
      refine .bind (I := fun r => OkSt r) ?_ fun r hr => .bind (Ok.set26 h h0 h1 hr) fun z hz => .ret fun _ => hz
      have hsub : ∀ i, ((x.2.2.2.2.take i).filter fun y => !decide (y ∈ clm l)).length ≤ (x.2.2.2.2.filter fun y => !decide (y ∈ clm l)).length := fun i => List.Sublist.length_le (List.Sublist.filter _ (List.take_sublist _ _))
      refine Ok.forI (fun i (r : List T_Commitment) => (r, (i : Int))) x.2.2.2.2 (fun i r => OkSt r ∧ (∀ z ∈ clm r, z ∈ clm l ∨ z ∈ x.2.2.2.2.take i) ∧ (∀ z ∈ clm l, z ∈ clm r) ∧ r.length ≤ l.length + ((x.2.2.2.2.take i).filter fun y => !decide (y ∈ clm l)).length) _ (fun i y r hy hI => ?_) (fun r hI => ?_) r ⟨hr.1, fun z hz => ?_, fun z hz => (hr.2.clm z).2 (.inr hz), by have := hr.2.same hin; omega⟩
      · obtain ⟨i1, i2, i3, i4⟩ := hI
        have hi' := at_lt hy
        have hym := mem_at hy
        have hrn := i1.n
        have hmono : ∀ z ∈ x.2.2.2.2.take i, z ∈ x.2.2.2.2.take (i + 1) := fun z hz => by rw [take_suc hy]; exact List.mem_append_left _ hz
        unfold m_ref26_argue_L1
        simp only [at_dec hy, if_true, at_idx hy, Option.bind_some, r26_find _ (show r.length ≤ 1000 by omega)]
        refine .ite (fun h3 => ?_) fun _ => .ret ⟨r, by rw [at_suc hy (by omega)], i1, fun z hz => (i2 z hz).imp_right (hmono z), i3, ?_⟩
        · have hyr : y ∉ clm r := plc_neg.1 (of_decide_eq_true h3)
          have hyl : y ∉ clm l := fun hq => hyr (i3 y hq)
          have hcnt : ((x.2.2.2.2.take (i + 1)).filter fun y => !decide (y ∈ clm l)).length = ((x.2.2.2.2.take i).filter fun y => !decide (y ∈ clm l)).length + 1 := by
            rw [take_suc hy, List.filter_append]
            simp [hyl]
          have h5 := hsub (i + 1)
          have h6 := g.room
          have hcy := g.con y hym
          refine .bind (Ok.with i1 (okC_of (g.v y hym) rfl) (fun hq => ?_) (.inr (by omega))) fun r' hr' => .ret ⟨r', by rw [at_suc hy (by omega)], hr'.1, fun z hz => ?_, fun z hz => (hr'.2.clm z).2 (.inr (i3 z hz)), by have := hr'.2.len; omega⟩
          · rcases i2 _ hq with hq | hq
            · exact hcy.1 hq
            · exact hcy.2 (List.mem_of_mem_take hq)
          · rcases (hr'.2.clm z).1 hz with rfl | hz
            · right; rw [take_suc hy]; simp
            · exact (i2 z hz).imp_right (hmono z)
        · have : ((x.2.2.2.2.take i).filter fun y => !decide (y ∈ clm l)).length ≤ ((x.2.2.2.2.take (i + 1)).filter fun y => !decide (y ∈ clm l)).length := by
            rw [take_suc hy, List.filter_append, List.length_append]; omega
          omega
      · unfold m_ref26_argue_L1
        simp only [end_dec, Bool.false_eq_true, if_false]
        exact .ret hI.1
      · rcases (hr.2.clm z).1 hz with rfl | hz
        · exact .inl hin
        · exact .inl hz
end
theorem Ok.Say26 {s : List (List T_Commitment)} (h : OkS s) (x : T_Speech) : Ok (m_ref26_Say s x) (SayQ s) := by
  unfold m_ref26_Say
  rw [r26_Validate h.cnt, comE_zero.2 h, Option.bind_some]
  simp only [bne_self_eq_false, Bool.false_eq_true, if_false]
  refine .ite (fun _ => .ret (by intro h; cases h)) fun _ => ?_
  have hmb : ∀ i : Int, m_ref26_member s i = some (decide (0 ≤ i) && decide (i < len s)) := fun i => rfl
  refine .bind (I := fun b => b = false → (0 ≤ x.2.1 ∧ x.2.1 < s.length) ∧ ((x.1 == 2) = true → 0 ≤ x.2.2.1 ∧ x.2.2.1 < s.length)) ?_ fun b hb => .ite (fun _ => .ret (by intro h; cases h)) fun h2 => ?_
  · rw [hmb, Option.bind_some]
    refine .ite (fun _ => .ret (by intro h; cases h)) fun h3 => ?_
    have hm : ∀ i : Int, (!(decide (0 ≤ i) && decide (i < len s))) = false → 0 ≤ i ∧ i < s.length := fun i hi => by
      rw [Bool.not_eq_false', Bool.and_eq_true] at hi
      exact ⟨of_decide_eq_true hi.1, of_decide_eq_true hi.2⟩
    refine .ite (fun _ => ?_) fun h4 => .ret fun _ => ⟨hm _ h3, fun h5 => by rw [h4] at h5; cases h5⟩
    rw [hmb, Option.bind_some]
    exact .ret fun h5 => ⟨hm _ h3, fun _ => hm _ h5⟩
  · obtain ⟨⟨h0, h1⟩, h3⟩ := hb h2
    rw [ref_valid, Option.bind_some]
    refine .ite (fun _ => .ret (by intro h; cases h)) fun h4 => ?_
    have hv : vName x.2.2.2.1.2 = true := by simpa using h4
    refine .ite (fun _ => .bind (Ok.assert26 h hv h0 h1) fun r hr => .ret hr) fun _ => .ite (fun h5 => .bind (Ok.challenge26 h hv h0 h1 (h3 h5).1 (h3 h5).2) fun r hr => .ret hr) fun _ => .ite (fun _ => .bind (Ok.argue26 h hv h0 h1) fun r hr => .ret hr) fun _ => .ite (fun _ => .bind (Ok.concede26 h hv h0 h1) fun r hr => .ret hr) fun _ => .bind (Ok.retract26 h h0 h1) fun r hr => .ret hr
theorem Ok.More {s : T_keep_Src} : Ok (m_keep_Src_More s) fun _ => True := ⟨_, rfl, trivial⟩
theorem Ok.netLit {s : T_keep_Src} (h : SrcOk s) : Ok (m_net_Literal s) fun r => SrcOk (s.1, r.2) := by
  unfold m_net_Literal
  exact .bind (Ok.N h (by omega) (by omega)) fun r1 h1 => .bind (Ok.Text h1.2.2 (by simp) (by simp)) fun r2 h2 => .ret h2.2
theorem Ok.stores26 {s : T_keep_Src} {y : List (List T_Commitment)} (h : SrcOk s) (hy : OkS y) : Ok (m_ref26_Stores s y) fun r => CntS r.1 := by
  have h6 := hy.1
  have hc := hy.cnt
  unfold m_ref26_Stores
  rw [app_nil_ok (by omega), Option.bind_some]
  refine .ite (fun _ => ?_) fun h0 => ?_
  · refine .bind (Ok.N h (by omega) (by omega)) fun r1 h1 => ?_
    have h2 := h1.2.1 (by omega)
    refine .bind (I := fun z : List (List T_Commitment) => CntS z) ?_ fun z hz => .ret hz
    unfold mkS
    rw [if_pos ⟨h1.1, by omega, by omega⟩]
    have hnil : ∀ l ∈ List.replicate r1.1.toNat ([] : List T_Commitment), l = [] := fun l hl => List.eq_of_mem_replicate hl
    exact .ret ⟨by simp; omega, fun l hl => by rw [hnil l hl]; simp, fun l hl => by rw [hnil l hl]; simp⟩
  · have hlen : 0 < y.length := by
      have : ¬ (len y = 0) := by simpa using h0
      have : ¬ ((y.length : Int) = 0) := this
      omega
    refine .bind (Ok.N h (show 0 ≤ (y.length : Int) by omega) (show (y.length : Int) ≤ _ by omega)) fun r2 h2 => ?_
    have hlt := h2.2.1 (show 1 ≤ (y.length : Int) by omega)
    refine .bind (.idx h2.1 hlt) fun l hl => ?_
    have hl40 := (hy.2 l hl.1).n
    rw [app_nil_ok (by omega), Option.bind_some]
    refine .bind (Ok.netLit h2.2.2) fun r3 h3 => .bind (Ok.N h3 (by omega) (by omega)) fun r4 h4 => .bind (Ok.N h4.2.2 (by omega) (by omega)) fun r5 h5 => ?_
    rw [app_ok (by simp; omega), Option.bind_some]
    refine .bind (.idx h2.1 hlt) fun _ _ => .ret ⟨by simp; omega, fun m hm => ?_, fun m hm c hcm => ?_⟩
    · rcases mem_set_of hm with rfl | hm
      · simp; omega
      · exact hc.l m hm
    · rcases mem_set_of hm with rfl | hm
      · rcases List.mem_append.1 hcm with hcm | hcm
        · exact hc.g l hl.1 c hcm
        · simp only [List.mem_singleton] at hcm; subst hcm; simp
      · exact hc.g m hm c hcm
end
section
/-- numbers below 100 are written alike, in one or two bytes -/
def DigOk : Prop := ∀ k : Nat, k < 100 → ∃ s : Str, m_report_number (k : Int) = some s ∧ m_ref42_digits (k : Int) = some s ∧ s.length ≤ 2
theorem sames_self (l : List Str) (h : l.length < 4294967296) : m_ref42_Same l l = some true := by
  unfold m_ref42_Same
  simp only [bne_self_eq_false, Bool.false_eq_true, if_false]
  exact loop_for (l := l) (fun i x hx => by
    have := (List.getElem?_eq_some_iff.1 hx).1
    unfold m_ref42_Same_L1
    simp only [dec_lt hx, if_true, idx_nat, hx, Option.bind_some, beq_self_eq_true, Bool.not_true, Bool.false_eq_true, if_false, w64_succ i (by omega)]) (by
    unfold m_ref42_Same_L1
    simp only [dec_end, Bool.false_eq_true, if_false])
end
section
theorem Ok.Range {s : T_keep_Src} {lo hi : Int} (h : SrcOk s) (h0 : -1000 ≤ lo) (h1 : lo ≤ hi) (h2 : hi ≤ 1000) : Ok (m_keep_Src_Range s lo hi) fun r => lo ≤ r.1 ∧ r.1 ≤ hi ∧ SrcOk (s.1, r.2) := by
  have e1 : w64 (hi - lo) = hi - lo := w64_id (by omega) (by omega)
  have e2 : w64 (hi - lo + 1) = hi - lo + 1 := w64_id (by omega) (by omega)
  obtain ⟨v, k, h3, h4, h5, h6⟩ := keep_N h (n := hi - lo + 1) (by omega) (by omega)
  exact ⟨(lo + v, k), by unfold m_keep_Src_Range; rw [e1, e2, h3]; simp [w64_id (show -9223372036854775808 ≤ lo + v by omega) (by omega)], by show lo ≤ lo + v; omega, by show lo + v ≤ hi; omega, h6⟩
end
section
/-- the words of a commitment -/
def coA (c : T_Commitment) : Str := if c.2.1 = true then [40] ++ litText c.1 ++ [41] else litText c.1
def coB (c : T_Commitment) : Str := if c.2.2.1 = true then coA c ++ [63] else coA c
def coT (c : T_Commitment) : Str := if 0 < c.2.2.2.length then coB c ++ [91, 32, 60, 45] ++ (c.2.2.2.flatMap fun x => 32 :: litText x) ++ [93] else coB c
theorem coB_len (c : T_Commitment) : (coB c).length ≤ 16 := by
  have := litText_len c.1
  unfold coB coA
  split <;> split <;> simp <;> omega
theorem fl_len (l : List T_Literal) : (l.flatMap fun x => 32 :: litText x).length ≤ l.length * 14 := flat_le _ 14 l fun x _ => by have := litText_len x; simp; omega
theorem coT_len {c : T_Commitment} (h : c.2.2.2.length ≤ 6) : (coT c).length ≤ 120 := by
  have h1 := coB_len c
  have h2 := fl_len c.2.2.2
  unfold coT
  split
  · simp only [List.length_append, List.length_cons, List.length_nil]; omega
  · omega
theorem jn_flat : ∀ (x : T_Literal) (l : List T_Literal), 32 :: jn ((x :: l).map litText) = (x :: l).flatMap fun x => 32 :: litText x
  | x, [] => by simp [jn_one]
  | x, y :: l => by
    have := jn_flat y l
    simp only [List.map_cons] at this ⊢
    rw [jn_cons, this]
    simp
theorem catE {x y : Str} (h : x.length + y.length ≤ 100000) : cat x y = some (x ++ y) := cat_ok (by omega)
/-- brackets and question marks, in the form of both -/
theorem co_marks (c : T_Commitment) : ((if c.2.1 = true then (cat [40] (litText c.1)).bind fun x1 => (cat x1 [41]).bind fun x2 => some x2 else some (litText c.1) : Option Str).bind fun s1 => (if c.2.2.1 = true then (cat s1 [63]).bind fun x3 => some x3 else some s1 : Option Str)) = some (coB c) := by
  have h1 := litText_len c.1
  have hA : (if c.2.1 = true then (cat [40] (litText c.1)).bind fun x1 => (cat x1 [41]).bind fun x2 => some x2 else some (litText c.1) : Option Str) = some (coA c) := by
    unfold coA
    split
    · rw [catE (by simp; omega), Option.bind_some, catE (by simp; omega), Option.bind_some]
    · rfl
  rw [hA, Option.bind_some]
  have hl : (coA c).length ≤ 15 := by
    unfold coA
    split
    · simp; omega
    · omega
  unfold coB
  split
  · rw [catE (by simp; omega), Option.bind_some]
  · rfl
theorem rep_commit {c : T_Commitment} (h : c.2.2.2.length ≤ 6) : m_report_commit c = some (coT c) := by
  unfold m_report_commit
  have hm := co_marks c
  have hb := coB_len c
  rw [lit_format, Option.bind_some, ← Option.bind_assoc, hm, Option.bind_some]
  unfold coT
  have e : decide (0 < len c.2.2.2) = decide (0 < c.2.2.2.length) := by simp [len]
  rw [e]
  by_cases h0 : 0 < c.2.2.2.length
  · rw [if_pos h0]
    simp only [decide_eq_true h0, if_true]
    have hl := loop_flat (B := m_report_commit_L1 c) c.2.2.2 (fun x => [litText x]) (fun s => s) 1 (fun x _ => by simp) [] (fun i x s hx hs => by
      have hi := at_lt hx
      simp only [List.length_nil] at hs
      unfold m_report_commit_L1
      simp only [at_dec hx, if_true, at_idx hx, Option.bind_some, lit_format, app_ok (show s.length + ([litText x] : List Str).length < 4294967296 by simp; omega), at_suc hx (show c.2.2.2.length < 4294967296 by omega)]) (fun s => by
      unfold m_report_commit_L1
      simp only [end_dec, Bool.false_eq_true, if_false])
    rw [hl, Option.bind_some]
    have hmap : ([] : List Str) ++ c.2.2.2.flatMap (fun x => [litText x]) = c.2.2.2.map litText := by rw [List.nil_append]; exact List.map_eq_flatMap.symm
    have hsum : ((c.2.2.2.map litText).map List.length).sum ≤ 1000 := by
      have hs : ∀ m : List T_Literal, ((m.map litText).map List.length).sum ≤ m.length * 13 := by
        intro m
        induction m with
        | nil => simp
        | cons y m ih => have := litText_len y; simp only [List.map_cons, List.sum_cons, List.length_cons]; omega
      have := hs c.2.2.2
      omega
    rw [hmap, join_ok (by simp; omega) (by omega), Option.bind_some]
    have hjl := jn_len (c.2.2.2.map litText)
    simp only [List.length_map] at hjl
    rw [catE (by simp; omega), Option.bind_some, catE (by simp; omega), Option.bind_some, catE (by simp; omega), Option.bind_some]
    obtain ⟨x, m, hx⟩ : ∃ x m, c.2.2.2 = x :: m := by
      cases hc : c.2.2.2 with
      | nil => rw [hc] at h0; cases h0
      | cons x m => exact ⟨x, m, rfl⟩
    have := jn_flat x m
    rw [hx, ← this]
    simp
  · rw [if_neg h0]
    simp only [decide_eq_false h0, Bool.false_eq_true, if_false]
/-- a line -/
def lnS (d : Str) (l : List T_Commitment) : Str := ([112] ++ d ++ [58]) ++ l.flatMap fun c => 32 :: coT c
theorem rep_line {d : Str} {l : List T_Commitment} (hd : d.length ≤ 2) (h : OkSt l) : loop (m_report_Commitments_L2 l) ([112] ++ d ++ [58], 0) = some (lnS d l) := by
  have hn := h.n
  refine loop_flat (B := m_report_Commitments_L2 l) l (fun c => 32 :: coT c) (fun s => s) 121 (fun c hc => by have := coT_len (h.c c hc).1; simp; omega) _ (fun i c s hc hs => ?_) (fun s => ?_)
  · have hi := at_lt hc
    have h6 := (h.c c (mem_at hc)).1
    have hcl := coT_len h6
    have hs : s.length ≤ 4 + 121 * i := by have : ([112] ++ d ++ [58] : Str).length ≤ 4 := by simp; omega
                                           omega
    unfold m_report_Commitments_L2
    simp only [at_dec hc, if_true, at_idx hc, Option.bind_some, rep_commit h6]
    rw [catE (by simp; omega), Option.bind_some, catE (by simp; omega), Option.bind_some, at_suc hc (by omega)]
    rfl
  · unfold m_report_Commitments_L2
    simp only [end_dec, Bool.false_eq_true, if_false]
theorem ref_line {y0 : List (List T_Commitment)} {d : Str} {l : List T_Commitment} {s1 : List Str} {i : Nat} (hl : y0[i]? = some l) (hd : d.length ≤ 2) (h : OkSt l) : loop (m_ref42_Commitments_L2 y0 (s1, (i : Int))) ([112] ++ d ++ [58], 0) = some (lnS d l) := by
  have hn := h.n
  refine loop_flat (B := m_ref42_Commitments_L2 y0 (s1, (i : Int))) l (fun c => 32 :: coT c) (fun s => s) 121 (fun c hc => by have := coT_len (h.c c hc).1; simp; omega) _ (fun k c s hc hs => ?_) (fun s => ?_)
  · have hi := at_lt hc
    have h6 := (h.c c (mem_at hc)).1
    have hcl := coT_len h6
    have hbl := coB_len c
    have hfl := fl_len c.2.2.2
    have hs : s.length ≤ 4 + 121 * k := by have : ([112] ++ d ++ [58] : Str).length ≤ 4 := by simp; omega
                                           omega
    have hT : (if decide (0 < len c.2.2.2) = true then (cat (coB c) [91, 32, 60, 45]).bind fun x9 => (loop (m_ref42_Commitments_L3 c) (x9, 0) : Option Str).bind fun s7 => (cat s7 [93]).bind fun x13 => some x13 else some (coB c) : Option Str) = some (coT c) := by
      unfold coT
      have e : decide (0 < len c.2.2.2) = decide (0 < c.2.2.2.length) := by simp [len]
      rw [e]
      by_cases h0 : 0 < c.2.2.2.length
      · rw [if_pos h0]
        simp only [decide_eq_true h0, if_true]
        rw [catE (by simp; omega), Option.bind_some]
        have hl3 := loop_flat (B := m_ref42_Commitments_L3 c) c.2.2.2 (fun x => 32 :: litText x) (fun s => s) 14 (fun x _ => by have := litText_len x; simp; omega) (coB c ++ [91, 32, 60, 45]) (fun j x s hx hs => by
          have hj := at_lt hx
          have hxl := litText_len x
          have hs : s.length ≤ 20 + 14 * j := by have : (coB c ++ [91, 32, 60, 45] : Str).length ≤ 20 := by simp; omega
                                                 omega
          unfold m_ref42_Commitments_L3
          simp only [at_dec hx, if_true, at_idx hx, Option.bind_some, ref_format]
          rw [catE (by simp; omega), Option.bind_some, catE (by simp; omega), Option.bind_some, at_suc hx (by omega)]
          rfl) (fun s => by
          unfold m_ref42_Commitments_L3
          simp only [end_dec, Bool.false_eq_true, if_false])
        rw [hl3, Option.bind_some, catE (by simp only [List.length_append, List.length_cons, List.length_nil]; omega), Option.bind_some]
      · rw [if_neg h0]
        simp only [decide_eq_false h0, Bool.false_eq_true, if_false]
    unfold m_ref42_Commitments_L2
    simp only [at_idx hl, at_dec hc, if_true, at_idx hc, Option.bind_some, ref_format]
    rw [← Option.bind_assoc, co_marks c, Option.bind_some, hT, Option.bind_some, catE (by simp; omega), Option.bind_some, catE (by simp; omega), Option.bind_some, at_suc hc (by omega)]
    rfl
  · unfold m_ref42_Commitments_L2
    simp only [at_idx hl, Option.bind_some, end_dec, Bool.false_eq_true, if_false]
theorem sto_both (hd : DigOk) {s : List (List T_Commitment)} (h : CntS s) : ∃ T : List Str, m_report_Commitments s = some T ∧ m_ref42_Commitments s = some T ∧ T.length ≤ 6 ∧ (OkS s → T.length = s.length) := by
  unfold m_report_Commitments m_ref42_Commitments
  rw [com_Validate h, r26_Validate h, Option.bind_some, Option.bind_some]
  by_cases hk : OkS s
  · have h6 := hk.1
    rw [comE_zero.2 hk]
    simp only [bne_self_eq_false, Bool.false_eq_true, if_false]
    have key : ∀ (n i : Nat) (out : List Str), s.length = i + n → out.length = i → ∃ T : List Str, loop (m_report_Commitments_L1 s) (out, (i : Int)) = some T ∧ loop (m_ref42_Commitments_L1 s) (out, (i : Int)) = some T ∧ T.length = s.length := by
      intro n
      induction n with
      | zero =>
        intro i out hi ho
        obtain rfl : i = s.length := by omega
        refine ⟨out, ?_, ?_, ho⟩
        · rw [loop_eq]; unfold m_report_Commitments_L1; simp only [end_dec, Bool.false_eq_true, if_false]
        · rw [loop_eq]; unfold m_ref42_Commitments_L1; simp only [end_dec, Bool.false_eq_true, if_false]
      | succ n ih =>
        intro i out hi ho
        have hl : s[i]? = some s[i] := List.getElem?_eq_getElem (by omega)
        have hok := hk.2 _ (mem_at hl)
        generalize s[i] = l at hl hok
        obtain ⟨d, d1, d2, d3⟩ := hd i (by omega)
        obtain ⟨T, t1, t2, t3⟩ := ih (i + 1) (out ++ [lnS d l]) (by omega) (by simp; omega)
        have happ : app out ([lnS d l] : List Str) = some (out ++ [lnS d l]) := app_ok (by simp; omega)
        refine ⟨T, ?_, ?_, t3⟩
        · rw [loop_eq]
          unfold m_report_Commitments_L1
          simp only [at_dec hl, if_true, at_idx hl, Option.bind_some, d1]
          rw [catE (by simp; omega), Option.bind_some, catE (by simp; omega), Option.bind_some, rep_line d3 hok, Option.bind_some, happ, Option.bind_some, at_suc hl (by omega)]
          exact t1
        · rw [loop_eq]
          unfold m_ref42_Commitments_L1
          simp only [at_dec hl, if_true, d2, Option.bind_some]
          rw [catE (by simp; omega), Option.bind_some, catE (by simp; omega), Option.bind_some, ref_line hl d3 hok, Option.bind_some, happ, Option.bind_some, at_suc hl (by omega)]
          exact t2
    obtain ⟨T, t1, t2, t3⟩ := key s.length 0 [] (by omega) rfl
    exact ⟨T, t1, t2, by omega, fun _ => t3⟩
  · have : (comE s != 0) = true := by
      have : comE s ≠ 0 := fun q => hk (comE_zero.1 q)
      simpa using this
    simp only [this, if_true]
    exact ⟨[], rfl, rfl, by simp, fun q => absurd q hk⟩
theorem p_ReportStores (hw : m_law42_awake = some true) (hd : DigOk) (y0 : List (List T_Commitment)) (y1 : List Int) : m_law42_ReportStores y0 y1 = some true := by
  suffices h : Ok (m_law42_ReportStores y0 y1) fun r => r = true by obtain ⟨r, h1, rfl⟩ := h; exact h1
  unfold m_law42_ReportStores
  refine .ite (fun _ => by rw [hw]; exact .ret rfl) fun h20 => ?_
  have h20 : ¬ (20 : Int) < (y0.length : Int) := of_decide_eq_false h20
  have hst : ∀ {α : Type} {l : List α} {i : Nat} {x : α} {P : α → Prop}, l[i]? = some x → (∀ y ∈ l.take i, P y) → P x → ∀ y ∈ l.take (i + 1), P y := by
    intro α l i x P hx h hp y hy
    rw [take_suc hx] at hy
    rcases List.mem_append.1 hy with hy | hy
    · exact h y hy
    · simp at hy; subst hy; exact hp
  refine .seqE (I := fun o => match o with | .inl _ => ∀ l ∈ y0, l.length ≤ 60 ∧ ∀ c ∈ l, c.2.2.2.length ≤ 20 | .inr r => r = true) (Ok.forI (fun i (_ : Unit) => (i : Int)) y0 (fun i _ => ∀ l ∈ y0.take i, l.length ≤ 60 ∧ ∀ c ∈ l, c.2.2.2.length ≤ 20) _ (fun i l _ hl hI => ?_) (fun _ hI => ?_) () (by simp)) (fun _ hc => ?_) (fun r hr => hr)
  · unfold m_law42_ReportStores_L1
    simp only [at_dec hl, if_true, at_idx hl, Option.bind_some]
    refine .ite (fun _ => by rw [hw]; exact .ret rfl) fun h60 => ?_
    have h60 : ¬ (60 : Int) < (l.length : Int) := of_decide_eq_false h60
    refine Ok.forI (fun i (_ : Unit) => (i : Int)) l (fun i _ => ∀ c ∈ l.take i, c.2.2.2.length ≤ 20) _ (fun k c _ hc hK => ?_) (fun _ hK => ?_) () (by simp)
    · unfold m_law42_ReportStores_L2
      simp only [at_idx hl, at_dec hc, if_true, at_idx hc, Option.bind_some]
      refine .ite (fun _ => by rw [hw]; exact .ret rfl) fun hg => .ret ⟨(), at_suc hc (by omega), hst hc hK ?_⟩
      have hg : ¬ (20 : Int) < (c.2.2.2.length : Int) := of_decide_eq_false hg
      omega
    · unfold m_law42_ReportStores_L2
      simp only [at_idx hl, Option.bind_some, end_dec, Bool.false_eq_true, if_false]
      rw [List.take_length] at hK
      exact .ret ⟨(), at_suc hl (by omega), hst hl hI ⟨by omega, hK⟩⟩
  · unfold m_law42_ReportStores_L1
    simp only [end_dec, Bool.false_eq_true, if_false]
    rw [List.take_length] at hI
    exact .ret hI
  have hc0 : CntS y0 := ⟨by omega, fun l hl => by have := (hc l hl).1; omega, fun l hl c hcm => by have := (hc l hl).2 c hcm; omega⟩
  rw [keep_New, Option.bind_some]
  refine .bind (Ok.Range (srcOk_New y1) (by omega) (by omega) (by omega)) fun r5 h5 => ?_
  have hnew : ∃ y : List (List T_Commitment), m_ref26_New r5.1 = some (y, 0) ∧ OkS y := by
    unfold m_ref26_New
    have e1 : (decide (r5.1 < 0) || decide (6 < r5.1)) = false := by rw [decide_eq_false (show ¬ r5.1 < 0 by omega), decide_eq_false (show ¬ 6 < r5.1 by omega)]; rfl
    simp only [e1, Bool.false_eq_true, if_false]
    unfold mkS
    rw [if_pos ⟨h5.1, by omega, by omega⟩]
    refine ⟨_, rfl, by simp; omega, fun l hl => ?_⟩
    rw [List.eq_of_mem_replicate hl]
    exact ⟨by simp, by simp, by simp [clm], by simp [clm]⟩
  obtain ⟨y, e1, hy⟩ := hnew
  rw [e1, Option.bind_some]
  refine .bind (I := fun z => SrcOk (y1.take 2000, z.1) ∧ OkS z.2) ?_ fun s4 hs4 => ?_
  · refine Ok.forI (fun i (z : Int × List (List T_Commitment)) => ((i : Int), z.1, z.2)) (List.range 20) (fun _ z => SrcOk (y1.take 2000, z.1) ∧ OkS z.2) _ (fun i _ z hx hz => ?_) (fun z hz => ?_) (r5.2, y) ⟨h5.2.2, hy⟩
    · have hi : i < 20 := by simpa using (List.getElem?_eq_some_iff.1 hx).1
      unfold m_law42_ReportStores_L3
      dsimp only
      refine .bind (I := fun _ => True) (.ite (fun _ => .bind Ok.More fun b _ => .ite (fun _ => .ret trivial) fun _ => .ret trivial) fun _ => .ret trivial) fun b _ => .ite (fun _ => ?_) fun _ => .ret hz
      refine .bind (Ok.Range hz.1 (by omega) (by omega) (by omega)) fun r8 h8 => .bind (Ok.N h8.2.2 (by omega) (by omega)) fun r9 h9 => .bind (Ok.N h9.2.2 (by omega) (by omega)) fun r10 h10 => .bind (Ok.netLit h10.2.2) fun r11 h11 => ?_
      refine .bind (I := fun q => SrcOk (y1.take 2000, q.1)) (.ite (fun _ => ?_) fun _ => .ret h11) fun s7 hs7 => ?_
      · refine .bind (Ok.netLit h11) fun r12 h12 => .bind (Ok.netLit h12) fun r13 h13 => ?_
        rw [ref_normal (by simp), Option.bind_some]
        exact .ret h13
      · refine .bind (Ok.Say26 hz.2 _) fun r15 h15 => ?_
        refine .ite (fun hq => .ret ⟨(s7.1, r15.1), by rw [w64_succ i (by omega)], hs7, (h15 (by simpa using hq)).1⟩) fun _ => .ret ⟨(s7.1, z.2), by rw [w64_succ i (by omega)], hs7, hz.2⟩
    · unfold m_law42_ReportStores_L3
      have : decide ((((List.range 20).length : Nat) : Int) < 20) = false := by simp
      simp only [this, Bool.false_eq_true, if_false, Option.bind_some]
      exact .ret hz
  · refine .seqE (I := fun o => o = .inl ()) ?_ (fun _ _ => ?_) (fun r hr => by cases hr)
    · refine .bind (Ok.stores26 hs4.1 hs4.2) fun r16 h16 => ?_
      refine Ok.forI (fun i (_ : Unit) => (i : Int)) ([y0, s4.2, r16.1] : List (List (List T_Commitment))) (fun _ _ => True) _ (fun i x _ hx _ => ?_) (fun _ _ => ?_) () trivial
      · have hcx : CntS x := by
          have := mem_at hx
          simp only [List.mem_cons, List.not_mem_nil, or_false] at this
          rcases this with rfl | rfl | rfl
          · exact hc0
          · exact hs4.2.cnt
          · exact h16
        obtain ⟨T, t1, t2, t3, _⟩ := sto_both hd hcx
        unfold m_law42_ReportStores_L4
        simp only [at_dec hx, if_true, at_idx hx, Option.bind_some, t1, t2, sames_self T (by omega), Bool.not_true, Bool.false_eq_true, if_false]
        exact .ret ⟨(), at_suc hx (by simp), trivial⟩
      · unfold m_law42_ReportStores_L4
        simp only [end_dec, Bool.false_eq_true, if_false]
        exact .ret rfl
    · obtain ⟨T, t1, _, _, t4⟩ := sto_both hd hs4.2.cnt
      have t4 := t4 hs4.2
      rw [t1, Option.bind_some]
      have : (len T == len s4.2) = true := by
        show ((T.length : Int) == (s4.2.length : Int)) = true
        rw [t4]; simp
      rw [this, hw]
      exact .ret rfl
end
section
set_option linter.unusedVariables false
def e_keep_Voc_L1 (n_ : Nat) (y0 : Int) (s1 : (List Str) × Int) : Option (((List Str) × Int) ⊕ (List Str)) :=
  if decide (s1.2 < y0) then
    (app s1.1 ([strOf ([IntKind.u8.wrap (w64 (97 + s1.2))] : List Int)] : List Str)).bind fun x1 =>
    some (.inl (x1, w64 (s1.2 + 1)))
  else
    some (.inr s1.1)
theorem le_keep_Voc_L1 (n_ : Nat) (y0 : Int) (s1 : (List Str) × Int) : Le (e_keep_Voc_L1 n_ y0 s1) (m_keep_Voc_L1 y0 s1) := by
  unfold e_keep_Voc_L1 m_keep_Voc_L1
  repeat with_reducible (first | intro _ | exact Le.refl _ | apply Le.ite | apply Le.seqE | apply Le.bind | apply Le.lp | exact Le.none _)
def e_keep_Voc (n_ : Nat) (y0 : Int) : Option (List Str) :=
  (lp n_) ((e_keep_Voc_L1 n_) y0) (([] : List Str), 0)
theorem le_keep_Voc (n_ : Nat) (y0 : Int) : Le (e_keep_Voc n_ y0) (m_keep_Voc y0) := by
  unfold e_keep_Voc m_keep_Voc
  repeat with_reducible (first | intro _ | apply le_keep_Voc_L1 | exact Le.refl _ | apply Le.ite | apply Le.seqE | apply Le.bind | apply Le.lp | exact Le.none _)
def e_ref42_Same_L1 (n_ : Nat) (y0 : List Str) (y1 : List Str) (s1 : Int) : Option (Int ⊕ Bool) :=
  if decide (s1 < (len y0)) then
    (idx y0 s1).bind fun x1 =>
    (idx y1 s1).bind fun x2 =>
    if !(x1 == x2) then
      some (.inr false)
    else
      some (.inl (w64 (s1 + 1)))
  else
    some (.inr true)
theorem le_ref42_Same_L1 (n_ : Nat) (y0 : List Str) (y1 : List Str) (s1 : Int) : Le (e_ref42_Same_L1 n_ y0 y1 s1) (m_ref42_Same_L1 y0 y1 s1) := by
  unfold e_ref42_Same_L1 m_ref42_Same_L1
  repeat with_reducible (first | intro _ | exact Le.refl _ | apply Le.ite | apply Le.seqE | apply Le.bind | apply Le.lp | exact Le.none _)
def e_ref42_Same (n_ : Nat) (y0 : List Str) (y1 : List Str) : Option Bool :=
  if (len y0) != (len y1) then
    some false
  else
    (lp n_) ((e_ref42_Same_L1 n_) y0 y1) 0
theorem le_ref42_Same (n_ : Nat) (y0 : List Str) (y1 : List Str) : Le (e_ref42_Same n_ y0 y1) (m_ref42_Same y0 y1) := by
  unfold e_ref42_Same m_ref42_Same
  repeat with_reducible (first | intro _ | apply le_ref42_Same_L1 | exact Le.refl _ | apply Le.ite | apply Le.seqE | apply Le.bind | apply Le.lp | exact Le.none _)
def e_formula_Depth_L1 (n_ : Nat) (y0 : T_Formula) (rec_formula_Depth : T_Formula → Option Int) (s1 : Int × Int) : Option ((Int × Int) ⊕ Int) :=
  if decide (s1.2 < (len ((fv y0).2.2))) then
    (idx ((fv y0).2.2) s1.2).bind fun x1 =>
    (rec_formula_Depth x1).bind fun r1 =>
    some (.inl (if (w64 (1 + r1)) > s1.1 then w64 (1 + r1) else s1.1, w64 (s1.2 + 1)))
  else
    some (.inr s1.1)
theorem le_formula_Depth_L1 (n_ : Nat) (y0 : T_Formula) {rec_formula_Depth rec_formula_Depth' : T_Formula → Option Int} (h_rec_formula_Depth : ∀ u0, Le (rec_formula_Depth u0) (rec_formula_Depth' u0)) (s1 : Int × Int) : Le (e_formula_Depth_L1 n_ y0 rec_formula_Depth s1) (m_formula_Depth_L1 y0 rec_formula_Depth' s1) := by
  unfold e_formula_Depth_L1 m_formula_Depth_L1
  repeat with_reducible (first | intro _ | apply h_rec_formula_Depth | exact Le.refl _ | apply Le.ite | apply Le.seqE | apply Le.bind | apply Le.lp | exact Le.none _)
def fe_formula_Depth (n_ : Nat) (rec_formula_Depth : T_Formula → Option Int) (y0 : T_Formula) : Option Int :=
  (lp n_) ((e_formula_Depth_L1 n_) y0 rec_formula_Depth) (0, 0)
theorem lef_formula_Depth (n_ : Nat) {rec_formula_Depth rec_formula_Depth' : T_Formula → Option Int} (h_rec_formula_Depth : ∀ u0, Le (rec_formula_Depth u0) (rec_formula_Depth' u0)) (y0 : T_Formula) : Le (fe_formula_Depth n_ rec_formula_Depth y0) (F_formula_Depth rec_formula_Depth' y0) := by
  unfold fe_formula_Depth F_formula_Depth
  repeat with_reducible (first | intro _ | apply h_rec_formula_Depth | apply le_formula_Depth_L1 | exact Le.refl _ | apply Le.ite | apply Le.seqE | apply Le.bind | apply Le.lp | exact Le.none _)
def ke_formula_Depth (n_ : Nat) : Nat → T_Formula → Option Int
  | 0 => fun _ => none
  | k + 1 => fun y0 => (fe_formula_Depth n_) ((ke_formula_Depth n_) k) y0
theorem lek_formula_Depth (n_ : Nat) : ∀ (k m : Nat), k ≤ m → ∀ u0, Le (ke_formula_Depth n_ k u0) (k_formula_Depth m u0)
  | 0, _, _ => fun u0 => Le.none _
  | k + 1, m, h => fun u0 => by
    obtain ⟨m, rfl⟩ : ∃ q, m = q + 1 := ⟨m - 1, by omega⟩
    exact lef_formula_Depth n_ (lek_formula_Depth n_ k m (by omega)) _
def e_formula_Depth (n_ : Nat) (y0 : T_Formula) : Option Int :=
  ke_formula_Depth n_ n_ y0
theorem le_formula_Depth (n_ : Nat) (y0 : T_Formula) : Le (e_formula_Depth n_ y0) (m_formula_Depth y0) := Le.lim n_ fun m h => lek_formula_Depth n_ n_ m h _
def e_formula_Size_L1 (n_ : Nat) (y0 : T_Formula) (rec_formula_Size : T_Formula → Option Int) (s1 : Int × Int) : Option ((Int × Int) ⊕ Int) :=
  if decide (s1.2 < (len ((fv y0).2.2))) then
    (idx ((fv y0).2.2) s1.2).bind fun x1 =>
    (rec_formula_Size x1).bind fun r1 =>
    some (.inl (w64 (s1.1 + r1), w64 (s1.2 + 1)))
  else
    some (.inr s1.1)
theorem le_formula_Size_L1 (n_ : Nat) (y0 : T_Formula) {rec_formula_Size rec_formula_Size' : T_Formula → Option Int} (h_rec_formula_Size : ∀ u0, Le (rec_formula_Size u0) (rec_formula_Size' u0)) (s1 : Int × Int) : Le (e_formula_Size_L1 n_ y0 rec_formula_Size s1) (m_formula_Size_L1 y0 rec_formula_Size' s1) := by
  unfold e_formula_Size_L1 m_formula_Size_L1
  repeat with_reducible (first | intro _ | apply h_rec_formula_Size | exact Le.refl _ | apply Le.ite | apply Le.seqE | apply Le.bind | apply Le.lp | exact Le.none _)
def fe_formula_Size (n_ : Nat) (rec_formula_Size : T_Formula → Option Int) (y0 : T_Formula) : Option Int :=
  (lp n_) ((e_formula_Size_L1 n_) y0 rec_formula_Size) (1, 0)
theorem lef_formula_Size (n_ : Nat) {rec_formula_Size rec_formula_Size' : T_Formula → Option Int} (h_rec_formula_Size : ∀ u0, Le (rec_formula_Size u0) (rec_formula_Size' u0)) (y0 : T_Formula) : Le (fe_formula_Size n_ rec_formula_Size y0) (F_formula_Size rec_formula_Size' y0) := by
  unfold fe_formula_Size F_formula_Size
  repeat with_reducible (first | intro _ | apply h_rec_formula_Size | apply le_formula_Size_L1 | exact Le.refl _ | apply Le.ite | apply Le.seqE | apply Le.bind | apply Le.lp | exact Le.none _)
def ke_formula_Size (n_ : Nat) : Nat → T_Formula → Option Int
  | 0 => fun _ => none
  | k + 1 => fun y0 => (fe_formula_Size n_) ((ke_formula_Size n_) k) y0
theorem lek_formula_Size (n_ : Nat) : ∀ (k m : Nat), k ≤ m → ∀ u0, Le (ke_formula_Size n_ k u0) (k_formula_Size m u0)
  | 0, _, _ => fun u0 => Le.none _
  | k + 1, m, h => fun u0 => by
    obtain ⟨m, rfl⟩ : ∃ q, m = q + 1 := ⟨m - 1, by omega⟩
    exact lef_formula_Size n_ (lek_formula_Size n_ k m (by omega)) _
def e_formula_Size (n_ : Nat) (y0 : T_Formula) : Option Int :=
  ke_formula_Size n_ n_ y0
theorem le_formula_Size (n_ : Nat) (y0 : T_Formula) : Le (e_formula_Size n_ y0) (m_formula_Size y0) := Le.lim n_ fun m h => lek_formula_Size n_ n_ m h _
def e_formula_counted (n_ : Nat) (y0 : T_Formula) : Option Bool :=
  (
    if ((fv y0).1) == 1 then
      some (((fv y0).1) == 1)
    else
      if ((fv y0).1) == 2 then
        some (((fv y0).1) == 2)
      else
        some (((fv y0).1) == 3) : Option Bool).bind fun s1 =>
  if s1 then
    some ((len ((fv y0).2.2)) == 0)
  else
    if ((fv y0).1) == 4 then
      some ((len ((fv y0).2.2)) == 1)
    else
      (
        if ((fv y0).1) == 5 then
          some (((fv y0).1) == 5)
        else
          some (((fv y0).1) == 6) : Option Bool).bind fun s2 =>
      if s2 then
        some ((decide (2 ≤ (len ((fv y0).2.2)))) && (decide ((len ((fv y0).2.2)) ≤ 6)))
      else
        (
          if ((fv y0).1) == 7 then
            some (((fv y0).1) == 7)
          else
            some (((fv y0).1) == 8) : Option Bool).bind fun s3 =>
        if s3 then
          some ((len ((fv y0).2.2)) == 2)
        else
          some false
theorem le_formula_counted (n_ : Nat) (y0 : T_Formula) : Le (e_formula_counted n_ y0) (m_formula_counted y0) := by
  unfold e_formula_counted m_formula_counted
  repeat with_reducible (first | intro _ | exact Le.refl _ | apply Le.ite | apply Le.seqE | apply Le.bind | apply Le.lp | exact Le.none _)
def e_formula_all__formula_counted_L1 (n_ : Nat) (y0 : T_Formula) (rec_formula_all__formula_counted : T_Formula → Option Bool) (s1 : Int) : Option (Int ⊕ Bool) :=
  if decide (s1 < (len ((fv y0).2.2))) then
    (idx ((fv y0).2.2) s1).bind fun x1 =>
    (rec_formula_all__formula_counted x1).bind fun r2 =>
    if !r2 then
      some (.inr false)
    else
      some (.inl (w64 (s1 + 1)))
  else
    some (.inr true)
theorem le_formula_all__formula_counted_L1 (n_ : Nat) (y0 : T_Formula) {rec_formula_all__formula_counted rec_formula_all__formula_counted' : T_Formula → Option Bool} (h_rec_formula_all__formula_counted : ∀ u0, Le (rec_formula_all__formula_counted u0) (rec_formula_all__formula_counted' u0)) (s1 : Int) : Le (e_formula_all__formula_counted_L1 n_ y0 rec_formula_all__formula_counted s1) (m_formula_all__formula_counted_L1 y0 rec_formula_all__formula_counted' s1) := by
  unfold e_formula_all__formula_counted_L1 m_formula_all__formula_counted_L1
  repeat with_reducible (first | intro _ | apply h_rec_formula_all__formula_counted | exact Le.refl _ | apply Le.ite | apply Le.seqE | apply Le.bind | apply Le.lp | exact Le.none _)
def fe_formula_all__formula_counted (n_ : Nat) (rec_formula_all__formula_counted : T_Formula → Option Bool) (y0 : T_Formula) : Option Bool :=
  ((e_formula_counted n_) y0).bind fun r1 =>
  if !r1 then
    some false
  else
    (lp n_) ((e_formula_all__formula_counted_L1 n_) y0 rec_formula_all__formula_counted) 0
theorem lef_formula_all__formula_counted (n_ : Nat) {rec_formula_all__formula_counted rec_formula_all__formula_counted' : T_Formula → Option Bool} (h_rec_formula_all__formula_counted : ∀ u0, Le (rec_formula_all__formula_counted u0) (rec_formula_all__formula_counted' u0)) (y0 : T_Formula) : Le (fe_formula_all__formula_counted n_ rec_formula_all__formula_counted y0) (F_formula_all__formula_counted rec_formula_all__formula_counted' y0) := by
  unfold fe_formula_all__formula_counted F_formula_all__formula_counted
  repeat with_reducible (first | intro _ | apply h_rec_formula_all__formula_counted | apply le_formula_all__formula_counted_L1 | apply le_formula_counted | exact Le.refl _ | apply Le.ite | apply Le.seqE | apply Le.bind | apply Le.lp | exact Le.none _)
def ke_formula_all__formula_counted (n_ : Nat) : Nat → T_Formula → Option Bool
  | 0 => fun _ => none
  | k + 1 => fun y0 => (fe_formula_all__formula_counted n_) ((ke_formula_all__formula_counted n_) k) y0
theorem lek_formula_all__formula_counted (n_ : Nat) : ∀ (k m : Nat), k ≤ m → ∀ u0, Le (ke_formula_all__formula_counted n_ k u0) (k_formula_all__formula_counted m u0)
  | 0, _, _ => fun u0 => Le.none _
  | k + 1, m, h => fun u0 => by
    obtain ⟨m, rfl⟩ : ∃ q, m = q + 1 := ⟨m - 1, by omega⟩
    exact lef_formula_all__formula_counted n_ (lek_formula_all__formula_counted n_ k m (by omega)) _
def e_formula_all__formula_counted (n_ : Nat) (y0 : T_Formula) : Option Bool :=
  ke_formula_all__formula_counted n_ n_ y0
theorem le_formula_all__formula_counted (n_ : Nat) (y0 : T_Formula) : Le (e_formula_all__formula_counted n_ y0) (m_formula_all__formula_counted y0) := Le.lim n_ fun m h => lek_formula_all__formula_counted n_ n_ m h _
def e_literal_ValidName_L1 (n_ : Nat) (y0 : Str) (s1 : Int) : Option (Int ⊕ Bool) :=
  if decide (s1 < (len y0)) then
    (sidx y0 s1).bind fun x1 =>
    if (decide (97 ≤ x1)) && (decide (x1 ≤ 122)) then
      some (.inl (w64 (s1 + 1)))
    else
      if (decide (0 < s1)) && (if decide (48 ≤ x1) then (decide (x1 ≤ 57)) || (x1 == 95) else x1 == 95) then
        some (.inl (w64 (s1 + 1)))
      else
        some (.inr false)
  else
    some (.inr true)
theorem le_literal_ValidName_L1 (n_ : Nat) (y0 : Str) (s1 : Int) : Le (e_literal_ValidName_L1 n_ y0 s1) (m_literal_ValidName_L1 y0 s1) := by
  unfold e_literal_ValidName_L1 m_literal_ValidName_L1
  repeat with_reducible (first | intro _ | exact Le.refl _ | apply Le.ite | apply Le.seqE | apply Le.bind | apply Le.lp | exact Le.none _)
def e_literal_ValidName (n_ : Nat) (y0 : Str) : Option Bool :=
  if ((len y0) == 0) || (decide (12 < (len y0))) then
    some false
  else
    (lp n_) ((e_literal_ValidName_L1 n_) y0) 0
theorem le_literal_ValidName (n_ : Nat) (y0 : Str) : Le (e_literal_ValidName n_ y0) (m_literal_ValidName y0) := by
  unfold e_literal_ValidName m_literal_ValidName
  repeat with_reducible (first | intro _ | apply le_literal_ValidName_L1 | exact Le.refl _ | apply Le.ite | apply Le.seqE | apply Le.bind | apply Le.lp | exact Le.none _)
def e_formula_named (n_ : Nat) (y0 : T_Formula) : Option Bool :=
  if ((fv y0).1) == 3 then
    ((e_literal_ValidName n_) ((fv y0).2.1)).bind fun r1 =>
    some r1
  else
    some (((fv y0).2.1) == [])
theorem le_formula_named (n_ : Nat) (y0 : T_Formula) : Le (e_formula_named n_ y0) (m_formula_named y0) := by
  unfold e_formula_named m_formula_named
  repeat with_reducible (first | intro _ | apply le_literal_ValidName | exact Le.refl _ | apply Le.ite | apply Le.seqE | apply Le.bind | apply Le.lp | exact Le.none _)
def e_formula_all__formula_named_L1 (n_ : Nat) (y0 : T_Formula) (rec_formula_all__formula_named : T_Formula → Option Bool) (s1 : Int) : Option (Int ⊕ Bool) :=
  if decide (s1 < (len ((fv y0).2.2))) then
    (idx ((fv y0).2.2) s1).bind fun x1 =>
    (rec_formula_all__formula_named x1).bind fun r2 =>
    if !r2 then
      some (.inr false)
    else
      some (.inl (w64 (s1 + 1)))
  else
    some (.inr true)
theorem le_formula_all__formula_named_L1 (n_ : Nat) (y0 : T_Formula) {rec_formula_all__formula_named rec_formula_all__formula_named' : T_Formula → Option Bool} (h_rec_formula_all__formula_named : ∀ u0, Le (rec_formula_all__formula_named u0) (rec_formula_all__formula_named' u0)) (s1 : Int) : Le (e_formula_all__formula_named_L1 n_ y0 rec_formula_all__formula_named s1) (m_formula_all__formula_named_L1 y0 rec_formula_all__formula_named' s1) := by
  unfold e_formula_all__formula_named_L1 m_formula_all__formula_named_L1
  repeat with_reducible (first | intro _ | apply h_rec_formula_all__formula_named | exact Le.refl _ | apply Le.ite | apply Le.seqE | apply Le.bind | apply Le.lp | exact Le.none _)
def fe_formula_all__formula_named (n_ : Nat) (rec_formula_all__formula_named : T_Formula → Option Bool) (y0 : T_Formula) : Option Bool :=
  ((e_formula_named n_) y0).bind fun r1 =>
  if !r1 then
    some false
  else
    (lp n_) ((e_formula_all__formula_named_L1 n_) y0 rec_formula_all__formula_named) 0
theorem lef_formula_all__formula_named (n_ : Nat) {rec_formula_all__formula_named rec_formula_all__formula_named' : T_Formula → Option Bool} (h_rec_formula_all__formula_named : ∀ u0, Le (rec_formula_all__formula_named u0) (rec_formula_all__formula_named' u0)) (y0 : T_Formula) : Le (fe_formula_all__formula_named n_ rec_formula_all__formula_named y0) (F_formula_all__formula_named rec_formula_all__formula_named' y0) := by
  unfold fe_formula_all__formula_named F_formula_all__formula_named
  repeat with_reducible (first | intro _ | apply h_rec_formula_all__formula_named | apply le_formula_all__formula_named_L1 | apply le_formula_named | exact Le.refl _ | apply Le.ite | apply Le.seqE | apply Le.bind | apply Le.lp | exact Le.none _)
def ke_formula_all__formula_named (n_ : Nat) : Nat → T_Formula → Option Bool
  | 0 => fun _ => none
  | k + 1 => fun y0 => (fe_formula_all__formula_named n_) ((ke_formula_all__formula_named n_) k) y0
theorem lek_formula_all__formula_named (n_ : Nat) : ∀ (k m : Nat), k ≤ m → ∀ u0, Le (ke_formula_all__formula_named n_ k u0) (k_formula_all__formula_named m u0)
  | 0, _, _ => fun u0 => Le.none _
  | k + 1, m, h => fun u0 => by
    obtain ⟨m, rfl⟩ : ∃ q, m = q + 1 := ⟨m - 1, by omega⟩
    exact lef_formula_all__formula_named n_ (lek_formula_all__formula_named n_ k m (by omega)) _
def e_formula_all__formula_named (n_ : Nat) (y0 : T_Formula) : Option Bool :=
  ke_formula_all__formula_named n_ n_ y0
theorem le_formula_all__formula_named (n_ : Nat) (y0 : T_Formula) : Le (e_formula_all__formula_named n_ y0) (m_formula_all__formula_named y0) := Le.lim n_ fun m h => lek_formula_all__formula_named n_ n_ m h _
def e_formula_Validate (n_ : Nat) (y0 : T_Formula) : Option Int :=
  (
    ((e_formula_Size n_) y0).bind fun r1 =>
    if decide (600 < r1) then
      some true
    else
      ((e_formula_Depth n_) y0).bind fun r2 =>
      some (decide (20 < r2)) : Option Bool).bind fun s1 =>
  if s1 then
    some 2
  else
    ((e_formula_all__formula_counted n_) y0).bind fun r3 =>
    if !r3 then
      some 4
    else
      ((e_formula_all__formula_named n_) y0).bind fun r4 =>
      if !r4 then
        some 3
      else
        some 0
theorem le_formula_Validate (n_ : Nat) (y0 : T_Formula) : Le (e_formula_Validate n_ y0) (m_formula_Validate y0) := by
  unfold e_formula_Validate m_formula_Validate
  repeat with_reducible (first | intro _ | apply le_formula_all__formula_named | apply le_formula_all__formula_counted | apply le_formula_Depth | apply le_formula_Size | exact Le.refl _ | apply Le.ite | apply Le.seqE | apply Le.bind | apply Le.lp | exact Le.none _)
def e_formula_needed (n_ : Nat) (y0 : T_Formula) (y1 : Int) : Option Int :=
  (
    if ((fv y0).1) == 4 then
      some (((fv y0).1) == 4)
    else
      some (((fv y0).1) == 5) : Option Bool).bind fun s1 =>
  if s1 then
    some 5
  else
    if ((fv y0).1) == 6 then
      some 4
    else
      if ((fv y0).1) == 7 then
        some (w64 (3 - y1))
      else
        some 2
theorem le_formula_needed (n_ : Nat) (y0 : T_Formula) (y1 : Int) : Le (e_formula_needed n_ y0 y1) (m_formula_needed y0 y1) := by
  unfold e_formula_needed m_formula_needed
  repeat with_reducible (first | intro _ | exact Le.refl _ | apply Le.ite | apply Le.seqE | apply Le.bind | apply Le.lp | exact Le.none _)
def e_formula_strength (n_ : Nat) (y0 : T_Formula) : Option Int :=
  if ((fv y0).1) == 8 then
    some 1
  else
    if ((fv y0).1) == 7 then
      some 2
    else
      if ((fv y0).1) == 6 then
        some 3
      else
        if ((fv y0).1) == 5 then
          some 4
        else
          some 5
theorem le_formula_strength (n_ : Nat) (y0 : T_Formula) : Le (e_formula_strength n_ y0) (m_formula_strength y0) := by
  unfold e_formula_strength m_formula_strength
  repeat with_reducible (first | intro _ | exact Le.refl _ | apply Le.ite | apply Le.seqE | apply Le.bind | apply Le.lp | exact Le.none _)
def e_strings_Builder_WriteByte (n_ : Nat) (y0 : Str) (y1 : Int) : Option (Unit × Str) :=
  (some () : Option Unit).bind fun _ =>
  (chk (decide (0 ≤ y1) && decide (y1 < 256) && decide (len y0 + 1 < 4294967296))).bind fun _ =>
  some ((), y0 ++ [UInt8.ofNat y1.toNat])
theorem le_strings_Builder_WriteByte (n_ : Nat) (y0 : Str) (y1 : Int) : Le (e_strings_Builder_WriteByte n_ y0 y1) (m_strings_Builder_WriteByte y0 y1) := by
  unfold e_strings_Builder_WriteByte m_strings_Builder_WriteByte
  repeat with_reducible (first | intro _ | exact Le.refl _ | apply Le.ite | apply Le.seqE | apply Le.bind | apply Le.lp | exact Le.none _)
def e_strings_Builder_WriteString (n_ : Nat) (y0 : Str) (y1 : Str) : Option (Int × Unit × Str) := wstrM y0 y1
theorem le_strings_Builder_WriteString (n_ : Nat) (y0 : Str) (y1 : Str) : Le (e_strings_Builder_WriteString n_ y0 y1) (m_strings_Builder_WriteString y0 y1) := by
  unfold e_strings_Builder_WriteString m_strings_Builder_WriteString
  repeat with_reducible (first | intro _ | exact Le.refl _ | apply Le.ite | apply Le.seqE | apply Le.bind | apply Le.lp | exact Le.none _)
def e_formula_write_L1 (n_ : Nat) (y1 : T_Formula) (rec_formula_write : Str → T_Formula → Option Str) (s2 : Int × Str) : Option ((Int × Str) ⊕ Str) :=
  if decide (s2.1 < (len ((fv y1).2.2))) then
    (idx ((fv y1).2.2) s2.1).bind fun x1 =>
    (
      if decide (0 < s2.1) then
        (idx tab_formula_words ((fv y1).1)).bind fun x2 =>
        ((e_strings_Builder_WriteString n_) s2.2 x2).bind fun r5 =>
        some r5.2.2
      else
        some s2.2 : Option Str).bind fun s3 =>
    ((e_formula_strength n_) x1).bind fun r6 =>
    ((e_formula_needed n_) y1 s2.1).bind fun r7 =>
    if decide (r6 < r7) then
      ((e_strings_Builder_WriteByte n_) s3 40).bind fun r8 =>
      (rec_formula_write r8.2 x1).bind fun r9 =>
      ((e_strings_Builder_WriteByte n_) r9 41).bind fun r10 =>
      some (.inl (w64 (s2.1 + 1), r10.2))
    else
      (rec_formula_write s3 x1).bind fun r11 =>
      some (.inl (w64 (s2.1 + 1), r11))
  else
    some (.inr s2.2)
theorem le_formula_write_L1 (n_ : Nat) (y1 : T_Formula) {rec_formula_write rec_formula_write' : Str → T_Formula → Option Str} (h_rec_formula_write : ∀ u0 u1, Le (rec_formula_write u0 u1) (rec_formula_write' u0 u1)) (s2 : Int × Str) : Le (e_formula_write_L1 n_ y1 rec_formula_write s2) (m_formula_write_L1 y1 rec_formula_write' s2) := by
  unfold e_formula_write_L1 m_formula_write_L1
  repeat with_reducible (first | intro _ | apply h_rec_formula_write | apply le_strings_Builder_WriteByte | apply le_formula_needed | apply le_formula_strength | apply le_strings_Builder_WriteString | exact Le.refl _ | apply Le.ite | apply Le.seqE | apply Le.bind | apply Le.lp | exact Le.none _)
def fe_formula_write (n_ : Nat) (rec_formula_write : Str → T_Formula → Option Str) (y0 : Str) (y1 : T_Formula) : Option Str :=
  (
    if ((fv y1).1) == 1 then
      ((e_strings_Builder_WriteByte n_) y0 49).bind fun r1 =>
      some r1.2
    else
      if ((fv y1).1) == 2 then
        ((e_strings_Builder_WriteByte n_) y0 48).bind fun r2 =>
        some r2.2
      else
        if ((fv y1).1) == 3 then
          ((e_strings_Builder_WriteString n_) y0 ((fv y1).2.1)).bind fun r3 =>
          some r3.2.2
        else
          if ((fv y1).1) == 4 then
            ((e_strings_Builder_WriteByte n_) y0 126).bind fun r4 =>
            some r4.2
          else
            some y0 : Option Str).bind fun s1 =>
  (lp n_) ((e_formula_write_L1 n_) y1 rec_formula_write) (0, s1)
theorem lef_formula_write (n_ : Nat) {rec_formula_write rec_formula_write' : Str → T_Formula → Option Str} (h_rec_formula_write : ∀ u0 u1, Le (rec_formula_write u0 u1) (rec_formula_write' u0 u1)) (y0 : Str) (y1 : T_Formula) : Le (fe_formula_write n_ rec_formula_write y0 y1) (F_formula_write rec_formula_write' y0 y1) := by
  unfold fe_formula_write F_formula_write
  repeat with_reducible (first | intro _ | apply h_rec_formula_write | apply le_formula_write_L1 | apply le_strings_Builder_WriteString | apply le_strings_Builder_WriteByte | exact Le.refl _ | apply Le.ite | apply Le.seqE | apply Le.bind | apply Le.lp | exact Le.none _)
def ke_formula_write (n_ : Nat) : Nat → Str → T_Formula → Option Str
  | 0 => fun _ _ => none
  | k + 1 => fun y0 y1 => (fe_formula_write n_) ((ke_formula_write n_) k) y0 y1
theorem lek_formula_write (n_ : Nat) : ∀ (k m : Nat), k ≤ m → ∀ u0 u1, Le (ke_formula_write n_ k u0 u1) (k_formula_write m u0 u1)
  | 0, _, _ => fun u0 u1 => Le.none _
  | k + 1, m, h => fun u0 u1 => by
    obtain ⟨m, rfl⟩ : ∃ q, m = q + 1 := ⟨m - 1, by omega⟩
    exact lef_formula_write n_ (lek_formula_write n_ k m (by omega)) _ _
def e_formula_write (n_ : Nat) (y0 : Str) (y1 : T_Formula) : Option Str :=
  ke_formula_write n_ n_ y0 y1
theorem le_formula_write (n_ : Nat) (y0 : Str) (y1 : T_Formula) : Le (e_formula_write n_ y0 y1) (m_formula_write y0 y1) := Le.lim n_ fun m h => lek_formula_write n_ n_ m h _ _
def e_strings_Builder_Len (n_ : Nat) (y0 : Str) : Option Int := some (len y0)
theorem le_strings_Builder_Len (n_ : Nat) (y0 : Str) : Le (e_strings_Builder_Len n_ y0) (m_strings_Builder_Len y0) := by
  unfold e_strings_Builder_Len m_strings_Builder_Len
  repeat with_reducible (first | intro _ | exact Le.refl _ | apply Le.ite | apply Le.seqE | apply Le.bind | apply Le.lp | exact Le.none _)
def e_strings_Builder_String (n_ : Nat) (y0 : Str) : Option Str := some y0
theorem le_strings_Builder_String (n_ : Nat) (y0 : Str) : Le (e_strings_Builder_String n_ y0) (m_strings_Builder_String y0) := by
  unfold e_strings_Builder_String m_strings_Builder_String
  repeat with_reducible (first | intro _ | exact Le.refl _ | apply Le.ite | apply Le.seqE | apply Le.bind | apply Le.lp | exact Le.none _)
def e_formula_Format (n_ : Nat) (y0 : T_Formula) : Option (Str × Int) :=
  ((e_formula_Validate n_) y0).bind fun r1 =>
  if r1 != 0 then
    some ([], r1)
  else
    ((e_formula_write n_) ([] : Str) y0).bind fun r2 =>
    ((e_strings_Builder_Len n_) r2).bind fun r3 =>
    if decide (4096 < r3) then
      some ([], 2)
    else
      ((e_strings_Builder_String n_) r2).bind fun r4 =>
      some (r4, 0)
theorem le_formula_Format (n_ : Nat) (y0 : T_Formula) : Le (e_formula_Format n_ y0) (m_formula_Format y0) := by
  unfold e_formula_Format m_formula_Format
  repeat with_reducible (first | intro _ | apply le_strings_Builder_String | apply le_strings_Builder_Len | apply le_formula_write | apply le_formula_Validate | exact Le.refl _ | apply Le.ite | apply Le.seqE | apply Le.bind | apply Le.lp | exact Le.none _)
def e_slices_Index_bool_L1 (n_ : Nat) (y0 : List Bool) (y1 : Bool) (s1 : Int) : Option (Int ⊕ Int) :=
  if decide (s1 < (len y0)) then
    (idx y0 s1).bind fun x1 =>
    if y1 == x1 then
      some (.inr s1)
    else
      some (.inl (w64 (s1 + 1)))
  else
    some (.inr (-1))
theorem le_slices_Index_bool_L1 (n_ : Nat) (y0 : List Bool) (y1 : Bool) (s1 : Int) : Le (e_slices_Index_bool_L1 n_ y0 y1 s1) (m_slices_Index_bool_L1 y0 y1 s1) := by
  unfold e_slices_Index_bool_L1 m_slices_Index_bool_L1
  repeat with_reducible (first | intro _ | exact Le.refl _ | apply Le.ite | apply Le.seqE | apply Le.bind | apply Le.lp | exact Le.none _)
def e_slices_Index_bool (n_ : Nat) (y0 : List Bool) (y1 : Bool) : Option Int :=
  (lp n_) ((e_slices_Index_bool_L1 n_) y0 y1) 0
theorem le_slices_Index_bool (n_ : Nat) (y0 : List Bool) (y1 : Bool) : Le (e_slices_Index_bool n_ y0 y1) (m_slices_Index_bool y0 y1) := by
  unfold e_slices_Index_bool m_slices_Index_bool
  repeat with_reducible (first | intro _ | apply le_slices_Index_bool_L1 | exact Le.refl _ | apply Le.ite | apply Le.seqE | apply Le.bind | apply Le.lp | exact Le.none _)
def e_slices_Contains_bool (n_ : Nat) (y0 : List Bool) (y1 : Bool) : Option Bool :=
  ((e_slices_Index_bool n_) y0 y1).bind fun r1 =>
  some (decide (0 ≤ r1))
theorem le_slices_Contains_bool (n_ : Nat) (y0 : List Bool) (y1 : Bool) : Le (e_slices_Contains_bool n_ y0 y1) (m_slices_Contains_bool y0 y1) := by
  unfold e_slices_Contains_bool m_slices_Contains_bool
  repeat with_reducible (first | intro _ | apply le_slices_Index_bool | exact Le.refl _ | apply Le.ite | apply Le.seqE | apply Le.bind | apply Le.lp | exact Le.none _)
def e_world_Valid_L1 (n_ : Nat) (y0 : List Str) (s1 : Int) : Option (Int ⊕ Bool) :=
  if decide (s1 < (len y0)) then
    (idx y0 s1).bind fun x1 =>
    (
      ((e_literal_ValidName n_) x1).bind fun r1 =>
      if !r1 then
        some true
      else
        if decide (0 < s1) then
          (idx y0 (w64 (s1 - 1))).bind fun x2 =>
          some (!(sless x2 x1))
        else
          some false : Option Bool).bind fun s2 =>
    if s2 then
      some (.inr false)
    else
      some (.inl (w64 (s1 + 1)))
  else
    some (.inr true)
theorem le_world_Valid_L1 (n_ : Nat) (y0 : List Str) (s1 : Int) : Le (e_world_Valid_L1 n_ y0 s1) (m_world_Valid_L1 y0 s1) := by
  unfold e_world_Valid_L1 m_world_Valid_L1
  repeat with_reducible (first | intro _ | apply le_literal_ValidName | exact Le.refl _ | apply Le.ite | apply Le.seqE | apply Le.bind | apply Le.lp | exact Le.none _)
def e_world_Valid (n_ : Nat) (y0 : List Str) : Option Bool :=
  if decide (6 < (len y0)) then
    some false
  else
    (lp n_) ((e_world_Valid_L1 n_) y0) 0
theorem le_world_Valid (n_ : Nat) (y0 : List Str) : Le (e_world_Valid n_ y0) (m_world_Valid y0) := by
  unfold e_world_Valid m_world_Valid
  repeat with_reducible (first | intro _ | apply le_world_Valid_L1 | exact Le.refl _ | apply Le.ite | apply Le.seqE | apply Le.bind | apply Le.lp | exact Le.none _)
def e_order_Validate_L1 (n_ : Nat) (y0 : T_Order) (x2 : List Bool) (s3 : (List Bool) × Int × Int) : Option (((List Bool) × Int × Int) ⊕ (((List Bool) × Int) ⊕ Int)) :=
  if decide (s3.2.2 < (len y0.2)) then
    (idx y0.2 s3.2.2).bind fun x3 =>
    if (decide (x3 < 0)) || (decide ((len x2) ≤ x3)) then
      some (.inr (.inr 8))
    else
      (idx s3.1 x3).bind fun _ =>
      some (.inl (List.set s3.1 (Int.toNat x3) true, if x3 > s3.2.1 then x3 else s3.2.1, w64 (s3.2.2 + 1)))
  else
    some (.inr (.inl (s3.1, s3.2.1)))
theorem le_order_Validate_L1 (n_ : Nat) (y0 : T_Order) (x2 : List Bool) (s3 : (List Bool) × Int × Int) : Le (e_order_Validate_L1 n_ y0 x2 s3) (m_order_Validate_L1 y0 x2 s3) := by
  unfold e_order_Validate_L1 m_order_Validate_L1
  repeat with_reducible (first | intro _ | exact Le.refl _ | apply Le.ite | apply Le.seqE | apply Le.bind | apply Le.lp | exact Le.none _)
def e_order_Validate (n_ : Nat) (y0 : T_Order) : Option Int :=
  (
    ((e_world_Valid n_) y0.1).bind fun r1 =>
    if !r1 then
      some true
    else
      (shlK .i64 1 (len y0.1)).bind fun x1 =>
      some ((len y0.2) != x1) : Option Bool).bind fun s1 =>
  if s1 then
    some 1
  else
    (mkS (len y0.2) (len y0.2) (false : Bool)).bind fun x2 =>
    seqE ((lp n_) ((e_order_Validate_L1 n_) y0 x2) (x2, 0, 0) : Option (((List Bool) × Int) ⊕ Int)) fun s2 =>
    (sub s2.1 0 s2.2).bind fun x5 =>
    ((e_slices_Contains_bool n_) x5 false).bind fun r2 =>
    if r2 then
      some 8
    else
      some 0
theorem le_order_Validate (n_ : Nat) (y0 : T_Order) : Le (e_order_Validate n_ y0) (m_order_Validate y0) := by
  unfold e_order_Validate m_order_Validate
  repeat with_reducible (first | intro _ | apply le_slices_Contains_bool | apply le_order_Validate_L1 | apply le_world_Valid | exact Le.refl _ | apply Le.ite | apply Le.seqE | apply Le.bind | apply Le.lp | exact Le.none _)
def e_slices_Max_int_L1 (n_ : Nat) (y0 : List Int) (s2 : Int × Int) : Option ((Int × Int) ⊕ Int) :=
  if decide (s2.2 < (len y0)) then
    (idx y0 s2.2).bind fun x2 =>
    some (.inl (if x2 > s2.1 then x2 else s2.1, w64 (s2.2 + 1)))
  else
    some (.inr s2.1)
theorem le_slices_Max_int_L1 (n_ : Nat) (y0 : List Int) (s2 : Int × Int) : Le (e_slices_Max_int_L1 n_ y0 s2) (m_slices_Max_int_L1 y0 s2) := by
  unfold e_slices_Max_int_L1 m_slices_Max_int_L1
  repeat with_reducible (first | intro _ | exact Le.refl _ | apply Le.ite | apply Le.seqE | apply Le.bind | apply Le.lp | exact Le.none _)
def e_slices_Max_int (n_ : Nat) (y0 : List Int) : Option Int :=
  (
    if decide ((len y0) < 1) then
      none
    else
      some () : Option Unit).bind fun _ =>
  (idx y0 0).bind fun x1 =>
  (lp n_) ((e_slices_Max_int_L1 n_) y0) (x1, 1)
theorem le_slices_Max_int (n_ : Nat) (y0 : List Int) : Le (e_slices_Max_int n_ y0) (m_slices_Max_int y0) := by
  unfold e_slices_Max_int m_slices_Max_int
  repeat with_reducible (first | intro _ | apply le_slices_Max_int_L1 | exact Le.refl _ | apply Le.ite | apply Le.seqE | apply Le.bind | apply Le.lp | exact Le.none _)
def e_order_Levels_L1 (n_ : Nat) (y0 : T_Order) (s1 : (List Int) × Int) : Option (((List Int) × Int) ⊕ (List Int)) :=
  if decide (s1.2 < (len y0.2)) then
    (idx y0.2 s1.2).bind fun x2 =>
    (idx s1.1 x2).bind fun x3 =>
    (shlK .u64 1 (IntKind.u64.wrap (s1.2))).bind fun x4 =>
    (idx s1.1 x2).bind fun _ =>
    some (.inl (List.set s1.1 (Int.toNat x2) (bor .u64 x3 x4), w64 (s1.2 + 1)))
  else
    some (.inr s1.1)
theorem le_order_Levels_L1 (n_ : Nat) (y0 : T_Order) (s1 : (List Int) × Int) : Le (e_order_Levels_L1 n_ y0 s1) (m_order_Levels_L1 y0 s1) := by
  unfold e_order_Levels_L1 m_order_Levels_L1
  repeat with_reducible (first | intro _ | exact Le.refl _ | apply Le.ite | apply Le.seqE | apply Le.bind | apply Le.lp | exact Le.none _)
def e_order_Levels (n_ : Nat) (y0 : T_Order) : Option (List Int) :=
  ((e_order_Validate n_) y0).bind fun r1 =>
  if r1 != 0 then
    some ([] : List Int)
  else
    ((e_slices_Max_int n_) y0.2).bind fun r2 =>
    (mkS (w64 (r2 + 1)) (w64 (r2 + 1)) (0 : Int)).bind fun x1 =>
    (lp n_) ((e_order_Levels_L1 n_) y0) (x1, 0)
theorem le_order_Levels (n_ : Nat) (y0 : T_Order) : Le (e_order_Levels n_ y0) (m_order_Levels y0) := by
  unfold e_order_Levels m_order_Levels
  repeat with_reducible (first | intro _ | apply le_order_Levels_L1 | apply le_slices_Max_int | apply le_order_Validate | exact Le.refl _ | apply Le.ite | apply Le.seqE | apply Le.bind | apply Le.lp | exact Le.none _)
def e_internal_strconv_small (n_ : Nat) (y0 : Int) : Option Str :=
  if decide (y0 < 10) then
    (sub [48, 49, 50, 51, 52, 53, 54, 55, 56, 57, 97, 98, 99, 100, 101, 102, 103, 104, 105, 106, 107, 108, 109, 110, 111, 112, 113, 114, 115, 116, 117, 118, 119, 120, 121, 122] y0 (w64 (y0 + 1))).bind fun x1 =>
    some x1
  else
    (sub [48, 48, 48, 49, 48, 50, 48, 51, 48, 52, 48, 53, 48, 54, 48, 55, 48, 56, 48, 57, 49, 48, 49, 49, 49, 50, 49, 51, 49, 52, 49, 53, 49, 54, 49, 55, 49, 56, 49, 57, 50, 48, 50, 49, 50, 50, 50, 51, 50, 52, 50, 53, 50, 54, 50, 55, 50, 56, 50, 57, 51, 48, 51, 49, 51, 50, 51, 51, 51, 52, 51, 53, 51, 54, 51, 55, 51, 56, 51, 57, 52, 48, 52, 49, 52, 50, 52, 51, 52, 52, 52, 53, 52, 54, 52, 55, 52, 56, 52, 57, 53, 48, 53, 49, 53, 50, 53, 51, 53, 52, 53, 53, 53, 54, 53, 55, 53, 56, 53, 57, 54, 48, 54, 49, 54, 50, 54, 51, 54, 52, 54, 53, 54, 54, 54, 55, 54, 56, 54, 57, 55, 48, 55, 49, 55, 50, 55, 51, 55, 52, 55, 53, 55, 54, 55, 55, 55, 56, 55, 57, 56, 48, 56, 49, 56, 50, 56, 51, 56, 52, 56, 53, 56, 54, 56, 55, 56, 56, 56, 57, 57, 48, 57, 49, 57, 50, 57, 51, 57, 52, 57, 53, 57, 54, 57, 55, 57, 56, 57, 57] (w64 (y0 * 2)) (w64 ((w64 (y0 * 2)) + 2))).bind fun x2 =>
    some x2
theorem le_internal_strconv_small (n_ : Nat) (y0 : Int) : Le (e_internal_strconv_small n_ y0) (m_internal_strconv_small y0) := by
  unfold e_internal_strconv_small m_internal_strconv_small
  repeat with_reducible (first | intro _ | exact Le.refl _ | apply Le.ite | apply Le.seqE | apply Le.bind | apply Le.lp | exact Le.none _)
def e_internal_strconv_FormatInt (n_ : Nat) (y0 : Int) (y1 : Int) : Option Str :=
  if y1 == 10 then
    if (decide (0 ≤ y0)) && (decide (y0 < 100)) then
      ((e_internal_strconv_small n_) y0).bind fun r1 =>
      some r1
    else
      none
  else
    none
theorem le_internal_strconv_FormatInt (n_ : Nat) (y0 : Int) (y1 : Int) : Le (e_internal_strconv_FormatInt n_ y0 y1) (m_internal_strconv_FormatInt y0 y1) := by
  unfold e_internal_strconv_FormatInt m_internal_strconv_FormatInt
  repeat with_reducible (first | intro _ | apply le_internal_strconv_small | exact Le.refl _ | apply Le.ite | apply Le.seqE | apply Le.bind | apply Le.lp | exact Le.none _)
def e_internal_strconv_Itoa (n_ : Nat) (y0 : Int) : Option Str :=
  ((e_internal_strconv_FormatInt n_) y0 10).bind fun r1 =>
  some r1
theorem le_internal_strconv_Itoa (n_ : Nat) (y0 : Int) : Le (e_internal_strconv_Itoa n_ y0) (m_internal_strconv_Itoa y0) := by
  unfold e_internal_strconv_Itoa m_internal_strconv_Itoa
  repeat with_reducible (first | intro _ | apply le_internal_strconv_FormatInt | exact Le.refl _ | apply Le.ite | apply Le.seqE | apply Le.bind | apply Le.lp | exact Le.none _)
def e_strconv_Itoa (n_ : Nat) (y0 : Int) : Option Str :=
  ((e_internal_strconv_Itoa n_) y0).bind fun r1 =>
  some r1
theorem le_strconv_Itoa (n_ : Nat) (y0 : Int) : Le (e_strconv_Itoa n_ y0) (m_strconv_Itoa y0) := by
  unfold e_strconv_Itoa m_strconv_Itoa
  repeat with_reducible (first | intro _ | apply le_internal_strconv_Itoa | exact Le.refl _ | apply Le.ite | apply Le.seqE | apply Le.bind | apply Le.lp | exact Le.none _)
def e_report_number (n_ : Nat) (y0 : Int) : Option Str :=
  ((e_strconv_Itoa n_) y0).bind fun r1 =>
  some r1
theorem le_report_number (n_ : Nat) (y0 : Int) : Le (e_report_number n_ y0) (m_report_number y0) := by
  unfold e_report_number m_report_number
  repeat with_reducible (first | intro _ | apply le_strconv_Itoa | exact Le.refl _ | apply Le.ite | apply Le.seqE | apply Le.bind | apply Le.lp | exact Le.none _)
def e_world_whole (n_ : Nat) (y0 : Int) : Option Int :=
  (shlK .u64 1 y0).bind fun x1 =>
  (shrK .u64 18446744073709551615 (IntKind.u64.wrap (64 - x1))).bind fun x2 =>
  some x2
theorem le_world_whole (n_ : Nat) (y0 : Int) : Le (e_world_whole n_ y0) (m_world_whole y0) := by
  unfold e_world_whole m_world_whole
  repeat with_reducible (first | intro _ | exact Le.refl _ | apply Le.ite | apply Le.seqE | apply Le.bind | apply Le.lp | exact Le.none _)
def e_world_All (n_ : Nat) (y0 : List Str) : Option Int :=
  ((e_world_Valid n_) y0).bind fun r1 =>
  if !r1 then
    some 0
  else
    ((e_world_whole n_) (len y0)).bind fun r2 =>
    some r2
theorem le_world_All (n_ : Nat) (y0 : List Str) : Le (e_world_All n_ y0) (m_world_All y0) := by
  unfold e_world_All m_world_All
  repeat with_reducible (first | intro _ | apply le_world_whole | apply le_world_Valid | exact Le.refl _ | apply Le.ite | apply Le.seqE | apply Le.bind | apply Le.lp | exact Le.none _)
def e_world_split_L1 (n_ : Nat) (y0 : Int) (s1 : Int × Int × Int) : Option ((Int × Int × Int) ⊕ (Int × Int)) :=
  if decide (s1.2.2 < 32) then
    (shrK .u64 y0 (w64 (2 * s1.2.2))).bind fun x1 =>
    (shlK .u64 (band .u64 x1 1) s1.2.2).bind fun x2 =>
    (shrK .u64 y0 (w64 ((w64 (2 * s1.2.2)) + 1))).bind fun x3 =>
    (shlK .u64 (band .u64 x3 1) s1.2.2).bind fun x4 =>
    some (.inl (bor .u64 s1.1 x4, bor .u64 s1.2.1 x2, w64 (s1.2.2 + 1)))
  else
    some (.inr (s1.1, s1.2.1))
theorem le_world_split_L1 (n_ : Nat) (y0 : Int) (s1 : Int × Int × Int) : Le (e_world_split_L1 n_ y0 s1) (m_world_split_L1 y0 s1) := by
  unfold e_world_split_L1 m_world_split_L1
  repeat with_reducible (first | intro _ | exact Le.refl _ | apply Le.ite | apply Le.seqE | apply Le.bind | apply Le.lp | exact Le.none _)
def e_world_split (n_ : Nat) (y0 : Int) : Option (Int × Int) :=
  (lp n_) ((e_world_split_L1 n_) y0) (0, 0, 0)
theorem le_world_split (n_ : Nat) (y0 : Int) : Le (e_world_split n_ y0) (m_world_split y0) := by
  unfold e_world_split m_world_split
  repeat with_reducible (first | intro _ | apply le_world_split_L1 | exact Le.refl _ | apply Le.ite | apply Le.seqE | apply Le.bind | apply Le.lp | exact Le.none _)
def e_world_two (n_ : Nat) (y0 : Int) (y1 : T_Formula) (y2 : T_Formula) : Option T_Formula :=
  some (fm (y0, [], ([y1, y2] : List T_Formula)))
theorem le_world_two (n_ : Nat) (y0 : Int) (y1 : T_Formula) (y2 : T_Formula) : Le (e_world_two n_ y0 y1 y2) (m_world_two y0 y1 y2) := by
  unfold e_world_two m_world_two
  repeat with_reducible (first | intro _ | exact Le.refl _ | apply Le.ite | apply Le.seqE | apply Le.bind | apply Le.lp | exact Le.none _)
def fe_world_theory (n_ : Nat) (rec_world_theory : (List Str) → Int → Option T_Formula) (y0 : List Str) (y1 : Int) : Option T_Formula :=
  ((e_world_whole n_) (len y0)).bind fun r1 =>
  if y1 == 0 then
    some (fm (2, [], ([] : List T_Formula)))
  else
    if y1 == r1 then
      some (fm (1, [], ([] : List T_Formula)))
    else
      (sub y0 1 (len y0)).bind fun x1 =>
      ((e_world_split n_) y1).bind fun r2 =>
      if r2.1 == r2.2 then
        (rec_world_theory x1 r2.1).bind fun r3 =>
        some r3
      else
        (idx y0 0).bind fun x2 =>
        (idx y0 0).bind fun x3 =>
        ((e_world_whole n_) (len x1)).bind fun r4 =>
        if (r2.1 == r4) && (r2.2 == 0) then
          some (fm (3, x2, ([] : List T_Formula)))
        else
          if r2.1 == r4 then
            (rec_world_theory x1 r2.2).bind fun r5 =>
            ((e_world_two n_) 6 (fm (3, x2, ([] : List T_Formula))) r5).bind fun r6 =>
            some r6
          else
            if (r2.1 == 0) && (r2.2 == r4) then
              some (fm (4, [], ([fm (3, x3, ([] : List T_Formula))] : List T_Formula)))
            else
              if r2.1 == 0 then
                (rec_world_theory x1 r2.2).bind fun r7 =>
                ((e_world_two n_) 5 (fm (4, [], ([fm (3, x3, ([] : List T_Formula))] : List T_Formula))) r7).bind fun r8 =>
                some r8
              else
                if r2.2 == r4 then
                  (rec_world_theory x1 r2.1).bind fun r9 =>
                  ((e_world_two n_) 6 (fm (4, [], ([fm (3, x3, ([] : List T_Formula))] : List T_Formula))) r9).bind fun r10 =>
                  some r10
                else
                  if r2.2 == 0 then
                    (rec_world_theory x1 r2.1).bind fun r11 =>
                    ((e_world_two n_) 5 (fm (3, x2, ([] : List T_Formula))) r11).bind fun r12 =>
                    some r12
                  else
                    (rec_world_theory x1 r2.1).bind fun r13 =>
                    ((e_world_two n_) 5 (fm (3, x2, ([] : List T_Formula))) r13).bind fun r14 =>
                    (rec_world_theory x1 r2.2).bind fun r15 =>
                    ((e_world_two n_) 5 (fm (4, [], ([fm (3, x3, ([] : List T_Formula))] : List T_Formula))) r15).bind fun r16 =>
                    ((e_world_two n_) 6 r14 r16).bind fun r17 =>
                    some r17
theorem lef_world_theory (n_ : Nat) {rec_world_theory rec_world_theory' : (List Str) → Int → Option T_Formula} (h_rec_world_theory : ∀ u0 u1, Le (rec_world_theory u0 u1) (rec_world_theory' u0 u1)) (y0 : List Str) (y1 : Int) : Le (fe_world_theory n_ rec_world_theory y0 y1) (F_world_theory rec_world_theory' y0 y1) := by
  unfold fe_world_theory F_world_theory
  repeat with_reducible (first | intro _ | apply h_rec_world_theory | apply le_world_two | apply le_world_split | apply le_world_whole | exact Le.refl _ | apply Le.ite | apply Le.seqE | apply Le.bind | apply Le.lp | exact Le.none _)
def ke_world_theory (n_ : Nat) : Nat → (List Str) → Int → Option T_Formula
  | 0 => fun _ _ => none
  | k + 1 => fun y0 y1 => (fe_world_theory n_) ((ke_world_theory n_) k) y0 y1
theorem lek_world_theory (n_ : Nat) : ∀ (k m : Nat), k ≤ m → ∀ u0 u1, Le (ke_world_theory n_ k u0 u1) (k_world_theory m u0 u1)
  | 0, _, _ => fun u0 u1 => Le.none _
  | k + 1, m, h => fun u0 u1 => by
    obtain ⟨m, rfl⟩ : ∃ q, m = q + 1 := ⟨m - 1, by omega⟩
    exact lef_world_theory n_ (lek_world_theory n_ k m (by omega)) _ _
def e_world_theory (n_ : Nat) (y0 : List Str) (y1 : Int) : Option T_Formula :=
  ke_world_theory n_ n_ y0 y1
theorem le_world_theory (n_ : Nat) (y0 : List Str) (y1 : Int) : Le (e_world_theory n_ y0 y1) (m_world_theory y0 y1) := Le.lim n_ fun m h => lek_world_theory n_ n_ m h _ _
def e_world_Theory (n_ : Nat) (y0 : List Str) (y1 : Int) : Option (T_Formula × Int) :=
  ((e_world_Valid n_) y0).bind fun r1 =>
  if !r1 then
    some (fm (0, [], ([] : List T_Formula)), 1)
  else
    ((e_world_All n_) y0).bind fun r2 =>
    ((e_world_theory n_) y0 (band .u64 y1 r2)).bind fun r3 =>
    some (r3, 0)
theorem le_world_Theory (n_ : Nat) (y0 : List Str) (y1 : Int) : Le (e_world_Theory n_ y0 y1) (m_world_Theory y0 y1) := by
  unfold e_world_Theory m_world_Theory
  repeat with_reducible (first | intro _ | apply le_world_theory | apply le_world_All | apply le_world_Valid | exact Le.refl _ | apply Le.ite | apply Le.seqE | apply Le.bind | apply Le.lp | exact Le.none _)
def e_report_Order_L1 (n_ : Nat) (r1 : (List Int)) (y0 : T_Order) (s1 : (List Str) × Int) : Option (((List Str) × Int) ⊕ (List Str)) :=
  if decide (s1.2 < (len r1)) then
    (idx r1 s1.2).bind fun x1 =>
    ((e_world_Theory n_) y0.1 x1).bind fun r2 =>
    ((e_formula_Format n_) r2.1).bind fun r3 =>
    ((e_report_number n_) s1.2).bind fun r4 =>
    (cat r4 [58, 32]).bind fun x2 =>
    (cat x2 r3.1).bind fun x3 =>
    (app s1.1 ([x3] : List Str)).bind fun x4 =>
    some (.inl (x4, w64 (s1.2 + 1)))
  else
    some (.inr s1.1)
theorem le_report_Order_L1 (n_ : Nat) (r1 : (List Int)) (y0 : T_Order) (s1 : (List Str) × Int) : Le (e_report_Order_L1 n_ r1 y0 s1) (m_report_Order_L1 r1 y0 s1) := by
  unfold e_report_Order_L1 m_report_Order_L1
  repeat with_reducible (first | intro _ | apply le_report_number | apply le_formula_Format | apply le_world_Theory | exact Le.refl _ | apply Le.ite | apply Le.seqE | apply Le.bind | apply Le.lp | exact Le.none _)
def e_report_Order (n_ : Nat) (y0 : T_Order) : Option (List Str) :=
  ((e_order_Levels n_) y0).bind fun r1 =>
  (lp n_) ((e_report_Order_L1 n_) r1 y0) (([] : List Str), 0)
theorem le_report_Order (n_ : Nat) (y0 : T_Order) : Le (e_report_Order n_ y0) (m_report_Order y0) := by
  unfold e_report_Order m_report_Order
  repeat with_reducible (first | intro _ | apply le_report_Order_L1 | apply le_order_Levels | exact Le.refl _ | apply Le.ite | apply Le.seqE | apply Le.bind | apply Le.lp | exact Le.none _)
def e_law42_awake (n_ : Nat) : Option Bool :=
  ((e_keep_Voc n_) 2).bind fun r1 =>
  ((e_report_Order n_) (r1, ([2, 1, 2, 0] : List Int))).bind fun r2 =>
  ((e_keep_Voc n_) 2).bind fun r3 =>
  (idx r3 0).bind fun x1 =>
  ((e_keep_Voc n_) 2).bind fun r4 =>
  (idx r4 1).bind fun x2 =>
  (cat [48, 58, 32] x1).bind fun x3 =>
  (cat x3 [32, 38, 32]).bind fun x4 =>
  (cat x4 x2).bind fun x5 =>
  (cat [49, 58, 32] x1).bind fun x6 =>
  (cat x6 [32, 38, 32, 126]).bind fun x7 =>
  (cat x7 x2).bind fun x8 =>
  (cat [50, 58, 32, 126] x1).bind fun x9 =>
  ((e_ref42_Same n_) r2 ([x5, x8, x9] : List Str)).bind fun r5 =>
  some r5
theorem le_law42_awake (n_ : Nat) : Le (e_law42_awake n_ ) (m_law42_awake ) := by
  unfold e_law42_awake m_law42_awake
  repeat with_reducible (first | intro _ | apply le_ref42_Same | apply le_report_Order | apply le_keep_Voc | exact Le.refl _ | apply Le.ite | apply Le.seqE | apply Le.bind | apply Le.lp | exact Le.none _)
def fe_ref42_digits (n_ : Nat) (rec_ref42_digits : Int → Option Str) (y0 : Int) : Option Str :=
  if decide (y0 < 10) then
    some (strOf ([IntKind.u8.wrap (w64 (48 + y0))] : List Int))
  else
    (
      (quoK .i64 y0 10).bind fun x1 =>
      (remK y0 10).bind fun x2 =>
      (rec_ref42_digits x1).bind fun r1 =>
      (cat r1 (strOf ([IntKind.u8.wrap (w64 (48 + x2))] : List Int))).bind fun x3 =>
      some x3 : Option Str).bind fun s1 =>
    some s1
theorem lef_ref42_digits (n_ : Nat) {rec_ref42_digits rec_ref42_digits' : Int → Option Str} (h_rec_ref42_digits : ∀ u0, Le (rec_ref42_digits u0) (rec_ref42_digits' u0)) (y0 : Int) : Le (fe_ref42_digits n_ rec_ref42_digits y0) (F_ref42_digits rec_ref42_digits' y0) := by
  unfold fe_ref42_digits F_ref42_digits
  repeat with_reducible (first | intro _ | apply h_rec_ref42_digits | exact Le.refl _ | apply Le.ite | apply Le.seqE | apply Le.bind | apply Le.lp | exact Le.none _)
def ke_ref42_digits (n_ : Nat) : Nat → Int → Option Str
  | 0 => fun _ => none
  | k + 1 => fun y0 => (fe_ref42_digits n_) ((ke_ref42_digits n_) k) y0
theorem lek_ref42_digits (n_ : Nat) : ∀ (k m : Nat), k ≤ m → ∀ u0, Le (ke_ref42_digits n_ k u0) (k_ref42_digits m u0)
  | 0, _, _ => fun u0 => Le.none _
  | k + 1, m, h => fun u0 => by
    obtain ⟨m, rfl⟩ : ∃ q, m = q + 1 := ⟨m - 1, by omega⟩
    exact lef_ref42_digits n_ (lek_ref42_digits n_ k m (by omega)) _
def e_ref42_digits (n_ : Nat) (y0 : Int) : Option Str :=
  ke_ref42_digits n_ n_ y0
theorem le_ref42_digits (n_ : Nat) (y0 : Int) : Le (e_ref42_digits n_ y0) (m_ref42_digits y0) := Le.lim n_ fun m h => lek_ref42_digits n_ n_ m h _
end
section
theorem sto_awake : m_law42_awake = some true := (le_law42_awake 60).el true (by kernel_rfl)
def digS : Bool := (List.range 100).all fun k => match e_report_number 60 (k : Int), e_ref42_digits 60 (k : Int) with
  | some a, some b => a == b && decide (a.length ≤ 2)
  | _, _ => false
theorem digS_ok : DigOk := fun k hk => by
  have h : digS = true := by kernel_rfl
  have h := List.all_eq_true.1 h k (List.mem_range.2 hk)
  cases h1 : e_report_number 60 (k : Int) with
  | none => rw [h1] at h; cases h
  | some a =>
    cases h2 : e_ref42_digits 60 (k : Int) with
    | none => rw [h1, h2] at h; cases h
    | some b =>
      rw [h1, h2] at h
      simp only [Bool.and_eq_true, beq_iff_eq, decide_eq_true_eq] at h
      obtain ⟨rfl, h3⟩ := h
      exact ⟨a, (le_report_number 60 _).el a h1, (le_ref42_digits 60 _).el a h2, h3⟩
theorem p_law42_ReportStores (y0 : List (List T_Commitment)) (y1 : List Int) {W0 W1 : Prop} (_w0 : W0) (_w1 : W1) : m_law42_ReportStores y0 y1 = some true := p_ReportStores sto_awake digS_ok y0 y1
end

end Go.GD
