/- The plain law: what the models compute, in plain Lean. Conditions: none. -/
import Derived.Test.YtfifhonicjamfaaGreatDoorLib
import Derived.Test.YtfifhonicjamfaaGreatDoorModels
import Derived.Shelf.Strings.FieldsAny
import Derived.Test.YtfifhonicjamfaaGreatDoorJoin
namespace Go.GD
set_option autoImplicit false

section
theorem w64_id {x : Int} (h1 : -9223372036854775808 ≤ x) (h2 : x < 9223372036854775808) : w64 x = x := by
  simp only [w64, IntKind.wrap, IntKind.signed, IntKind.bits]
  simp; omega
theorem w64_succ (n : Nat) (h : n + 1 < 9223372036854775808) : w64 ((n : Int) + 1) = ((n + 1 : Nat) : Int) := by rw [w64_id (by omega) (by omega)]; omega
theorem idx_nat {α : Type} (l : List α) (i : Nat) : idx l (i : Int) = l[i]? := by simp [idx]
theorem sidx_nat (l : Str) (i : Nat) : sidx l (i : Int) = (l[i]?).map (fun b => (b.toNat : Int)) := by simp [sidx]
theorem idx_some {α : Type} {l : List α} {i : Int} (h0 : 0 ≤ i) (h1 : i < l.length) : ∃ x, idx l i = some x ∧ l[i.toNat]? = some x := by
  have : l[i.toNat]? = some l[i.toNat] := List.getElem?_eq_getElem (by omega)
  exact ⟨_, by simp [idx, h0, this], this⟩
theorem app_ok {α : Type} {l m : List α} (h : l.length + m.length < 4294967296) : app l m = some (l ++ m) := by simp [app, h]
theorem cat_ok {l m : Str} (h : l.length + m.length < 4294967296) : cat l m = some (l ++ m) := by simp [cat, h]
theorem sub_ok {α : Type} {l : List α} {i j : Int} (h0 : 0 ≤ i) (h1 : i ≤ j) (h2 : j ≤ l.length) : sub l i j = some ((l.take j.toNat).drop i.toNat) := by simp [sub, h0, h1, h2]
theorem sub_pre {α : Type} {l : List α} {j : Int} (h1 : 0 ≤ j) (h2 : j ≤ l.length) : sub l 0 j = some (l.take j.toNat) := by simp [sub, h1, h2]
theorem sub_suf {α : Type} {l : List α} {i : Int} (h1 : 0 ≤ i) (h2 : i ≤ l.length) : sub l i (len l) = some (l.drop i.toNat) := by simp [sub, h1, h2]
/-- a walk along a list -/
def runL {σ ρ α : Type} (step : Nat → σ → α → Option (σ ⊕ ρ)) (fin : σ → Option ρ) : Nat → List α → σ → Option ρ
  | _, [], s => fin s
  | i, x :: l, s => match step i s x with
    | none => none
    | some (.inl s') => runL step fin (i + 1) l s'
    | some (.inr r) => some r
theorem loop_runL {σ ρ α τ : Type} {B : τ → Option (τ ⊕ ρ)} (mk : Nat → σ → τ) (l : List α) (step : Nat → σ → α → Option (σ ⊕ ρ)) (fin : σ → Option ρ)
    (hB : ∀ i x s, l[i]? = some x → B (mk i s) = (step i s x).map fun o => match o with | .inl s' => .inl (mk (i + 1) s') | .inr r => .inr r)
    (he : ∀ s, B (mk l.length s) = (fin s).map .inr) : ∀ (n i : Nat) (s : σ), i + n = l.length → loop B (mk i s) = runL step fin i (l.drop i) s := by
  intro n
  induction n with
  | zero =>
    intro i s h
    rw [Nat.add_zero] at h
    subst h
    rw [loop_eq, he, List.drop_length]
    cases hf : fin s <;> simp [runL, hf]
  | succ n ih =>
    intro i s h
    have hx : l[i]? = some l[i] := List.getElem?_eq_getElem (by omega)
    rw [loop_eq, hB i _ s hx, List.drop_eq_getElem_cons (by omega)]
    cases hs : step i s l[i] with
    | none => simp [runL, hs]
    | some o =>
      cases o with
      | inl s' => simp only [Option.map_some, runL, hs]; exact ih (i + 1) s' (by omega)
      | inr r => simp [runL, hs]
theorem loop_runL0 {σ ρ α τ : Type} {B : τ → Option (τ ⊕ ρ)} (mk : Nat → σ → τ) (l : List α) (step : Nat → σ → α → Option (σ ⊕ ρ)) (fin : σ → Option ρ)
    (hB : ∀ i x s, l[i]? = some x → B (mk i s) = (step i s x).map fun o => match o with | .inl s' => .inl (mk (i + 1) s') | .inr r => .inr r)
    (he : ∀ s, B (mk l.length s) = (fin s).map .inr) (s : σ) : loop B (mk 0 s) = runL step fin 0 l s := by
  have := loop_runL mk l step fin hB he l.length 0 s (by omega)
  simpa using this
/-- the same, with a state of which I holds -/
theorem loop_forI {ρ α σ τ : Type} {B : τ → Option (τ ⊕ ρ)} (mk : Nat → σ → τ) (l : List α) (I : Nat → σ → Prop) (Q : ρ → Prop)
    (hB : ∀ i x s, l[i]? = some x → I i s → (∃ s', B (mk i s) = some (.inl (mk (i + 1) s')) ∧ I (i + 1) s') ∨ ∃ r, B (mk i s) = some (.inr r) ∧ Q r)
    (he : ∀ s, I l.length s → ∃ r, B (mk l.length s) = some (.inr r) ∧ Q r) : ∀ s, I 0 s → ∃ r, loop B (mk 0 s) = some r ∧ Q r := by
  have key : ∀ n i s, i + n = l.length → I i s → ∃ r, loop B (mk i s) = some r ∧ Q r := by
    intro n
    induction n with
    | zero =>
      intro i s h hI
      rw [Nat.add_zero] at h
      subst h
      obtain ⟨r, h1, h2⟩ := he s hI
      exact ⟨r, by rw [loop_eq, h1], h2⟩
    | succ n ih =>
      intro i s h hI
      have hx : l[i]? = some l[i] := List.getElem?_eq_getElem (by omega)
      rcases hB i _ s hx hI with ⟨s', h1, h2⟩ | ⟨r, h1, h2⟩
      · obtain ⟨r, h3, h4⟩ := ih (i + 1) s' (by omega) h2
        exact ⟨r, by rw [loop_eq, h1]; exact h3, h4⟩
      · exact ⟨r, by rw [loop_eq, h1], h2⟩
  exact fun s hI => key l.length 0 s (by omega) hI
/-- rounds counted by a number alone -/
theorem loop_nat {ρ τ : Type} {B : τ → Option (τ ⊕ ρ)} (μ : τ → Nat) (I : τ → Prop) (Q : ρ → Prop)
    (step : ∀ s, I s → (∃ s', B s = some (.inl s') ∧ I s' ∧ μ s' < μ s) ∨ (∃ r, B s = some (.inr r) ∧ Q r)) (s : τ) (h : I s) : ∃ r, loop B s = some r ∧ Q r := loop_spec I μ Q step s h
end
section
/-- the reader's state as it is kept -/
structure SrcOk (s : T_keep_Src) : Prop where
  lo : 0 ≤ s.2
  hi : s.2 ≤ s.1.length
  small : s.1.length ≤ 2000
theorem keep_New (l : List Int) : m_keep_New l = some (l.take 2000, 0) := by
  unfold m_keep_New
  by_cases h : 2000 < len l
  · rw [if_pos h, sub_pre (by omega) (by simp [len] at h; omega)]; rfl
  · rw [if_neg h, sub_pre (by simp [len]) (by simp [len])]
    simp only [Option.bind_some]
    rw [List.take_of_length_le (by simp), List.take_of_length_le (by simp [len] at h; omega)]
theorem srcOk_New (l : List Int) : SrcOk (l.take 2000, 0) := ⟨Int.le_refl _, by simp, by simp; omega⟩
theorem keep_Raw {s : T_keep_Src} (h : SrcOk s) : ∃ v k, m_keep_Src_Raw s = some (v, k) ∧ SrcOk (s.1, k) := by
  obtain ⟨h1, h2, h3⟩ := h
  unfold m_keep_Src_Raw
  by_cases hk : len s.1 ≤ s.2
  · exact ⟨0, s.2, by simp [hk], h1, h2, h3⟩
  · have hk' : s.2 < s.1.length := by simpa [len] using hk
    obtain ⟨x, hx, _⟩ := idx_some h1 hk'
    refine ⟨x, s.2 + 1, ?_, by show (0 : Int) ≤ s.2 + 1; omega, by show s.2 + 1 ≤ (s.1.length : Int); omega, h3⟩
    simp only [hk, decide_false, Bool.false_eq_true, if_false]
    rw [w64_id (x := s.2 + 1) (by omega) (by omega), show s.2 + 1 - 1 = s.2 by omega, w64_id (by omega) (by omega), hx]; rfl
theorem keep_Mod {x n : Int} (h0 : 1 ≤ n) (h1 : n ≤ 4611686018427387904) : ∃ v, m_keep_Mod x n = some v ∧ 0 ≤ v ∧ v < n := by
  unfold m_keep_Mod
  have hn : ¬ n < 1 := by omega
  have hn0 : n ≠ 0 := by omega
  simp only [hn, decide_false, Bool.false_eq_true, if_false, remK, hn0, Option.bind_some]
  have ha := Int.tmod_lt_of_pos x (show 0 < n by omega)
  have hb : -n < x.tmod n := by
    have := Int.lt_tmod_of_pos x (show 0 < n by omega)
    exact this
  by_cases hx : x.tmod n < 0
  · exact ⟨x.tmod n + n, by simp [hx, w64_id (x := x.tmod n + n) (by omega) (by omega)], by omega, by omega⟩
  · exact ⟨x.tmod n, by simp [hx], by omega, ha⟩
theorem keep_N {s : T_keep_Src} {n : Int} (h : SrcOk s) (h0 : 1 ≤ n) (h1 : n ≤ 4611686018427387904) : ∃ v k, m_keep_Src_N s n = some (v, k) ∧ 0 ≤ v ∧ v < n ∧ SrcOk (s.1, k) := by
  obtain ⟨v, k, hr, hk⟩ := keep_Raw h
  obtain ⟨u, hu, h2, h3⟩ := keep_Mod (x := v) h0 h1
  exact ⟨u, k, by simp [m_keep_Src_N, hr, hu], h2, h3, hk⟩
theorem keep_Text {s : T_keep_Src} {l : List Str} (h : SrcOk s) (h0 : l ≠ []) (h1 : l.length ≤ 1000) : ∃ x k, m_keep_Src_Text s l = some (x, k) ∧ x ∈ l ∧ SrcOk (s.1, k) := by
  have hp := List.length_pos_iff.2 h0
  obtain ⟨v, k, hr, h2, h3, hk⟩ := keep_N (n := len l) h (by simp [len]; omega) (by simp [len]; omega)
  obtain ⟨x, hx, hx2⟩ := idx_some h2 h3
  exact ⟨x, k, by simp [m_keep_Src_Text, hr, hx], List.mem_of_getElem? hx2, hk⟩
/-- the names of the readers' literals -/
def atomN (k : Nat) : Str := [UInt8.ofNat (97 + k)]
theorem keep_Literal {s : T_keep_Src} {n : Int} (h : SrcOk s) (h0 : 1 ≤ n) (h1 : n ≤ 26) : ∃ (g : Bool) (j : Nat) (k : Int), m_keep_Src_Literal s n = some ((g, atomN j), k) ∧ (j : Int) < n ∧ SrcOk (s.1, k) := by
  obtain ⟨v, k, hr, h2, h3, hk⟩ := keep_N (n := 2 * n) h (by omega) (by omega)
  obtain ⟨m, rfl⟩ := Int.eq_ofNat_of_zero_le h2
  refine ⟨band .i64 m 1 == 1, m / 2, k, ?_, by omega, hk⟩
  unfold m_keep_Src_Literal
  rw [w64_id (x := 2 * n) (by omega) (by omega), hr]
  have hq : quoK .i64 (m : Int) 2 = some ((m / 2 : Nat) : Int) := by
    simp only [quoK]
    rw [if_neg (by omega)]
    show some (w64 _) = _
    have : (m : Int).tdiv 2 = ((m / 2 : Nat) : Int) := by
      rw [Int.tdiv_eq_ediv_of_nonneg (by omega)]; omega
    rw [this, w64_id (by omega) (by omega)]
  simp only [Option.bind_some, hq]
  have hw : IntKind.u8.wrap (w64 (97 + ((m / 2 : Nat) : Int))) = ((97 + m / 2 : Nat) : Int) := by
    rw [w64_id (by omega) (by omega)]
    simp only [IntKind.wrap, IntKind.signed, IntKind.bits]
    simp; omega
  rw [hw]
  rfl
end
section
section
variable {α : Type} [BEq α]
end
section
variable {α : Type} {lt : α → α → Bool}
abbrev Asc (lt : α → α → Bool) (l : List α) : Prop := l.Pairwise fun x y => lt x y = true
end
section
variable {α : Type} [BEq α]
noncomputable def sameL (y0 : List α) (y1 : List α) (s1 : Int) : Option (Int ⊕ Bool) :=
  if decide (s1 < (len y0)) then
    (idx y0 s1).bind fun x1 =>
    (idx y1 s1).bind fun x2 =>
    if !(x1 == x2) then
      some (.inr false)
    else
      some (.inl (w64 (s1 + 1)))
  else
    some (.inr true)
noncomputable def sameM (y0 : List α) (y1 : List α) : Option Bool :=
  if (len y0) != (len y1) then
    some false
  else
    loop (sameL y0 y1) 0
theorem sameM_spec [DecidableEq α] [LawfulBEq α] (l m : List α) (hb : l.length < 9223372036854775807) : sameM l m = some (decide (l = m)) := by
  unfold sameM
  by_cases hl : l.length = m.length
  · have h0 : (len l != len m) = false := by simp [len, hl]
    simp only [h0, Bool.false_eq_true, if_false]
    have h := loop_forI (B := sameL l m) (fun i (_ : Unit) => (i : Int)) l (fun i _ => ∀ j, j < i → l[j]? = m[j]?) (fun r => r = decide (l = m)) ?_ ?_ () (by simp)
    · obtain ⟨r, h1, rfl⟩ := h; exact h1
    · intro i x s hx hI
      have hi := (List.getElem?_eq_some_iff.1 hx).1
      have hy : m[i]? = some m[i] := List.getElem?_eq_getElem (by omega)
      have hlt : decide ((i : Int) < len l) = true := by simp [len]; omega
      unfold sameL
      simp only [hlt, if_true, idx_nat, hx, hy, Option.bind_some]
      by_cases he : x = m[i]
      · refine .inl ⟨(), by simp [he, w64_succ i (by omega)], fun j hj => ?_⟩
        rcases Nat.lt_succ_iff_lt_or_eq.1 hj with h | rfl
        · exact hI j h
        · rw [hx, hy, he]
      · refine .inr ⟨false, by simp [he], ?_⟩
        symm
        rw [decide_eq_false_iff_not]
        intro h; subst h
        rw [hx] at hy; cases hy; exact he rfl
    · intro s hI
      refine ⟨true, by unfold sameL; simp [len], ?_⟩
      symm
      rw [decide_eq_true_iff]
      apply List.ext_getElem?
      intro j
      by_cases hj : j < l.length
      · exact hI j hj
      · rw [List.getElem?_eq_none (by omega), List.getElem?_eq_none (by omega)]
  · have h0 : (len l != len m) = true := by simp [len]; omega
    simp only [h0, if_true]
    congr 1; symm
    rw [decide_eq_false_iff_not]
    intro h; subst h; exact hl rfl
end
end
section
/-- whatever the one answers, the other answers -/
structure Le {α : Type} (a b : Option α) : Prop where
  el : ∀ r, a = some r → b = some r
theorem Le.refl {α : Type} (a : Option α) : Le a a := ⟨fun _ h => h⟩
theorem Le.bind {α β : Type} {a b : Option α} {f g : α → Option β} (h : Le a b) (k : ∀ x, Le (f x) (g x)) : Le (a.bind f) (b.bind g) := ⟨fun r hr => by
  cases a with
  | none => cases hr
  | some x => rw [h.el x rfl]; exact (k x).el r hr⟩
theorem Le.ite {α : Type} {c : Prop} [Decidable c] {a b a' b' : Option α} (h : Le a b) (k : Le a' b') : Le (if c then a else a') (if c then b else b') := by
  split
  · exact h
  · exact k
theorem Le.seqE {σ α : Type} {a b : Option (σ ⊕ α)} {f g : σ → Option α} (h : Le a b) (k : ∀ x, Le (f x) (g x)) : Le (seqE a f) (seqE b g) :=
  Le.bind h fun o => by
    cases o with
    | inl s => exact k s
    | inr r => exact Le.refl _
theorem Le.none {α : Type} (b : Option α) : Le none b := ⟨fun _ h => nomatch h⟩
abbrev lp {σ ρ : Type} (n : Nat) (B : σ → Option (σ ⊕ ρ)) (s : σ) : Option ρ := iter B n s
theorem Le.lp {σ ρ : Type} {B C : σ → Option (σ ⊕ ρ)} (h : ∀ s, Le (B s) (C s)) (n : Nat) (s : σ) : Le (lp n B s) (loop C s) := by
  refine ⟨fun r hr => ?_⟩
  refine loop_of_iter (n := n) ?_
  revert s
  induction n with
  | zero => intro s hr; cases hr
  | succ n ih =>
    intro s hr
    simp only [iter] at hr ⊢
    cases hb : B s with
    | none => rw [hb] at hr; cases hr
    | some o =>
      rw [hb] at hr
      rw [(h s).el o hb]
      cases o with
      | inl s' => exact ih s' hr
      | inr r' => exact hr
end
section
section
variable {α : Type} {l : List α} {i : Nat} {x : α}
theorem at_lt (h : l[i]? = some x) : i < l.length := (List.getElem?_eq_some_iff.1 h).1
theorem at_dec (h : l[i]? = some x) : decide ((i : Int) < len l) = true := by have := at_lt h; simp [len]; omega
theorem end_dec (l : List α) : decide (((l.length : Nat) : Int) < len l) = false := by simp [len]
theorem at_idx (h : l[i]? = some x) : idx l (i : Int) = some x := by rw [idx_nat]; exact h
theorem at_suc (h : l[i]? = some x) (hl : l.length < 4294967296) : w64 ((i : Int) + 1) = ((i + 1 : Nat) : Int) := w64_succ i (by have := at_lt h; omega)
theorem idx_at {j : Int} (h : idx l j = some x) : ∃ n : Nat, j = (n : Int) ∧ l[n]? = some x := by
  unfold idx at h
  split at h
  · rename_i h0; exact ⟨j.toNat, by omega, h⟩
  · cases h
theorem idx_ok {j : Int} (h0 : 0 ≤ j) (h1 : j < l.length) : ∃ x, idx l j = some x := by obtain ⟨x, h, _⟩ := idx_some h0 h1; exact ⟨x, h⟩
theorem take_suc (h : l[i]? = some x) : l.take (i + 1) = l.take i ++ [x] := by rw [List.take_add_one, h]; rfl
theorem mem_at (h : l[i]? = some x) : x ∈ l := List.mem_of_getElem? h
end
section
variable {α σ ρ : Type}
/-- a walk along a list with a state: (state, place) -/
theorem loop_fold {B : σ × Int → Option ((σ × Int) ⊕ ρ)} (l : List α) (f : σ → α → σ) (fin : σ → ρ) (I : Nat → σ → Prop) (s : σ) (h0 : I 0 s)
    (hB : ∀ (i : Nat) x s, l[i]? = some x → I i s → B (s, (i : Int)) = some (.inl (f s x, ((i + 1 : Nat) : Int))) ∧ I (i + 1) (f s x))
    (he : ∀ s, I l.length s → B (s, (l.length : Int)) = some (.inr (fin s))) : loop B (s, 0) = some (fin (l.foldl f s)) ∧ I l.length (l.foldl f s) := by
  have key : ∀ (n i : Nat) (s : σ), i + n = l.length → I i s → loop B (s, (i : Int)) = some (fin ((l.drop i).foldl f s)) ∧ I l.length ((l.drop i).foldl f s) := by
    intro n
    induction n with
    | zero =>
      intro i s h hI
      rw [Nat.add_zero] at h
      subst h
      rw [loop_eq, he s hI, List.drop_length]
      exact ⟨rfl, hI⟩
    | succ n ih =>
      intro i s h hI
      have hx : l[i]? = some l[i] := List.getElem?_eq_getElem (by omega)
      obtain ⟨h1, h2⟩ := hB i _ s hx hI
      rw [loop_eq, h1, List.drop_eq_getElem_cons (by omega)]
      exact ih (i + 1) _ (by omega) h2
  have := key l.length 0 s (by omega) h0
  simpa using this
/-- is there one? the answer at the first -/
theorem loop_find {B : Int → Option (Int ⊕ ρ)} (l : List α) (p : α → Bool) (yes no : ρ)
    (hB : ∀ (i : Nat) x, l[i]? = some x → B (i : Int) = some (if p x then .inr yes else .inl ((i + 1 : Nat) : Int))) (he : B (l.length : Int) = some (.inr no)) :
    loop B 0 = some (if l.any p then yes else no) := by
  have key : ∀ (n i : Nat), i + n = l.length → loop B (i : Int) = some (if (l.drop i).any p then yes else no) := by
    intro n
    induction n with
    | zero =>
      intro i h
      rw [Nat.add_zero] at h
      subst h
      rw [loop_eq, he, List.drop_length]
      rfl
    | succ n ih =>
      intro i h
      have hx : l[i]? = some l[i] := List.getElem?_eq_getElem (by omega)
      rw [loop_eq, hB i _ hx, List.drop_eq_getElem_cons (by omega)]
      cases hp : p l[i] with
      | true => simp only [if_true, List.any_cons, hp, Bool.true_or]
      | false =>
        simp only [Bool.false_eq_true, if_false, List.any_cons, hp, Bool.false_or]
        exact ih (i + 1) (by omega)
  have := key l.length 0 (by omega)
  simpa using this
end
end
section
theorem sless_irrefl : ∀ a : Str, sless a a = false
  | [] => rfl
  | a :: x => by simp [sless, sless_irrefl x, UInt8.lt_irrefl]
theorem sless_trans : ∀ {a b c : Str}, sless a b = true → sless b c = true → sless a c = true
  | _, _, [], _, h => by simp [sless] at h
  | _, [], _ :: _, h, _ => by simp [sless] at h
  | [], _ :: _, _ :: _, _, _ => rfl
  | a :: x, b :: y, c :: z, h1, h2 => by
    simp only [sless, Bool.or_eq_true, decide_eq_true_eq, Bool.and_eq_true, beq_iff_eq] at *
    rcases h1 with h1 | ⟨rfl, h1⟩ <;> rcases h2 with h2 | ⟨rfl, h2⟩
    · exact .inl (UInt8.lt_trans h1 h2)
    · exact .inl h1
    · exact .inl h2
    · exact .inr ⟨rfl, sless_trans h1 h2⟩
theorem sless_tri : ∀ a b : Str, sless a b = true ∨ a = b ∨ sless b a = true
  | [], [] => .inr (.inl rfl)
  | [], _ :: _ => .inl rfl
  | _ :: _, [] => .inr (.inr rfl)
  | a :: x, b :: y => by
    simp only [sless, Bool.or_eq_true, decide_eq_true_eq, Bool.and_eq_true, beq_iff_eq, List.cons.injEq]
    rcases UInt8.lt_or_lt_of_ne (a := a) (b := b) |> fun f => (Classical.em (a = b)).imp id f with rfl | h | h
    · rcases sless_tri x y with h | rfl | h
      · exact .inl (.inr ⟨rfl, h⟩)
      · exact .inr (.inl ⟨rfl, rfl⟩)
      · exact .inr (.inr (.inr ⟨rfl, h⟩))
    · exact .inl (.inl h)
    · exact .inr (.inr (.inl h))
theorem cmp_string (a b : Str) : m_cmp_Compare_string a b = some (if sless a b then -1 else if a = b then 0 else 1) := by
  have hn : ∀ x : Str, m_cmp_isNaN_string x = some false := fun x => by simp [m_cmp_isNaN_string]
  simp only [m_cmp_Compare_string, hn, Option.bind_some, Bool.false_eq_true, if_false]
  by_cases h1 : sless a b = true
  · simp [h1]
  · by_cases h2 : a = b
    · simp [h2, sless_irrefl]
    · simp [h1, h2]
def loB (b : UInt8) : Bool := decide (97 ≤ (b.toNat : Int)) && decide ((b.toNat : Int) ≤ 122)
def okB (b : UInt8) : Bool := loB b || (if decide (48 ≤ (b.toNat : Int)) then decide ((b.toNat : Int) ≤ 57) || (b.toNat : Int) == 95 else (b.toNat : Int) == 95)
/-- is it a name? -/
def vName : Str → Bool
  | [] => false
  | c :: r => decide (r.length + 1 ≤ 12) && loB c && r.all okB
theorem validName (s : Str) : m_literal_ValidName s = some (vName s) := by
  unfold m_literal_ValidName
  cases s with
  | nil => rfl
  | cons c r =>
    have h0 : ((len (c :: r)) == 0) = false := by rw [beq_eq_false_iff_ne]; simp [len]; omega
    by_cases hl : r.length + 1 ≤ 12
    · have h1 : decide (12 < len (c :: r)) = false := by simp [len]; omega
      rw [h0, h1]
      simp only [Bool.or_self, Bool.false_eq_true, if_false]
      have h := loop_runL0 (B := m_literal_ValidName_L1 (c :: r)) (fun i (_ : Unit) => (i : Int)) (c :: r)
        (fun i _ b => some (if loB b then .inl () else if decide (0 < (i : Int)) && okB b then .inl () else .inr false)) (fun _ => some true) ?_ ?_ ()
      · rw [show ((0 : Nat) : Int) = 0 from rfl] at h
        rw [h]
        have key : ∀ (l : List UInt8) (i : Nat), 0 < i → runL (fun (i : Nat) (_ : Unit) (b : UInt8) => some (if loB b then .inl () else if decide (0 < (i : Int)) && okB b then .inl () else .inr false)) (fun _ => some true) i l () = some (l.all okB) := by
          intro l
          induction l with
          | nil => intro i _; rfl
          | cons b l ih =>
            intro i hi
            have hd : decide (0 < (i : Int)) = true := by simp; omega
            by_cases hb : okB b = true
            · by_cases hlo : loB b = true
              · simp only [runL, hlo, if_true]; rw [ih (i + 1) (by omega)]; simp [hb]
              · simp only [runL, hlo, if_false, hd, hb, Bool.and_self, if_true, Bool.false_eq_true]; rw [ih (i + 1) (by omega)]; simp [hb]
            · have hlo : ¬ loB b = true := fun h => hb (by simp [okB, h])
              simp [runL, hlo, hb]
        by_cases hlo : loB c = true
        · simp only [runL, hlo, if_true]
          rw [key r 1 (by omega)]
          simp [vName, hlo, hl]
        · simp [runL, hlo, vName]
      · intro i x s hx
        have hi := (List.getElem?_eq_some_iff.1 hx).1
        have hlt : decide ((i : Int) < len (c :: r)) = true := by simp [len] at hi ⊢; omega
        unfold m_literal_ValidName_L1
        rw [sidx_nat, hx, w64_succ i (by simp at hi; omega)]
        simp only [hlt, if_true, Option.map_some, Option.bind_some]
        by_cases hlo : loB x = true
        · have hlo' := hlo
          unfold loB at hlo'
          simp only [hlo', if_true, hlo]
        · have hlo' := hlo
          unfold loB at hlo'
          simp only [hlo', if_false, hlo, Bool.false_eq_true]
          by_cases hc : (decide (0 < (i : Int)) && okB x) = true
          · have hc' := hc
            unfold okB at hc'
            simp only [hlo, Bool.false_or] at hc'
            simp only [hc', if_true, hc]
          · have hc' := hc
            unfold okB at hc'
            simp only [hlo, Bool.false_or] at hc'
            simp only [hc', if_false, hc, Bool.false_eq_true]
      · intro s
        unfold m_literal_ValidName_L1
        simp [len]
    · have h1 : decide (12 < len (c :: r)) = true := by simp [len]; omega
      rw [h1]
      simp [vName, hl]
theorem ref_validName (s : Str) : m_ref01_ValidName s = some (vName s) := by
  unfold m_ref01_ValidName
  cases s with
  | nil => rfl
  | cons c r =>
    have h0 : decide ((len (c :: r)) < 1) = false := by simp [len]; omega
    have hs0 : sidx (c :: r) 0 = some (c.toNat : Int) := rfl
    rw [h0]
    by_cases hl : r.length + 1 ≤ 12
    · have h1 : decide (12 < len (c :: r)) = false := by simp [len]; omega
      rw [h1]
      simp only [Bool.false_eq_true, if_false, hs0, Option.bind_some]
      by_cases hlo : loB c = true
      · have ha : decide ((c.toNat : Int) < 97) = false := by simp [loB] at hlo ⊢; omega
        have hb : decide (122 < (c.toNat : Int)) = false := by simp [loB] at hlo ⊢; omega
        simp only [ha, hb, Bool.false_eq_true, if_false, Option.bind_some]
        have h := loop_runL0 (B := m_ref01_ValidName_L1 (c :: r)) (fun i (_ : Unit) => (i : Int)) (c :: r)
          (fun _ _ b => some (if okB b then .inl () else .inr false)) (fun _ => some true) ?_ ?_ ()
        · rw [show ((0 : Nat) : Int) = 0 from rfl] at h
          rw [h]
          have key : ∀ (l : List UInt8) (i : Nat), runL (fun (_ : Nat) (_ : Unit) (b : UInt8) => some (if okB b then .inl () else .inr false)) (fun _ => some true) i l () = some (l.all okB) := by
            intro l
            induction l with
            | nil => intro i; rfl
            | cons b l ih =>
              intro i
              by_cases hb : okB b = true
              · simp only [runL, hb, if_true]; rw [ih (i + 1)]; simp [hb]
              · simp [runL, hb]
          rw [key]
          simp [vName, hlo, hl, okB]
        · intro i x s hx
          have hi := (List.getElem?_eq_some_iff.1 hx).1
          have hlt : decide ((i : Int) < len (c :: r)) = true := by simp [len] at hi ⊢; omega
          unfold m_ref01_ValidName_L1
          rw [sidx_nat, hx, w64_succ i (by simp at hi; omega)]
          simp only [hlt, if_true, Option.map_some, Option.bind_some]
          have hok : okB x = !(if decide ((x.toNat : Int) < 97) then (if decide ((x.toNat : Int) < 48) then ((x.toNat : Int) != 95) else if decide (57 < (x.toNat : Int)) then ((x.toNat : Int) != 95) else false)
              else if decide (122 < (x.toNat : Int)) then (if decide ((x.toNat : Int) < 48) then ((x.toNat : Int) != 95) else if decide (57 < (x.toNat : Int)) then ((x.toNat : Int) != 95) else false) else false) := by
            unfold okB loB
            generalize (x.toNat : Int) = n
            rw [Bool.eq_iff_iff]
            simp
            constructor
            · intro h
              by_cases h1 : n < 97 <;> by_cases h2 : n < 48 <;> by_cases h3 : 57 < n <;> by_cases h4 : 122 < n <;> simp [h1, h2, h3, h4] <;> (split at h <;> (try simp at h) <;> omega)
            · intro h
              by_cases h1 : n < 97 <;> by_cases h2 : n < 48 <;> by_cases h3 : 57 < n <;> by_cases h4 : 122 < n <;> simp [h1, h2, h3, h4] at h <;> (split <;> (try simp) <;> omega)
          rw [hok]
          cases decide ((x.toNat : Int) < 97) <;> cases decide ((x.toNat : Int) < 48) <;> cases decide (57 < (x.toNat : Int)) <;> cases decide (122 < (x.toNat : Int)) <;> cases ((x.toNat : Int) != 95) <;> rfl
        · intro s
          unfold m_ref01_ValidName_L1
          simp [len]
      · have hor : (decide ((c.toNat : Int) < 97) || decide (122 < (c.toNat : Int))) = true := by simp [loB] at hlo ⊢; omega
        have hv : vName (c :: r) = false := by simp [vName, hlo]
        rw [hv]
        cases h1 : decide ((c.toNat : Int) < 97) with
        | true => rfl
        | false => rw [h1] at hor; simp only [Bool.false_or] at hor; simp only [Bool.false_eq_true, if_false, hor, Option.bind_some, if_true]
    · have h1 : decide (12 < len (c :: r)) = true := by simp [len]; omega
      rw [h1]
      simp [vName, hl]
theorem lit_valid (x : T_Literal) : m_literal_Valid x = some (vName x.2) := by simp [m_literal_Valid, validName]
theorem ref_valid (x : T_Literal) : m_ref01_Valid x = some (vName x.2) := by simp [m_ref01_Valid, ref_validName]
theorem vName_len {s : Str} (h : vName s = true) : 1 ≤ s.length ∧ s.length ≤ 12 := by
  cases s with
  | nil => simp [vName] at h
  | cons c r => simp [vName] at h; simp; omega
/-- the text of a literal -/
def litText (x : T_Literal) : Str := if vName x.2 then (if x.1 then 126 :: x.2 else x.2) else []
theorem lit_format (x : T_Literal) : m_literal_Format x = some (litText x) := by
  unfold m_literal_Format litText
  rw [lit_valid]
  cases h : vName x.2 with
  | false => rfl
  | true =>
    have := vName_len h
    cases hx : x.1 <;> simp [cat_ok (l := [126]) (m := x.2) (by simp; omega)]
theorem ref_format (x : T_Literal) : m_ref01_Format x = some (litText x) := by
  unfold m_ref01_Format litText
  rw [ref_valid]
  cases h : vName x.2 with
  | false => rfl
  | true =>
    have := vName_len h
    cases hx : x.1 <;> simp [cat_ok (l := [126]) (m := x.2) (by simp; omega)]
theorem litText_len (x : T_Literal) : (litText x).length ≤ 13 := by
  unfold litText
  cases h : vName x.2 with
  | false => simp
  | true => have := vName_len h; cases x.1 <;> simp <;> omega
/-- the literal of a text, with the error -/
def litParse (s : Str) : T_Literal × Int :=
  let x : T_Literal := match s with
    | 126 :: r => (true, r)
    | _ => (false, s)
  if vName x.2 then (x, 0) else ((false, []), 3)
theorem litParse_tilde (r : Str) : litParse (126 :: r) = if vName r then ((true, r), 0) else ((false, []), 3) := rfl
theorem litParse_plain {s : Str} (h : ∀ r, s ≠ 126 :: r) : litParse s = if vName s then ((false, s), 0) else ((false, []), 3) := by
  unfold litParse
  split
  · rename_i r; exact absurd rfl (h r)
  · rfl
theorem lit_parse (s : Str) : m_literal_Parse s = some (litParse s) := by
  unfold m_literal_Parse
  cases s with
  | nil => simp [len, lit_valid, litParse_plain, vName]
  | cons c r =>
    have h0 : decide (0 < len (c :: r)) = true := by simp [len]
    have hs0 : sidx (c :: r) 0 = some (c.toNat : Int) := rfl
    simp only [h0, if_true, hs0, Option.bind_some]
    by_cases hc : c = 126
    · subst hc
      have hs := sub_suf (l := (126 :: r : Str)) (i := 1) (by omega) (by simp; omega)
      have h1 : (((126 : UInt8).toNat : Int) == 126) = true := rfl
      simp only [h1, if_true, hs, Option.bind_some, lit_valid]
      rw [litParse_tilde]
      cases hv : vName r <;> simp [hv]
    · have h1 : ((c.toNat : Int) == 126) = false := by
        rw [beq_eq_false_iff_ne]
        intro h; exact hc (UInt8.toNat_inj.1 (by simpa using (by omega : c.toNat = 126)))
      simp only [h1, if_false, Option.bind_some, lit_valid, Bool.false_eq_true]
      rw [litParse_plain (fun r' h => hc (by simp at h; exact h.1))]
      cases hv : vName (c :: r) <;> simp
theorem ref_parse (s : Str) : m_ref01_Parse s = some (litParse s) := by
  unfold m_ref01_Parse
  cases s with
  | nil => simp [len, ref_valid, litParse_plain, vName]
  | cons c r =>
    have h0 : decide (0 < len (c :: r)) = true := by simp [len]
    have hs0 : sidx (c :: r) 0 = some (c.toNat : Int) := rfl
    simp only [h0, if_true, hs0, Option.bind_some]
    by_cases hc : c = 126
    · subst hc
      have hs := sub_suf (l := (126 :: r : Str)) (i := 1) (by omega) (by simp; omega)
      have h1 : (((126 : UInt8).toNat : Int) == 126) = true := rfl
      simp only [h1, if_true, hs, Option.bind_some, ref_valid]
      rw [litParse_tilde]
      cases hv : vName r <;> simp [hv]
    · have h1 : ((c.toNat : Int) == 126) = false := by
        rw [beq_eq_false_iff_ne]
        intro h; exact hc (UInt8.toNat_inj.1 (by simpa using (by omega : c.toNat = 126)))
      simp only [h1, if_false, Option.bind_some, ref_valid, Bool.false_eq_true]
      rw [litParse_plain (fun r' h => hc (by simp at h; exact h.1))]
      cases hv : vName (c :: r) <;> simp
def litLt (a b : T_Literal) : Bool := sless a.2 b.2 || (a.2 == b.2 && (!a.1 && b.1))
/-- the comparison of literals -/
def litCmp (a b : T_Literal) : Int := if litLt a b then -1 else if a = b then 0 else 1
theorem litLt_trans {a b c : T_Literal} (h1 : litLt a b = true) (h2 : litLt b c = true) : litLt a c = true := by
  obtain ⟨g, a⟩ := a; obtain ⟨g', b⟩ := b; obtain ⟨g'', c⟩ := c
  simp only [litLt, Bool.or_eq_true, Bool.and_eq_true, beq_iff_eq, Bool.not_eq_true'] at *
  rcases h1 with h1 | ⟨rfl, h1, h1'⟩ <;> rcases h2 with h2 | ⟨rfl, h2, h2'⟩
  · exact .inl (sless_trans h1 h2)
  · exact .inl h1
  · exact .inl h2
  · rw [h1'] at h2; cases h2
theorem litLt_tri (a b : T_Literal) : litLt a b = true ∨ a = b ∨ litLt b a = true := by
  obtain ⟨g, a⟩ := a; obtain ⟨g', b⟩ := b
  simp only [litLt, Bool.or_eq_true, Bool.and_eq_true, beq_iff_eq, Bool.not_eq_true', Prod.mk.injEq]
  rcases sless_tri a b with h | rfl | h
  · exact .inl (.inl h)
  · cases g <;> cases g' <;> simp
  · exact .inr (.inr (.inl h))
theorem lit_compare (a b : T_Literal) : m_literal_Compare a b = some (litCmp a b) := by
  obtain ⟨g, a⟩ := a; obtain ⟨g', b⟩ := b
  unfold m_literal_Compare litCmp litLt
  rw [cmp_string]
  by_cases h1 : sless a b = true
  · simp [h1]
  · by_cases h2 : a = b
    · subst h2
      cases g <;> cases g' <;> simp [sless_irrefl]
    · simp [h1, h2]
theorem ref_compare (a b : T_Literal) : m_ref01_Compare a b = some (litCmp a b) := by
  obtain ⟨g, a⟩ := a; obtain ⟨g', b⟩ := b
  unfold m_ref01_Compare litCmp litLt
  by_cases h1 : sless a b = true
  · have h2 : a ≠ b := fun e => by subst e; rw [sless_irrefl] at h1; cases h1
    simp [h1, h2]
  · by_cases h2 : a = b
    · subst h2
      cases g <;> cases g' <;> simp [sless_irrefl]
    · simp [h1, h2]
end
section
theorem ref_same (l m : List T_Literal) (h : l.length < 9223372036854775807) : m_ref01_Same l m = some (decide (l = m)) :=
  (show m_ref01_Same l m = sameM l m from rfl).trans (sameM_spec l m h)
end
section
section
variable {α ρ : Type}
/-- the place of the first, or -1 -/
def fidx (q : α → Bool) (l : List α) : Int := if l.any q then (l.findIdx q : Int) else -1
theorem fidx_loop {B : Int → Option (Int ⊕ ρ)} (q : α → Bool) (l : List α) (no : ρ) (yes : Int → ρ) (hB : ∀ (i : Nat) x, l[i]? = some x → B (i : Int) = some (if q x then .inr (yes (i : Int)) else .inl ((i + 1 : Nat) : Int))) (he : B (l.length : Int) = some (.inr no)) :
    loop B 0 = some (if l.any q then yes (fidx q l) else no) := by
  have key : ∀ (n i : Nat), i + n = l.length → loop B (i : Int) = some (if (l.drop i).any q then yes ((i + (l.drop i).findIdx q : Nat) : Int) else no) := by
    intro n
    induction n with
    | zero =>
      intro i h
      rw [Nat.add_zero] at h
      subst h
      rw [loop_eq, he, List.drop_length]
      rfl
    | succ n ih =>
      intro i h
      have hx : l[i]? = some l[i] := List.getElem?_eq_getElem (by omega)
      rw [loop_eq, hB i _ hx, List.drop_eq_getElem_cons (by omega)]
      cases hp : q l[i] with
      | true => simp only [if_true, List.any_cons, hp, Bool.true_or, List.findIdx_cons, cond_true, Nat.add_zero]
      | false =>
        simp only [Bool.false_eq_true, if_false, List.any_cons, hp, Bool.false_or, List.findIdx_cons, cond_false]
        rw [ih (i + 1) (by omega)]
        rw [show i + 1 + (l.drop (i + 1)).findIdx q = i + ((l.drop (i + 1)).findIdx q + 1) by omega]
  have h := key l.length 0 (by omega)
  simp only [List.drop_zero, Nat.zero_add] at h
  rw [show loop B 0 = _ from h, fidx]
  cases l.any q <;> rfl
theorem fidx_le {q : α → Bool} {l : List α} {i : Nat} {x : α} (hx : l[i]? = some x) (hq : q x = true) : 0 ≤ fidx q l ∧ fidx q l ≤ i := by
  have ha : l.any q = true := List.any_eq_true.2 ⟨x, mem_at hx, hq⟩
  rw [fidx, if_pos ha]
  refine ⟨by omega, ?_⟩
  have hi := at_lt hx
  rw [List.getElem?_eq_getElem hi] at hx
  have hq' : q l[i] = true := by rw [Option.some.inj hx]; exact hq
  have : l.findIdx q ≤ i := by
    refine Nat.le_of_not_lt fun h => ?_
    have := List.not_of_lt_findIdx h
    rw [hq'] at this; simp at this
  omega
theorem fidx_at {q : α → Bool} {l : List α} (h : 0 ≤ fidx q l) : ∃ (k : Nat) (x : α), fidx q l = (k : Int) ∧ l[k]? = some x ∧ q x = true ∧ ∀ j y, j < k → l[j]? = some y → q y = false := by
  unfold fidx at h ⊢
  split at h
  · rename_i ha
    rw [if_pos ha]
    obtain ⟨x, hx, hq⟩ := List.any_eq_true.1 ha
    have hlt : l.findIdx q < l.length := List.findIdx_lt_length_of_exists ⟨x, hx, hq⟩
    refine ⟨_, l[l.findIdx q], rfl, List.getElem?_eq_getElem hlt, List.findIdx_getElem, fun j y hj hy => ?_⟩
    have hjl := at_lt hy
    rw [List.getElem?_eq_getElem hjl] at hy
    have := List.not_of_lt_findIdx hj
    rw [← Option.some.inj hy]
    simpa using this
  · omega
/-- the first error along a list -/
def ferr (e : Nat → α → Int) : Nat → List α → Int
  | _, [] => 0
  | i, x :: r => if e i x != 0 then e i x else ferr e (i + 1) r
theorem loop_ferr {B : Int → Option (Int ⊕ ρ)} (l : List α) (e : Nat → α → Int) (yes : Int → ρ) (no : ρ) (hB : ∀ (i : Nat) x, l[i]? = some x → B (i : Int) = some (if e i x != 0 then .inr (yes (e i x)) else .inl ((i + 1 : Nat) : Int))) (he : B (l.length : Int) = some (.inr no)) :
    loop B 0 = some (if ferr e 0 l != 0 then yes (ferr e 0 l) else no) := by
  have key : ∀ (n i : Nat), i + n = l.length → loop B (i : Int) = some (if ferr e i (l.drop i) != 0 then yes (ferr e i (l.drop i)) else no) := by
    intro n
    induction n with
    | zero =>
      intro i h
      rw [Nat.add_zero] at h
      subst h
      rw [loop_eq, he, List.drop_length]
      rfl
    | succ n ih =>
      intro i h
      have hx : l[i]? = some l[i] := List.getElem?_eq_getElem (by omega)
      rw [loop_eq, hB i _ hx, List.drop_eq_getElem_cons (by omega)]
      simp only [ferr]
      by_cases hp : e i l[i] = 0
      · simp only [hp, bne_self_eq_false, Bool.false_eq_true, if_false]; exact ih (i + 1) (by omega)
      · have hp' : (e i l[i] != 0) = true := by simpa using hp
        simp only [hp', if_true]
  have h := key l.length 0 (by omega)
  simpa using h
theorem ferr_ok {e : Nat → α → Int} : ∀ {l : List α} {k : Nat}, ferr e k l = 0 ↔ ∀ (i : Nat) x, l[i]? = some x → e (k + i) x = 0
  | [], k => by simp [ferr]
  | x :: r, k => by
    simp only [ferr]
    constructor
    · intro h
      cases hx : e k x != 0 with
      | true => rw [hx] at h; simp only [if_true] at h; rw [h] at hx; simp at hx
      | false =>
        rw [hx] at h
        simp only [Bool.false_eq_true, if_false] at h
        intro i y hy
        cases i with
        | zero => simp at hy; subst hy; simpa using hx
        | succ i => rw [show k + (i + 1) = k + 1 + i by omega]; exact ferr_ok.1 h i y (by simpa using hy)
    · intro h
      have h0 := h 0 x rfl
      rw [Nat.add_zero] at h0
      rw [h0]
      simp only [bne_self_eq_false, Bool.false_eq_true, if_false]
      exact ferr_ok.2 fun i y hy => by rw [show k + 1 + i = k + (i + 1) by omega]; exact h (i + 1) y (by simpa using hy)
end
abbrev ranked (n : Int) : Bool := decide (0 ≤ n) && decide (n ≤ 9)
def premE (p : T_Premise) : Int :=
  if p.2.1 == 1 || p.2.1 == 2 || p.2.1 == 3 then
    if vName p.1.2 && ranked p.2.2.1 && (p.2.1 == 2 || p.2.2.1 == 0) && (p.2.2.2 == [] || vName p.2.2.2) then 0 else 1
  else 4
/-- each literal before the next -/
def ascB : List T_Literal → Bool
  | a :: b :: r => litLt a b && ascB (b :: r)
  | _ => true
def ruleE (r : T_Rule) : Int :=
  if 4 < r.2.2.2.1.length then 2
  else if vName r.1 && vName r.2.2.2.2.2 && ranked r.2.2.1 && (!r.2.1 || r.2.2.1 == 0) && r.2.2.2.1.all (fun x => vName x.2) then (if ascB r.2.2.2.1 then 0 else 8) else 1
def findS (b : T_Base) (nm : Str) : Int := fidx (fun r : T_Rule => r.1 == nm) b.2.1
def premS (b : T_Base) (x : T_Literal) : Int := fidx (fun p : T_Premise => p.1 == x) b.1
def promE (b : T_Base) (p : T_Promotion) : Int :=
  if ranked p.2.1 && vName p.2.2.2 then (if findS b p.1 < 0 then 6 else match idx b.2.1 (findS b p.1) with | some r => if r.2.1 then 4 else 0 | none => 0) else 1
def validS (b : T_Base) : Int :=
  if 16 < b.1.length || 24 < b.2.1.length || 8 < b.2.2.length then 2
  else
    let e1 := ferr (fun i p => if premE p != 0 then premE p else if premS b p.1 < (i : Int) then 5 else 0) 0 b.1
    if e1 != 0 then e1 else
    let e2 := ferr (fun i r => if ruleE r != 0 then ruleE r else if findS b r.1 < (i : Int) then 5 else 0) 0 b.2.1
    if e2 != 0 then e2 else ferr (fun _ p => promE b p) 0 b.2.2
theorem rb_premise (p : T_Premise) : m_rulebase_premise p = some (premE p) := by
  unfold m_rulebase_premise m_rulebase_ranked m_rulebase_sourced premE
  simp only [lit_valid, validName, Option.bind_some]
  by_cases k1 : p.2.1 = 1
  · by_cases h0 : p.2.2.1 = 0
    · cases vName p.1.2 <;> cases p.2.2.2 == [] <;> cases vName p.2.2.2 <;> simp [k1, h0, seqE]
    · simp [k1, h0, seqE]
  · by_cases k3 : p.2.1 = 3
    · by_cases h0 : p.2.2.1 = 0
      · cases vName p.1.2 <;> cases p.2.2.2 == [] <;> cases vName p.2.2.2 <;> simp [k3, h0, seqE]
      · simp [k3, h0, seqE]
    · by_cases k2 : p.2.1 = 2
      · cases hr : ranked p.2.2.1 <;> cases vName p.1.2 <;> cases p.2.2.2 == [] <;> cases vName p.2.2.2 <;> simp [k2, seqE, hr]
      · simp [k1, k2, k3, seqE]
theorem ref_premise (p : T_Premise) : m_ref05_premise p = some (premE p) := by
  unfold m_ref05_premise m_ref05_rank premE
  simp only [ref_valid, ref_validName, Option.bind_some]
  by_cases k1 : p.2.1 = 1
  · by_cases h0 : p.2.2.1 = 0
    · cases vName p.1.2 <;> cases p.2.2.2 == [] <;> cases vName p.2.2.2 <;> simp [k1, h0]
    · cases hr : ranked p.2.2.1 <;> cases hv : vName p.1.2 <;> simp [k1, h0, hr]
  · by_cases k3 : p.2.1 = 3
    · by_cases h0 : p.2.2.1 = 0
      · cases vName p.1.2 <;> cases p.2.2.2 == [] <;> cases vName p.2.2.2 <;> simp [k3, h0]
      · cases hr : ranked p.2.2.1 <;> cases hv : vName p.1.2 <;> simp [k3, h0, hr]
    · by_cases k2 : p.2.1 = 2
      · cases hr : ranked p.2.2.1 <;> cases vName p.1.2 <;> cases p.2.2.2 == [] <;> cases vName p.2.2.2 <;> simp [k2, hr]
      · have : (decide (p.2.1 < 1) || decide (3 < p.2.1)) = true := by simp; omega
        simp [k1, k2, k3, this]
theorem ascB_loop {B : Int → Option (Int ⊕ Int)} (l : List T_Literal) (hl : l.length < 4294967296)
    (hB : ∀ (i : Nat) x y, l[i]? = some x → l[i + 1]? = some y → B ((i + 1 : Nat) : Int) = some (if decide (0 ≤ litCmp x y) then .inr 8 else .inl ((i + 1 + 1 : Nat) : Int))) (he : ∀ k : Nat, l.length ≤ k → B (k : Int) = some (.inr 0)) :
    loop B 1 = some (if ascB l then 0 else 8) := by
  have key : ∀ (n i : Nat), i + 1 + n = l.length → loop B ((i + 1 : Nat) : Int) = some (if ascB (l.drop i) then 0 else 8) := by
    intro n
    induction n with
    | zero =>
      intro i h
      rw [loop_eq, he (i + 1) (by omega), List.drop_eq_getElem_cons (by omega), List.drop_of_length_le (by omega)]
      rfl
    | succ n ih =>
      intro i h
      have hx : l[i]? = some l[i] := List.getElem?_eq_getElem (by omega)
      have hy : l[i + 1]? = some l[i + 1] := List.getElem?_eq_getElem (by omega)
      rw [loop_eq, hB i _ _ hx hy, List.drop_eq_getElem_cons (by omega), List.drop_eq_getElem_cons (by omega)]
      have hc : decide (0 ≤ litCmp l[i] l[i + 1]) = !litLt l[i] l[i + 1] := by
        unfold litCmp
        cases litLt l[i] l[i + 1] with
        | true => simp
        | false =>
          simp only [Bool.false_eq_true, if_false]
          split <;> simp
      rw [hc]
      cases hlt : litLt l[i] l[i + 1] with
      | true =>
        simp only [Bool.not_true, Bool.false_eq_true, if_false]
        rw [ih (i + 1) (by omega), List.drop_eq_getElem_cons (show i + 1 < l.length by omega)]
        simp only [ascB, hlt, Bool.true_and]
      | false => simp only [Bool.not_false, if_true, ascB, hlt, Bool.false_and, Bool.false_eq_true, if_false]
  match l, hl, hB, he, key with
  | [], _, _, he, _ => rw [loop_eq, show (1 : Int) = ((1 : Nat) : Int) from rfl, he 1 (by simp)]; rfl
  | x :: r, _, _, _, key => exact key r.length 0 (by simp; omega)
theorem rb_rule (r : T_Rule) (hr : r.2.2.2.1.length < 4294967296) : m_rulebase_rule r = some (ruleE r) := by
  unfold m_rulebase_rule ruleE
  by_cases h4 : 4 < r.2.2.2.1.length
  · have : decide (4 < len r.2.2.2.1) = true := by simp [len]; omega
    simp only [this, if_true, h4]
  have : decide (4 < len r.2.2.2.1) = false := by simp [len]; omega
  simp only [this, Bool.false_eq_true, if_false, h4, validName, lit_valid, m_rulebase_ranked, Option.bind_some]
  have hc : (if (!vName r.1) = true then some true else if (!vName r.2.2.2.2.2) = true then some true else if (!(decide (0 ≤ r.2.2.1) && decide (r.2.2.1 ≤ 9))) = true then some true else if r.2.1 = true then some (r.2.2.1 != 0) else some false)
      = some (!(vName r.1 && vName r.2.2.2.2.2 && ranked r.2.2.1 && (!r.2.1 || r.2.2.1 == 0))) := by
    cases vName r.1 <;> cases vName r.2.2.2.2.2 <;> cases hk : ranked r.2.2.1 <;> cases r.2.1 <;> simp [hk, bne]
  rw [hc]
  simp only [Option.bind_some]
  cases hg : (vName r.1 && vName r.2.2.2.2.2 && ranked r.2.2.1 && (!r.2.1 || r.2.2.1 == 0)) with
  | false => simp
  | true =>
    simp only [Bool.not_true, Bool.false_eq_true, if_false, Bool.true_and]
    have h1 := loop_find (B := m_rulebase_rule_L1 r) r.2.2.2.1 (fun x => !vName x.2) (.inr 1 : Unit ⊕ Int) (.inl ()) (fun i x hx => by
      unfold m_rulebase_rule_L1
      simp only [at_dec hx, if_true, at_idx hx, Option.bind_some, lit_valid, at_suc hx hr]
      cases vName x.2 <;> rfl) (by unfold m_rulebase_rule_L1; simp only [end_dec, Bool.false_eq_true, if_false])
    rw [h1]
    have hall : r.2.2.2.1.all (fun x => vName x.2) = !r.2.2.2.1.any (fun x => !vName x.2) := by rw [List.all_eq_not_any_not]
    rw [hall]
    cases r.2.2.2.1.any (fun x => !vName x.2) with
    | true => rfl
    | false =>
      simp only [seqE, Option.bind_some, Bool.false_eq_true, if_false, Bool.not_false, if_true]
      refine ascB_loop (B := m_rulebase_rule_L2 r) r.2.2.2.1 hr (fun i x y hx hy => ?_) (fun k hk => ?_)
      · unfold m_rulebase_rule_L2
        have e1 : w64 (((i + 1 : Nat) : Int) - 1) = (i : Int) := by have := at_lt hy; rw [w64_id (by omega) (by omega)]; omega
        simp only [at_dec hy, if_true, at_idx hy, e1, at_idx hx, Option.bind_some, lit_compare, at_suc hy hr]
        split <;> rfl
      · unfold m_rulebase_rule_L2
        have : decide ((k : Int) < len r.2.2.2.1) = false := by simp [len]; omega
        simp only [this, Bool.false_eq_true, if_false]
theorem ref_rule (r : T_Rule) (hr : r.2.2.2.1.length < 4294967296) : m_ref05_rule r = some (ruleE r) := by
  unfold m_ref05_rule ruleE
  by_cases h4 : 4 < r.2.2.2.1.length
  · have : decide (4 < len r.2.2.2.1) = true := by simp [len]; omega
    simp only [this, if_true, h4]
  have : decide (4 < len r.2.2.2.1) = false := by simp [len]; omega
  simp only [this, Bool.false_eq_true, if_false, h4, ref_validName, ref_valid, m_ref05_rank, Option.bind_some]
  have hc : (if vName r.1 = true then if (decide (0 ≤ r.2.2.1) && decide (r.2.2.1 ≤ 9)) = true then if (!r.2.1) = true then some (vName r.2.2.2.2.2) else if (r.2.2.1 == 0) = true then some (vName r.2.2.2.2.2) else some false else some false else some false)
      = some (vName r.1 && vName r.2.2.2.2.2 && ranked r.2.2.1 && (!r.2.1 || r.2.2.1 == 0)) := by
    cases vName r.1 <;> cases vName r.2.2.2.2.2 <;> cases hk : ranked r.2.2.1 <;> cases r.2.1 <;> cases hz : r.2.2.1 == 0 <;> simp [hk]
  rw [hc]
  simp only [Option.bind_some]
  have h1 := loop_fold (B := m_ref05_rule_L1 r) r.2.2.2.1 (fun s x => s && vName x.2) (fun s => s) (fun _ _ => True) (vName r.1 && vName r.2.2.2.2.2 && ranked r.2.2.1 && (!r.2.1 || r.2.2.1 == 0)) trivial (fun i x s hx _ => ⟨by
    unfold m_ref05_rule_L1
    simp only [at_dec hx, if_true, at_idx hx, Option.bind_some, ref_valid]
    cases s <;> simp only [Bool.false_eq_true, if_false, if_true, Option.bind_some, at_suc hx hr, Bool.false_and, Bool.true_and], trivial⟩) (fun s _ => by unfold m_ref05_rule_L1; simp only [end_dec, Bool.false_eq_true, if_false])
  rw [h1.1]
  have hf : ∀ (l : List T_Literal) (g : Bool), l.foldl (fun s x => s && vName x.2) g = (g && l.all (fun x => vName x.2)) := by
    intro l
    induction l with
    | nil => intro g; simp
    | cons x l ih => intro g; rw [List.foldl_cons, ih, List.all_cons, Bool.and_assoc]
  rw [hf]
  simp only [Option.bind_some]
  cases hg : (vName r.1 && vName r.2.2.2.2.2 && ranked r.2.2.1 && (!r.2.1 || r.2.2.1 == 0) && r.2.2.2.1.all (fun x => vName x.2)) with
  | false => rfl
  | true =>
    simp only [Bool.not_true, Bool.false_eq_true, if_false, if_true]
    refine ascB_loop (B := m_ref05_rule_L2 r) r.2.2.2.1 hr (fun i x y hx hy => ?_) (fun k hk => ?_)
    · unfold m_ref05_rule_L2
      have e1 : w64 (((i + 1 : Nat) : Int) - 1) = (i : Int) := by have := at_lt hy; rw [w64_id (by omega) (by omega)]; omega
      simp only [at_dec hy, if_true, at_idx hy, e1, at_idx hx, Option.bind_some, ref_compare, at_suc hy hr]
      split <;> rfl
    · unfold m_ref05_rule_L2
      have : decide ((k : Int) < len r.2.2.2.1) = false := by simp [len]; omega
      simp only [this, Bool.false_eq_true, if_false]
theorem fidx_id {α : Type} (q : α → Bool) (l : List α) : (if l.any q then fidx q l else -1) = fidx q l := by unfold fidx; split <;> rfl
theorem ref_Find (b : T_Base) (nm : Str) (h : b.2.1.length < 4294967296) : m_ref05_Find b nm = some (findS b nm) := by
  have := fidx_loop (B := m_ref05_Find_L1 b nm) (fun r : T_Rule => r.1 == nm) b.2.1 (-1 : Int) (fun i => i) (fun i x hx => by
    unfold m_ref05_Find_L1
    simp only [at_dec hx, if_true, at_idx hx, Option.bind_some, at_suc hx h]
    split <;> rfl) (by unfold m_ref05_Find_L1; simp only [end_dec, Bool.false_eq_true, if_false])
  rw [fidx_id] at this
  exact this
theorem ref_Premise (b : T_Base) (x : T_Literal) (h : b.1.length < 4294967296) : m_ref05_Premise b x = some (premS b x) := by
  have := fidx_loop (B := m_ref05_Premise_L1 b x) (fun r : T_Premise => r.1 == x) b.1 (-1 : Int) (fun i => i) (fun i x hx => by
    unfold m_ref05_Premise_L1
    simp only [at_dec hx, if_true, at_idx hx, Option.bind_some, at_suc hx h]
    split <;> rfl) (by unfold m_ref05_Premise_L1; simp only [end_dec, Bool.false_eq_true, if_false])
  rw [fidx_id] at this
  exact this
theorem rb_Find (b : T_Base) (nm : Str) (h : b.2.1.length < 4294967296) : m_rulebase_Find b nm = some (findS b nm) := by
  have := fidx_loop (B := m_slices_IndexFunc_Rule__rulebase_Find_1_L1 b.2.1 nm) (fun r : T_Rule => r.1 == nm) b.2.1 (-1 : Int) (fun i => i) (fun i x hx => by
    unfold m_slices_IndexFunc_Rule__rulebase_Find_1_L1 m_rulebase_Find_1
    simp only [at_dec hx, if_true, at_idx hx, Option.bind_some, at_suc hx h]
    split <;> rfl) (by unfold m_slices_IndexFunc_Rule__rulebase_Find_1_L1; simp only [end_dec, Bool.false_eq_true, if_false])
  rw [fidx_id] at this
  unfold m_rulebase_Find m_slices_IndexFunc_Rule__rulebase_Find_1
  rw [this]
  rfl
theorem rb_Premise (b : T_Base) (x : T_Literal) (h : b.1.length < 4294967296) : m_rulebase_Premise b x = some (premS b x) := by
  have := fidx_loop (B := m_slices_IndexFunc_Premise__rulebase_Premise_1_L1 b.1 x) (fun r : T_Premise => r.1 == x) b.1 (-1 : Int) (fun i => i) (fun i x hx => by
    unfold m_slices_IndexFunc_Premise__rulebase_Premise_1_L1 m_rulebase_Premise_1
    simp only [at_dec hx, if_true, at_idx hx, Option.bind_some, at_suc hx h]
    split <;> rfl) (by unfold m_slices_IndexFunc_Premise__rulebase_Premise_1_L1; simp only [end_dec, Bool.false_eq_true, if_false])
  rw [fidx_id] at this
  unfold m_rulebase_Premise m_slices_IndexFunc_Premise__rulebase_Premise_1
  rw [this]
  rfl
theorem findS_idx {b : T_Base} {nm : Str} (h : ¬ findS b nm < 0) : ∃ r, idx b.2.1 (findS b nm) = some r := by
  obtain ⟨k, x, h1, h2, _⟩ := fidx_at (q := fun r : T_Rule => r.1 == nm) (l := b.2.1) (by unfold findS at h; omega)
  exact ⟨x, by rw [findS, h1]; exact at_idx h2⟩
theorem rb_promotion (b : T_Base) (p : T_Promotion) (h : b.2.1.length < 4294967296) : m_rulebase_promotion b p = some (promE b p) := by
  unfold m_rulebase_promotion promE m_rulebase_ranked
  simp only [lit_valid, rb_Find b p.1 h, Option.bind_some, ranked]
  by_cases hr : (decide (0 ≤ p.2.1) && decide (p.2.1 ≤ 9)) = true
  · simp only [hr, Bool.true_and, Bool.not_true, Bool.false_eq_true, if_false]
    cases hv : vName p.2.2.2 with
    | false => rfl
    | true =>
      simp only [Bool.not_true, Bool.false_eq_true, if_false, Option.bind_some, if_true]
      by_cases hn : findS b p.1 < 0
      · simp [hn]
      · obtain ⟨r, hr2⟩ := findS_idx hn
        simp only [hn, decide_false, Bool.false_eq_true, if_false, hr2, Option.bind_some]
        split <;> rfl
  · rw [Bool.not_eq_true] at hr
    simp only [hr, Bool.false_and, Bool.not_false, if_true, Option.bind_some, Bool.false_eq_true, if_false]
/-- what a base's lists may be, so that everything can be counted -/
structure Cnt (b : T_Base) : Prop where
  p : b.1.length < 4294967296
  r : b.2.1.length < 4294967296
  m : b.2.2.length < 4294967296
  q : ∀ r ∈ b.2.1, r.2.2.2.1.length < 4294967296
theorem ref_Validate {b : T_Base} (h : Cnt b) : m_ref05_Validate b = some (validS b) := by
  unfold m_ref05_Validate validS
  have h0 : (decide (16 < len b.1) || (decide (24 < len b.2.1) || decide (8 < len b.2.2))) = (decide (16 < b.1.length) || decide (24 < b.2.1.length) || decide (8 < b.2.2.length)) := by
    rw [Bool.eq_iff_iff]; simp [len]; omega
  rw [h0]
  cases hc : (decide (16 < b.1.length) || decide (24 < b.2.1.length) || decide (8 < b.2.2.length)) with
  | true => simp
  | false =>
    simp only [Bool.false_eq_true, if_false]
    rw [loop_ferr (B := m_ref05_Validate_L1 b) b.1 (fun i p => if premE p != 0 then premE p else if premS b p.1 < (i : Int) then 5 else 0) (fun e => (.inr e : Unit ⊕ Int)) (.inl ()) (fun i x hx => by
      unfold m_ref05_Validate_L1
      simp only [at_dec hx, if_true, at_idx hx, Option.bind_some, ref_premise, ref_Premise b x.1 h.p, at_suc hx h.p]
      cases hp : premE x != 0 with
      | true => simp only [if_true, hp]
      | false =>
        by_cases hq : premS b x.1 < (i : Int)
        · simp [hq]
        · simp [hq]) (by unfold m_ref05_Validate_L1; simp only [end_dec, Bool.false_eq_true, if_false])]
    cases he : ferr (fun i p => if premE p != 0 then premE p else if premS b p.1 < (i : Int) then 5 else 0) 0 b.1 != 0 with
    | true => simp [seqE]
    | false =>
      simp only [Bool.false_eq_true, if_false, seqE, Option.bind_some]
      rw [loop_ferr (B := m_ref05_Validate_L2 b) b.2.1 (fun i r => if ruleE r != 0 then ruleE r else if findS b r.1 < (i : Int) then 5 else 0) (fun e => (.inr e : Unit ⊕ Int)) (.inl ()) (fun i x hx => by
        unfold m_ref05_Validate_L2
        simp only [at_dec hx, if_true, at_idx hx, Option.bind_some, ref_rule x (h.q x (mem_at hx)), ref_Find b x.1 h.r, at_suc hx h.r]
        cases hp : ruleE x != 0 with
        | true => simp only [if_true, hp]
        | false =>
          by_cases hq : findS b x.1 < (i : Int)
          · simp [hq]
          · simp [hq]) (by unfold m_ref05_Validate_L2; simp only [end_dec, Bool.false_eq_true, if_false])]
      cases he2 : ferr (fun i r => if ruleE r != 0 then ruleE r else if findS b r.1 < (i : Int) then 5 else 0) 0 b.2.1 != 0 with
      | true => simp
      | false =>
        simp only [Bool.false_eq_true, if_false, Option.bind_some]
        rw [loop_ferr (B := m_ref05_Validate_L3 b) b.2.2 (fun _ p => promE b p) (fun e => e) 0 (fun i x hx => by
          unfold m_ref05_Validate_L3 promE m_ref05_rank
          simp only [at_dec hx, if_true, at_idx hx, Option.bind_some, ref_valid, ref_Find b x.1 h.r, at_suc hx h.m, ranked]
          by_cases hr : (decide (0 ≤ x.2.1) && decide (x.2.1 ≤ 9)) = true
          · simp only [hr, Bool.true_and, Bool.not_true, Bool.false_eq_true, if_false]
            cases hv : vName x.2.2.2 with
            | false => rfl
            | true =>
              simp only [Bool.not_true, Bool.false_eq_true, if_false, Option.bind_some, if_true]
              by_cases hn : findS b x.1 < 0
              · simp [hn]
              · obtain ⟨r, hr2⟩ := findS_idx hn
                simp only [hn, decide_false, Bool.false_eq_true, if_false, hr2, Option.bind_some]
                cases r.2.1 <;> simp
          · rw [Bool.not_eq_true] at hr
            simp only [hr, Bool.false_and, Bool.not_false, if_true, Option.bind_some, Bool.false_eq_true, if_false]
            rfl) (by unfold m_ref05_Validate_L3; simp only [end_dec, Bool.false_eq_true, if_false])]
        cases hz : ferr (fun _ p => promE b p) 0 b.2.2 != 0 with
        | true => simp
        | false => simp only [Bool.false_eq_true, if_false]; congr 1; exact (by simpa using hz : _ = (0 : Int)).symm
theorem rb_Validate {b : T_Base} (h : Cnt b) : m_rulebase_Validate b = some (validS b) := by
  unfold m_rulebase_Validate validS
  have h0 : (decide (16 < len b.1) || (decide (24 < len b.2.1) || decide (8 < len b.2.2))) = (decide (16 < b.1.length) || decide (24 < b.2.1.length) || decide (8 < b.2.2.length)) := by
    rw [Bool.eq_iff_iff]; simp [len]; omega
  rw [h0]
  cases hc : (decide (16 < b.1.length) || decide (24 < b.2.1.length) || decide (8 < b.2.2.length)) with
  | true => simp
  | false =>
    simp only [Bool.false_eq_true, if_false]
    rw [loop_ferr (B := m_rulebase_Validate_L1 b) b.1 (fun i p => if premE p != 0 then premE p else if premS b p.1 < (i : Int) then 5 else 0) (fun e => (.inr e : Unit ⊕ Int)) (.inl ()) (fun i x hx => by
      unfold m_rulebase_Validate_L1
      simp only [at_dec hx, if_true, at_idx hx, Option.bind_some, rb_premise, rb_Premise b x.1 h.p, at_suc hx h.p]
      cases hp : premE x != 0 with
      | true => simp only [if_true, hp]
      | false =>
        by_cases hq : premS b x.1 < (i : Int)
        · simp [hq]
        · simp [hq]) (by unfold m_rulebase_Validate_L1; simp only [end_dec, Bool.false_eq_true, if_false])]
    cases he : ferr (fun i p => if premE p != 0 then premE p else if premS b p.1 < (i : Int) then 5 else 0) 0 b.1 != 0 with
    | true => simp [seqE]
    | false =>
      simp only [Bool.false_eq_true, if_false, seqE, Option.bind_some]
      rw [loop_ferr (B := m_rulebase_Validate_L2 b) b.2.1 (fun i r => if ruleE r != 0 then ruleE r else if findS b r.1 < (i : Int) then 5 else 0) (fun e => (.inr e : Unit ⊕ Int)) (.inl ()) (fun i x hx => by
        unfold m_rulebase_Validate_L2
        simp only [at_dec hx, if_true, at_idx hx, Option.bind_some, rb_rule x (h.q x (mem_at hx)), rb_Find b x.1 h.r, at_suc hx h.r]
        cases hp : ruleE x != 0 with
        | true => simp only [if_true, hp]
        | false =>
          by_cases hq : findS b x.1 < (i : Int)
          · simp [hq]
          · simp [hq]) (by unfold m_rulebase_Validate_L2; simp only [end_dec, Bool.false_eq_true, if_false])]
      cases he2 : ferr (fun i r => if ruleE r != 0 then ruleE r else if findS b r.1 < (i : Int) then 5 else 0) 0 b.2.1 != 0 with
      | true => simp
      | false =>
        simp only [Bool.false_eq_true, if_false, Option.bind_some]
        rw [loop_ferr (B := m_rulebase_Validate_L3 b) b.2.2 (fun _ p => promE b p) (fun e => e) 0 (fun i x hx => by
          unfold m_rulebase_Validate_L3
          simp only [at_dec hx, if_true, at_idx hx, Option.bind_some, rb_promotion b x h.r, at_suc hx h.m]
          split <;> rfl) (by unfold m_rulebase_Validate_L3; simp only [end_dec, Bool.false_eq_true, if_false])]
        cases hz : ferr (fun _ p => promE b p) 0 b.2.2 != 0 with
        | true => simp
        | false => simp only [Bool.false_eq_true, if_false]; congr 1; exact (by simpa using hz : _ = (0 : Int)).symm
/-- what a valid base is -/
structure ValidB (b : T_Base) : Prop where
  np : b.1.length ≤ 16
  nr : b.2.1.length ≤ 24
  nm : b.2.2.length ≤ 8
  prem : ∀ p ∈ b.1, premE p = 0
  rule : ∀ r ∈ b.2.1, ruleE r = 0
  dp : ∀ (i j : Nat) p q, b.1[i]? = some p → b.1[j]? = some q → p.1 = q.1 → i = j
  dr : ∀ (i j : Nat) p q, b.2.1[i]? = some p → b.2.1[j]? = some q → p.1 = q.1 → i = j
  prom : ∀ p ∈ b.2.2, promE b p = 0
theorem fidx_first {α β : Type} [BEq β] [LawfulBEq β] (g : α → β) (l : List α) : (∀ (i : Nat) p, l[i]? = some p → ¬ fidx (fun x => g x == g p) l < (i : Int)) ↔ ∀ (i j : Nat) p q, l[i]? = some p → l[j]? = some q → g p = g q → i = j := by
  constructor
  · intro h i j p q hp hq e
    have h1 := h i p hp
    have h2 := h j q hq
    have h3 := (fidx_le (q := fun x => g x == g p) hq (by simp [e])).2
    have h4 := (fidx_le (q := fun x => g x == g q) hp (by simp [e])).2
    rw [e] at h1 h3
    omega
  · intro h i p hp hlt
    have h1 := fidx_le (q := fun x => g x == g p) hp (by simp)
    obtain ⟨k, x, e1, e2, e3, _⟩ := fidx_at h1.1
    have := h k i x p e2 hp (by simpa using e3)
    omega
theorem validS_iff {b : T_Base} : validS b = 0 ↔ ValidB b := by
  have hcnd : ∀ (a c : Int) (p : Prop) [Decidable p], (if a != 0 then a else if p then 5 else 0) = (0 : Int) ↔ a = 0 ∧ ¬ p := fun a c p _ => by
    by_cases ha : a = 0
    · by_cases hp : p <;> simp [ha, hp]
    · simp [ha]
  have h1 : ferr (fun i p => if premE p != 0 then premE p else if premS b p.1 < (i : Int) then 5 else 0) 0 b.1 = 0 ↔ (∀ p ∈ b.1, premE p = 0) ∧ ∀ (i j : Nat) p q, b.1[i]? = some p → b.1[j]? = some q → p.1 = q.1 → i = j := by
    rw [ferr_ok, ← fidx_first (fun p : T_Premise => p.1)]
    simp only [Nat.zero_add, hcnd _ 0]
    exact ⟨fun h => ⟨fun p hp => by obtain ⟨i, hi⟩ := List.mem_iff_getElem?.1 hp; exact (h i p hi).1, fun i p hp => (h i p hp).2⟩, fun h i p hp => ⟨h.1 p (mem_at hp), h.2 i p hp⟩⟩
  have h2 : ferr (fun i r => if ruleE r != 0 then ruleE r else if findS b r.1 < (i : Int) then 5 else 0) 0 b.2.1 = 0 ↔ (∀ p ∈ b.2.1, ruleE p = 0) ∧ ∀ (i j : Nat) p q, b.2.1[i]? = some p → b.2.1[j]? = some q → p.1 = q.1 → i = j := by
    rw [ferr_ok, ← fidx_first (fun p : T_Rule => p.1)]
    simp only [Nat.zero_add, hcnd _ 0]
    exact ⟨fun h => ⟨fun p hp => by obtain ⟨i, hi⟩ := List.mem_iff_getElem?.1 hp; exact (h i p hi).1, fun i p hp => (h i p hp).2⟩, fun h i p hp => ⟨h.1 p (mem_at hp), h.2 i p hp⟩⟩
  have h3 : ferr (fun _ p => promE b p) 0 b.2.2 = 0 ↔ ∀ p ∈ b.2.2, promE b p = 0 := by
    rw [ferr_ok]
    exact ⟨fun h p hp => by obtain ⟨i, hi⟩ := List.mem_iff_getElem?.1 hp; exact h i p hi, fun h i p hp => h p (mem_at hp)⟩
  unfold validS
  cases hc : (decide (16 < b.1.length) || decide (24 < b.2.1.length) || decide (8 < b.2.2.length)) with
  | true =>
    simp only [if_true]
    refine ⟨fun h => (by cases h), fun h => ?_⟩
    simp at hc
    have := h.np; have := h.nr; have := h.nm
    omega
  | false =>
    simp at hc
    simp only [Bool.false_eq_true, if_false]
    constructor
    · intro h
      have e1 : ferr (fun i p => if premE p != 0 then premE p else if premS b p.1 < (i : Int) then 5 else 0) 0 b.1 = 0 := by
        refine Decidable.byContradiction fun hn => ?_
        rw [if_pos (by simpa using hn)] at h
        exact hn h
      rw [if_neg (by rw [e1]; simp)] at h
      have e2 : ferr (fun i r => if ruleE r != 0 then ruleE r else if findS b r.1 < (i : Int) then 5 else 0) 0 b.2.1 = 0 := by
        refine Decidable.byContradiction fun hn => ?_
        rw [if_pos (by simpa using hn)] at h
        exact hn h
      rw [if_neg (by rw [e2]; simp)] at h
      exact ⟨by omega, by omega, by omega, (h1.1 e1).1, (h2.1 e2).1, (h1.1 e1).2, (h2.1 e2).2, h3.1 h⟩
    · intro h
      rw [if_neg (by rw [h1.2 ⟨h.prem, h.dp⟩]; simp), if_neg (by rw [h2.2 ⟨h.rule, h.dr⟩]; simp)]
      exact h3.2 h.prom
end
section
theorem keep_Lits {s : T_keep_Src} {m n : Int} (h : SrcOk s) (h0 : 0 ≤ m) (hm : m ≤ 1000000) (h1 : 1 ≤ n) (h2 : n ≤ 26) : ∃ (l : List T_Literal) (k : Int), m_keep_Src_Literals s m n = some (l, k) ∧ (l.length : Int) ≤ m ∧ (∀ x ∈ l, ∃ j : Nat, (j : Int) < n ∧ x.2 = atomN j) ∧ SrcOk (s.1, k) := by
  obtain ⟨v, k, hr, hv0, hv1, hk⟩ := keep_N (n := m + 1) h (by omega) (by omega)
  unfold m_keep_Src_Literals
  rw [w64_id (x := m + 1) (by omega) (by omega), hr]
  simp only [Option.bind_some]
  obtain ⟨r, h3, h4⟩ := loop_spec (B := m_keep_Src_Literals_L1 s n) (fun t => 0 ≤ t.2.1 ∧ (t.1.length : Int) + t.2.1 = v ∧ (∀ x ∈ t.1, ∃ j : Nat, (j : Int) < n ∧ x.2 = atomN j) ∧ SrcOk (s.1, t.2.2)) (fun t => t.2.1.toNat)
    (fun r => (r.1.length : Int) ≤ m ∧ (∀ x ∈ r.1, ∃ j : Nat, (j : Int) < n ∧ x.2 = atomN j) ∧ SrcOk (s.1, r.2)) (fun t ht => by
      obtain ⟨l, q, k⟩ := t
      obtain ⟨t1, t2, t3, t4⟩ := ht
      dsimp only at t1 t2 t3 t4
      unfold m_keep_Src_Literals_L1
      by_cases hq : 0 < q
      · obtain ⟨g, j, k', h5, hj, hk'⟩ := keep_Literal t4 h1 h2
        refine .inl ⟨(l ++ [(g, atomN j)], q - 1, k'), ?_, ⟨by show 0 ≤ q - 1; omega, by simp; omega, fun x hx => ?_, hk'⟩, by show (q - 1).toNat < q.toNat; omega⟩
        · simp only [hq, decide_true, if_true, h5, Option.bind_some]
          rw [app_ok (by simp; omega), w64_id (by omega) (by omega)]
          rfl
        · rcases List.mem_append.1 hx with hx | hx
          · exact t3 x hx
          · simp at hx; subst hx; exact ⟨j, hj, rfl⟩
      · refine .inr ⟨(l, k), by simp [hq], by dsimp only; omega, t3, t4⟩) (([] : List T_Literal), v, k) ⟨hv0, by simp, by simp, hk⟩
  obtain ⟨l, k'⟩ := r
  exact ⟨l, k', h3, h4.1, h4.2.1, h4.2.2⟩
theorem sorted_at (s : List T_Literal) (hs : s.length < 1000000) (x : T_Literal) (n : Int) : ∃ k : Nat, loop (m_keep_sorted_L2 (s, n) x) 0 = some (k : Int) ∧ k ≤ s.length ∧ (∀ j y, j < k → s[j]? = some y → litLt y x = true) ∧ ∀ y, s[k]? = some y → litLt y x = false := by
  obtain ⟨r, h1, k, h2, h3⟩ := loop_forI (B := m_keep_sorted_L2 (s, n) x) (fun i (_ : Unit) => (i : Int)) s (fun i _ => ∀ j y, j < i → s[j]? = some y → litLt y x = true)
    (fun r => ∃ k : Nat, r = (k : Int) ∧ k ≤ s.length ∧ (∀ j y, j < k → s[j]? = some y → litLt y x = true) ∧ ∀ y, s[k]? = some y → litLt y x = false) (fun i y _ hi hI => by
    have hlt := at_lt hi
    unfold m_keep_sorted_L2
    simp only [at_dec hi, if_true, at_idx hi, Option.bind_some, at_suc hi (show s.length < 4294967296 by omega)]
    have hcond : (if sless y.2 x.2 = true then some true else if (y.2 == x.2) = true then if (!y.1) = true then some x.1 else some false else some false) = some (litLt y x) := by
      unfold litLt
      cases sless y.2 x.2 <;> cases y.2 == x.2 <;> cases y.1 <;> cases x.1 <;> rfl
    rw [hcond]
    simp only [Option.bind_some]
    cases hc : litLt y x with
    | true =>
      simp only [if_true]
      exact .inl ⟨(), by trivial, fun j z hj hz => by
        by_cases hji : j = i
        · subst hji; rw [hi] at hz; cases hz; exact hc
        · exact hI j z (by omega) hz⟩
    | false =>
      simp only [Bool.false_eq_true, if_false]
      exact .inr ⟨_, rfl, i, rfl, by omega, hI, fun z hz => by rw [hi] at hz; cases hz; exact hc⟩) (fun _ hI => ⟨_, by
    unfold m_keep_sorted_L2
    simp only [end_dec, Bool.false_eq_true, if_false, Option.bind_some], s.length, rfl, Nat.le_refl _, hI, fun y hy => by have := at_lt hy; omega⟩) () (fun j y hj => by omega)
  rw [show ((0 : Nat) : Int) = 0 from rfl] at h1
  subst h2
  exact ⟨k, h1, h3⟩
/-- x put in at its place -/
theorem ins_asc {s : List T_Literal} (hs : Asc litLt s) {k : Nat} {x : T_Literal} (h1 : ∀ j y, j < k → s[j]? = some y → litLt y x = true) (h2 : ∀ y, s[k]? = some y → litLt x y = true) : Asc litLt (s.take k ++ x :: s.drop k) := by
  have hsplit := List.take_append_drop k s
  rw [← hsplit] at hs
  obtain ⟨p1, p2, p3⟩ := List.pairwise_append.1 hs
  refine List.pairwise_append.2 ⟨p1, List.pairwise_cons.2 ⟨fun y hy => ?_, p2⟩, fun y hy z hz => ?_⟩
  · cases hd : s.drop k with
    | nil => rw [hd] at hy; cases hy
    | cons z r =>
      have hz : s[k]? = some z := by
        have := congrArg (fun l => l[0]?) hd
        simpa using this
      rw [hd] at hy p2
      rcases List.mem_cons.1 hy with rfl | hy
      · exact h2 _ hz
      · exact litLt_trans (h2 _ hz) ((List.pairwise_cons.1 p2).1 y hy)
  · have hyx : litLt y x = true := by
      obtain ⟨j, hj⟩ := List.mem_iff_getElem?.1 hy
      rw [List.getElem?_take] at hj
      split at hj
      · rename_i hjk; exact h1 j y hjk hj
      · cases hj
    rcases List.mem_cons.1 hz with rfl | hz
    · exact hyx
    · exact p3 y hy z hz
theorem copy_ins {α : Type} (s : List α) (z x : α) (k : Nat) (hk : k ≤ s.length) : (copyAt (s ++ [z]) (((k + 1 : Nat)) : Int) ((s ++ [z]).drop k)).set k x = s.take k ++ x :: s.drop k := by
  have h1 : (s ++ [z]).drop k = s.drop k ++ [z] := List.drop_append_of_le_length hk
  unfold copyAt
  rw [h1, Int.toNat_natCast]
  have h2 : (s.drop k ++ [z]).take ((s ++ [z]).length - (k + 1)) = s.drop k := by
    rw [show (s ++ [z]).length - (k + 1) = (s.drop k).length by simp, List.take_left']
    rfl
  have h3 : (s ++ [z]).drop (k + 1 + (s.drop k ++ [z]).length) = [] := List.drop_eq_nil_of_le (by simp; omega)
  rw [h2, h3, List.append_nil]
  cases hd : s.drop k with
  | nil =>
    have : k = s.length := by
      have := congrArg List.length hd
      simp at this
      omega
    subst this
    rw [List.take_of_length_le (l := s ++ [z]) (by simp), List.append_nil, List.set_append_right _ _ (by simp)]
    simp
  | cons y r =>
    have hk2 : k < s.length := by
      have := congrArg List.length hd
      simp at this
      omega
    have h4 : (s ++ [z]).take (k + 1) = s.take k ++ [s[k]] := by
      rw [List.take_append_of_le_length (by omega), List.take_add_one, List.getElem?_eq_getElem hk2]
      rfl
    rw [h4, List.append_assoc, List.set_append_right _ _ (by rw [List.length_take]; omega)]
    simp [Nat.min_eq_left (Nat.le_of_lt hk2)]
theorem keep_sorted_ok (l : List T_Literal) (hl : l.length ≤ 1000) : ∃ r, m_keep_sorted l = some r ∧ r.length ≤ l.length ∧ Asc litLt r ∧ ∀ y ∈ r, y ∈ l := by
  unfold m_keep_sorted
  refine loop_forI (B := m_keep_sorted_L1 l) (fun i s => (s, (i : Int))) l (fun i s => s.length ≤ i ∧ Asc litLt s ∧ ∀ y ∈ s, y ∈ l) (fun r => r.length ≤ l.length ∧ Asc litLt r ∧ ∀ y ∈ r, y ∈ l) (fun i x s hi hs => .inl ?_) (fun s hs => ⟨s, ?_, hs⟩) [] ⟨by simp, List.Pairwise.nil, by simp⟩
  · have hlt := at_lt hi
    obtain ⟨hs1, hs2, hs3⟩ := hs
    unfold m_keep_sorted_L1
    obtain ⟨k, h1, h2, h3, h4⟩ := sorted_at s (by omega) x i
    simp only [at_dec hi, if_true, at_idx hi, Option.bind_some, h1, at_suc hi (show l.length < 4294967296 by omega)]
    by_cases hex : s[k]? = some x
    · simp only [at_dec hex, if_true, at_idx hex, Option.bind_some, beq_self_eq_true]
      exact ⟨s, rfl, by omega, hs2, hs3⟩
    · have hc : (if decide ((k : Int) < len s) = true then (idx s (k : Int)).bind fun x5 => some (x5 == x) else some false) = some false := by
        by_cases hk : k < s.length
        · have hx : s[k]? = some s[k] := List.getElem?_eq_getElem hk
          simp only [at_dec hx, if_true, at_idx hx, Option.bind_some]
          congr 1
          rw [beq_eq_false_iff_ne]
          intro e
          rw [e] at hx
          exact hex hx
        · have : decide ((k : Int) < len s) = false := by simp [len]; omega
          simp only [this, Bool.false_eq_true, if_false]
      rw [hc]
      simp only [Option.bind_some, Bool.false_eq_true, if_false]
      rw [app_ok (by simp; omega)]
      have hr1 : w64 ((k : Int) + 1) = ((k + 1 : Nat) : Int) := w64_succ k (by omega)
      have hc1 : (decide (0 ≤ ((k + 1 : Nat) : Int)) && decide (((k + 1 : Nat) : Int) ≤ len (s ++ [((false, []) : T_Literal)]))) = true := by simp [len]; omega
      have hc2 : (decide (0 ≤ (k : Int)) && decide ((k : Int) ≤ len (s ++ [((false, []) : T_Literal)]))) = true := by simp [len]; omega
      obtain ⟨z, hz⟩ := idx_ok (l := copyAt (s ++ [((false, []) : T_Literal)]) ((k + 1 : Nat) : Int) (List.drop k (s ++ [((false, []) : T_Literal)]))) (j := (k : Int)) (by omega) (by rw [length_copyAt]; simp; omega)
      simp only [Option.bind_some, hr1, chk, hc1, hc2, if_true, Int.toNat_natCast, hz, copy_ins s _ x k h2]
      refine ⟨_, rfl, ?_, ins_asc hs2 h3 fun y hy => ?_, fun y hy => ?_⟩
      · simp; omega
      · rcases litLt_tri y x with h | h | h
        · rw [h4 y hy] at h; cases h
        · subst h; exact absurd hy hex
        · exact h
      · rcases List.mem_append.1 hy with hy | hy
        · exact hs3 y (List.mem_of_mem_take hy)
        · rcases List.mem_cons.1 hy with rfl | hy
          · exact mem_at hi
          · exact hs3 y (List.mem_of_mem_drop hy)
  · unfold m_keep_sorted_L1
    simp only [end_dec, Bool.false_eq_true, if_false]
theorem ascB_of : ∀ {l : List T_Literal}, Asc litLt l → ascB l = true
  | [], _ => rfl
  | [_], _ => rfl
  | x :: y :: r, h => by
    obtain ⟨h1, h2⟩ := List.pairwise_cons.1 h
    unfold ascB
    rw [h1 y List.mem_cons_self, ascB_of h2]
    rfl
theorem keep_PickI {s : T_keep_Src} {l : List Int} (h : SrcOk s) (h0 : l ≠ []) (h1 : l.length ≤ 1000) : ∃ x k, m_keep_Src_Pick s l = some (x, k) ∧ x ∈ l ∧ SrcOk (s.1, k) := by
  have hp := List.length_pos_iff.2 h0
  obtain ⟨v, k, hr, h2, h3, hk⟩ := keep_N (n := len l) h (by simp [len]; omega) (by simp [len]; omega)
  obtain ⟨x, hx, hx2⟩ := idx_some h2 h3
  exact ⟨x, k, by simp [m_keep_Src_Pick, hr, hx], List.mem_of_getElem? hx2, hk⟩
theorem vName_atom {j : Nat} (h : j < 26) : vName (atomN j) = true := by
  have : ∀ j, j < 26 → vName (atomN j) = true := by decide
  exact this j h
def ruleN (n : Nat) : Str := [114, UInt8.ofNat (97 + n)]
theorem ruleN_valid {n : Nat} (h : n < 26) : vName (ruleN n) = true := by
  have : ∀ n, n < 26 → vName (ruleN n) = true := by decide
  exact this n h
theorem ruleN_inj {n m : Nat} (h : n < 26) (h' : m < 26) (he : ruleN n = ruleN m) : n = m := by
  have : ∀ n, n < 26 → ∀ m, m < 26 → ruleN n = ruleN m → n = m := by decide
  exact this n h m h' he
theorem keep_RuleName {n : Nat} (h : n < 26) : m_keep_RuleName (n : Int) = some (ruleN n) := by
  have : ∀ n : Nat, n < 26 → m_keep_RuleName (n : Int) = some (ruleN n) := by decide
  exact this n h
theorem inj_app {α β : Type} (g : α → β) {l : List α} {y : α} (h : ∀ (i j : Nat) p q, l[i]? = some p → l[j]? = some q → g p = g q → i = j) (hy : ∀ x ∈ l, g x ≠ g y) : ∀ (i j : Nat) p q, (l ++ [y])[i]? = some p → (l ++ [y])[j]? = some q → g p = g q → i = j := by
  intro i j p q hp hq he
  have key : ∀ (i : Nat) p, (l ++ [y])[i]? = some p → (l[i]? = some p) ∨ (i = l.length ∧ p = y) := fun i p hp => by
    by_cases hi : i < l.length
    · rw [List.getElem?_append_left hi] at hp; exact .inl hp
    · rw [List.getElem?_append_right (by omega)] at hp
      have hi2 := at_lt hp
      simp at hi2
      have : i = l.length := by omega
      subst this
      simp at hp
      exact .inr ⟨rfl, hp.symm⟩
  rcases key i p hp with h1 | ⟨h1, h2⟩ <;> rcases key j q hq with h3 | ⟨h3, h4⟩
  · exact h i j p q h1 h3 he
  · subst h4; exact absurd he (hy p (mem_at h1))
  · subst h2; exact absurd he.symm (hy q (mem_at h3))
  · omega
/-- the premises that are drawn -/
structure DrawnP (n : Int) (l : List T_Premise) : Prop where
  ok : ∀ p ∈ l, premE p = 0
  at_ : ∀ p ∈ l, ∃ j : Nat, (j : Int) < n ∧ p.1.2 = atomN j
  inj : ∀ (i j : Nat) p q, l[i]? = some p → l[j]? = some q → p.1 = q.1 → i = j
theorem Base_L1 {s : T_keep_Src} {n : Int} (h1 : 1 ≤ n) (h2 : n ≤ 26) {v k : Int} (hv0 : 0 ≤ v) (hv1 : v ≤ 100) (hk : SrcOk (s.1, k)) : ∃ r, loop (m_keep_Src_Base_L1 s n) (v, k, []) = some r ∧ SrcOk (s.1, r.1) ∧ (r.2.length : Int) ≤ v ∧ DrawnP n r.2 := by
  refine loop_spec (B := m_keep_Src_Base_L1 s n) (fun t => 0 ≤ t.1 ∧ (t.2.2.length : Int) + t.1 ≤ v ∧ SrcOk (s.1, t.2.1) ∧ DrawnP n t.2.2) (fun t => t.1.toNat) (fun r => SrcOk (s.1, r.1) ∧ (r.2.length : Int) ≤ v ∧ DrawnP n r.2) (fun t ht => ?_) _ ⟨hv0, by simp, hk, by simp, by simp, by simp⟩
  obtain ⟨q, k, l⟩ := t
  obtain ⟨t1, t2, t3, t4⟩ := ht
  dsimp only at t1 t2 t3 t4
  unfold m_keep_Src_Base_L1
  by_cases hq : 0 < q
  · obtain ⟨g, j, k1, e1, hj, hk1⟩ := keep_Literal t3 h1 h2
    obtain ⟨p, k2, e2, hp, hk2⟩ := keep_PickI (l := [1, 2, 2, 2, 3]) hk1 (by simp) (by simp)
    obtain ⟨x, k3, e3, hx, hk3⟩ := keep_Text (l := [[], [], [97, 110, 110], [98, 111, 98]]) hk2 (by simp) (by simp)
    obtain ⟨u, k4, e4, hu0, hu1, hk4⟩ := keep_N (n := 4) hk3 (by omega) (by omega)
    have hr : loop (m_keep_Src_Base_L2 (q, k, l) ((g, atomN j), k1)) (false, 0) = some (l.any fun p => p.1 == (g, atomN j)) := by
      obtain ⟨r, hr, hr2⟩ := loop_forI (B := m_keep_Src_Base_L2 (q, k, l) ((g, atomN j), k1)) (fun i s => (s, (i : Int))) l (fun i s => s = (l.take i).any fun p => p.1 == (g, atomN j)) (fun r => r = l.any fun p => p.1 == (g, atomN j)) (fun i x s hi hs => .inl (by
        unfold m_keep_Src_Base_L2
        simp only [at_dec hi, if_true, at_idx hi, Option.bind_some, at_suc hi (show l.length < 4294967296 by omega)]
        exact ⟨_, rfl, by rw [take_suc hi, List.any_append, ← hs]; simp⟩)) (fun s hs => by
        unfold m_keep_Src_Base_L2
        simp only [end_dec, Bool.false_eq_true, if_false]
        exact ⟨_, rfl, by rw [hs, List.take_length]⟩) false (by simp)
      rw [← hr2]
      exact hr
    dsimp only at e2 e3 e4 hk2 hk3 hk4
    have hq1 : w64 (q - 1) = q - 1 := w64_id (by omega) (by omega)
    have hmid : ∃ w z, (if (p == 2) = true then (m_keep_Src_N (s.1, k3) 4).bind fun r5 => some (r5.2, r5.1) else some (k3, 0) : Option (Int × Int)) = some (w, z) ∧ SrcOk (s.1, w) ∧ ranked z = true ∧ (p == 2 || z == 0) = true := by
      split
      · rename_i hp2
        exact ⟨k4, u, by rw [e4]; rfl, hk4, by simp; omega, by simp [hp2]⟩
      · exact ⟨k3, 0, rfl, hk3, by simp, by simp⟩
    obtain ⟨w, z, hm, hw, hz1, hz2⟩ := hmid
    simp only [hq, decide_true, if_true, e1, Option.bind_some, e2, e3, hm, hr, hq1]
    cases hany : l.any fun p => p.1 == (g, atomN j) with
    | true => exact .inl ⟨_, rfl, ⟨by show 0 ≤ q - 1; omega, by show (l.length : Int) + (q - 1) ≤ v; omega, hw, t4⟩, by show (q - 1).toNat < q.toNat; omega⟩
    | false =>
      simp only [Bool.not_false, if_true]
      rw [app_ok (by simp; omega)]
      refine .inl ⟨_, rfl, ⟨by show 0 ≤ q - 1; omega, by show ((l ++ [((g, atomN j), p, z, x)]).length : Int) + (q - 1) ≤ v; simp; omega, hw, fun p' hp' => ?_, fun p' hp' => ?_, inj_app _ t4.inj fun p' hp' he => ?_⟩, by show (q - 1).toNat < q.toNat; omega⟩
      · rcases List.mem_append.1 hp' with hp' | hp'
        · exact t4.ok p' hp'
        · simp only [List.mem_singleton] at hp'
          subst hp'
          have hpk : (p == 1 || p == 2 || p == 3) = true := by
            simp only [List.mem_cons, List.not_mem_nil, or_false] at hp
            rcases hp with rfl | rfl | rfl | rfl | rfl <;> rfl
          have hsx : (x == ([] : Str) || vName x) = true := by
            simp only [List.mem_cons, List.not_mem_nil, or_false] at hx
            rcases hx with rfl | rfl | rfl | rfl <;> decide
          unfold premE
          dsimp only
          rw [if_pos hpk, vName_atom (by omega), hz1, hz2, hsx]
          rfl
      · rcases List.mem_append.1 hp' with hp' | hp'
        · exact t4.at_ p' hp'
        · simp only [List.mem_singleton] at hp'
          subst hp'
          exact ⟨j, hj, rfl⟩
      · rw [List.any_eq_false] at hany
        exact hany p' hp' (by rw [beq_iff_eq]; exact he)
  · simp only [hq, decide_false, Bool.false_eq_true, if_false]
    exact .inr ⟨_, rfl, t3, by show (l.length : Int) ≤ v; omega, t4⟩
/-- the rules that are drawn -/
structure DrawnR (l : List T_Rule) : Prop where
  bd : ∀ r ∈ l, r.2.2.2.1.length ≤ 2
  ok : ∀ r ∈ l, ruleE r = 0
  nm : ∀ (i : Nat) r, l[i]? = some r → r.1 = ruleN i
theorem Base_L3 {s : T_keep_Src} {n m : Int} (h1 : 1 ≤ n) (h2 : n ≤ 26) (hm : 1 ≤ m) (hm2 : m ≤ 26) {v k : Int} (hv0 : 0 ≤ v) (hv1 : v ≤ 24) (hk : SrcOk (s.1, k)) : ∃ r, loop (m_keep_Src_Base_L3 s n m) (v, k, []) = some r ∧ SrcOk (s.1, r.1) ∧ (r.2.length : Int) ≤ v ∧ DrawnR r.2 := by
  refine loop_spec (B := m_keep_Src_Base_L3 s n m) (fun t => 0 ≤ t.1 ∧ (t.2.2.length : Int) + t.1 ≤ v ∧ SrcOk (s.1, t.2.1) ∧ DrawnR t.2.2) (fun t => t.1.toNat) (fun r => SrcOk (s.1, r.1) ∧ (r.2.length : Int) ≤ v ∧ DrawnR r.2) (fun t ht => ?_) _ ⟨hv0, by simp, hk, by simp, by simp, by simp⟩
  obtain ⟨q, k, l⟩ := t
  obtain ⟨t1, t2, t3, t4⟩ := ht
  dsimp only at t1 t2 t3 t4
  unfold m_keep_Src_Base_L3
  by_cases hq : 0 < q
  · have e0 := keep_RuleName (n := l.length) (by omega)
    obtain ⟨u, k1, e1, _, _, hk1⟩ := keep_N (n := 3) t3 (by omega) (by omega)
    obtain ⟨bd, k2, e2, hb2, hbn, hk2⟩ := keep_Lits (m := 2) hk1 (by omega) (by omega) h1 h2
    obtain ⟨bs, e3, hb3, hb4, hb5⟩ := keep_sorted_ok bd (by omega)
    obtain ⟨g, j, k3, e4, hj, hk3⟩ := keep_Literal hk2 h1 h2
    obtain ⟨u5, k5, e5, hu5, hu5', hk5⟩ := keep_N (n := 4) hk3 (by omega) (by omega)
    dsimp only at e1 e2 e3 e4 e5 hk1 hk2 hk3 hk5
    have hmid : ∃ w z, (if (!(u == 0)) = true then (m_keep_Src_N (s.1, k3) 4).bind fun r12 => some (r12.2, r12.1) else some (k3, 0) : Option (Int × Int)) = some (w, z) ∧ SrcOk (s.1, w) ∧ ranked z = true ∧ (!(u == 0) || z == 0) = true := by
      split
      · rename_i hu
        exact ⟨k5, u5, by rw [e5]; rfl, hk5, by simp; omega, by rw [hu]; rfl⟩
      · exact ⟨k3, 0, rfl, hk3, by simp, by simp⟩
    obtain ⟨w, z, hmm, hw, hz1, hz2⟩ := hmid
    obtain ⟨u6, k6, e6, _, _, hk6⟩ := keep_N (n := 6) hw (by omega) (by omega)
    obtain ⟨u7, k7, e7, _, _, hk7⟩ := keep_N (n := 4) hk6 (by omega) (by omega)
    obtain ⟨u8, k8, e8, hu8, hu8', hk8⟩ := keep_N (n := m) hk7 (by omega) (by omega)
    obtain ⟨n8, rfl⟩ := Int.eq_ofNat_of_zero_le hu8
    have e9 := keep_RuleName (n := n8) (by omega)
    dsimp only at e6 e7 e8 hk6 hk7 hk8
    have hend : ∃ w2 z2 y2, ((m_keep_Src_N (s.1, w) 6).bind fun r13 => if (r13.1 == 5) = true then (m_keep_Src_N (s.1, r13.2) 4).bind fun r14 => (m_keep_Src_N (s.1, r14.2) m).bind fun r15 => (m_keep_RuleName r15.1).bind fun r16 => some (r15.2, decide (0 < r14.1), r16) else some (r13.2, g, atomN j) : Option (Int × Bool × Str)) = some (w2, z2, y2) ∧ SrcOk (s.1, w2) ∧ vName y2 = true := by
      rw [e6]
      simp only [Option.bind_some]
      split
      · exact ⟨k8, decide (0 < u7), ruleN n8, by rw [e7]; simp only [Option.bind_some, e8, e9], hk8, ruleN_valid (by omega)⟩
      · exact ⟨k6, g, atomN j, rfl, hk6, vName_atom (by omega)⟩
    obtain ⟨w2, z2, y2, he, hw2, hy2⟩ := hend
    have hq1 : w64 (q - 1) = q - 1 := w64_id (by omega) (by omega)
    rw [show len l = ((l.length : Nat) : Int) from rfl]
    simp only [hq, decide_true, if_true, e0, e1, Option.bind_some, e2, e3, e4, hmm, he, hq1]
    rw [app_ok (by simp; omega)]
    refine .inl ⟨_, rfl, ⟨by show 0 ≤ q - 1; omega, by show ((l ++ [_]).length : Int) + (q - 1) ≤ v; simp; omega, hw2, fun r hr => ?_, fun r hr => ?_, fun i r hr => ?_⟩, by show (q - 1).toNat < q.toNat; omega⟩
    · rcases List.mem_append.1 hr with hr | hr
      · exact t4.bd r hr
      · simp only [List.mem_singleton] at hr
        subst hr
        show bs.length ≤ 2
        omega
    · rcases List.mem_append.1 hr with hr | hr
      · exact t4.ok r hr
      · simp only [List.mem_singleton] at hr
        subst hr
        unfold ruleE
        dsimp only
        have hall : (bs.all fun x => vName x.2) = true := List.all_eq_true.2 fun x hx => by
          obtain ⟨j, hj, hx2⟩ := hbn x (hb5 x hx)
          rw [hx2]
          exact vName_atom (by omega)
        rw [if_neg (by omega), ruleN_valid (by omega), hy2, hz1, hz2, hall, ascB_of hb4]
        rfl
    · by_cases hi : i < l.length
      · rw [List.getElem?_append_left hi] at hr
        exact t4.nm i r hr
      · rw [List.getElem?_append_right (by omega)] at hr
        have := at_lt hr
        simp at this
        have hi2 : i = l.length := by omega
        subst hi2
        simp at hr
        rw [← hr]
  · simp only [hq, decide_false, Bool.false_eq_true, if_false]
    exact .inr ⟨_, rfl, t3, by show (l.length : Int) ≤ v; omega, t4⟩
theorem Base_L4 {s : T_keep_Src} {n : Int} (h1 : 1 ≤ n) (h2 : n ≤ 26) (o : Int) (rs : List T_Rule) (hrs : rs.length ≤ 100) {v k : Int} (hv0 : 0 ≤ v) (hv1 : v ≤ 100) (hk : SrcOk (s.1, k)) : ∃ r, loop (m_keep_Src_Base_L4 (o, rs) s n) (v, k, []) = some r ∧ SrcOk (s.1, r.1) ∧ (r.2.length : Int) ≤ v ∧ ∀ p ∈ r.2, ranked p.2.1 = true ∧ vName p.2.2.2 = true ∧ ∃ q ∈ rs, q.1 = p.1 ∧ q.2.1 = false := by
  refine loop_spec (B := m_keep_Src_Base_L4 (o, rs) s n) (fun t => 0 ≤ t.1 ∧ (t.2.2.length : Int) + t.1 ≤ v ∧ SrcOk (s.1, t.2.1) ∧ ∀ p ∈ t.2.2, ranked p.2.1 = true ∧ vName p.2.2.2 = true ∧ ∃ q ∈ rs, q.1 = p.1 ∧ q.2.1 = false) (fun t => t.1.toNat) (fun r => SrcOk (s.1, r.1) ∧ (r.2.length : Int) ≤ v ∧ ∀ p ∈ r.2, ranked p.2.1 = true ∧ vName p.2.2.2 = true ∧ ∃ q ∈ rs, q.1 = p.1 ∧ q.2.1 = false) (fun t ht => ?_) _ ⟨hv0, by simp, hk, by simp⟩
  obtain ⟨q, k, l⟩ := t
  obtain ⟨t1, t2, t3, t4⟩ := ht
  dsimp only at t1 t2 t3 t4
  unfold m_keep_Src_Base_L4
  by_cases hq : 0 < q ∧ 0 < rs.length
  · have hc : (decide (0 < q) && decide (0 < len rs)) = true := by simp [len]; omega
    obtain ⟨u, k1, e1, hu0, hu1, hk1⟩ := keep_N (n := len rs) t3 (by simp [len]; omega) (by simp [len]; omega)
    obtain ⟨r, hr⟩ := idx_ok (l := rs) hu0 hu1
    obtain ⟨u2, k2, e2, hu2, hu2', hk2⟩ := keep_N (n := 10) hk1 (by omega) (by omega)
    obtain ⟨g, j, k3, e3, hj, hk3⟩ := keep_Literal hk2 h1 h2
    dsimp only at e1 e2 e3 hk1 hk2 hk3
    have hq1 : w64 (q - 1) = q - 1 := w64_id (by omega) (by omega)
    simp only [hc, if_true, e1, Option.bind_some, hr, hq1]
    cases hst : r.2.1 with
    | true =>
      simp only [Bool.not_true, Bool.false_eq_true, if_false]
      exact .inl ⟨_, rfl, ⟨by show 0 ≤ q - 1; omega, by show (l.length : Int) + (q - 1) ≤ v; omega, hk1, t4⟩, by show (q - 1).toNat < q.toNat; omega⟩
    | false =>
      simp only [Bool.not_false, if_true, e2, e3, Option.bind_some]
      rw [app_ok (by simp; omega)]
      refine .inl ⟨_, rfl, ⟨by show 0 ≤ q - 1; omega, by show ((l ++ [_]).length : Int) + (q - 1) ≤ v; simp; omega, hk3, fun p hp => ?_⟩, by show (q - 1).toNat < q.toNat; omega⟩
      rcases List.mem_append.1 hp with hp | hp
      · exact t4 p hp
      · simp only [List.mem_singleton] at hp
        subst hp
        obtain ⟨i, _, hi⟩ := idx_at hr
        exact ⟨by simp; omega, vName_atom (by omega), r, mem_at hi, rfl, hst⟩
  · have hc : (decide (0 < q) && decide (0 < len rs)) = false := by
      rw [Bool.and_eq_false_iff]
      by_cases h : 0 < q
      · have h0 : ¬ 0 < rs.length := fun h3 => hq ⟨h, h3⟩
        exact .inr (decide_eq_false (by show ¬ (0 : Int) < (rs.length : Int); omega))
      · exact .inl (by simpa using h)
    simp only [hc, Bool.false_eq_true, if_false]
    exact .inr ⟨_, rfl, t3, by show (l.length : Int) ≤ v; omega, t4⟩
/-- a base that is drawn -/
structure Drawn (b : T_Base) (n p q : Int) : Prop where
  np : (b.1.length : Int) ≤ p
  nr : (b.2.1.length : Int) ≤ q
  nm : b.2.2.length ≤ 2
  bd : ∀ r ∈ b.2.1, r.2.2.2.1.length ≤ 2
  valid : ValidB b
  names : ∀ (i : Nat) r, b.2.1[i]? = some r → r.1 = ruleN i
  at_ : ∀ p ∈ b.1, ∃ j : Nat, (j : Int) < n ∧ p.1.2 = atomN j
theorem keep_Base {s : T_keep_Src} (h : SrcOk s) {n p q : Int} (h1 : 1 ≤ n) (h2 : n ≤ 26) (hp : 0 ≤ p) (hp2 : p ≤ 16) (hq : 1 ≤ q) (hq2 : q ≤ 24) : ∃ b k, m_keep_Src_Base s n p q = some (b, k) ∧ SrcOk (s.1, k) ∧ Drawn b n p q := by
  unfold m_keep_Src_Base
  obtain ⟨u1, k1, e1, a1, b1, hk1⟩ := keep_N (n := p + 1) h (by omega) (by omega)
  obtain ⟨⟨o1, ps⟩, e2, hk2, hl2, hp2'⟩ := Base_L1 (s := s) h1 h2 a1 (by omega) hk1
  obtain ⟨u3, k3, e3, a3, b3, hk3⟩ := keep_N (n := q + 1) hk2 (by omega) (by omega)
  obtain ⟨⟨o4, rs⟩, e4, hk4, hl4, hb4⟩ := Base_L3 (s := s) h1 h2 hq (by omega) a3 (by omega) hk3
  obtain ⟨u5, k5, e5, a5, b5, hk5⟩ := keep_N (n := 3) hk4 (by omega) (by omega)
  dsimp only at hl2 hl4 hb4 hp2'
  obtain ⟨⟨o6, ms⟩, e6, hk6, hl6, hm6⟩ := Base_L4 (s := s) h1 h2 o4 rs (by omega) a5 (by omega) hk5
  dsimp only at e3 e5 hl6 hm6
  rw [w64_id (x := p + 1) (by omega) (by omega), w64_id (x := q + 1) (by omega) (by omega)]
  have hinj : ∀ (i j : Nat) p q, rs[i]? = some p → rs[j]? = some q → p.1 = q.1 → i = j := fun i j p q hp hq he => by
    have := at_lt hp
    have := at_lt hq
    rw [hb4.nm i p hp, hb4.nm j q hq] at he
    exact ruleN_inj (by omega) (by omega) he
  refine ⟨(ps, rs, ms), o6, ?_, hk6, by show (ps.length : Int) ≤ p; omega, by show (rs.length : Int) ≤ q; omega, by show ms.length ≤ 2; omega, hb4.bd, ⟨by show ps.length ≤ 16; omega, by show rs.length ≤ 24; omega, by show ms.length ≤ 8; omega, hp2'.ok, hb4.ok, hp2'.inj, hinj, fun m hm => ?_⟩, hb4.nm, hp2'.at_⟩
  · simp only [e1, Option.bind_some, e2, e3, e4, e5, e6]
  · obtain ⟨g1, g2, r, g3, g4, g5⟩ := hm6 m hm
    obtain ⟨i, hi⟩ := List.mem_iff_getElem?.1 g3
    have hf := fidx_le (q := fun r : T_Rule => r.1 == m.1) hi (by simp [g4])
    obtain ⟨k, r', f1, f2, f3, _⟩ := fidx_at hf.1
    have hki := hinj k i r' r f2 hi (by rw [g4]; simpa using f3)
    subst hki
    rw [f2] at hi
    cases hi
    unfold promE findS
    dsimp only
    rw [g1, g2, f1]
    have : ¬ ((k : Int) < 0) := by omega
    simp [this, idx_nat, f2, g5]
end
section
/-- words with a blank between -/
def jn (l : List Str) : Str := [(32 : UInt8)].intercalate l
theorem jn_nil : jn [] = [] := rfl
theorem jn_one (w : Str) : jn [w] = w := by simp [jn, List.intercalate]
theorem jn_cons (w x : Str) (l : List Str) : jn (w :: x :: l) = w ++ 32 :: jn (x :: l) := by simp [jn, List.intercalate]
theorem jn_len : ∀ l : List Str, (jn l).length ≤ (l.map List.length).sum + l.length
  | [] => by simp [jn_nil]
  | [w] => by simp [jn_one]
  | w :: x :: l => by
    have := jn_len (x :: l)
    rw [jn_cons]
    simp only [List.length_append, List.length_cons, List.map_cons, List.sum_cons] at this ⊢
    omega
theorem join_ok {l : List Str} (h1 : l.length ≤ 1000000) (h2 : (l.map List.length).sum ≤ 1000000000) : m_strings_Join l [32] = some (jn l) := by
  have := jn_len l
  unfold m_strings_Join joinM
  rw [if_pos]
  · rfl
  · refine ⟨by omega, ?_⟩
    show (jn l).length ≤ _
    omega
/-- a word: not empty, no blanks, all below 128 -/
def wd (w : Str) : Bool := !w.isEmpty && w.all fun b => !Lib.isSp b && decide (b.toNat < 128)
theorem wd_ne {w : Str} (h : wd w = true) : w ≠ [] := by rintro rfl; simp [wd] at h
theorem fieldsGo_word : ∀ (w cur l : Str), (∀ b ∈ w, Lib.isSp b = false) → Lib.fieldsGo cur (w ++ l) = Lib.fieldsGo (cur ++ w) l
  | [], cur, l, _ => by simp
  | b :: w, cur, l, h => by
    rw [List.cons_append, Lib.fieldsGo, h b (by simp)]
    simp only [Bool.false_eq_true, if_false]
    rw [fieldsGo_word w (cur ++ [b]) l fun x hx => h x (by simp [hx])]
    simp
theorem fields_jn : ∀ l : List Str, (∀ w ∈ l, wd w = true) → Lib.fields (jn l) = l
  | [], _ => rfl
  | [w], h => by
    have hw := h w (by simp)
    have h1 : ∀ b ∈ w, Lib.isSp b = false := fun b hb => by
      simp only [wd, Bool.and_eq_true, List.all_eq_true] at hw
      have := (hw.2 b hb).1
      simpa using this
    rw [jn_one]
    unfold Lib.fields
    have := fieldsGo_word w [] [] h1
    rw [List.append_nil] at this
    rw [this, Lib.fieldsGo]
    simp [wd_ne hw]
  | w :: x :: l, h => by
    have hw := h w (by simp)
    have h1 : ∀ b ∈ w, Lib.isSp b = false := fun b hb => by
      simp only [wd, Bool.and_eq_true, List.all_eq_true] at hw
      have := (hw.2 b hb).1
      simpa using this
    rw [jn_cons]
    unfold Lib.fields
    rw [fieldsGo_word w [] _ h1, Lib.fieldsGo]
    have hs : Lib.isSp 32 = true := by decide
    have ih := fields_jn (x :: l) fun y hy => h y (by simp [List.mem_cons] at hy ⊢; exact .inr hy)
    unfold Lib.fields at ih
    rw [if_pos hs, ih]
    simp [wd_ne hw]
theorem jn_low {l : List Str} (h : ∀ w ∈ l, wd w = true) : ∀ b ∈ jn l, b.toNat < 128 := by
  induction l with
  | nil => intro b hb; simp [jn_nil] at hb
  | cons w l ih =>
    have hw := h w (by simp)
    simp only [wd, Bool.and_eq_true, List.all_eq_true] at hw
    cases l with
    | nil => intro b hb; rw [jn_one] at hb; have := (hw.2 b hb).2; simpa using this
    | cons x l =>
      intro b hb
      rw [jn_cons] at hb
      rcases List.mem_append.1 hb with hb | hb
      · have := (hw.2 b hb).2; simpa using this
      · rcases List.mem_cons.1 hb with rfl | hb
        · decide
        · exact ih (fun y hy => h y (by simp at hy ⊢; exact .inr hy)) b hb
theorem fieldsD_jn {l : List Str} (h : ∀ w ∈ l, wd w = true) : Lib.fieldsD (jn l) = l := by rw [Lib.fieldsD_ascii _ (jn_low h), fields_jn l h]
/-- how much the words hold, how many there are -/
theorem fieldsGoD_len : ∀ (f : Nat) (cur l : Str), ((Lib.fieldsGoD f cur l).map List.length).sum ≤ cur.length + l.length ∧ ∀ w ∈ Lib.fieldsGoD f cur l, w ≠ []
  | 0, cur, l => by
    unfold Lib.fieldsGoD
    split
    · simp
    · rename_i h; exact ⟨by simp, by simpa using h⟩
  | f + 1, cur, l => by
    unfold Lib.fieldsGoD
    split
    · split
      · simp
      · rename_i h; exact ⟨by simp, by simpa using h⟩
    · split
      · obtain ⟨h1, h2⟩ := fieldsGoD_len f [] (l.drop (Lib.decodeL l).2)
        simp only [List.length_drop, List.length_nil, Nat.zero_add] at h1
        constructor
        · split
          · simp only [List.nil_append]; omega
          · simp only [List.singleton_append, List.map_cons, List.sum_cons]; omega
        · intro w hw
          split at hw
          · exact h2 w (by simpa using hw)
          · rename_i hc
            rcases List.mem_append.1 hw with hw | hw
            · simp at hw; subst hw; exact hc
            · exact h2 w hw
      · obtain ⟨h1, h2⟩ := fieldsGoD_len f (cur ++ l.take (Lib.decodeL l).2) (l.drop (Lib.decodeL l).2)
        refine ⟨?_, h2⟩
        simp only [List.length_append, List.length_take, List.length_drop] at h1
        omega
theorem sum_ge : ∀ {l : List Str}, (∀ w ∈ l, w ≠ []) → l.length ≤ (l.map List.length).sum
  | [], _ => by simp
  | w :: l, h => by
    have h1 := sum_ge (l := l) fun x hx => h x (by simp [hx])
    have h2 : 0 < w.length := List.length_pos_iff.2 (h w (by simp))
    simp only [List.length_cons, List.map_cons, List.sum_cons]
    omega
theorem fieldsD_len (l : Str) : ((Lib.fieldsD l).map List.length).sum ≤ l.length ∧ (Lib.fieldsD l).length ≤ l.length := by
  obtain ⟨h1, h2⟩ := fieldsGoD_len (l.length + 1) [] l
  have h3 := sum_ge h2
  simp only [List.length_nil, Nat.zero_add] at h1
  exact ⟨h1, by unfold Lib.fieldsD; omega⟩
def dgt (n : Int) : Str := [UInt8.ofNat (48 + n.toNat)]
theorem itoa_dgt {n : Int} (h0 : 0 ≤ n) (h1 : n ≤ 9) : m_strconv_Itoa n = some (dgt n) := by
  obtain ⟨k, rfl⟩ : ∃ k : Nat, n = k := ⟨n.toNat, by omega⟩
  have hk : k ∈ List.range 10 := List.mem_range.2 (by omega)
  have key : ∀ k ∈ List.range 10, m_strconv_Itoa (k : Nat) = some (dgt (k : Nat)) := by
    intro k hk
    simp only [List.mem_range] at hk
    match k, hk with
    | 0, _ | 1, _ | 2, _ | 3, _ | 4, _ | 5, _ | 6, _ | 7, _ | 8, _ | 9, _ => rfl
  exact key k hk
theorem name_wd {s : Str} (h : vName s = true) : wd s = true := by
  cases s with
  | nil => simp [vName] at h
  | cons c r =>
    have key : ∀ b : UInt8, okB b = true → (!Lib.isSp b && decide (b.toNat < 128)) = true := by
      intro b hb
      have : ∀ n : Fin 256, okB (UInt8.ofNat n.val) = true → (!Lib.isSp (UInt8.ofNat n.val) && decide ((UInt8.ofNat n.val).toNat < 128)) = true := by decide +kernel
      have h2 := this ⟨b.toNat, b.toNat_lt⟩
      simpa using h2 (by simpa using hb)
    simp only [vName, Bool.and_eq_true, decide_eq_true_eq, List.all_eq_true] at h
    obtain ⟨⟨h1, h2⟩, h3⟩ := h
    have hlo : okB c = true := by
      have : ∀ n : Fin 256, loB (UInt8.ofNat n.val) = true → okB (UInt8.ofNat n.val) = true := by decide +kernel
      have h4 := this ⟨c.toNat, c.toNat_lt⟩
      simpa using h4 (by simpa using h2)
    simp only [wd, List.isEmpty_cons, Bool.not_false, Bool.true_and, List.all_cons, Bool.and_eq_true, List.all_eq_true]
    refine ⟨by simpa using key c hlo, fun b hb => ?_⟩
    have := key b (h3 b hb)
    simpa using this
theorem wd_cons {c : UInt8} {s : Str} (hc : (!Lib.isSp c && decide (c.toNat < 128)) = true) (h : wd s = true) : wd (c :: s) = true := by
  simp only [wd, Bool.and_eq_true, List.isEmpty_cons, Bool.not_false, true_and, List.all_cons] at h ⊢
  exact ⟨by simpa using hc, h.2⟩
theorem wd_snoc {c : UInt8} {s : Str} (hc : (!Lib.isSp c && decide (c.toNat < 128)) = true) (h : wd s = true) : wd (s ++ [c]) = true := by
  simp only [wd, Bool.and_eq_true, List.all_append, List.all_cons, List.all_nil, Bool.and_true] at h ⊢
  exact ⟨by simp, h.2, by simpa using hc⟩
theorem lit_wd {x : T_Literal} (h : vName x.2 = true) : wd (litText x) = true := by
  unfold litText
  rw [if_pos h]
  split
  · exact wd_cons (by decide) (name_wd h)
  · exact name_wd h
end
section
def kindW (k : Int) : Str := if k = 1 then [97, 120, 105, 111, 109] else if k = 2 then [112, 114, 101, 109, 105, 115, 101] else [97, 115, 115, 117, 109, 101]
def fromW : Str := [102, 114, 111, 109]
def premW (p : T_Premise) : List Str := [kindW p.2.1, litText p.1] ++ (if p.2.1 = 2 then [dgt p.2.2.1] else []) ++ (if p.2.2.2 = [] then [] else [fromW, p.2.2.2])
def bodyW : List T_Literal → List Str
  | [] => []
  | [x] => [litText x]
  | x :: y :: r => (litText x ++ [44]) :: bodyW (y :: r)
def strictW : Str := [115, 116, 114, 105, 99, 116]
def ruleWd : Str := [114, 117, 108, 101]
def arrowW (s : Bool) : Str := if s then [45, 62] else [61, 62]
def ruleW (r : T_Rule) : List Str := (if r.2.1 then [strictW, r.1 ++ [58]] else [ruleWd, r.1, dgt r.2.2.1 ++ [58]]) ++ bodyW r.2.2.2.1 ++ [arrowW r.2.1, litText r.2.2.2.2]
def promoteW : Str := [112, 114, 111, 109, 111, 116, 101]
def ifW : Str := [105, 102]
def promW (p : T_Promotion) : List Str := [promoteW, p.1, dgt p.2.1, ifW, litText p.2.2]
theorem kindW_len (k : Int) : (kindW k).length ≤ 7 := by
  unfold kindW
  split
  · decide
  · split <;> decide
theorem kinds_idx {k : Int} (h : k = 1 ∨ k = 2 ∨ k = 3) : idx tab_rulebase_kinds k = some (kindW k) := by rcases h with rfl | rfl | rfl <;> rfl
theorem premLine {p : T_Premise} (hk : p.2.1 = 1 ∨ p.2.1 = 2 ∨ p.2.1 = 3) (h0 : 0 ≤ p.2.2.1) (h9 : p.2.2.1 ≤ 9) (hs : p.2.2.2.length ≤ 1000000) : m_rulebase_premiseLine p = some (jn (premW p)) := by
  obtain ⟨x, k, n, s⟩ := p
  simp only at hk h0 h9 hs
  have hl := litText_len x
  have hkl := kindW_len k
  unfold m_rulebase_premiseLine premW
  simp only [kinds_idx hk, lit_format, Option.bind_some]
  by_cases h2 : k = 2
  · subst h2
    simp only [beq_self_eq_true, if_true, itoa_dgt h0 h9, Option.bind_some]
    rw [app_ok (by simp)]
    by_cases hs0 : s = []
    · subst hs0
      simp only [Option.bind_some, beq_self_eq_true, Bool.not_true, Bool.false_eq_true, if_false, if_true, List.append_nil]
      rw [join_ok (by simp) (by simp [dgt]; omega)]
      rfl
    · have : (s == []) = false := by simpa using hs0
      simp only [Option.bind_some, this, Bool.not_false, if_true, if_neg hs0]
      rw [app_ok (by simp)]
      simp only [Option.bind_some]
      rw [join_ok (by simp) (by simp [dgt]; omega)]
      rfl
  · have hk2 : (k == 2) = false := by simpa using h2
    simp only [hk2, Bool.false_eq_true, if_false, Option.bind_some, if_neg h2, List.append_nil]
    by_cases hs0 : s = []
    · subst hs0
      simp only [Option.bind_some, beq_self_eq_true, Bool.not_true, Bool.false_eq_true, if_false, if_true, List.append_nil]
      rw [join_ok (by simp) (by simp; omega)]
      rfl
    · have : (s == []) = false := by simpa using hs0
      simp only [this, Bool.not_false, if_true, if_neg hs0]
      rw [app_ok (by simp)]
      simp only [Option.bind_some]
      rw [join_ok (by simp) (by simp; omega)]
      rfl
theorem bodyW_len : ∀ l : List T_Literal, (bodyW l).length = l.length
  | [] => rfl
  | [_] => rfl
  | _ :: y :: r => by simp only [bodyW, List.length_cons, bodyW_len (y :: r)]
theorem bodyW_get : ∀ (l : List T_Literal) (i : Nat), (bodyW l)[i]? = l[i]?.map fun x => if i + 1 < l.length then litText x ++ [44] else litText x
  | [], i => by simp [bodyW]
  | [x], i => by cases i <;> simp [bodyW]
  | x :: y :: r, 0 => by simp [bodyW]
  | x :: y :: r, i + 1 => by
    simp only [bodyW, List.getElem?_cons_succ, bodyW_get (y :: r) i, List.length_cons]
    congr 1
    funext z
    have : (i + 1 < r.length + 1) ↔ (i + 1 + 1 < r.length + 1 + 1) := by omega
    simp only [this]
theorem bodyW_sum : ∀ l : List T_Literal, ((bodyW l).map List.length).sum ≤ 14 * l.length
  | [] => by simp [bodyW]
  | [x] => by have := litText_len x; simp [bodyW]; omega
  | x :: y :: r => by
    have := litText_len x
    have := bodyW_sum (y :: r)
    simp only [bodyW, List.map_cons, List.sum_cons, List.length_append, List.length_cons, List.length_nil] at this ⊢
    omega
theorem ruleBody (r : T_Rule) (pre : List Str) (hb : r.2.2.2.1.length ≤ 10000) (hp : pre.length ≤ 3) : loop (m_rulebase_ruleLine_L1 r) (pre, 0) = some (pre ++ bodyW r.2.2.2.1) := by
  have h := loop_forI (B := m_rulebase_ruleLine_L1 r) (fun i (s : List Str) => (s, (i : Int))) r.2.2.2.1 (fun i s => s = pre ++ (bodyW r.2.2.2.1).take i) (fun o => o = pre ++ bodyW r.2.2.2.1) ?_ ?_ pre (by simp)
  · obtain ⟨o, h1, rfl⟩ := h
    exact h1
  · intro i x s hx hs
    subst hs
    have hi := (List.getElem?_eq_some_iff.1 hx).1
    refine .inl ⟨pre ++ (bodyW r.2.2.2.1).take (i + 1), ?_, rfl⟩
    have hg : (bodyW r.2.2.2.1)[i]? = some (if i + 1 < r.2.2.2.1.length then litText x ++ [44] else litText x) := by rw [bodyW_get, hx]; rfl
    have htk : (bodyW r.2.2.2.1).take (i + 1) = (bodyW r.2.2.2.1).take i ++ [if i + 1 < r.2.2.2.1.length then litText x ++ [44] else litText x] := by rw [List.take_add_one, hg]; rfl
    have hl := litText_len x
    unfold m_rulebase_ruleLine_L1
    have h1 : decide ((i : Int) < len r.2.2.2.1) = true := by simp; omega
    simp only [h1, if_true, idx_nat, hx, Option.bind_some, lit_format]
    have h2 : w64 (len r.2.2.2.1 - 1) = (r.2.2.2.1.length : Int) - 1 := w64_id (x := (r.2.2.2.1.length : Int) - 1) (by omega) (by omega)
    rw [h2]
    have htl : ((bodyW r.2.2.2.1).take i).length ≤ 10000 := by rw [List.length_take, bodyW_len]; omega
    by_cases hlt : i + 1 < r.2.2.2.1.length
    · have h3 : decide ((i : Int) < (r.2.2.2.1.length : Int) - 1) = true := by simp; omega
      simp only [h3, if_true]
      rw [cat_ok (by simp; omega)]
      simp only [Option.bind_some]
      rw [app_ok (by simp only [List.length_append, List.length_cons, List.length_nil]; omega), w64_succ i (by omega), htk, if_pos hlt, List.append_assoc]
      rfl
    · have h3 : decide ((i : Int) < (r.2.2.2.1.length : Int) - 1) = false := by simp; omega
      simp only [h3, Bool.false_eq_true, if_false, Option.bind_some]
      rw [app_ok (by simp only [List.length_append, List.length_cons, List.length_nil]; omega), w64_succ i (by omega), htk, if_neg hlt, List.append_assoc]
      rfl
  · intro s hs
    subst hs
    refine ⟨_, ?_, rfl⟩
    unfold m_rulebase_ruleLine_L1
    have h1 : decide ((r.2.2.2.1.length : Int) < len r.2.2.2.1) = false := by simp
    have h2 : (bodyW r.2.2.2.1).take r.2.2.2.1.length = bodyW r.2.2.2.1 := List.take_of_length_le (by rw [bodyW_len]; exact Nat.le_refl _)
    simp only [h1, Bool.false_eq_true, if_false, h2]
theorem ruleLine {r : T_Rule} (h0 : 0 ≤ r.2.2.1) (h9 : r.2.2.1 ≤ 9) (hn : r.1.length ≤ 1000000) (hb : r.2.2.2.1.length ≤ 10000) : m_rulebase_ruleLine r = some (jn (ruleW r)) := by
  have hl := litText_len r.2.2.2.2
  have hs := bodyW_sum r.2.2.2.1
  have hbl := bodyW_len r.2.2.2.1
  unfold m_rulebase_ruleLine ruleW
  rw [cat_ok (by simp; omega)]
  simp only [Option.bind_some]
  cases hst : r.2.1 with
  | true =>
    simp only [Bool.not_true, Bool.false_eq_true, if_false, Option.bind_some, if_true]
    rw [ruleBody r _ hb (by simp)]
    simp only [Option.bind_some, lit_format]
    rw [app_ok (by simp [hbl]; omega)]
    simp only [Option.bind_some]
    rw [join_ok (by simp [hbl]; omega) (by simp; omega)]
    rfl
  | false =>
    simp only [Bool.not_false, if_true, itoa_dgt h0 h9, Option.bind_some]
    rw [cat_ok (by simp [dgt])]
    simp only [Option.bind_some]
    rw [ruleBody r _ hb (by simp)]
    simp only [Option.bind_some, lit_format]
    rw [app_ok (by simp [hbl]; omega)]
    simp only [Option.bind_some]
    rw [join_ok (by simp [hbl]; omega) (by simp [dgt]; omega)]
    rfl
theorem promLine {p : T_Promotion} (h0 : 0 ≤ p.2.1) (h9 : p.2.1 ≤ 9) (hn : p.1.length ≤ 1000000) : m_rulebase_promotionLine p = some (jn (promW p)) := by
  have hl := litText_len p.2.2
  unfold m_rulebase_promotionLine promW
  rw [cat_ok (by simp; omega)]
  simp only [Option.bind_some]
  rw [cat_ok (by simp; omega)]
  simp only [Option.bind_some, itoa_dgt h0 h9]
  rw [cat_ok (by simp [dgt]; omega)]
  simp only [Option.bind_some]
  rw [cat_ok (by simp [dgt]; omega)]
  simp only [Option.bind_some, lit_format]
  rw [cat_ok (by simp [dgt]; omega)]
  simp [jn_cons, jn_one, promoteW, ifW]
end
section
def okP (p : T_Premise) : Prop := (p.2.1 = 1 ∨ p.2.1 = 2 ∨ p.2.1 = 3) ∧ vName p.1.2 = true ∧ 0 ≤ p.2.2.1 ∧ p.2.2.1 ≤ 9 ∧ (p.2.1 = 2 ∨ p.2.2.1 = 0) ∧ (p.2.2.2 = [] ∨ vName p.2.2.2 = true)
def okR (r : T_Rule) : Prop := vName r.1 = true ∧ vName r.2.2.2.2.2 = true ∧ 0 ≤ r.2.2.1 ∧ r.2.2.1 ≤ 9 ∧ (r.2.1 = true → r.2.2.1 = 0) ∧ ∀ x ∈ r.2.2.2.1, vName x.2 = true
def okT (p : T_Promotion) : Prop := vName p.1 = true ∧ 0 ≤ p.2.1 ∧ p.2.1 ≤ 9 ∧ vName p.2.2.2 = true
theorem okP_of {p : T_Premise} (h : premE p = 0) : okP p := by
  unfold premE at h
  split at h
  · rename_i hk
    split at h
    · rename_i h2
      simp only [Bool.or_eq_true, beq_iff_eq, Bool.and_eq_true, ranked, decide_eq_true_eq] at hk h2
      obtain ⟨⟨⟨h3, h4, h5⟩, h6⟩, h7⟩ := h2
      exact ⟨by rcases hk with (h | h) | h <;> simp [h], h3, h4, h5, h6, h7⟩
    · simp at h
  · simp at h
theorem premE_of {p : T_Premise} (h : okP p) : premE p = 0 := by
  obtain ⟨hk, h3, h4, h5, h6, h7⟩ := h
  unfold premE
  rw [if_pos (by rcases hk with h | h | h <;> simp [h]), if_pos]
  simp only [Bool.or_eq_true, beq_iff_eq, Bool.and_eq_true, ranked, decide_eq_true_eq]
  exact ⟨⟨⟨h3, h4, h5⟩, h6⟩, h7⟩
theorem okR_of {r : T_Rule} (h : ruleE r = 0) : okR r ∧ r.2.2.2.1.length ≤ 4 := by
  unfold ruleE at h
  split at h
  · simp at h
  · rename_i hl
    split at h
    · rename_i h2
      simp only [Bool.or_eq_true, beq_iff_eq, Bool.and_eq_true, ranked, decide_eq_true_eq, Bool.not_eq_true', List.all_eq_true] at h2
      obtain ⟨⟨⟨⟨h1, h3⟩, h4, h5⟩, h6⟩, h7⟩ := h2
      refine ⟨⟨h1, h3, h4, h5, fun hs => ?_, h7⟩, by omega⟩
      rcases h6 with h6 | h6
      · rw [hs] at h6; cases h6
      · exact h6
    · simp at h
theorem okT_of {b : T_Base} {p : T_Promotion} (h : promE b p = 0) (hf : 0 ≤ findS b p.1 → vName p.1 = true) : okT p := by
  unfold promE at h
  split at h
  · rename_i h2
    simp only [Bool.and_eq_true, ranked, decide_eq_true_eq] at h2
    split at h
    · simp at h
    · rename_i h3
      exact ⟨hf (by omega), h2.1.1, h2.1.2, h2.2⟩
  · simp at h
def fmtT (b : T_Base) : Str := (b.1.flatMap fun p => jn (premW p) ++ [10]) ++ ((b.2.1.flatMap fun r => jn (ruleW r) ++ [10]) ++ (b.2.2.flatMap fun p => jn (promW p) ++ [10]))
theorem premW_jn_len {p : T_Premise} (h : okP p) : (jn (premW p)).length ≤ 200 := by
  have h1 := jn_len (premW p)
  have hl := litText_len p.1
  have hk := kindW_len p.2.1
  have hs : p.2.2.2.length ≤ 12 := by
    rcases h.2.2.2.2.2 with h | h
    · simp [h]
    · exact (vName_len h).2
  have : ((premW p).map List.length).sum + (premW p).length ≤ 100 := by
    unfold premW
    split <;> split <;> simp [dgt, fromW] <;> omega
  omega
theorem ruleW_jn_len {r : T_Rule} (h : okR r) (hb : r.2.2.2.1.length ≤ 4) : (jn (ruleW r)).length ≤ 400 := by
  have h1 := jn_len (ruleW r)
  have hl := litText_len r.2.2.2.2
  have hn := (vName_len h.1).2
  have hs := bodyW_sum r.2.2.2.1
  have hbl := bodyW_len r.2.2.2.1
  have : ((ruleW r).map List.length).sum + (ruleW r).length ≤ 200 := by
    unfold ruleW
    cases r.2.1 <;> simp [strictW, ruleWd, arrowW, dgt, hbl] <;> omega
  omega
theorem promW_jn_len {p : T_Promotion} (h : okT p) : (jn (promW p)).length ≤ 200 := by
  have h1 := jn_len (promW p)
  have hl := litText_len p.2.2
  have hn := (vName_len h.1).2
  have : ((promW p).map List.length).sum + (promW p).length ≤ 100 := by
    unfold promW
    simp [promoteW, ifW, dgt]; omega
  omega
end
section
theorem next_cons (w : Str) (r : List Str) (b : Bool) : m_rulebase_words_next (w :: r, b) = some (w, r, b) := by
  unfold m_rulebase_words_next
  have h1 : ((len (w :: r)) == 0) = false := by simp
  simp only [h1, Bool.false_eq_true, if_false]
  have h2 : idx (w :: r) 0 = some w := rfl
  have h3 : sub (w :: r) 1 (len (w :: r)) = some r := by rw [sub_suf (by omega) (by simp; omega)]; rfl
  rw [h2]
  simp only [Option.bind_some]
  rw [h3]
  rfl
theorem next_nil (b : Bool) : m_rulebase_words_next ([], b) = some ([], [], true) := rfl
theorem next_any (l : List Str) (b : Bool) : m_rulebase_words_next (l, b) = some (l.headD [], l.tail, b || l.isEmpty) := by
  cases l with
  | nil => rw [next_nil]; simp
  | cons w r => rw [next_cons]; simp
/-- what stands before a suffix -/
def cutX (s u : Str) : Str × Bool := if u.length ≤ s.length ∧ s.drop (s.length - u.length) = u then (s.take (s.length - u.length), true) else (s, false)
theorem cutSuffix {s u : Str} (h : s.length < 1000000) : m_strings_CutSuffix s u = some (cutX s u) := by
  have hs : m_internal_stringslite_HasSuffix s u = some (decide (u.length ≤ s.length ∧ s.drop (s.length - u.length) = u)) := by
    unfold m_internal_stringslite_HasSuffix
    by_cases hl : u.length ≤ s.length
    · have h1 : decide (len u ≤ len s) = true := decide_eq_true (show (u.length : Int) ≤ s.length by omega)
      have h2 : w64 (len s - len u) = ((s.length - u.length : Nat) : Int) := by rw [w64_id (x := (s.length : Int) - u.length) (by omega) (by omega)]; omega
      simp only [h1, if_true, h2]
      rw [sub_suf (by omega) (by omega)]
      simp only [Option.bind_some, Int.toNat_natCast, hl, true_and]
      congr 1
      rw [Bool.eq_iff_iff]; simp
    · have h1 : decide (len u ≤ len s) = false := decide_eq_false (show ¬ (u.length : Int) ≤ s.length by omega)
      simp [hl]
  unfold m_strings_CutSuffix m_internal_stringslite_CutSuffix cutX
  rw [hs]
  by_cases hc : u.length ≤ s.length ∧ s.drop (s.length - u.length) = u
  · have h2 : w64 (len s - len u) = ((s.length - u.length : Nat) : Int) := by rw [w64_id (x := (s.length : Int) - u.length) (by omega) (by omega)]; omega
    simp only [Option.bind_some, decide_eq_true hc, Bool.not_true, Bool.false_eq_true, if_false, h2, if_pos hc]
    rw [sub_pre (by omega) (by omega)]
    simp
  · simp only [Option.bind_some, decide_eq_false hc, Bool.not_false, if_true, if_neg hc]
theorem cutX_app (s u : Str) : cutX (s ++ u) u = (s, true) := by
  unfold cutX
  rw [if_pos] <;> simp
theorem cutX_len (s u : Str) : (cutX s u).1.length ≤ s.length := by
  unfold cutX
  split
  · simp [List.length_take]
  · simp
/-- words that are not too long -/
def Sh (l : List Str) : Prop := ∀ w ∈ l, w.length ≤ 5000
theorem Sh.head {l : List Str} (h : Sh l) : (l.headD []).length ≤ 5000 := by
  cases l with
  | nil => simp
  | cons w r => exact h w (by simp)
theorem Sh.tail {l : List Str} (h : Sh l) : Sh l.tail := fun w hw => h w (List.mem_of_mem_tail hw)
theorem name_any {l : List Str} (h : Sh l) (b : Bool) (u : Str) : ∃ s b', m_rulebase_words_name (l, b) u = some (s, l.tail, b') ∧ s.length ≤ 5000 ∧ (b' = false → b = false ∧ vName s = true) := by
  have hh := h.head
  have hc := cutX_len (l.headD []) u
  unfold m_rulebase_words_name
  rw [next_any]
  simp only [Option.bind_some, cutSuffix (u := u) (show (l.headD []).length < 1000000 by omega)]
  cases hb : (b || l.isEmpty) with
  | true => exact ⟨_, true, rfl, by omega, by simp⟩
  | false =>
    simp only [Bool.or_eq_false_iff] at hb
    simp only [Bool.false_eq_true, if_false]
    cases hx : (cutX (l.headD []) u).2 with
    | false => exact ⟨_, true, rfl, by omega, by simp⟩
    | true =>
      simp only [Bool.not_true, Bool.false_eq_true, if_false, validName, Option.bind_some]
      exact ⟨_, _, rfl, by omega, fun h => ⟨hb.1, by simpa using h⟩⟩
theorem name_ok {s : Str} (h : vName s = true) (u : Str) (hu : u.length ≤ 1) (r : List Str) (b : Bool) : m_rulebase_words_name ((s ++ u) :: r, b) u = some (s, r, b) := by
  have := vName_len h
  unfold m_rulebase_words_name
  rw [next_cons]
  simp only [Option.bind_some]
  rw [cutSuffix (by simp; omega), cutX_app]
  simp only [Option.bind_some, validName, h]
  cases b <;> rfl
theorem litParse_ok {s : Str} (h : (litParse s).2 = 0) : vName (litParse s).1.2 = true := by
  by_cases h1 : ∃ r, s = 126 :: r
  · obtain ⟨r, rfl⟩ := h1
    rw [litParse_tilde] at h ⊢
    split at h
    · rename_i hv; rw [if_pos hv]; exact hv
    · simp at h
  · rw [litParse_plain fun r hr => h1 ⟨r, hr⟩] at h ⊢
    split at h
    · rename_i hv; rw [if_pos hv]; exact hv
    · simp at h
theorem lit_any {l : List Str} (h : Sh l) (b : Bool) (u : Str) : ∃ x b', m_rulebase_words_literal (l, b) u = some (x, l.tail, b') ∧ (b' = false → b = false ∧ vName x.2 = true) := by
  have hh := h.head
  unfold m_rulebase_words_literal
  rw [next_any]
  simp only [Option.bind_some, cutSuffix (u := u) (show (l.headD []).length < 1000000 by omega), lit_parse]
  cases hb : (b || l.isEmpty) with
  | true => exact ⟨_, true, rfl, by simp⟩
  | false =>
    simp only [Bool.or_eq_false_iff] at hb
    simp only [Bool.false_eq_true, if_false]
    cases hx : (cutX (l.headD []) u).2 with
    | false => exact ⟨_, true, rfl, by simp⟩
    | true =>
      simp only [Bool.not_true, Bool.false_eq_true, if_false, Option.bind_some]
      exact ⟨_, _, rfl, fun h => ⟨hb.1, litParse_ok (by simpa using h)⟩⟩
theorem litParse_text {x : T_Literal} (h : vName x.2 = true) : litParse (litText x) = (x, 0) := by
  obtain ⟨g, s⟩ := x
  simp only at h
  unfold litText
  rw [if_pos h]
  cases g with
  | true => simp only [if_true]; rw [litParse_tilde, if_pos h]
  | false =>
    simp only [Bool.false_eq_true, if_false]
    rw [litParse_plain, if_pos h]
    rintro r rfl
    exact absurd h (by simp [vName, loB])
theorem lit_ok {x : T_Literal} (h : vName x.2 = true) (u : Str) (hu : u.length ≤ 1) (r : List Str) (b : Bool) : m_rulebase_words_literal ((litText x ++ u) :: r, b) u = some (x, r, b) := by
  have := litText_len x
  unfold m_rulebase_words_literal
  rw [next_cons]
  simp only [Option.bind_some]
  rw [cutSuffix (by simp; omega), cutX_app]
  simp only [Option.bind_some, lit_parse, litParse_text h]
  cases b <;> rfl
theorem rank_any {l : List Str} (h : Sh l) (b : Bool) (u : Str) : ∃ n b', m_rulebase_words_rank (l, b) u = some (n, l.tail, b') ∧ 0 ≤ n ∧ n ≤ 9 ∧ (b' = false → b = false) := by
  have hh := h.head
  unfold m_rulebase_words_rank
  rw [next_any]
  simp only [Option.bind_some, cutSuffix (u := u) (show (l.headD []).length < 1000000 by omega)]
  cases hx : (cutX (l.headD []) u).2 with
  | false => exact ⟨0, true, rfl, by omega, by omega, by simp⟩
  | true =>
    simp only [Bool.not_true, Bool.false_eq_true, if_false]
    by_cases h1 : (cutX (l.headD []) u).1.length = 1
    · obtain ⟨c, hc⟩ := List.length_eq_one_iff.1 h1
      have e1 : ((len (cutX (l.headD []) u).1) != 1) = false := by rw [hc]; rfl
      have e2 : sidx (cutX (l.headD []) u).1 0 = some (c.toNat : Int) := by rw [hc]; rfl
      simp only [e1, Bool.false_eq_true, if_false, e2, Option.bind_some]
      by_cases h2 : c.toNat < 48
      · have : decide ((c.toNat : Int) < 48) = true := by simp; omega
        simp only [this, if_true, Option.bind_some]
        exact ⟨0, true, rfl, by omega, by omega, by simp⟩
      · have : decide ((c.toNat : Int) < 48) = false := by simp; omega
        simp only [this, Bool.false_eq_true, if_false, Option.bind_some]
        by_cases h3 : 57 < c.toNat
        · have : decide ((57 : Int) < c.toNat) = true := by simp; omega
          simp only [this, if_true]
          exact ⟨0, true, rfl, by omega, by omega, by simp⟩
        · have : decide ((57 : Int) < c.toNat) = false := by simp; omega
          simp only [this, Bool.false_eq_true, if_false]
          have hw : w64 (IntKind.u8.wrap ((c.toNat : Int) - 48)) = (c.toNat : Int) - 48 := by
            have : IntKind.u8.wrap ((c.toNat : Int) - 48) = (c.toNat : Int) - 48 := by simp only [IntKind.wrap, IntKind.signed, IntKind.bits, Bool.false_and, Bool.false_eq_true, if_false]; omega
            rw [this, w64_id (by omega) (by omega)]
          rw [hw]
          exact ⟨_, _, rfl, by omega, by omega, fun h => by simp only [Bool.or_eq_false_iff] at h; exact h.1⟩
    · have e1 : ((len (cutX (l.headD []) u).1) != 1) = true := bne_iff_ne.2 (show ((cutX (l.headD []) u).1.length : Int) ≠ 1 by omega)
      simp only [e1, if_true]
      exact ⟨0, true, rfl, by omega, by omega, by simp⟩
theorem rank_ok {n : Int} (h0 : 0 ≤ n) (h9 : n ≤ 9) (u : Str) (hu : u.length ≤ 1) (r : List Str) (b : Bool) : m_rulebase_words_rank ((dgt n ++ u) :: r, b) u = some (n, r, b) := by
  unfold m_rulebase_words_rank
  rw [next_cons]
  simp only [Option.bind_some]
  rw [cutSuffix (by simp [dgt]; omega), cutX_app]
  obtain ⟨k, rfl⟩ : ∃ k : Nat, n = k := ⟨n.toNat, by omega⟩
  have hk : k ≤ 9 := by omega
  have hd : dgt (k : Int) = [UInt8.ofNat (48 + k)] := rfl
  have hc : (UInt8.ofNat (48 + k)).toNat = 48 + k := by simp; omega
  have e3 : sidx [UInt8.ofNat (48 + k)] 0 = some ((UInt8.ofNat (48 + k)).toNat : Int) := rfl
  have e2 : sidx (dgt (k : Int)) 0 = some ((48 + k : Nat) : Int) := by rw [hd, e3, hc]
  have e1 : ((len (dgt (k : Int))) != 1) = false := rfl
  simp only [Option.bind_some, Bool.not_true, Bool.false_eq_true, if_false, e1, e2]
  have d1 : decide (((48 + k : Nat) : Int) < 48) = false := by simp; omega
  have d2 : decide ((57 : Int) < ((48 + k : Nat) : Int)) = false := by simp; omega
  simp only [d1, d2, Bool.false_eq_true, if_false, Option.bind_some]
  have hw : w64 (IntKind.u8.wrap (((48 + k : Nat) : Int) - 48)) = (k : Int) := by
    have : IntKind.u8.wrap (((48 + k : Nat) : Int) - 48) = (k : Int) := by simp only [IntKind.wrap, IntKind.signed, IntKind.bits, Bool.false_and, Bool.false_eq_true, if_false]; omega
    rw [this, w64_id (by omega) (by omega)]
  rw [hw]
end
section
theorem prem_any {l : List Str} (h : Sh l) (b : Bool) {k : Int} (hk : k = 1 ∨ k = 2 ∨ k = 3) : ∃ p r b', m_rulebase_words_premise (l, b) k = some (p, r, b') ∧ p.2.1 = k ∧ 0 ≤ p.2.2.1 ∧ p.2.2.1 ≤ 9 ∧ p.2.2.2.length ≤ 5000 ∧ (b' = false → okP p) := by
  obtain ⟨x, b1, e1, h1⟩ := lit_any h b []
  unfold m_rulebase_words_premise
  rw [e1]
  simp only [Option.bind_some]
  have hs1 : ∃ l2 b2 n, (if k == 2 then (m_rulebase_words_rank (l.tail, b1) []).bind fun r2 => some (r2.2.1, r2.2.2, r2.1) else some (l.tail, b1, 0) : Option ((List Str) × Bool × Int)) = some (l2, b2, n) ∧ Sh l2 ∧ 0 ≤ n ∧ n ≤ 9 ∧ (k = 2 ∨ n = 0) ∧ (b2 = false → b1 = false) := by
    by_cases h2 : k = 2
    · obtain ⟨n, b2, e2, h3, h4, h5⟩ := rank_any h.tail b1 []
      have : (k == 2) = true := by simpa using h2
      simp only [this, if_true, e2, Option.bind_some]
      exact ⟨_, _, _, rfl, h.tail.tail, h3, h4, .inl h2, h5⟩
    · have : (k == 2) = false := by simpa using h2
      simp only [this, Bool.false_eq_true, if_false]
      exact ⟨_, _, _, rfl, h.tail, by omega, by omega, .inr rfl, id⟩
  obtain ⟨l2, b2, n, e2, hs, hn0, hn9, hkn, h2⟩ := hs1
  rw [e2]
  simp only [Option.bind_some]
  have hs2 : ∃ l3 b3 sr, (if decide (0 < (len l2)) then
      (if b2 then some (l2, true) else (m_rulebase_words_next (l2, b2)).bind fun r3 => some (r3.2.1, !(r3.1 == [102, 114, 111, 109])) : Option ((List Str) × Bool)).bind fun s3 =>
      (m_rulebase_words_name (s3.1, s3.2) []).bind fun r4 => some (r4.2.1, r4.2.2, r4.1)
    else some (l2, b2, []) : Option ((List Str) × Bool × Str)) = some (l3, b3, sr) ∧ sr.length ≤ 5000 ∧ (b3 = false → b2 = false ∧ (sr = [] ∨ vName sr = true)) := by
    by_cases h0 : 0 < l2.length
    · have : decide (0 < len l2) = true := decide_eq_true (show (0 : Int) < l2.length by omega)
      simp only [this, if_true]
      cases b2 with
      | true =>
        simp only [if_true, Option.bind_some]
        obtain ⟨sr, b4, e4, h4, h5⟩ := name_any hs true []
        simp only [e4, Option.bind_some]
        exact ⟨_, _, _, rfl, h4, fun h => absurd (h5 h).1 (by simp)⟩
      | false =>
        simp only [Bool.false_eq_true, if_false, next_any, Option.bind_some]
        obtain ⟨sr, b4, e4, h4, h5⟩ := name_any hs.tail (!(l2.headD [] == [102, 114, 111, 109])) []
        simp only [e4, Option.bind_some]
        exact ⟨_, _, _, rfl, h4, fun h => ⟨by trivial, .inr (h5 h).2⟩⟩
    · have : decide (0 < len l2) = false := decide_eq_false (show ¬ (0 : Int) < l2.length by omega)
      simp only [this, Bool.false_eq_true, if_false]
      exact ⟨_, _, _, rfl, by simp, fun h => ⟨h, .inl rfl⟩⟩
  obtain ⟨l3, b3, sr, e3, hsr, h3⟩ := hs2
  rw [e3]
  simp only [Option.bind_some]
  exact ⟨(x, k, n, sr), l3, b3, rfl, rfl, hn0, hn9, hsr, fun hb => ⟨hk, (h1 (h2 (h3 hb).1)).2, hn0, hn9, hkn, (h3 hb).2⟩⟩
theorem prem_ok {p : T_Premise} (h : okP p) : m_rulebase_words_premise ((premW p).tail, false) p.2.1 = some (p, [], false) := by
  obtain ⟨x, k, n, s⟩ := p
  obtain ⟨hk, hx, h0, h9, hkn, hs⟩ := h
  simp only at hk hx h0 h9 hkn hs
  have e1 := fun r => lit_ok hx [] (by simp) r false
  simp only [List.append_nil] at e1
  have e2 := fun r => rank_ok h0 h9 [] (by simp) r false
  simp only [List.append_nil] at e2
  unfold m_rulebase_words_premise premW
  simp only [List.cons_append, List.nil_append, List.tail_cons]
  rw [e1]
  simp only [Option.bind_some]
  have src : ∀ n : Int, ((if decide (0 < (len (if s = [] then ([] : List Str) else [fromW, s]))) then
      (if false then some ((if s = [] then ([] : List Str) else [fromW, s]), true) else (m_rulebase_words_next ((if s = [] then ([] : List Str) else [fromW, s]), false)).bind fun r3 => some (r3.2.1, !(r3.1 == [102, 114, 111, 109])) : Option ((List Str) × Bool)).bind fun s3 =>
      (m_rulebase_words_name (s3.1, s3.2) []).bind fun r4 => some (r4.2.1, r4.2.2, r4.1)
    else some ((if s = [] then ([] : List Str) else [fromW, s]), false, []) : Option ((List Str) × Bool × Str)).bind fun s2 => some ((x, k, n, s2.2.2), s2.1, s2.2.1)) = some ((x, k, n, s), [], false) := by
    intro n
    by_cases hs0 : s = []
    · subst hs0; simp
    · have hv := hs.resolve_left hs0
      have e3 := name_ok hv [] (by simp) [] false
      simp only [List.append_nil] at e3
      have h1 : decide (0 < len [fromW, s]) = true := by simp
      have h2 : (fromW == [102, 114, 111, 109]) = true := rfl
      simp only [if_neg hs0, h1, if_true, Bool.false_eq_true, if_false, next_cons, Option.bind_some, h2, Bool.not_true, e3]
  by_cases h2 : k = 2
  · have hk2 : (k == 2) = true := by simpa using h2
    simp only [hk2, if_true, if_pos h2, List.singleton_append, e2, Option.bind_some]
    exact src n
  · have hk2 : (k == 2) = false := by simpa using h2
    obtain rfl : n = 0 := hkn.resolve_left h2
    simp only [hk2, Bool.false_eq_true, if_false, if_neg h2, List.nil_append, Option.bind_some]
    exact src 0
theorem prom_any {l : List Str} (h : Sh l) (b : Bool) : ∃ p r b', m_rulebase_words_promotion (l, b) = some (p, r, b') ∧ 0 ≤ p.2.1 ∧ p.2.1 ≤ 9 ∧ p.1.length ≤ 5000 ∧ (b' = false → okT p) := by
  obtain ⟨s, b1, e1, h1, h1'⟩ := name_any h b []
  obtain ⟨n, b2, e2, h2, h2', h2''⟩ := rank_any h.tail b1 []
  unfold m_rulebase_words_promotion
  rw [e1]
  simp only [Option.bind_some, e2]
  have hs1 : ∃ l3 b3, (if b2 then some (l.tail.tail, true) else (m_rulebase_words_next (l.tail.tail, b2)).bind fun r3 => some (r3.2.1, !(r3.1 == [105, 102])) : Option ((List Str) × Bool)) = some (l3, b3) ∧ Sh l3 ∧ (b3 = false → b2 = false) := by
    cases b2 with
    | true => exact ⟨_, _, rfl, h.tail.tail, by simp⟩
    | false =>
      simp only [Bool.false_eq_true, if_false, next_any, Option.bind_some]
      exact ⟨_, _, rfl, h.tail.tail.tail, fun _ => by trivial⟩
  obtain ⟨l3, b3, e3, h3, h3'⟩ := hs1
  rw [e3]
  obtain ⟨x, b4, e4, h4⟩ := lit_any h3 b3 []
  simp only [Option.bind_some, e4]
  exact ⟨(s, n, x), _, b4, rfl, h2, h2', h1, fun hb => ⟨(h1' (h2'' (h3' (h4 hb).1))).2, h2, h2', (h4 hb).2⟩⟩
theorem prom_ok {p : T_Promotion} (h : okT p) : m_rulebase_words_promotion ((promW p).tail, false) = some (p, [], false) := by
  obtain ⟨s, n, x⟩ := p
  obtain ⟨hs, h0, h9, hx⟩ := h
  simp only at hs h0 h9 hx
  have e1 := fun r => name_ok hs [] (by simp) r false
  simp only [List.append_nil] at e1
  have e2 := fun r => rank_ok h0 h9 [] (by simp) r false
  simp only [List.append_nil] at e2
  have e3 := fun r => lit_ok hx [] (by simp) r false
  simp only [List.append_nil] at e3
  unfold m_rulebase_words_promotion promW
  simp only [List.tail_cons, e1, e2, Option.bind_some, Bool.false_eq_true, if_false, next_cons]
  have h2 : (ifW == [105, 102]) = true := rfl
  simp only [h2, Bool.not_true, e3, Option.bind_some]
theorem body_any {l : List Str} (h : Sh l) (b : Bool) (acc : List T_Literal) (ha : acc.length + l.length ≤ 10000) (hv : b = false → ∀ x ∈ acc, vName x.2 = true) :
    ∃ r b' body, loop m_rulebase_words_rule_L1 (l, b, acc) = some (r, b', body) ∧ Sh r ∧ body.length ≤ 10000 ∧ (b' = false → b = false ∧ ∀ x ∈ body, vName x.2 = true) := by
  have h := loop_nat (B := m_rulebase_words_rule_L1) (fun s => s.1.length) (fun s => Sh s.1 ∧ s.2.2.length + s.1.length ≤ 10000 ∧ (s.2.1 = false → b = false ∧ ∀ x ∈ s.2.2, vName x.2 = true))
    (fun o => Sh o.1 ∧ o.2.2.length ≤ 10000 ∧ (o.2.1 = false → b = false ∧ ∀ x ∈ o.2.2, vName x.2 = true)) ?_ (l, b, acc) ⟨h, ha, fun hb => ⟨hb, hv hb⟩⟩
  · obtain ⟨⟨r, b', body⟩, h1, h2, h3, h4⟩ := h
    exact ⟨r, b', body, h1, h2, h3, h4⟩
  · rintro ⟨l, bb, acc⟩ ⟨hs, hl, hv⟩
    unfold m_rulebase_words_rule_L1
    simp only at hs hl hv ⊢
    by_cases hc : 2 < l.length ∧ bb = false
    · obtain ⟨h2, rfl⟩ := hc
      have : (decide (2 < len l) && !false) = true := by simp; exact (show (2 : Int) < l.length by omega)
      simp only [this, if_true]
      have hcm : ∃ u : Str, (if (len l) == 3 then some [] else some [44] : Option Str) = some u := by split <;> exact ⟨_, rfl⟩
      obtain ⟨u, hu⟩ := hcm
      rw [hu]
      obtain ⟨x, b1, e1, h1⟩ := lit_any hs false u
      simp only [Option.bind_some, e1]
      rw [app_ok (by simp; omega)]
      simp only [Option.bind_some]
      refine .inl ⟨_, rfl, ⟨hs.tail, by simp; omega, fun hb => ⟨(hv rfl).1, fun y hy => ?_⟩⟩, by simp; omega⟩
      rcases List.mem_append.1 hy with hy | hy
      · exact (hv rfl).2 y hy
      · simp at hy; subst hy; exact (h1 hb).2
    · have : (decide (2 < len l) && !bb) = false := by
        cases bb with
        | true => simp
        | false =>
          simp only [Bool.not_false, Bool.and_true]
          exact decide_eq_false (show ¬ (2 : Int) < l.length by simp at hc; omega)
      simp only [this, Bool.false_eq_true, if_false]
      exact .inr ⟨_, rfl, hs, by show acc.length ≤ 10000; omega, hv⟩
theorem loop_nx {σ ρ : Type} {B : σ → Option (σ ⊕ ρ)} {s s' : σ} (h : B s = some (.inl s')) : loop B s = loop B s' := by rw [loop_eq, h]
theorem loop_rt {σ ρ : Type} {B : σ → Option (σ ⊕ ρ)} {s : σ} {r : ρ} (h : B s = some (.inr r)) : loop B s = some r := by rw [loop_eq, h]
theorem body_ok : ∀ (l : List T_Literal) (a h : Str) (acc : List T_Literal), (∀ x ∈ l, vName x.2 = true) → acc.length + l.length ≤ 10000 → loop m_rulebase_words_rule_L1 (bodyW l ++ [a, h], false, acc) = some ([a, h], false, acc ++ l)
  | [], a, h, acc, _, _ => by
    rw [List.append_nil]
    exact loop_rt rfl
  | x :: r, a, h, acc, hv, hl => by
    have hx := hv x (by simp)
    have ih := body_ok r a h (acc ++ [x]) (fun y hy => hv y (by simp [hy])) (by simp at hl ⊢; omega)
    have hbl := bodyW_len r
    simp only [List.length_cons] at hl
    have step : m_rulebase_words_rule_L1 (bodyW (x :: r) ++ [a, h], false, acc) = some (.inl (bodyW r ++ [a, h], false, acc ++ [x])) := by
      unfold m_rulebase_words_rule_L1
      have hc : (decide (2 < len (bodyW (x :: r) ++ [a, h])) && !false) = true := by
        simp only [Bool.not_false, Bool.and_true]
        exact decide_eq_true (show (2 : Int) < (bodyW (x :: r) ++ [a, h]).length by rw [List.length_append, bodyW_len]; simp; omega)
      simp only [hc, if_true]
      cases r with
      | nil =>
        have h3 : ((len (bodyW [x] ++ [a, h])) == 3) = true := rfl
        have e1 := lit_ok hx [] (by simp) [a, h] false
        rw [List.append_nil] at e1
        have e0 : bodyW [x] ++ [a, h] = litText x :: [a, h] := rfl
        simp only [h3, if_true, Option.bind_some]
        rw [e0, e1]
        simp only [Option.bind_some]
        rw [app_ok (by simp; omega)]
        rfl
      | cons y r =>
        have h3 : ((len (bodyW (x :: y :: r) ++ [a, h])) == 3) = false := by
          have : ((bodyW (x :: y :: r) ++ [a, h]).length : Int) ≠ 3 := by rw [List.length_append, bodyW_len]; simp; omega
          exact beq_false_of_ne this
        have e1 := lit_ok hx [44] (by simp) (bodyW (y :: r) ++ [a, h]) false
        have e0 : bodyW (x :: y :: r) ++ [a, h] = (litText x ++ [44]) :: (bodyW (y :: r) ++ [a, h]) := rfl
        simp only [h3, Bool.false_eq_true, if_false, Option.bind_some]
        rw [e0, e1]
        simp only [Option.bind_some]
        rw [app_ok (by simp; omega)]
        rfl
    rw [loop_nx step, ih]
    simp
theorem rule_any {l : List Str} (h : Sh l) (hl : l.length ≤ 5000) (st : Bool) : ∃ q r b', m_rulebase_words_rule (l, false) st = some (q, r, b') ∧ q.2.1 = st ∧ 0 ≤ q.2.2.1 ∧ q.2.2.1 ≤ 9 ∧ q.1.length ≤ 5000 ∧ q.2.2.2.1.length ≤ 10000 ∧ (b' = false → okR q) := by
  unfold m_rulebase_words_rule
  have hs1 : ∃ ar l1 b1 nm rk, (if st then (m_rulebase_words_name (l, false) [58]).bind fun r1 => some ([45, 62], r1.2.1, r1.2.2, r1.1, 0)
    else (m_rulebase_words_name (l, false) []).bind fun r2 => (m_rulebase_words_rank (r2.2.1, r2.2.2) [58]).bind fun r3 => some ([61, 62], r3.2.1, r3.2.2, r2.1, r3.1) : Option (Str × (List Str) × Bool × Str × Int)) = some (ar, l1, b1, nm, rk) ∧
      Sh l1 ∧ l1.length ≤ 5000 ∧ nm.length ≤ 5000 ∧ 0 ≤ rk ∧ rk ≤ 9 ∧ (st = true → rk = 0) ∧ (b1 = false → vName nm = true) := by
    cases st with
    | true =>
      obtain ⟨s, b1, e1, h1, h1'⟩ := name_any h false [58]
      simp only [if_true, e1, Option.bind_some]
      exact ⟨_, _, _, _, _, rfl, h.tail, by simp; omega, h1, by omega, by omega, fun _ => rfl, fun hb => (h1' hb).2⟩
    | false =>
      obtain ⟨s, b1, e1, h1, h1'⟩ := name_any h false []
      obtain ⟨n, b2, e2, h2, h2', h2''⟩ := rank_any h.tail b1 [58]
      simp only [Bool.false_eq_true, if_false, e1, Option.bind_some, e2]
      exact ⟨_, _, _, _, _, rfl, h.tail.tail, by simp; omega, h1, h2, h2', fun h => (by cases h), fun hb => (h1' (h2'' hb)).2⟩
  obtain ⟨ar, l1, b1, nm, rk, e1, hs, hl1, hnm, hr0, hr9, hst, h1⟩ := hs1
  rw [e1]
  obtain ⟨l2, b2, body, e2, h2, hbd, h2'⟩ := body_any hs b1 [] (by simp; omega) (by simp)
  simp only [Option.bind_some, e2]
  have hs2 : ∃ l3 b3, (if b2 then some (l2, true) else (m_rulebase_words_next (l2, b2)).bind fun r5 => some (r5.2.1, !(r5.1 == ar)) : Option ((List Str) × Bool)) = some (l3, b3) ∧ Sh l3 ∧ (b3 = false → b2 = false) := by
    cases b2 with
    | true => exact ⟨_, _, rfl, h2, by simp⟩
    | false =>
      simp only [Bool.false_eq_true, if_false, next_any, Option.bind_some]
      exact ⟨_, _, rfl, h2.tail, fun _ => by trivial⟩
  obtain ⟨l3, b3, e3, h3, h3'⟩ := hs2
  rw [e3]
  obtain ⟨x, b4, e4, h4⟩ := lit_any h3 b3 []
  simp only [Option.bind_some, e4]
  exact ⟨(nm, st, rk, body, x), _, b4, rfl, rfl, hr0, hr9, hnm, hbd, fun hb => ⟨h1 (h2' (h3' (h4 hb).1)).1, (h4 hb).2, hr0, hr9, hst, (h2' (h3' (h4 hb).1)).2⟩⟩
theorem rule_ok {r : T_Rule} (h : okR r) (hb : r.2.2.2.1.length ≤ 5000) : m_rulebase_words_rule ((ruleW r).tail, false) r.2.1 = some (r, [], false) := by
  obtain ⟨nm, st, rk, body, x⟩ := r
  obtain ⟨hn, hx, h0, h9, hst, hv⟩ := h
  simp only at hn hx h0 h9 hst hv hb
  have e5 := lit_ok hx [] (by simp) [] false
  rw [List.append_nil] at e5
  unfold m_rulebase_words_rule ruleW
  cases st with
  | true =>
    obtain rfl := hst rfl
    simp only [if_true, List.cons_append, List.nil_append, List.tail_cons]
    rw [name_ok hn [58] (by simp)]
    simp only [Option.bind_some]
    rw [body_ok body _ _ [] hv (by simp; omega)]
    have h2 : (arrowW true == [45, 62]) = true := rfl
    simp only [Option.bind_some, Bool.false_eq_true, if_false, next_cons, h2, Bool.not_true, e5, List.nil_append]
  | false =>
    simp only [Bool.false_eq_true, if_false, List.cons_append, List.nil_append, List.tail_cons]
    have e1 := fun r => name_ok hn [] (by simp) r false
    simp only [List.append_nil] at e1
    rw [e1]
    simp only [Option.bind_some]
    rw [rank_ok h0 h9 [58] (by simp)]
    simp only [Option.bind_some]
    rw [body_ok body _ _ [] hv (by simp; omega)]
    have h2 : (arrowW false == [61, 62]) = true := rfl
    simp only [Option.bind_some, Bool.false_eq_true, if_false, next_cons, h2, Bool.not_true, e5, List.nil_append]
end
section
inductive El
  | p (x : T_Premise)
  | r (x : T_Rule)
  | t (x : T_Promotion)
def El.ok : El → Prop
  | .p x => okP x
  | .r x => okR x
  | .t x => okT x
def El.ws : El → List Str
  | .p x => premW x
  | .r x => ruleW x
  | .t x => promW x
abbrev El.line (e : El) : Str := jn e.ws
def El.kind : El → Int
  | .p _ => 1
  | .r _ => 2
  | .t _ => 3
def El.add (b : T_Base) : El → T_Base
  | .p x => (b.1 ++ [x], b.2.1, b.2.2)
  | .r x => (b.1, b.2.1 ++ [x], b.2.2)
  | .t x => (b.1, b.2.1, b.2.2 ++ [x])
theorem dgt_wd {n : Int} (h0 : 0 ≤ n) (h9 : n ≤ 9) : wd (dgt n) = true := by
  obtain ⟨k, rfl⟩ : ∃ k : Nat, n = k := ⟨n.toNat, by omega⟩
  have : ∀ k : Fin 10, wd (dgt (k.val : Int)) = true := by decide +kernel
  exact this ⟨k, by omega⟩
theorem bodyW_wd : ∀ l : List T_Literal, (∀ x ∈ l, vName x.2 = true) → ∀ w ∈ bodyW l, wd w = true
  | [], _, w, hw => by cases hw
  | [x], h, w, hw => by
    simp only [bodyW, List.mem_singleton] at hw
    subst hw; exact lit_wd (h x (by simp))
  | x :: y :: r, h, w, hw => by
    simp only [bodyW, List.mem_cons] at hw
    rcases hw with rfl | hw
    · exact wd_snoc (by decide) (lit_wd (h x (by simp)))
    · exact bodyW_wd (y :: r) (fun z hz => h z (by simp [List.mem_cons] at hz ⊢; exact .inr hz)) w hw
theorem kindW_wd (k : Int) : wd (kindW k) = true := by
  unfold kindW
  split
  · decide
  · split <;> decide
theorem El.wd {e : El} (h : e.ok) : ∀ w ∈ e.ws, wd w = true := by
  cases e with
  | p x =>
    obtain ⟨hk, hx, h0, h9, hkn, hs⟩ := h
    intro w hw
    simp only [El.ws, premW, List.mem_append, List.mem_cons, List.not_mem_nil, or_false] at hw
    rcases hw with ((rfl | rfl) | hw) | hw
    · exact kindW_wd _
    · exact lit_wd hx
    · split at hw
      · simp at hw; subst hw; exact dgt_wd h0 h9
      · cases hw
    · split at hw
      · cases hw
      · rename_i hs0
        simp at hw
        rcases hw with rfl | rfl
        · decide
        · exact name_wd (hs.resolve_left hs0)
  | r x =>
    obtain ⟨hn, hx, h0, h9, hst, hv⟩ := h
    intro w hw
    simp only [El.ws, ruleW, List.mem_append, List.mem_cons, List.not_mem_nil, or_false] at hw
    rcases hw with (hw | hw) | (rfl | rfl)
    · split at hw
      · simp at hw
        rcases hw with rfl | rfl
        · decide
        · exact wd_snoc (by decide) (name_wd hn)
      · simp at hw
        rcases hw with rfl | rfl | rfl
        · decide
        · exact name_wd hn
        · exact wd_snoc (by decide) (dgt_wd h0 h9)
    · exact bodyW_wd _ hv w hw
    · unfold arrowW; split <;> decide
    · exact lit_wd hx
  | t x =>
    obtain ⟨hn, h0, h9, hx⟩ := h
    intro w hw
    simp only [El.ws, promW, List.mem_cons, List.not_mem_nil, or_false] at hw
    rcases hw with rfl | rfl | rfl | rfl | rfl
    · decide
    · exact name_wd hn
    · exact dgt_wd h0 h9
    · decide
    · exact lit_wd hx
theorem El.fields {e : El} (h : e.ok) : Lib.fieldsD e.line = e.ws := fieldsD_jn (El.wd h)
theorem kind_loop {w : Str} (rest : List Str × Bool) (k : Int) (hw : w = kindW k) (hk : k = 1 ∨ k = 2 ∨ k = 3) : loop (m_rulebase_words_add_L1 (w, rest)) (1, 0) = some k := by
  have hw' : kindW k = w := hw.symm
  rcases hk with rfl | rfl | rfl <;>
    (subst hw'
     refine loop_of_iter (n := 6) ?_
     rfl)
def BSh (b : T_Base) : Prop := b.1.length ≤ 10000 ∧ b.2.1.length ≤ 10000 ∧ b.2.2.length ≤ 10000
theorem sel3 (w a b c : Str) : (if w == a then some (w == a) else if w == b then some (w == b) else some (w == c) : Option Bool) = some (decide (w = a ∨ w = b ∨ w = c)) := by
  by_cases h1 : w = a
  · subst h1; simp
  · by_cases h2 : w = b
    · subst h2; simp [h1]
    · have e1 : (w == a) = false := beq_false_of_ne h1
      have e2 : (w == b) = false := beq_false_of_ne h2
      simp only [e1, e2, Bool.false_eq_true, if_false]
      congr 1
      rw [Bool.eq_iff_iff]
      simp [h1, h2]
theorem sel2 (w a b : Str) : (if w == a then some (w == a) else some (w == b) : Option Bool) = some (decide (w = a ∨ w = b)) := by
  by_cases h1 : w = a
  · subst h1; simp
  · have e1 : (w == a) = false := beq_false_of_ne h1
    simp only [e1, Bool.false_eq_true, if_false]
    congr 1
    rw [Bool.eq_iff_iff]
    simp [h1]
theorem add_any {l : List Str} (h : Sh l) (hl : l.length ≤ 5000) {b : T_Base} (hb : BSh b) : ∃ k t r bad b', m_rulebase_words_add (l, false) b = some (k, t, r, bad, b') ∧ (bad = false → 1 ≤ k → ∃ e : El, e.ok ∧ t = e.line ∧ k = e.kind ∧ b' = e.add b) := by
  unfold m_rulebase_words_add
  rw [next_any]
  simp only [Option.bind_some]
  have hs1 : (if (l.headD []) == [97, 120, 105, 111, 109] then some ((l.headD []) == [97, 120, 105, 111, 109]) else
      if (l.headD []) == [112, 114, 101, 109, 105, 115, 101] then some ((l.headD []) == [112, 114, 101, 109, 105, 115, 101]) else some ((l.headD []) == [97, 115, 115, 117, 109, 101]) : Option Bool) =
      some (decide (l.headD [] = kindW 1 ∨ l.headD [] = kindW 2 ∨ l.headD [] = kindW 3)) := sel3 _ _ _ _
  have hs4 : (if (l.headD []) == [115, 116, 114, 105, 99, 116] then some ((l.headD []) == [115, 116, 114, 105, 99, 116]) else some ((l.headD []) == [114, 117, 108, 101]) : Option Bool) =
      some (decide (l.headD [] = strictW ∨ l.headD [] = ruleWd)) := sel2 _ _ _
  rw [hs1]
  simp only [Option.bind_some, Bool.false_or]
  by_cases hk : l.headD [] = kindW 1 ∨ l.headD [] = kindW 2 ∨ l.headD [] = kindW 3
  · obtain ⟨k, hw, hk'⟩ : ∃ k : Int, l.headD [] = kindW k ∧ (k = 1 ∨ k = 2 ∨ k = 3) := by
      rcases hk with h | h | h
      · exact ⟨1, h, by simp⟩
      · exact ⟨2, h, by simp⟩
      · exact ⟨3, h, by simp⟩
    simp only [decide_eq_true hk, if_true]
    rw [kind_loop _ k hw hk']
    obtain ⟨p, r, b', e1, h1, h2, h3, h4, h5⟩ := prem_any h.tail l.isEmpty hk'
    simp only [Option.bind_some, e1]
    rw [app_ok (by have := hb.1; simp; omega), premLine (by rw [h1]; exact hk') h2 h3 (by omega)]
    exact ⟨1, _, r, b', _, rfl, fun hbb _ => ⟨.p p, h5 hbb, rfl, rfl, rfl⟩⟩
  · simp only [decide_eq_false hk, Bool.false_eq_true, if_false]
    rw [hs4]
    simp only [Option.bind_some]
    by_cases hr : l.headD [] = strictW ∨ l.headD [] = ruleWd
    · simp only [decide_eq_true hr, if_true]
      have hne : l.isEmpty = false := by
        cases l with
        | nil => rcases hr with h | h <;> cases h
        | cons => rfl
      rw [hne]
      obtain ⟨q, r, b', e1, h1, h2, h3, h4, h5, h6⟩ := rule_any h.tail (by simp; omega) (l.headD [] == [115, 116, 114, 105, 99, 116])
      rw [e1]
      simp only [Option.bind_some]
      rw [app_ok (by have := hb.2.1; simp; omega), ruleLine h2 h3 (by omega) h5]
      exact ⟨2, _, r, b', _, rfl, fun hbb _ => ⟨.r q, h6 hbb, rfl, rfl, rfl⟩⟩
    · simp only [decide_eq_false hr, Bool.false_eq_true, if_false]
      split
      · obtain ⟨p, r, b', e1, h1, h2, h3, h4⟩ := prom_any h.tail l.isEmpty
        rw [e1]
        simp only [Option.bind_some]
        rw [app_ok (by have := hb.2.2; simp; omega), promLine h1 h2 (by omega)]
        exact ⟨3, _, r, b', _, rfl, fun hbb _ => ⟨.t p, h4 hbb, rfl, rfl, rfl⟩⟩
      · exact ⟨0, _, _, _, _, rfl, fun _ h => absurd h (by omega)⟩
theorem add_ok {e : El} (h : e.ok) {b : T_Base} (hb : BSh b) (hl : ∀ x, e = .r x → x.2.2.2.1.length ≤ 5000) : m_rulebase_words_add (e.ws, false) b = some (e.kind, e.line, [], false, e.add b) := by
  unfold m_rulebase_words_add
  cases e with
  | p x =>
    have h' : okP x := h
    have hw : ∃ r, premW x = kindW x.2.1 :: r := ⟨_, rfl⟩
    obtain ⟨r, hr⟩ := hw
    have ht : (premW x).tail = r := by rw [hr]; rfl
    have e1 := prem_ok h'
    rw [ht] at e1
    simp only [El.ws]
    rw [hr, next_cons]
    simp only [Option.bind_some]
    have hs1 : (if (kindW x.2.1) == [97, 120, 105, 111, 109] then some ((kindW x.2.1) == [97, 120, 105, 111, 109]) else
      if (kindW x.2.1) == [112, 114, 101, 109, 105, 115, 101] then some ((kindW x.2.1) == [112, 114, 101, 109, 105, 115, 101]) else some ((kindW x.2.1) == [97, 115, 115, 117, 109, 101]) : Option Bool) = some true := by
      rcases h'.1 with h | h | h <;> rw [h] <;> rfl
    rw [hs1]
    simp only [Option.bind_some, if_true]
    rw [kind_loop _ x.2.1 rfl h'.1]
    have hsl : x.2.2.2.length ≤ 1000000 := by
      rcases h'.2.2.2.2.2 with h | h
      · simp [h]
      · have := (vName_len h).2; omega
    simp only [Option.bind_some, e1]
    rw [app_ok (by have := hb.1; simp; omega), premLine h'.1 h'.2.2.1 h'.2.2.2.1 hsl]
    rfl
  | r x =>
    have h' : okR x := h
    have hbl := hl x rfl
    have hw : ∃ r, ruleW x = (if x.2.1 then strictW else ruleWd) :: r := by unfold ruleW; cases x.2.1 <;> exact ⟨_, rfl⟩
    obtain ⟨r, hr⟩ := hw
    have ht : (ruleW x).tail = r := by rw [hr]; rfl
    have e1 := rule_ok h' hbl
    rw [ht] at e1
    simp only [El.ws]
    rw [hr, next_cons]
    have hst : ((if x.2.1 then strictW else ruleWd) == ([115, 116, 114, 105, 99, 116] : Str)) = x.2.1 := by cases x.2.1 <;> rfl
    have hs1 : (if (if x.2.1 then strictW else ruleWd) == ([97, 120, 105, 111, 109] : Str) then some ((if x.2.1 then strictW else ruleWd) == ([97, 120, 105, 111, 109] : Str)) else
      if (if x.2.1 then strictW else ruleWd) == ([112, 114, 101, 109, 105, 115, 101] : Str) then some ((if x.2.1 then strictW else ruleWd) == ([112, 114, 101, 109, 105, 115, 101] : Str)) else some ((if x.2.1 then strictW else ruleWd) == ([97, 115, 115, 117, 109, 101] : Str)) : Option Bool) = some false := by
      cases x.2.1 <;> rfl
    have hs4 : (if (if x.2.1 then strictW else ruleWd) == ([115, 116, 114, 105, 99, 116] : Str) then some ((if x.2.1 then strictW else ruleWd) == ([115, 116, 114, 105, 99, 116] : Str)) else some ((if x.2.1 then strictW else ruleWd) == ([114, 117, 108, 101] : Str)) : Option Bool) = some true := by
      cases x.2.1 <;> rfl
    have hn := (vName_len h'.1).2
    simp only [Option.bind_some]
    rw [hs1]
    simp only [Option.bind_some, Bool.false_eq_true, if_false]
    rw [hs4]
    simp only [Option.bind_some, if_true, hst, e1]
    rw [app_ok (by have := hb.2.1; simp; omega), ruleLine h'.2.2.1 h'.2.2.2.1 (by omega) (by omega)]
    rfl
  | t x =>
    have h' : okT x := h
    have e1 := prom_ok h'
    have hn := (vName_len h'.1).2
    have hr : promW x = promoteW :: (promW x).tail := rfl
    simp only [El.ws]
    rw [hr, next_cons]
    simp only [Option.bind_some]
    have q1 : (promoteW == [97, 120, 105, 111, 109]) = false := rfl
    have q2 : (promoteW == [112, 114, 101, 109, 105, 115, 101]) = false := rfl
    have q3 : (promoteW == [97, 115, 115, 117, 109, 101]) = false := rfl
    have q4 : (promoteW == [115, 116, 114, 105, 99, 116]) = false := rfl
    have q5 : (promoteW == [114, 117, 108, 101]) = false := rfl
    have q6 : (promoteW == [112, 114, 111, 109, 111, 116, 101]) = true := rfl
    simp only [q1, q2, q3, q4, q5, q6, Bool.false_eq_true, if_false, Option.bind_some, if_true, e1]
    rw [app_ok (by have := hb.2.2; simp; omega), promLine h'.2.1 h'.2.2.1 (by omega)]
    rfl
end
section
/-- up to the first line feed -/
def cut1 : Str → Str × Str × Bool
  | [] => ([], [], false)
  | c :: r => if c = 10 then ([], r, true) else (c :: (cut1 r).1, (cut1 r).2.1, (cut1 r).2.2)
theorem cut1_eq : ∀ s : Str, s = (cut1 s).1 ++ (if (cut1 s).2.2 then 10 :: (cut1 s).2.1 else [])
  | [] => rfl
  | c :: r => by
    have ih := cut1_eq r
    unfold cut1
    split
    · rename_i h; subst h; rfl
    · simp only [List.cons_append]; rw [← ih]
theorem cut1_end : ∀ s : Str, (cut1 s).2.2 = false → (cut1 s).2.1 = []
  | [], _ => rfl
  | c :: r, h => by
    unfold cut1 at h ⊢
    split
    · rename_i hc; simp [hc] at h
    · rename_i hc; rw [if_neg hc] at h; exact cut1_end r h
theorem cut1_len (s : Str) : (cut1 s).1.length ≤ s.length := by
  have h := congrArg List.length (cut1_eq s)
  rw [List.length_append] at h
  omega
theorem cut1_less {s : Str} (h : s ≠ []) : (cut1 s).2.1.length < s.length := by
  have h1 := congrArg List.length (cut1_eq s)
  rw [List.length_append] at h1
  cases he : (cut1 s).2.2 with
  | false => rw [cut1_end s he]; exact List.length_pos_iff.2 h
  | true => rw [he] at h1; simp at h1; omega
theorem cut1_idx : ∀ s : Str, Lib.indexByte s 10 = if (cut1 s).2.2 then ((cut1 s).1.length : Int) else -1
  | [] => rfl
  | c :: r => by
    have ih := cut1_idx r
    unfold cut1 Lib.indexByte
    by_cases hc : c = 10
    · subst hc; rfl
    · have hb : (c == 10) = false := beq_false_of_ne hc
      simp only [hb, Bool.false_eq_true, if_false, if_neg hc, ih]
      cases (cut1 r).2.2 with
      | false => rfl
      | true =>
        have : (((cut1 r).1.length : Int) == -1) = false := beq_false_of_ne (by omega)
        simp only [if_true, this, Bool.false_eq_true, if_false, List.length_cons]
        omega
theorem cut_ok {s : Str} (h : s.length < 1000000) : m_strings_Cut s [10] = some (cut1 s) := by
  unfold m_strings_Cut m_internal_stringslite_Cut m_internal_stringslite_Index index1
  have hs := cut1_eq s
  have hl := congrArg List.length hs
  rw [List.length_append] at hl
  simp only [Option.bind_some]
  rw [cut1_idx]
  cases he : (cut1 s).2.2 with
  | false =>
    have h2 := cut1_end s he
    rw [he] at hs
    simp only [Bool.false_eq_true, if_false, List.append_nil] at hs
    simp only [Bool.false_eq_true, if_false]
    have : decide ((0 : Int) ≤ -1) = false := rfl
    simp only [this, Bool.false_eq_true, if_false, Option.bind_some]
    congr 1
    have : cut1 s = ((cut1 s).1, (cut1 s).2.1, (cut1 s).2.2) := rfl
    rw [this, he, h2, ← hs]
  | true =>
    rw [he] at hs hl
    simp only [if_true, List.length_cons] at hs hl
    simp only [if_true]
    have : decide ((0 : Int) ≤ ((cut1 s).1.length : Int)) = true := by simp
    simp only [this, if_true]
    rw [sub_pre (by omega) (by omega)]
    simp only [Option.bind_some]
    have h1 : len ([10] : Str) = 1 := rfl
    have hw : w64 (((cut1 s).1.length : Int) + len ([10] : Str)) = (((cut1 s).1.length + 1 : Nat) : Int) := by rw [h1, w64_id (x := ((cut1 s).1.length : Int) + 1) (by omega) (by omega)]; omega
    rw [hw, sub_suf (by omega) (by omega)]
    simp only [Option.bind_some, Int.toNat_natCast]
    congr 1
    have e0 : cut1 s = ((cut1 s).1, (cut1 s).2.1, (cut1 s).2.2) := rfl
    have e1 : s.take (cut1 s).1.length = (cut1 s).1 := by
      have : s.take (cut1 s).1.length = ((cut1 s).1 ++ 10 :: (cut1 s).2.1).take (cut1 s).1.length := by rw [← hs]
      rw [this, List.take_left]
    have e2 : s.drop ((cut1 s).1.length + 1) = (cut1 s).2.1 := by
      have : s.drop ((cut1 s).1.length + 1) = ((cut1 s).1 ++ 10 :: (cut1 s).2.1).drop ((cut1 s).1.length + 1) := by rw [← hs]
      rw [this, ← List.drop_drop, List.drop_left]; rfl
    rw [e0, he, e1, e2]
theorem le_sum {w : Str} : ∀ {l : List Str}, w ∈ l → w.length ≤ (l.map List.length).sum
  | x :: l, h => by
    simp only [List.map_cons, List.sum_cons]
    rcases List.mem_cons.1 h with rfl | h
    · omega
    · have := le_sum h; omega
open Classical in
noncomputable def elOf (ln : Str) : Option El := if h : ∃ e : El, e.ok ∧ e.line = ln then some h.choose else none
theorem elOf_some {ln : Str} {e : El} (h : elOf ln = some e) : e.ok ∧ e.line = ln := by
  unfold elOf at h
  split at h
  · rename_i hx; cases h; exact hx.choose_spec
  · cases h
theorem elOf_none {ln : Str} (h : elOf ln = none) : ¬ ∃ e : El, e.ok ∧ e.line = ln := by
  unfold elOf at h
  split at h
  · cases h
  · assumption
theorem El.short {e : El} (h : e.ok) {n : Nat} (hl : e.line.length ≤ n) : e.ws.length ≤ n ∧ ∀ x, e = .r x → x.2.2.2.1.length ≤ n := by
  have h1 := (fieldsD_len e.line).2
  rw [El.fields h] at h1
  refine ⟨by omega, fun x hx => ?_⟩
  subst hx
  have : (ruleW x).length = (bodyW x.2.2.2.1).length + (if x.2.1 then 4 else 5) := by
    unfold ruleW; cases x.2.1 <;> simp <;> omega
  rw [bodyW_len] at this
  have h2 : (ruleW x).length ≤ (jn (ruleW x)).length := h1
  have h3 : (jn (ruleW x)).length ≤ n := hl
  omega
theorem El.inj {e e' : El} (h : e.ok) (h' : e'.ok) (hl : e.line.length ≤ 5000) (he : e.line = e'.line) : e = e' := by
  have hw : e.ws = e'.ws := by rw [← El.fields h, ← El.fields h', he]
  have h1 := add_ok h (b := ([], [], [])) ⟨by simp, by simp, by simp⟩ (fun x hx => (El.short h hl).2 x hx)
  have h2 := add_ok h' (b := ([], [], [])) ⟨by simp, by simp, by simp⟩ (fun x hx => (El.short h' (by rw [← he]; exact hl)).2 x hx)
  rw [hw, h2] at h1
  simp only [Option.some.injEq, Prod.mk.injEq] at h1
  obtain ⟨hk, _, _, _, ha⟩ := h1
  cases e with
  | p x => cases e' with
    | p y => have h := congrArg (fun b : T_Base => b.1) ha; simp only [El.add, List.nil_append, List.cons.injEq, and_true] at h; rw [h]
    | r y => simp [El.kind] at hk
    | t y => simp [El.kind] at hk
  | r x => cases e' with
    | p y => simp [El.kind] at hk
    | r y => have h := congrArg (fun b : T_Base => b.2.1) ha; simp only [El.add, List.nil_append, List.cons.injEq, and_true] at h; rw [h]
    | t y => simp [El.kind] at hk
  | t x => cases e' with
    | p y => simp [El.kind] at hk
    | r y => simp [El.kind] at hk
    | t y => have h := congrArg (fun b : T_Base => b.2.2) ha; simp only [El.add, List.nil_append, List.cons.injEq, and_true] at h; rw [h]
noncomputable def parseGo : Nat → Str → Int → Int → T_Base → T_Base ⊕ Int
  | 0, _, _, _, b => .inl b
  | f + 1, s, last, n, b => if s = [] then .inl b else match elOf (cut1 s).1 with
    | some e => if (cut1 s).2.2 = true ∧ last ≤ e.kind then parseGo f (cut1 s).2.1 e.kind (n + 1) (e.add b) else .inr n
    | none => .inr n
abbrev noB : T_Base := (([] : List T_Premise), ([] : List T_Rule), ([] : List T_Promotion))
def endP : T_Base ⊕ Int → T_Base ⊕ (T_Base × Int × Int)
  | .inl b => .inl b
  | .inr n => .inr (noB, n, 3)
theorem El.kind_pos (e : El) : 1 ≤ e.kind := by cases e <;> simp [El.kind]
theorem parse_loop : ∀ (f : Nat) (s : Str) (last n : Int) (b : T_Base), s.length ≤ f → s.length ≤ 4096 → 1 ≤ last → 1 ≤ n → n + s.length ≤ 6000 → b.1.length + s.length ≤ 9000 → b.2.1.length + s.length ≤ 9000 → b.2.2.length + s.length ≤ 9000 →
    loop m_rulebase_Parse_L1 (s, last, n, b.1, b.2.1, b.2.2) = some (endP (parseGo f s last n b))
  | 0, s, last, n, b, hf, _, _, _, _, _, _, _ => by
    obtain rfl : s = [] := List.length_eq_zero_iff.1 (by omega)
    exact loop_rt rfl
  | f + 1, s, last, n, b, hf, h4, hla, hn, hns, hb1, hb2, hb3 => by
    unfold parseGo
    by_cases hs : s = []
    · subst hs
      exact loop_rt rfl
    · rw [if_neg hs]
      have hne : (!(s == [])) = true := by simpa using hs
      have hcl := cut1_len s
      have hless := cut1_less hs
      have hfl := fieldsD_len (cut1 s).1
      have hsh : Sh (Lib.fieldsD (cut1 s).1) := fun w hw => by
        have : w.length ≤ ((Lib.fieldsD (cut1 s).1).map List.length).sum := le_sum hw
        omega
      have hff : m_strings_Fields (cut1 s).1 = some (Lib.fieldsD (cut1 s).1) := by
        unfold m_strings_Fields fieldsM
        rw [if_pos (by omega)]
      have hbs : BSh b := ⟨by omega, by omega, by omega⟩
      cases hx : elOf (cut1 s).1 with
      | some e =>
        obtain ⟨ho, hl⟩ := elOf_some hx
        have hadd := add_ok ho hbs (fun x hx => (El.short ho (n := 5000) (by rw [hl]; omega)).2 x hx)
        have hwf : Lib.fieldsD (cut1 s).1 = e.ws := by rw [← hl]; exact El.fields ho
        have hB : m_rulebase_Parse_L1 (s, last, n, b.1, b.2.1, b.2.2) = if (cut1 s).2.2 = true ∧ last ≤ e.kind then some (.inl ((cut1 s).2.1, e.kind, n + 1, (e.add b).1, (e.add b).2.1, (e.add b).2.2)) else some (.inr (.inr (noB, n, 3))) := by
          unfold m_rulebase_Parse_L1
          simp only [hne, if_true, cut_ok (show s.length < 1000000 by omega), Option.bind_some, hff, hwf]
          have : ((b.1, b.2.1, b.2.2) : T_Base) = b := rfl
          rw [this, hadd]
          simp only [Option.bind_some]
          have e1 : (!(e.line == (cut1 s).1)) = false := by rw [hl]; simp
          have e2 : decide ((0 : Int) < len ([] : List Str)) = false := rfl
          have hw : w64 (n + 1) = n + 1 := w64_id (by omega) (by omega)
          simp only [e1, e2, Bool.false_or, hw]
          by_cases hc : (cut1 s).2.2 = true ∧ last ≤ e.kind
          · have e3 : decide (e.kind < last) = false := decide_eq_false (by omega)
            rw [if_pos hc, e3, hc.1]
            rfl
          · rw [if_neg hc]
            have e3 : ((!(cut1 s).2.2) || decide (e.kind < last)) = true := by
              cases h1 : (cut1 s).2.2 with
              | false => rfl
              | true =>
                rw [h1] at hc
                have : e.kind < last := by simp at hc; omega
                simpa using this
            rw [e3]
            rfl
        simp only
        by_cases hc : (cut1 s).2.2 = true ∧ last ≤ e.kind
        · rw [if_pos hc] at hB ⊢
          rw [loop_nx hB]
          have hk := e.kind_pos
          have ha1 : (e.add b).1.length ≤ b.1.length + 1 ∧ (e.add b).2.1.length ≤ b.2.1.length + 1 ∧ (e.add b).2.2.length ≤ b.2.2.length + 1 := by
            cases e <;> simp [El.add]
          exact parse_loop f (cut1 s).2.1 e.kind (n + 1) (e.add b) (by omega) (by omega) hk (by omega) (by omega) (by omega) (by omega) (by omega)
        · rw [if_neg hc] at hB ⊢
          exact loop_rt hB
      | none =>
        simp only
        have hno := elOf_none hx
        obtain ⟨k, t, r, bad, b', hadd, himp⟩ := add_any hsh (by omega) hbs
        apply loop_rt
        unfold m_rulebase_Parse_L1
        simp only [hne, if_true, cut_ok (show s.length < 1000000 by omega), Option.bind_some, hff]
        have : ((b.1, b.2.1, b.2.2) : T_Base) = b := rfl
        rw [this, hadd]
        simp only [Option.bind_some]
        have hcond : ((!(cut1 s).2.2) || (bad || ((decide ((0 : Int) < len r)) || ((!(t == (cut1 s).1)) || (decide (k < last)))))) = true := by
          cases hbad : bad with
          | true => simp
          | false =>
            by_cases hk : k < last
            · simp [hk]
            · obtain ⟨e, ho, ht, _, _⟩ := himp hbad (by omega)
              have : t ≠ (cut1 s).1 := fun he => hno ⟨e, ho, ht ▸ he⟩
              have : (t == (cut1 s).1) = false := beq_false_of_ne this
              simp [this]
        rw [hcond]
        rfl
/-- the answer -/
noncomputable def parseS (s : Str) : T_Base × Int × Int :=
  if 4096 < s.length then (noB, 0, 2) else match parseGo s.length s 1 1 noB with
    | .inl b => if validS b ≠ 0 then (noB, 0, validS b) else (b, 0, 0)
    | .inr n => (noB, n, 3)
theorem add_cnt {e : El} {b : T_Base} {n : Nat} (hl : ∀ x, e = .r x → x.2.2.2.1.length ≤ n) (h : ∀ r ∈ b.2.1, r.2.2.2.1.length ≤ n) : ∀ r ∈ (e.add b).2.1, r.2.2.2.1.length ≤ n := by
  cases e with
  | p x => exact h
  | t x => exact h
  | r x =>
    intro r hr
    rcases List.mem_append.1 hr with hr | hr
    · exact h r hr
    · simp at hr; subst hr; exact hl r rfl
theorem parseGo_cnt : ∀ (f : Nat) (s : Str) (last n : Int) (b b' : T_Base), s.length ≤ 5000 → (∀ r ∈ b.2.1, r.2.2.2.1.length ≤ 5000) → parseGo f s last n b = .inl b' →
    b'.1.length ≤ b.1.length + f ∧ b'.2.1.length ≤ b.2.1.length + f ∧ b'.2.2.length ≤ b.2.2.length + f ∧ ∀ r ∈ b'.2.1, r.2.2.2.1.length ≤ 5000
  | 0, s, last, n, b, b', _, h, he => by cases he; exact ⟨by omega, by omega, by omega, h⟩
  | f + 1, s, last, n, b, b', hs5, h, he => by
    unfold parseGo at he
    split at he
    · cases he; exact ⟨by omega, by omega, by omega, h⟩
    · rename_i hs
      have hcl := cut1_len s
      have hless := cut1_less hs
      split at he
      · rename_i e hx
        split at he
        · obtain ⟨ho, hl⟩ := elOf_some hx
          obtain ⟨h1, h2, h3, h4⟩ := parseGo_cnt f _ _ _ _ b' (by omega) (add_cnt (fun x hx => (El.short ho (n := 5000) (by rw [hl]; omega)).2 x hx) h) he
          have ha1 : (e.add b).1.length ≤ b.1.length + 1 ∧ (e.add b).2.1.length ≤ b.2.1.length + 1 ∧ (e.add b).2.2.length ≤ b.2.2.length + 1 := by
            cases e <;> simp [El.add]
          exact ⟨by omega, by omega, by omega, h4⟩
        · cases he
      · cases he
theorem rb_Parse (s : Str) : m_rulebase_Parse s = some (parseS s) := by
  unfold m_rulebase_Parse parseS
  by_cases h4 : 4096 < s.length
  · have : decide ((4096 : Int) < len s) = true := decide_eq_true (show (4096 : Int) < (s.length : Int) by omega)
    rw [if_pos h4, this]
    rfl
  · have : decide ((4096 : Int) < len s) = false := decide_eq_false (show ¬ (4096 : Int) < (s.length : Int) by omega)
    rw [if_neg h4, this]
    simp only [Bool.false_eq_true, if_false]
    have hp := parse_loop s.length s 1 1 noB (Nat.le_refl _) (by omega) (by omega) (by omega) (by omega) (by simp; omega) (by simp; omega) (by simp; omega)
    have e0 : (s, (1 : Int), (1 : Int), ([] : List T_Premise), ([] : List T_Rule), ([] : List T_Promotion)) = (s, 1, 1, noB.1, noB.2.1, noB.2.2) := rfl
    rw [e0, hp]
    cases hg : parseGo s.length s 1 1 noB with
    | inr n => rfl
    | inl b =>
      obtain ⟨h1, h2, h3, h5⟩ := parseGo_cnt _ _ _ _ _ _ (by omega) (by simp) hg
      simp only [List.length_nil, Nat.zero_add] at h1 h2 h3
      have hc : Cnt b := ⟨by omega, by omega, by omega, fun r hr => by have := h5 r hr; omega⟩
      simp only [endP, seqE]
      have : ((b.1, b.2.1, b.2.2) : T_Base) = b := rfl
      simp only [this, rb_Validate hc, Option.bind_some]
      by_cases hv : validS b = 0
      · simp [hv]
      · have : (validS b != 0) = true := by simpa using hv
        simp [this, hv]
end
section
theorem txl_len {α : Type} (g : α → Str) (c : Nat) : ∀ l : List α, (∀ x ∈ l, (g x).length ≤ c) → (l.flatMap fun x => g x ++ [10]).length ≤ (c + 1) * l.length
  | [], _ => by simp
  | x :: l, h => by
    have h1 := h x (by simp)
    have h2 := txl_len g c l fun y hy => h y (by simp [hy])
    simp only [List.flatMap_cons, List.length_append, List.length_cons, List.length_nil, Nat.mul_add] at h2 ⊢
    omega
theorem okB_parts {b : T_Base} (hV : ValidB b) : (∀ p ∈ b.1, okP p) ∧ (∀ r ∈ b.2.1, okR r ∧ r.2.2.2.1.length ≤ 4) ∧ ∀ p ∈ b.2.2, okT p := by
  have hR : ∀ r ∈ b.2.1, okR r ∧ r.2.2.2.1.length ≤ 4 := fun r hr => okR_of (hV.rule r hr)
  exact ⟨fun p hp => okP_of (hV.prem p hp), hR, fun p hp => okT_of (hV.prom p hp) (fun hf => by
    obtain ⟨k, r, _, h2, h3, _⟩ := fidx_at hf
    have : r.1 = p.1 := by simpa using h3
    rw [← this]
    exact (hR r (List.mem_of_getElem? h2)).1.1)⟩
theorem fmt_short {b : T_Base} (hV : ValidB b) : (fmtT b).length ≤ 4000 := by
  obtain ⟨hP, hR, hT⟩ := okB_parts hV
  have h1 := txl_len (fun p => jn (premW p)) 42 b.1 (fun p hp => by
    have h := hP p hp
    have h1 := jn_len (premW p)
    have hl := litText_len p.1
    have hk := kindW_len p.2.1
    have hs : p.2.2.2.length ≤ 12 := by
      rcases h.2.2.2.2.2 with h | h
      · simp [h]
      · exact (vName_len h).2
    have : ((premW p).map List.length).sum + (premW p).length ≤ 42 := by
      unfold premW
      split <;> split <;> simp [dgt, fromW] <;> omega
    show (jn (premW p)).length ≤ 42
    omega)
  have h2 := txl_len (fun r => jn (ruleW r)) 100 b.2.1 (fun r hr => by
    obtain ⟨h, hb⟩ := hR r hr
    have h1 := jn_len (ruleW r)
    have hl := litText_len r.2.2.2.2
    have hn := (vName_len h.1).2
    have hs := bodyW_sum r.2.2.2.1
    have hbl := bodyW_len r.2.2.2.1
    have : ((ruleW r).map List.length).sum + (ruleW r).length ≤ 100 := by
      unfold ruleW
      cases r.2.1 <;> simp [strictW, ruleWd, arrowW, dgt, hbl] <;> omega
    show (jn (ruleW r)).length ≤ 100
    omega)
  have h3 := txl_len (fun p => jn (promW p)) 50 b.2.2 (fun p hp => by
    have h := hT p hp
    have h1 := jn_len (promW p)
    have hl := litText_len p.2.2
    have hn := (vName_len h.1).2
    have : ((promW p).map List.length).sum + (promW p).length ≤ 50 := by
      unfold promW
      simp [promoteW, ifW, dgt]; omega
    show (jn (promW p)).length ≤ 50
    omega)
  have := hV.np
  have := hV.nr
  have := hV.nm
  unfold fmtT
  simp only [List.length_append]
  omega
open Classical in
theorem cmp_loop {α ρ : Type} {B : Int → Option (Int ⊕ ρ)} (l m : List α) (hlen : l.length = m.length) (yes no : ρ)
    (hB : ∀ (i : Nat) x y, l[i]? = some x → m[i]? = some y → B (i : Int) = some (if x = y then .inl ((i + 1 : Nat) : Int) else .inr no)) (he : B (l.length : Int) = some (.inr yes)) :
    loop B 0 = some (if l = m then yes else no) := by
  have h := loop_nat (B := B) (fun i => l.length - i.toNat) (fun i => ∃ k : Nat, i = k ∧ k ≤ l.length ∧ l.take k = m.take k) (fun r => r = if l = m then yes else no) ?_ 0 ⟨0, rfl, by omega, by simp⟩
  · obtain ⟨r, h1, rfl⟩ := h
    exact h1
  · rintro i ⟨k, rfl, hk, ht⟩
    by_cases hkl : k = l.length
    · subst hkl
      refine .inr ⟨yes, he, ?_⟩
      rw [List.take_of_length_le (Nat.le_refl _), List.take_of_length_le (by omega)] at ht
      rw [if_pos ht]
    · have hx : l[k]? = some l[k] := List.getElem?_eq_getElem (by omega)
      have hy : m[k]? = some m[k] := List.getElem?_eq_getElem (by omega)
      have := hB k _ _ hx hy
      by_cases hxy : l[k] = m[k]
      · rw [if_pos hxy] at this
        refine .inl ⟨_, this, ⟨k + 1, rfl, by omega, ?_⟩, by simp; omega⟩
        rw [List.take_add_one, List.take_add_one, ht, hx, hy, hxy]
      · rw [if_neg hxy] at this
        refine .inr ⟨no, this, ?_⟩
        rw [if_neg fun e => hxy (by subst e; rfl)]
open Classical in
theorem ref_SameB {a : T_Base} (b : T_Base) (h : Cnt a) : m_ref05_Same a b = some (decide (a = b)) := by
  unfold m_ref05_Same
  by_cases hl : a.1.length = b.1.length ∧ a.2.1.length = b.2.1.length ∧ a.2.2.length = b.2.2.length
  · obtain ⟨l1, l2, l3⟩ := hl
    have e0 : ((len a.1) != (len b.1) || ((len a.2.1) != (len b.2.1) || (len a.2.2) != (len b.2.2))) = false := by simp [len, l1, l2, l3]
    rw [e0]
    simp only [Bool.false_eq_true, if_false]
    have h1 := h.p
    have h2 := h.r
    have h3 := h.m
    rw [cmp_loop a.1 b.1 l1 (.inl ()) (.inr false) (fun i x y hx hy => by
      have hi := (List.getElem?_eq_some_iff.1 hx).1
      unfold m_ref05_Same_L1
      have : decide ((i : Int) < len a.1) = true := decide_eq_true (show (i : Int) < (a.1.length : Int) by omega)
      simp only [this, if_true, idx_nat, hx, hy, Option.bind_some, w64_succ i (by omega)]
      by_cases hxy : x = y <;> simp [hxy]) (by unfold m_ref05_Same_L1; simp)]
    rw [cmp_loop a.2.1 b.2.1 l2 (.inl ()) (.inr false) (fun i x y hx hy => by
      have hi := (List.getElem?_eq_some_iff.1 hx).1
      have hq := h.q x (List.mem_of_getElem? hx)
      unfold m_ref05_Same_L2
      have : decide ((i : Int) < len a.2.1) = true := decide_eq_true (show (i : Int) < (a.2.1.length : Int) by omega)
      simp only [this, if_true, idx_nat, hx, hy, Option.bind_some, w64_succ i (by omega)]
      obtain ⟨x1, x2, x3, x4, x5⟩ := x
      obtain ⟨y1, y2, y3, y4, y5⟩ := y
      simp only at hq
      rw [ref_same x4 y4 (by omega)]
      by_cases c1 : x1 = y1 <;> by_cases c2 : x2 = y2 <;> by_cases c3 : x3 = y3 <;> by_cases c4 : x4 = y4 <;> by_cases c5 : x5 = y5 <;> simp [c1, c2, c3, c4, c5]) (by unfold m_ref05_Same_L2; simp)]
    rw [cmp_loop a.2.2 b.2.2 l3 true false (fun i x y hx hy => by
      have hi := (List.getElem?_eq_some_iff.1 hx).1
      unfold m_ref05_Same_L3
      have : decide ((i : Int) < len a.2.2) = true := decide_eq_true (show (i : Int) < (a.2.2.length : Int) by omega)
      simp only [this, if_true, idx_nat, hx, hy, Option.bind_some, w64_succ i (by omega)]
      by_cases hxy : x = y <;> simp [hxy]) (by unfold m_ref05_Same_L3; simp)]
    obtain ⟨a1, a2, a3⟩ := a
    obtain ⟨b1, b2, b3⟩ := b
    by_cases c1 : a1 = b1 <;> by_cases c2 : a2 = b2 <;> by_cases c3 : a3 = b3 <;> simp [c1, c2, c3, seqE]
  · have e0 : ((len a.1) != (len b.1) || ((len a.2.1) != (len b.2.1) || (len a.2.2) != (len b.2.2))) = true := by
      by_cases l1 : a.1.length = b.1.length
      · by_cases l2 : a.2.1.length = b.2.1.length
        · have l3 : a.2.2.length ≠ b.2.2.length := fun l3 => hl ⟨l1, l2, l3⟩
          have : ((len a.2.2) != (len b.2.2)) = true := bne_iff_ne.2 (show (a.2.2.length : Int) ≠ b.2.2.length by omega)
          simp [this]
        · have : ((len a.2.1) != (len b.2.1)) = true := bne_iff_ne.2 (show (a.2.1.length : Int) ≠ b.2.1.length by omega)
          simp [this]
      · have : ((len a.1) != (len b.1)) = true := bne_iff_ne.2 (show (a.1.length : Int) ≠ b.1.length by omega)
        simp [this]
    rw [e0, if_pos rfl]
    have : a ≠ b := by rintro rfl; exact hl ⟨rfl, rfl, rfl⟩
    simp [this]
end
section
theorem jn_flat (w : Str) : ∀ l : List Str, jn (w :: l) = w ++ l.flatMap fun x => 32 :: x
  | [] => by rw [jn_one]; simp
  | x :: l => by rw [jn_cons, jn_flat x l]; simp
theorem ref_digit {n : Int} (h0 : 0 ≤ n) (h9 : n ≤ 9) : m_ref05_digit n = some (dgt n) := by
  obtain ⟨k, rfl⟩ : ∃ k : Nat, n = k := ⟨n.toNat, by omega⟩
  have hk : k < 10 := by omega
  match k, hk with
  | 0, _ | 1, _ | 2, _ | 3, _ | 4, _ | 5, _ | 6, _ | 7, _ | 8, _ | 9, _ => rfl
theorem ref_source {p : T_Premise} (hs : p.2.2.2.length ≤ 1000000) : m_ref05_source p = some (if p.2.2.2 = [] then [] else 32 :: fromW ++ 32 :: p.2.2.2) := by
  unfold m_ref05_source
  by_cases h : p.2.2.2 = []
  · simp [h]
  · have : (p.2.2.2 == []) = false := beq_false_of_ne h
    simp only [this, Bool.false_eq_true, if_false, if_neg h]
    rw [cat_ok (by simp; omega)]
    rfl
theorem ref_premLine {p : T_Premise} (h : okP p) : m_ref05_PremiseLine p = some (jn (premW p)) := by
  obtain ⟨x, k, n, s⟩ := p
  obtain ⟨hk, hx, h0, h9, hkn, hs⟩ := h
  simp only at hk hx h0 h9 hkn hs
  have hl := litText_len x
  have hsl : s.length ≤ 12 := by
    rcases hs with h | h
    · simp [h]
    · exact (vName_len h).2
  have hsrc := ref_source (p := (x, k, n, s)) (by simp; omega)
  have hsr : (if s = [] then ([] : Str) else 32 :: fromW ++ 32 :: s).length ≤ 20 := by split <;> simp [fromW]; omega
  unfold m_ref05_PremiseLine
  rw [ref_format]
  simp only [Option.bind_some, hsrc]
  rcases hk with rfl | rfl | rfl
  · simp only [beq_self_eq_true, if_true]
    rw [cat_ok (by simp; omega)]
    simp only [Option.bind_some]
    rw [cat_ok (by simp only [List.length_append, List.length_cons, List.length_nil]; omega)]
    simp only [Option.bind_some, premW, List.cons_append, List.nil_append]
    rw [jn_flat]
    by_cases hs0 : s = [] <;> simp [hs0, kindW]
  · have e1 : ((2 : Int) == 1) = false := rfl
    simp only [e1, Bool.false_eq_true, if_false, beq_self_eq_true, if_true, ref_digit h0 h9]
    rw [cat_ok (by simp; omega)]
    simp only [Option.bind_some]
    rw [cat_ok (by simp; omega)]
    simp only [Option.bind_some]
    rw [cat_ok (by simp [dgt]; omega)]
    simp only [Option.bind_some]
    rw [cat_ok (by simp only [List.length_append, List.length_cons, List.length_nil, dgt]; omega)]
    simp only [Option.bind_some, premW, List.cons_append, List.nil_append]
    rw [jn_flat]
    by_cases hs0 : s = [] <;> simp [hs0, kindW]
  · have e1 : ((3 : Int) == 1) = false := rfl
    have e2 : ((3 : Int) == 2) = false := rfl
    simp only [e1, e2, Bool.false_eq_true, if_false]
    rw [cat_ok (by simp; omega)]
    simp only [Option.bind_some]
    rw [cat_ok (by simp only [List.length_append, List.length_cons, List.length_nil]; omega)]
    simp only [Option.bind_some, premW, List.cons_append, List.nil_append]
    rw [jn_flat]
    by_cases hs0 : s = [] <;> simp [hs0, kindW]
theorem ref_promLine {p : T_Promotion} (h0 : 0 ≤ p.2.1) (h9 : p.2.1 ≤ 9) (hn : p.1.length ≤ 1000000) : m_ref05_PromotionLine p = some (jn (promW p)) := by
  have hl := litText_len p.2.2
  unfold m_ref05_PromotionLine promW
  rw [cat_ok (by simp; omega)]
  simp only [Option.bind_some]
  rw [cat_ok (by simp; omega)]
  simp only [Option.bind_some, ref_digit h0 h9]
  rw [cat_ok (by simp [dgt]; omega)]
  simp only [Option.bind_some]
  rw [cat_ok (by simp [dgt]; omega)]
  simp only [Option.bind_some, ref_format]
  rw [cat_ok (by simp [dgt]; omega)]
  simp [jn_cons, jn_one, promoteW, ifW]
/-- the body as the document writes it -/
def bodyR (l : List T_Literal) (i : Nat) : Str := (l.take i).zipIdx.flatMap fun x => if 0 < x.2 then 44 :: 32 :: litText x.1 else 32 :: litText x.1
theorem bodyR_all : ∀ l : List T_Literal, bodyR l l.length = (bodyW l).flatMap fun w => 32 :: w := by
  have key : ∀ (l : List T_Literal) (k : Nat), 0 < k → ((l.zipIdx k).flatMap fun x => if 0 < x.2 then 44 :: 32 :: litText x.1 else 32 :: litText x.1) = match l with
      | [] => []
      | _ :: _ => 44 :: ((bodyW l).flatMap fun w => 32 :: w) := by
    intro l
    induction l with
    | nil => intro k _; rfl
    | cons x l ih =>
      intro k hk
      rw [List.zipIdx_cons, List.flatMap_cons, ih (k + 1) (by omega), if_pos hk]
      cases l with
      | nil => simp [bodyW]
      | cons y l => simp [bodyW]
  intro l
  unfold bodyR
  rw [List.take_length]
  cases l with
  | nil => rfl
  | cons x l =>
    rw [List.zipIdx_cons, List.flatMap_cons, key l 1 (by omega)]
    cases l with
    | nil => simp [bodyW]
    | cons y l => simp [bodyW]
theorem bodyR_succ {l : List T_Literal} {i : Nat} {x : T_Literal} (hx : l[i]? = some x) : bodyR l (i + 1) = bodyR l i ++ if 0 < i then 44 :: 32 :: litText x else 32 :: litText x := by
  have hi := (List.getElem?_eq_some_iff.1 hx).1
  unfold bodyR
  rw [List.take_add_one, hx, Option.toList_some, List.zipIdx_append, List.flatMap_append]
  congr 1
  rw [List.length_take, Nat.min_eq_left (by omega)]
  simp
theorem bodyR_len (l : List T_Literal) (i : Nat) (hi : i ≤ l.length) : (bodyR l i).length ≤ 15 * i := by
  induction i with
  | zero => simp [bodyR]
  | succ i ih =>
    have hx : l[i]? = some l[i] := List.getElem?_eq_getElem (by omega)
    have := litText_len l[i]
    have := ih (by omega)
    rw [bodyR_succ hx, List.length_append]
    split <;> simp only [List.length_cons] <;> omega
theorem ref_ruleLine {r : T_Rule} (h0 : 0 ≤ r.2.2.1) (h9 : r.2.2.1 ≤ 9) (hn : r.1.length ≤ 1000000) (hb : r.2.2.2.1.length ≤ 10000) : m_ref05_RuleLine r = some (jn (ruleW r)) := by
  have hl := litText_len r.2.2.2.2
  have hbl := bodyR_len r.2.2.2.1 r.2.2.2.1.length (Nat.le_refl _)
  have hloop : loop (m_ref05_RuleLine_L1 r) ([], 0) = some (bodyR r.2.2.2.1 r.2.2.2.1.length) := by
    have h := loop_forI (B := m_ref05_RuleLine_L1 r) (fun i (s : Str) => (s, (i : Int))) r.2.2.2.1 (fun i s => s = bodyR r.2.2.2.1 i) (fun o => o = bodyR r.2.2.2.1 r.2.2.2.1.length) ?_ ?_ [] rfl
    · obtain ⟨o, h1, rfl⟩ := h
      exact h1
    · intro i x s hx hs
      subst hs
      have hi := (List.getElem?_eq_some_iff.1 hx).1
      have hli := bodyR_len r.2.2.2.1 i (by omega)
      have hlx := litText_len x
      refine .inl ⟨_, ?_, rfl⟩
      unfold m_ref05_RuleLine_L1
      have h1 : decide ((i : Int) < len r.2.2.2.1) = true := decide_eq_true (show (i : Int) < (r.2.2.2.1.length : Int) by omega)
      simp only [h1, if_true, bodyR_succ hx]
      by_cases hi0 : 0 < i
      · have h2 : decide ((0 : Int) < i) = true := decide_eq_true (by omega)
        simp only [h2, if_true, if_pos hi0]
        rw [cat_ok (by simp only [List.length_cons, List.length_nil]; omega)]
        simp only [Option.bind_some]
        rw [cat_ok (by simp only [List.length_append, List.length_cons, List.length_nil]; omega)]
        simp only [Option.bind_some, idx_nat, hx, ref_format]
        rw [cat_ok (by simp only [List.length_append, List.length_cons, List.length_nil]; omega), w64_succ i (by omega)]
        simp
      · have h2 : decide ((0 : Int) < i) = false := decide_eq_false (by omega)
        simp only [h2, Bool.false_eq_true, if_false, if_neg hi0, Option.bind_some]
        rw [cat_ok (by simp only [List.length_cons, List.length_nil]; omega)]
        simp only [Option.bind_some, idx_nat, hx, ref_format]
        rw [cat_ok (by simp only [List.length_append, List.length_cons, List.length_nil]; omega), w64_succ i (by omega)]
        simp
    · intro s hs
      subst hs
      refine ⟨_, ?_, rfl⟩
      unfold m_ref05_RuleLine_L1
      have h1 : decide ((r.2.2.2.1.length : Int) < len r.2.2.2.1) = false := decide_eq_false (show ¬ (r.2.2.2.1.length : Int) < (r.2.2.2.1.length : Int) by omega)
      simp only [h1, Bool.false_eq_true, if_false]
  unfold m_ref05_RuleLine
  rw [hloop]
  have hj : ∀ w : Str, ∀ a : List Str, jn (w :: (a ++ bodyW r.2.2.2.1 ++ [arrowW r.2.1, litText r.2.2.2.2])) = w ++ ((a.flatMap fun x => 32 :: x) ++ (bodyR r.2.2.2.1 r.2.2.2.1.length ++ (32 :: arrowW r.2.1 ++ 32 :: litText r.2.2.2.2))) := by
    intro w a
    rw [jn_flat, bodyR_all]
    simp
  simp only [Option.bind_some]
  cases hst : r.2.1 with
  | true =>
    simp only [if_true]
    rw [cat_ok (by simp; omega)]
    simp only [Option.bind_some]
    rw [cat_ok (by simp; omega)]
    simp only [Option.bind_some]
    rw [cat_ok (by simp; omega)]
    simp only [Option.bind_some]
    rw [cat_ok (by simp; omega)]
    simp only [Option.bind_some, ref_format]
    rw [cat_ok (by simp; omega)]
    have e1 : ruleW r = strictW :: ([r.1 ++ [58]] ++ bodyW r.2.2.2.1 ++ [arrowW r.2.1, litText r.2.2.2.2]) := by unfold ruleW; rw [hst]; rfl
    rw [e1, hj, hst]
    simp [strictW, arrowW]
  | false =>
    simp only [Bool.false_eq_true, if_false]
    rw [cat_ok (by simp; omega)]
    simp only [Option.bind_some]
    rw [cat_ok (by simp; omega)]
    simp only [Option.bind_some, ref_digit h0 h9]
    rw [cat_ok (by simp [dgt]; omega)]
    simp only [Option.bind_some]
    rw [cat_ok (by simp [dgt]; omega)]
    simp only [Option.bind_some]
    rw [cat_ok (by simp [dgt]; omega)]
    simp only [Option.bind_some]
    rw [cat_ok (by simp [dgt]; omega)]
    simp only [Option.bind_some, ref_format]
    rw [cat_ok (by simp [dgt]; omega)]
    have e1 : ruleW r = ruleWd :: ([r.1, dgt r.2.2.1 ++ [58]] ++ bodyW r.2.2.2.1 ++ [arrowW r.2.1, litText r.2.2.2.2]) := by unfold ruleW; rw [hst]; rfl
    rw [e1, hj, hst]
    simp [ruleWd, arrowW]
def splitB (c : UInt8) : Str → List Str
  | [] => [[]]
  | x :: r => if x = c then [] :: splitB c r else match splitB c r with
    | [] => [[x]]
    | w :: l => (x :: w) :: l
theorem splitB_ne (c : UInt8) (s : Str) : splitB c s ≠ [] := by
  cases s with
  | nil => simp [splitB]
  | cons x r =>
    unfold splitB
    split
    · simp
    · split <;> simp
theorem splitB_no {c : UInt8} : ∀ {a : Str}, c ∉ a → splitB c a = [a]
  | [], _ => rfl
  | x :: r, h => by
    have hx : x ≠ c := fun e => h (by simp [e])
    unfold splitB
    rw [if_neg hx, splitB_no fun h2 => h (by simp [h2])]
theorem splitB_app {c : UInt8} : ∀ {a : Str}, c ∉ a → ∀ r : Str, splitB c (a ++ c :: r) = a :: splitB c r
  | [], _, r => by rw [List.nil_append, splitB, if_pos rfl]
  | x :: a, h, r => by
    have hx : x ≠ c := fun e => h (by simp [e])
    rw [List.cons_append, splitB, if_neg hx, splitB_app (fun h2 => h (by simp [h2])) r]
theorem splitB_len (c : UInt8) : ∀ s : Str, (splitB c s).length ≤ s.length + 1 ∧ ∀ w ∈ splitB c s, w.length ≤ s.length
  | [] => by simp [splitB]
  | x :: r => by
    obtain ⟨h1, h2⟩ := splitB_len c r
    unfold splitB
    split
    · refine ⟨by simp; omega, fun w hw => ?_⟩
      rcases List.mem_cons.1 hw with rfl | hw
      · simp
      · have := h2 w hw; simp; omega
    · split
      · rename_i hs; exact absurd hs (splitB_ne c r)
      · rename_i w l hs
        rw [hs] at h1 h2
        refine ⟨by simp at h1 ⊢; omega, fun v hv => ?_⟩
        rcases List.mem_cons.1 hv with rfl | hv
        · have := h2 w (by simp); simp; omega
        · have := h2 v (by simp [hv]); simp; omega
theorem jn_split {ws : List Str} (h0 : ws ≠ []) (h : ∀ w ∈ ws, wd w = true) : splitB 32 (jn ws) = ws := by
  have hn : ∀ w, wd w = true → (32 : UInt8) ∉ w := fun w hw hm => by
    simp only [wd, Bool.and_eq_true, List.all_eq_true] at hw
    have h1 := (hw.2 32 hm).1
    have hs : Lib.isSp 32 = true := by decide
    rw [hs] at h1; cases h1
  induction ws with
  | nil => exact absurd rfl h0
  | cons w l ih =>
    cases l with
    | nil => rw [jn_one]; exact splitB_no (hn w (h w (by simp)))
    | cons x l =>
      rw [jn_cons, splitB_app (hn w (h w (by simp))), ih (by simp) fun y hy => h y (by simp at hy ⊢; exact .inr hy)]
theorem ref_Split {s : Str} (hs : s.length ≤ 1000000) (c : UInt8) : m_ref05_Split s (c.toNat : Int) = some (splitB c s) := by
  have h := loop_forI (B := m_ref05_Split_L1 s (c.toNat : Int)) (fun i (t : List Str × Nat) => (t.1, (t.2 : Int), (i : Int))) s
    (fun i t => t.2 ≤ i ∧ t.1.length ≤ i ∧ splitB c s = t.1 ++ splitB c (s.drop t.2) ∧ c ∉ (s.take i).drop t.2) (fun o => ∃ k : Nat, o.2 = (k : Int) ∧ k ≤ s.length ∧ o.1.length ≤ s.length ∧ splitB c s = o.1 ++ [s.drop k]) ?_ ?_ ([], 0) ⟨by simp, by simp, by simp, by simp⟩
  · obtain ⟨⟨out, fr⟩, h1, k, hk, hkl, hol, h2⟩ := h
    simp only at hk hol h2
    subst hk
    unfold m_ref05_Split
    have e0 : (([] : List Str), (0 : Int), (0 : Int)) = (([] : List Str), ((0 : Nat) : Int), ((0 : Nat) : Int)) := rfl
    rw [e0, h1]
    simp only [Option.bind_some]
    rw [sub_suf (by omega) (by omega)]
    simp only [Option.bind_some]
    rw [app_ok (by simp only [List.length_cons, List.length_nil]; omega), h2]
    rfl
  · rintro i x ⟨out, fr⟩ hx ⟨h1, h2, h3, h4⟩
    simp only at h1 h2 h3 h4
    have hi := (List.getElem?_eq_some_iff.1 hx).1
    left
    unfold m_ref05_Split_L1
    have hd : decide ((i : Int) < len s) = true := decide_eq_true (show (i : Int) < (s.length : Int) by omega)
    have hsx : sidx s (i : Int) = some (x.toNat : Int) := by rw [sidx_nat, hx]; rfl
    have htk : (s.take (i + 1)).drop fr = (s.take i).drop fr ++ [x] := by
      rw [List.take_add_one, hx, List.drop_append_of_le_length (by rw [List.length_take]; omega)]; rfl
    simp only [hd, if_true, hsx, Option.bind_some]
    by_cases hc : x = c
    · subst hc
      have hb : ((x.toNat : Int) == (x.toNat : Int)) = true := by simp
      simp only [hb, if_true]
      rw [sub_ok (by omega) (by omega) (by omega)]
      simp only [Option.bind_some, Int.toNat_natCast]
      rw [app_ok (by simp only [List.length_cons, List.length_nil]; omega)]
      simp only [Option.bind_some, w64_succ i (by omega)]
      refine ⟨(out ++ [(s.take i).drop fr], i + 1), rfl, by simp, by simp; omega, ?_, ?_⟩
      · have hdr : s.drop fr = (s.take i).drop fr ++ x :: s.drop (i + 1) := by
          have e1 : s = s.take i ++ x :: s.drop (i + 1) := by
            have := List.take_append_drop i s
            rw [List.drop_eq_getElem_cons hi] at this
            have hg : s[i] = x := by rw [List.getElem?_eq_getElem hi] at hx; exact Option.some.inj hx
            rw [hg] at this
            exact this.symm
          conv => lhs; rw [e1]
          rw [List.drop_append_of_le_length (by rw [List.length_take]; omega)]
        rw [h3, hdr, splitB_app h4]
        simp
      · simp
    · have hb : ((x.toNat : Int) == (c.toNat : Int)) = false := beq_false_of_ne (by
        intro e
        exact hc (UInt8.toNat_inj.1 (by omega)))
      simp only [hb, Bool.false_eq_true, if_false, w64_succ i (by omega)]
      refine ⟨(out, fr), rfl, by simp; omega, by simp; omega, h3, ?_⟩
      simp only
      rw [htk]
      simp only [List.mem_append, List.mem_singleton, not_or]
      exact ⟨h4, fun e => hc e.symm⟩
  · rintro ⟨out, fr⟩ ⟨h1, h2, h3, h4⟩
    simp only at h1 h2 h3 h4
    unfold m_ref05_Split_L1
    have hd : decide ((s.length : Int) < len s) = false := decide_eq_false (show ¬ (s.length : Int) < (s.length : Int) by omega)
    simp only [hd, Bool.false_eq_true, if_false]
    refine ⟨_, rfl, fr, rfl, h1, h2, ?_⟩
    rw [List.take_length] at h4
    rw [h3, splitB_no h4]
end
section
abbrev dP : T_Premise := ((false, []), 0, 0, [])
abbrev dR : T_Rule := ([], false, 0, ([] : List T_Literal), (false, []))
abbrev dT : T_Promotion := ([], 0, (false, []))
abbrev noLine : T_ref05_line := (0, dP, dR, dT)
def lineT : El → T_ref05_line
  | .p x => (1, x, dR, dT)
  | .r x => (2, dP, x, dT)
  | .t x => (3, dP, dR, x)
theorem at_nat (l : List Str) (k : Nat) : m_ref05_at l (k : Int) = some (l[k]?.getD []) := by
  unfold m_ref05_at
  by_cases h : k < l.length
  · have : (decide ((0 : Int) ≤ k) && decide ((k : Int) < len l)) = true := by
      rw [Bool.and_eq_true]; exact ⟨decide_eq_true (by omega), decide_eq_true (show (k : Int) < (l.length : Int) by omega)⟩
    rw [this, if_pos rfl, idx_nat, List.getElem?_eq_getElem h]
    rfl
  · have : (decide ((0 : Int) ≤ k) && decide ((k : Int) < len l)) = false := by
      rw [Bool.and_eq_false_iff]; exact .inr (decide_eq_false (show ¬ (k : Int) < (l.length : Int) by omega))
    rw [this, List.getElem?_eq_none (by omega)]
    rfl
theorem Sh.at {l : List Str} (h : Sh l) (k : Nat) : (l[k]?.getD []).length ≤ 5000 := by
  cases hx : l[k]? with
  | none => simp
  | some w => exact h w (List.mem_of_getElem? hx)
theorem num_any (w : Str) : ∃ n, m_ref05_number w = some n := by
  unfold m_ref05_number
  by_cases h1 : w.length = 1
  · obtain ⟨c, rfl⟩ := List.length_eq_one_iff.1 h1
    have e1 : ((len [c]) != 1) = false := rfl
    have e2 : sidx [c] 0 = some (c.toNat : Int) := rfl
    simp only [e1, Bool.false_eq_true, if_false, e2, Option.bind_some]
    split
    · simp only [Option.bind_some, if_true]; exact ⟨_, rfl⟩
    · simp only [Option.bind_some]
      split <;> exact ⟨_, rfl⟩
  · have e1 : ((len w) != 1) = true := bne_iff_ne.2 (show (w.length : Int) ≠ 1 by omega)
    rw [e1]
    exact ⟨-1, rfl⟩
theorem num_ok {n : Int} (h0 : 0 ≤ n) (h9 : n ≤ 9) : m_ref05_number (dgt n) = some n := by
  obtain ⟨k, rfl⟩ : ∃ k : Nat, n = k := ⟨n.toNat, by omega⟩
  have hk : k < 10 := by omega
  match k, hk with
  | 0, _ | 1, _ | 2, _ | 3, _ | 4, _ | 5, _ | 6, _ | 7, _ | 8, _ | 9, _ => rfl
theorem premOf_any {ln : Str} {ws : List Str} (h0 : ws ≠ []) (hs : Sh ws) (hl : ws.length ≤ 10000) : ∃ t, m_ref05_premiseOf ln ws = some t ∧ (t = noLine ∨ ∃ p, okP p ∧ jn (premW p) = ln ∧ t = lineT (.p p)) := by
  unfold m_ref05_premiseOf
  obtain ⟨w, r, rfl⟩ := List.exists_cons_of_ne_nil h0
  have hs1 : ∃ (nx : Nat) (k n : Int), ((idx (w :: r) 0).bind fun x1 => if x1 == [112, 114, 101, 109, 105, 115, 101] then (m_ref05_at (w :: r) 2).bind fun r1 => (m_ref05_number r1).bind fun r2 => some (3, 2, r2)
      else if x1 == [97, 115, 115, 117, 109, 101] then some (2, 3, 0) else some (2, 1, 0) : Option (Int × Int × Int)) = some ((nx : Int), k, n) ∧ nx ≤ 3 := by
    have e0 : idx (w :: r) 0 = some w := rfl
    rw [e0]
    simp only [Option.bind_some]
    split
    · have e1 := at_nat (w :: r) 2
      have e2 : m_ref05_at (w :: r) 2 = some ((w :: r)[2]?.getD []) := e1
      rw [e2]
      obtain ⟨n, hn⟩ := num_any ((w :: r)[2]?.getD [])
      simp only [Option.bind_some, hn]
      exact ⟨3, 2, n, rfl, by omega⟩
    · split
      · exact ⟨2, 3, 0, rfl, by omega⟩
      · exact ⟨2, 1, 0, rfl, by omega⟩
  obtain ⟨nx, k, n, e1, hnx⟩ := hs1
  rw [e1]
  have e2 : m_ref05_at (w :: r) 1 = some ((w :: r)[1]?.getD []) := at_nat (w :: r) 1
  simp only [Option.bind_some, e2, ref_parse, at_nat]
  have hs2 : ∃ s, (if ((w :: r)[nx]?.getD []) == [102, 114, 111, 109] then (m_ref05_at (w :: r) (w64 ((nx : Int) + 1))).bind fun r6 => some r6 else some [] : Option Str) = some s := by
    split
    · rw [w64_succ nx (by omega), at_nat]; exact ⟨_, rfl⟩
    · exact ⟨_, rfl⟩
  obtain ⟨s, e3⟩ := hs2
  rw [e3]
  simp only [Option.bind_some]
  generalize hx : litParse ((w :: r)[1]?.getD []) = x
  by_cases hp : (x.2 != 0) = true
  · simp only [hp, if_true, Option.bind_some]
    exact ⟨_, rfl, .inl rfl⟩
  · simp only [hp, ref_premise, Option.bind_some]
    by_cases hq : premE (x.1, k, n, s) = 0
    · have ho := okP_of hq
      have : (premE (x.1, k, n, s) != 0) = false := by simp [hq]
      simp only [this, Bool.false_eq_true, if_false, ref_premLine ho, Option.bind_some]
      by_cases he : jn (premW (x.1, k, n, s)) = ln
      · have : (!(jn (premW (x.1, k, n, s)) == ln)) = false := by simp [he]
        simp only [this, Bool.false_eq_true, if_false]
        exact ⟨_, rfl, .inr ⟨_, ho, he, rfl⟩⟩
      · have : (!(jn (premW (x.1, k, n, s)) == ln)) = true := by simpa using he
        simp only [this, if_true]
        exact ⟨_, rfl, .inl rfl⟩
    · have : (premE (x.1, k, n, s) != 0) = true := by simpa using hq
      simp only [this, if_true]
      exact ⟨_, rfl, .inl rfl⟩
theorem premOf_ok {p : T_Premise} (h : okP p) : m_ref05_premiseOf (jn (premW p)) (premW p) = some (lineT (.p p)) := by
  have hE := premE_of h
  have hL := ref_premLine h
  obtain ⟨x, k, n, s⟩ := p
  obtain ⟨hk, hx, h0, h9, hkn, hs⟩ := h
  simp only at hk hx h0 h9 hkn hs
  have fin : ∀ (nx : Nat), nx ≤ 3 → (premW (x, k, n, s))[1]?.getD [] = litText x → (premW (x, k, n, s))[nx]?.getD [] = (if s = [] then [] else fromW) → (premW (x, k, n, s))[nx + 1]?.getD [] = s →
      ((m_ref05_at (premW (x, k, n, s)) 1).bind fun r3 => (m_ref01_Parse r3).bind fun r4 =>
        ((m_ref05_at (premW (x, k, n, s)) (nx : Int)).bind fun r5 => if r5 == [102, 114, 111, 109] then (m_ref05_at (premW (x, k, n, s)) (w64 ((nx : Int) + 1))).bind fun r6 => some r6 else some [] : Option Str).bind fun s2 =>
        (if r4.2 != 0 then some true else (m_ref05_premise (r4.1, k, n, s2)).bind fun r7 => if r7 != 0 then some true else (m_ref05_PremiseLine (r4.1, k, n, s2)).bind fun r8 => some (!(r8 == jn (premW (x, k, n, s)))) : Option Bool).bind fun s3 =>
        if s3 then some (0, ((false, []), 0, 0, []), ([], false, 0, ([] : List T_Literal), (false, [])), ([], 0, (false, []))) else some (1, (r4.1, k, n, s2), ([], false, 0, ([] : List T_Literal), (false, [])), ([], 0, (false, [])))) = some (lineT (.p (x, k, n, s))) := by
    intro nx hnx q1 q2 q3
    have e2 : m_ref05_at (premW (x, k, n, s)) 1 = some ((premW (x, k, n, s))[1]?.getD []) := at_nat _ 1
    rw [e2, q1]
    simp only [Option.bind_some, ref_parse, litParse_text hx, at_nat, q2, w64_succ nx (by omega), q3]
    have e3 : (if (if s = [] then ([] : Str) else fromW) == [102, 114, 111, 109] then some s else some [] : Option Str) = some s := by
      by_cases hs0 : s = []
      · subst hs0; rfl
      · rw [if_neg hs0]; rfl
    simp only [e3, Option.bind_some, bne_self_eq_false, Bool.false_eq_true, if_false, ref_premise, hE, hL, beq_self_eq_true, Bool.not_true]
    rfl
  unfold m_ref05_premiseOf
  have e0 : idx (premW (x, k, n, s)) 0 = some (kindW k) := rfl
  rw [e0]
  simp only [Option.bind_some]
  rcases hk with rfl | rfl | rfl
  · obtain rfl : n = 0 := hkn.resolve_left (by omega)
    have k1 : (kindW 1 == [112, 114, 101, 109, 105, 115, 101]) = false := rfl
    have k2 : (kindW 1 == [97, 115, 115, 117, 109, 101]) = false := rfl
    simp only [k1, k2, Bool.false_eq_true, if_false, Option.bind_some]
    exact fin 2 (by omega) rfl (by by_cases hs0 : s = [] <;> simp [premW, hs0]) (by by_cases hs0 : s = [] <;> simp [premW, hs0])
  · have k1 : (kindW 2 == [112, 114, 101, 109, 105, 115, 101]) = true := rfl
    have e1 : m_ref05_at (premW (x, 2, n, s)) 2 = some (dgt n) := at_nat _ 2
    simp only [k1, if_true, e1, Option.bind_some, num_ok h0 h9]
    exact fin 3 (by omega) rfl (by by_cases hs0 : s = [] <;> simp [premW, hs0]) (by by_cases hs0 : s = [] <;> simp [premW, hs0])
  · obtain rfl : n = 0 := hkn.resolve_left (by omega)
    have k1 : (kindW 3 == [112, 114, 101, 109, 105, 115, 101]) = false := rfl
    have k2 : (kindW 3 == [97, 115, 115, 117, 109, 101]) = true := rfl
    simp only [k1, k2, Bool.false_eq_true, if_false, if_true, Option.bind_some]
    exact fin 2 (by omega) rfl (by by_cases hs0 : s = [] <;> simp [premW, hs0]) (by by_cases hs0 : s = [] <;> simp [premW, hs0])
theorem promOf_any {ln : Str} {ws : List Str} (hs : Sh ws) : ∃ t, m_ref05_promotionOf ln ws = some t ∧ (t = noLine ∨ ∃ p, okT p ∧ jn (promW p) = ln ∧ t = lineT (.t p)) := by
  unfold m_ref05_promotionOf
  have a4 : m_ref05_at ws 4 = some (ws[4]?.getD []) := at_nat ws 4
  have a1 : m_ref05_at ws 1 = some (ws[1]?.getD []) := at_nat ws 1
  have a2 : m_ref05_at ws 2 = some (ws[2]?.getD []) := at_nat ws 2
  obtain ⟨n, hn⟩ := num_any (ws[2]?.getD [])
  have hl := hs.at 1
  simp only [a4, a1, a2, Option.bind_some, ref_parse, hn, ref_validName, m_ref05_rank]
  generalize hx : litParse (ws[4]?.getD []) = x
  have hv : x.2 = 0 → vName x.1.2 = true := fun h => by rw [← hx] at h ⊢; exact litParse_ok h
  by_cases hp : x.2 = 0
  · have : (x.2 != 0) = false := by simp [hp]
    simp only [this, Bool.false_eq_true, if_false]
    by_cases hm : vName (ws[1]?.getD []) = true
    · simp only [hm, Bool.not_true, Bool.false_eq_true, if_false]
      by_cases hr : 0 ≤ n ∧ n ≤ 9
      · have h1 : (decide (0 ≤ n) && decide (n ≤ 9)) = true := by simp [hr.1, hr.2]
        simp only [h1, Bool.not_true, Bool.false_eq_true, if_false]
        rw [ref_promLine (p := (ws[1]?.getD [], n, x.1)) hr.1 hr.2 (by simp only; omega)]
        simp only [Option.bind_some]
        by_cases he : jn (promW (ws[1]?.getD [], n, x.1)) = ln
        · have : (!(jn (promW (ws[1]?.getD [], n, x.1)) == ln)) = false := by simp [he]
          simp only [this, Bool.false_eq_true, if_false]
          exact ⟨_, rfl, .inr ⟨_, ⟨hm, hr.1, hr.2, hv hp⟩, he, rfl⟩⟩
        · have : (!(jn (promW (ws[1]?.getD [], n, x.1)) == ln)) = true := by simpa using he
          simp only [this, if_true]
          exact ⟨_, rfl, .inl rfl⟩
      · have h1 : (decide (0 ≤ n) && decide (n ≤ 9)) = false := by simp; omega
        simp only [h1, Bool.not_false, if_true, Option.bind_some]
        exact ⟨_, rfl, .inl rfl⟩
    · have hm' : vName (ws[1]?.getD []) = false := by simpa using hm
      simp only [hm', Bool.not_false, if_true, Option.bind_some]
      exact ⟨_, rfl, .inl rfl⟩
  · have : (x.2 != 0) = true := by simpa using hp
    simp only [this, if_true, Option.bind_some]
    exact ⟨_, rfl, .inl rfl⟩
theorem promOf_ok {p : T_Promotion} (h : okT p) : m_ref05_promotionOf (jn (promW p)) (promW p) = some (lineT (.t p)) := by
  have hL := ref_promLine h.2.1 h.2.2.1 (by have := (vName_len h.1).2; omega)
  obtain ⟨s, n, x⟩ := p
  obtain ⟨hs, h0, h9, hx⟩ := h
  simp only at hs h0 h9 hx
  unfold m_ref05_promotionOf
  have a4 : m_ref05_at (promW (s, n, x)) 4 = some (litText x) := at_nat _ 4
  have a1 : m_ref05_at (promW (s, n, x)) 1 = some s := at_nat _ 1
  have a2 : m_ref05_at (promW (s, n, x)) 2 = some (dgt n) := at_nat _ 2
  have h1 : (decide (0 ≤ n) && decide (n ≤ 9)) = true := by simp [h0, h9]
  simp only [a4, a1, a2, Option.bind_some, ref_parse, litParse_text hx, num_ok h0 h9, ref_validName, hs, m_ref05_rank, h1, Bool.not_true, bne_self_eq_false, Bool.false_eq_true, if_false, hL, beq_self_eq_true]
  rfl
end
section
theorem rbody_any {ws : List Str} (hs : Sh ws) (hl : ws.length ≤ 10000) (h1 : 1 ≤ ws.length) (nx : Nat) : ∃ o, loop (m_ref05_ruleOf_L1 ws) ((nx : Int), ([] : List T_Literal)) = some o ∧ (o = .inr noLine ∨ ∃ body, o = .inl body ∧ body.length ≤ 10000 ∧ ∀ x ∈ body, vName x.2 = true) := by
  refine loop_nat (B := m_ref05_ruleOf_L1 ws) (fun s => ws.length - s.1.toNat) (fun s => ∃ k : Nat, s.1 = k ∧ s.2.length ≤ k ∧ (s.2 = [] ∨ k ≤ ws.length) ∧ ∀ x ∈ s.2, vName x.2 = true)
    (fun o => o = .inr noLine ∨ ∃ body, o = .inl body ∧ body.length ≤ 10000 ∧ ∀ x ∈ body, vName x.2 = true) ?_ ((nx : Int), []) ⟨nx, rfl, by simp, .inl rfl, by simp⟩
  rintro ⟨i, acc⟩ ⟨k, rfl, ha, hk, hv⟩
  simp only at ha hk hv
  have w2 : w64 (len ws - 2) = (ws.length : Int) - 2 := w64_id (x := (ws.length : Int) - 2) (by omega) (by omega)
  have w3 : w64 (len ws - 3) = (ws.length : Int) - 3 := w64_id (x := (ws.length : Int) - 3) (by omega) (by omega)
  unfold m_ref05_ruleOf_L1
  simp only [w2, w3]
  by_cases hc : (k : Int) < (ws.length : Int) - 2
  · have hk2 : k < ws.length := by omega
    have hx : ws[k]? = some ws[k] := List.getElem?_eq_getElem hk2
    simp only [decide_eq_true hc, if_true, idx_nat, hx, Option.bind_some]
    have hs5 : ∃ s5 : Str, (if (decide ((k : Int) < (ws.length : Int) - 3) && decide (0 < len ws[k])) = true then (sub ws[k] 0 (w64 (len ws[k] - 1))).bind fun x5 => some x5 else some ws[k] : Option Str) = some s5 := by
      split
      · rename_i hcc
        rw [Bool.and_eq_true] at hcc
        have h0 : (0 : Int) < (ws[k].length : Int) := of_decide_eq_true hcc.2
        have hwl := hs ws[k] (List.getElem_mem hk2)
        rw [w64_id (x := (ws[k].length : Int) - 1) (by omega) (by omega), sub_pre (by omega) (by omega)]
        exact ⟨_, rfl⟩
      · exact ⟨_, rfl⟩
    obtain ⟨s5, e5⟩ := hs5
    rw [e5]
    simp only [Option.bind_some, ref_parse]
    by_cases hp : (litParse s5).2 = 0
    · have : ((litParse s5).2 != 0) = false := by simp [hp]
      simp only [this, Bool.false_eq_true, if_false]
      rw [app_ok (by simp only [List.length_cons, List.length_nil]; omega)]
      simp only [Option.bind_some, w64_succ k (by omega)]
      refine .inl ⟨_, rfl, ⟨k + 1, rfl, by simp; omega, .inr (by omega), fun y hy => ?_⟩, by simp only [Int.toNat_natCast]; omega⟩
      rcases List.mem_append.1 hy with hy | hy
      · exact hv y hy
      · simp at hy; subst hy; exact litParse_ok hp
    · have : ((litParse s5).2 != 0) = true := by simpa using hp
      simp only [this, if_true]
      exact .inr ⟨_, rfl, .inl rfl⟩
  · simp only [decide_eq_false hc, Bool.false_eq_true, if_false]
    refine .inr ⟨_, rfl, .inr ⟨acc, rfl, ?_, hv⟩⟩
    rcases hk with rfl | hk
    · simp
    · omega
theorem ruleOf_any {ln : Str} {ws : List Str} (h0 : ws ≠ []) (hs : Sh ws) (hl : ws.length ≤ 10000) : ∃ t, m_ref05_ruleOf ln ws = some t ∧ (t = noLine ∨ ∃ r, okR r ∧ jn (ruleW r) = ln ∧ t = lineT (.r r)) := by
  have h1 : 1 ≤ ws.length := List.length_pos_iff.2 h0
  unfold m_ref05_ruleOf
  obtain ⟨w, rest, hw⟩ := List.exists_cons_of_ne_nil h0
  have e0 : idx ws 0 = some w := by rw [hw]; rfl
  have a1 : m_ref05_at ws 1 = some (ws[1]?.getD []) := at_nat ws 1
  have a2 : m_ref05_at ws 2 = some (ws[2]?.getD []) := at_nat ws 2
  have hl1 := hs.at 1
  simp only [e0, a1, Option.bind_some]
  generalize hst : (w == [115, 116, 114, 105, 99, 116]) = st
  generalize hnm : ws[1]?.getD [] = nm at hl1 ⊢
  have hs2 : ∃ o, (if (st && (decide (0 < (len nm)))) = true then (sub nm 0 (w64 ((len nm) - 1))).bind fun x2 => some (.inl (2, x2, (0 : Int)))
      else if (!st) = true then (m_ref05_at ws 2).bind fun r3 => if ((len r3) != 2) = true then some (.inr (0, ((false, []), 0, 0, []), ([], false, 0, ([] : List T_Literal), (false, [])), ([], 0, (false, []))))
        else (sub r3 0 1).bind fun x3 => (m_ref05_number x3).bind fun r4 => some (.inl (3, nm, r4))
      else some (.inl (2, nm, (0 : Int))) : Option ((Int × Str × Int) ⊕ T_ref05_line)) = some o ∧ (o = .inr noLine ∨ ∃ (nx : Nat) (m : Str) (rk : Int), o = .inl ((nx : Int), m, rk) ∧ m.length ≤ 5000 ∧ (st = true → rk = 0)) := by
    split
    · rename_i hc
      rw [Bool.and_eq_true] at hc
      have h0 : (0 : Int) < (nm.length : Int) := of_decide_eq_true hc.2
      rw [w64_id (x := (nm.length : Int) - 1) (by omega) (by omega), sub_pre (by omega) (by omega)]
      exact ⟨_, rfl, .inr ⟨2, _, 0, rfl, by rw [List.length_take]; omega, fun _ => rfl⟩⟩
    · split
      · rename_i hns
        rw [a2]
        simp only [Option.bind_some]
        split
        · exact ⟨_, rfl, .inl rfl⟩
        · rename_i hc
          have hlen : (ws[2]?.getD []).length = 2 := by
            have : (len (ws[2]?.getD []) != 2) = false := by simpa using hc
            have := (bne_eq_false_iff_eq).1 this
            have h2 : ((ws[2]?.getD []).length : Int) = 2 := this
            omega
          rw [sub_pre (by omega) (by omega)]
          obtain ⟨n, hn⟩ := num_any ((ws[2]?.getD []).take (1 : Int).toNat)
          simp only [Option.bind_some, hn]
          exact ⟨_, rfl, .inr ⟨3, nm, n, rfl, hl1, fun h => by rw [h] at hns; cases hns⟩⟩
      · exact ⟨_, rfl, .inr ⟨2, nm, 0, rfl, hl1, fun _ => rfl⟩⟩
  obtain ⟨o, e2, ho⟩ := hs2
  rw [e2]
  rcases ho with rfl | ⟨nx, m, rk, rfl, hm, hrk⟩
  · exact ⟨_, rfl, .inl rfl⟩
  · obtain ⟨o2, e3, ho2⟩ := rbody_any hs hl h1 nx
    simp only [seqE, Option.bind_some, e3]
    rcases ho2 with rfl | ⟨body, rfl, hbl, hbv⟩
    · exact ⟨_, rfl, .inl rfl⟩
    · have w1 : w64 (len ws - 1) = ((ws.length - 1 : Nat) : Int) := by rw [w64_id (x := (ws.length : Int) - 1) (by omega) (by omega)]; omega
      simp only [w1, at_nat, Option.bind_some, ref_parse, ref_validName, m_ref05_rank]
      generalize hx : litParse (ws[ws.length - 1]?.getD []) = x
      have hv : x.2 = 0 → vName x.1.2 = true := fun h => by rw [← hx] at h ⊢; exact litParse_ok h
      by_cases hp : x.2 = 0
      · have : (x.2 != 0) = false := by simp [hp]
        simp only [this, Bool.false_eq_true, if_false]
        by_cases hmv : vName m = true
        · simp only [hmv, Bool.not_true, Bool.false_eq_true, if_false]
          by_cases hr : 0 ≤ rk ∧ rk ≤ 9
          · have h1 : (decide (0 ≤ rk) && decide (rk ≤ 9)) = true := by simp [hr.1, hr.2]
            simp only [h1, Bool.not_true, Bool.false_eq_true, if_false]
            rw [ref_ruleLine (r := (m, st, rk, body, x.1)) hr.1 hr.2 (by simp only; omega) hbl]
            simp only [Option.bind_some]
            by_cases he : jn (ruleW (m, st, rk, body, x.1)) = ln
            · have : (!(jn (ruleW (m, st, rk, body, x.1)) == ln)) = false := by simp [he]
              simp only [this, Bool.false_eq_true, if_false]
              exact ⟨_, rfl, .inr ⟨_, ⟨hmv, hv hp, hr.1, hr.2, hrk, hbv⟩, he, rfl⟩⟩
            · have : (!(jn (ruleW (m, st, rk, body, x.1)) == ln)) = true := by simpa using he
              simp only [this, if_true]
              exact ⟨_, rfl, .inl rfl⟩
          · have h1 : (decide (0 ≤ rk) && decide (rk ≤ 9)) = false := by simp; omega
            simp only [h1, Bool.not_false, if_true, Option.bind_some]
            exact ⟨_, rfl, .inl rfl⟩
        · have hm' : vName m = false := by simpa using hmv
          simp only [hm', Bool.not_false, if_true, Option.bind_some]
          exact ⟨_, rfl, .inl rfl⟩
      · have : (x.2 != 0) = true := by simpa using hp
        simp only [this, if_true, Option.bind_some]
        exact ⟨_, rfl, .inl rfl⟩
theorem rbody_ok {pre : List Str} {body : List T_Literal} {a h : Str} (hv : ∀ x ∈ body, vName x.2 = true) (hb : body.length ≤ 5000) (hp : pre.length ≤ 3) :
    loop (m_ref05_ruleOf_L1 (pre ++ bodyW body ++ [a, h])) ((pre.length : Int), ([] : List T_Literal)) = some (.inl body) := by
  have hl : (pre ++ bodyW body ++ [a, h]).length = pre.length + body.length + 2 := by simp only [List.length_append, bodyW_len, List.length_cons, List.length_nil]
  have hlz : len (pre ++ bodyW body ++ [a, h]) = (pre.length : Int) + body.length + 2 := by show (((pre ++ bodyW body ++ [a, h]).length : Nat) : Int) = _; rw [hl]; omega
  have w2 : w64 (len (pre ++ bodyW body ++ [a, h]) - 2) = (pre.length : Int) + body.length := by rw [hlz, w64_id (by omega) (by omega)]; omega
  have w3 : w64 (len (pre ++ bodyW body ++ [a, h]) - 3) = (pre.length : Int) + body.length - 1 := by rw [hlz, w64_id (by omega) (by omega)]; omega
  have h := loop_forI (B := m_ref05_ruleOf_L1 (pre ++ bodyW body ++ [a, h])) (fun i (s : List T_Literal) => (((pre.length + i : Nat) : Int), s)) body (fun i s => s = body.take i) (fun o => o = .inl body) ?_ ?_ [] (by simp)
  · obtain ⟨o, h1, rfl⟩ := h
    exact h1
  · intro i x s hx hs
    subst hs
    have hi := (List.getElem?_eq_some_iff.1 hx).1
    have hvx := hv x (List.mem_of_getElem? hx)
    refine .inl ⟨body.take (i + 1), ?_, rfl⟩
    have hg : (pre ++ bodyW body ++ [a, h])[pre.length + i]? = some (if i + 1 < body.length then litText x ++ [44] else litText x) := by
      rw [List.append_assoc, List.getElem?_append_right (by omega), Nat.add_sub_cancel_left, List.getElem?_append_left (by rw [bodyW_len]; exact hi), bodyW_get, hx]
      rfl
    have hlt := litText_len x
    unfold m_ref05_ruleOf_L1
    simp only [w2, w3]
    have hc : decide (((pre.length + i : Nat) : Int) < (pre.length : Int) + body.length) = true := decide_eq_true (by omega)
    simp only [hc, if_true, idx_nat, hg, Option.bind_some]
    have htk : body.take (i + 1) = body.take i ++ [x] := by rw [List.take_add_one, hx]; rfl
    have fin : ((m_ref01_Parse (litText x)).bind fun r5 => if (r5.2 != 0) = true then some (.inr (.inr (0, ((false, []), 0, 0, []), ([], false, 0, ([] : List T_Literal), (false, [])), ([], 0, (false, [])))))
        else (app (body.take i) ([r5.1] : List T_Literal)).bind fun x6 => some (.inl (w64 (((pre.length + i : Nat) : Int) + 1), x6)) : Option ((Int × (List T_Literal)) ⊕ ((List T_Literal) ⊕ T_ref05_line))) = some (.inl (((pre.length + (i + 1) : Nat) : Int), body.take (i + 1))) := by
      rw [ref_parse, litParse_text hvx]
      simp only [Option.bind_some, bne_self_eq_false, Bool.false_eq_true, if_false]
      rw [app_ok (by rw [List.length_take]; simp only [List.length_cons, List.length_nil]; omega), w64_succ (pre.length + i) (by omega), htk]
      rfl
    by_cases hlast : i + 1 < body.length
    · have hc3 : (decide (((pre.length + i : Nat) : Int) < (pre.length : Int) + body.length - 1) && decide (0 < len (litText x ++ [44]))) = true := by
        rw [Bool.and_eq_true]
        exact ⟨decide_eq_true (by omega), decide_eq_true (show (0 : Int) < ((litText x ++ [44]).length : Int) by simp)⟩
      simp only [if_pos hlast, hc3, if_true]
      have hw : w64 (len (litText x ++ [44]) - 1) = ((litText x).length : Int) := by
        have : len (litText x ++ [44]) = ((litText x).length : Int) + 1 := by show (((litText x ++ [44]).length : Nat) : Int) = _; simp
        rw [this, w64_id (by omega) (by omega)]; omega
      rw [hw, sub_pre (by omega) (by simp; omega)]
      simp only [Option.bind_some, Int.toNat_natCast, List.take_left]
      exact fin
    · have hc3 : (decide (((pre.length + i : Nat) : Int) < (pre.length : Int) + body.length - 1) && decide (0 < len (litText x))) = false := by
        rw [Bool.and_eq_false_iff]
        exact .inl (decide_eq_false (by omega))
      simp only [if_neg hlast, hc3, Bool.false_eq_true, if_false, Option.bind_some]
      exact fin
  · intro s hs
    subst hs
    refine ⟨_, ?_, rfl⟩
    unfold m_ref05_ruleOf_L1
    simp only [w2]
    have hc : decide (((pre.length + body.length : Nat) : Int) < (pre.length : Int) + body.length) = false := decide_eq_false (by omega)
    simp only [hc, Bool.false_eq_true, if_false, List.take_length]
theorem ruleOf_ok {r : T_Rule} (h : okR r) (hb : r.2.2.2.1.length ≤ 5000) : m_ref05_ruleOf (jn (ruleW r)) (ruleW r) = some (lineT (.r r)) := by
  have hnl := (vName_len h.1).2
  have hL := ref_ruleLine h.2.2.1 h.2.2.2.1 (by omega) (by omega)
  obtain ⟨nm, st, rk, body, x⟩ := r
  obtain ⟨hn, hx, h0, h9, hst, hv⟩ := h
  simp only at hn hx h0 h9 hst hv hb hnl
  have h1 : (decide (0 ≤ rk) && decide (rk ≤ 9)) = true := by simp [h0, h9]
  have hlast : ∀ pre : List Str, (pre ++ bodyW body ++ [arrowW st, litText x])[(pre ++ bodyW body ++ [arrowW st, litText x]).length - 1]?.getD [] = litText x := by
    intro pre
    have : pre ++ bodyW body ++ [arrowW st, litText x] = (pre ++ bodyW body ++ [arrowW st]) ++ [litText x] := by simp
    rw [this]
    simp
  have w1 : ∀ pre : List Str, pre.length ≤ 3 → w64 (len (pre ++ bodyW body ++ [arrowW st, litText x]) - 1) = (((pre ++ bodyW body ++ [arrowW st, litText x]).length - 1 : Nat) : Int) := by
    intro pre hp
    have hl : (pre ++ bodyW body ++ [arrowW st, litText x]).length = pre.length + body.length + 2 := by simp only [List.length_append, bodyW_len, List.length_cons, List.length_nil]
    have hlz : len (pre ++ bodyW body ++ [arrowW st, litText x]) = (pre.length : Int) + body.length + 2 := by show (((pre ++ bodyW body ++ [arrowW st, litText x]).length : Nat) : Int) = _; rw [hl]; omega
    rw [hlz, w64_id (by omega) (by omega), hl]; omega
  cases st with
  | true =>
    obtain rfl := hst rfl
    have hW : ruleW (nm, true, 0, body, x) = [strictW, nm ++ [58]] ++ bodyW body ++ [arrowW true, litText x] := rfl
    have hbd := rbody_ok (pre := [strictW, nm ++ [58]]) (a := arrowW true) (h := litText x) hv hb (by simp)
    unfold m_ref05_ruleOf
    rw [hW] at hL ⊢
    have e0 : idx ([strictW, nm ++ [58]] ++ bodyW body ++ [arrowW true, litText x]) 0 = some strictW := rfl
    have a1 : m_ref05_at ([strictW, nm ++ [58]] ++ bodyW body ++ [arrowW true, litText x]) 1 = some (nm ++ [58]) := at_nat _ 1
    have k1 : (strictW == [115, 116, 114, 105, 99, 116]) = true := rfl
    have hc : decide (0 < len (nm ++ [58])) = true := decide_eq_true (show (0 : Int) < ((nm ++ [58]).length : Int) by simp)
    have hw : w64 (len (nm ++ [58]) - 1) = (nm.length : Int) := by
      have : len (nm ++ [58]) = (nm.length : Int) + 1 := by show (((nm ++ [58]).length : Nat) : Int) = _; simp
      rw [this, w64_id (by omega) (by omega)]; omega
    simp only [e0, a1, Option.bind_some, k1, hc, Bool.and_self, if_true, hw]
    rw [sub_pre (by omega) (by simp; omega)]
    simp only [Option.bind_some, Int.toNat_natCast, List.take_left, seqE]
    have e2 : ((2 : Int), ([] : List T_Literal)) = ((([strictW, nm ++ [58]] : List Str).length : Int), ([] : List T_Literal)) := rfl
    rw [e2, hbd]
    simp only [w1 _ (show ([strictW, nm ++ [58]] : List Str).length ≤ 3 by simp), at_nat, hlast, Option.bind_some, ref_parse, litParse_text hx, bne_self_eq_false, Bool.false_eq_true, if_false, ref_validName, hn, Bool.not_true, m_ref05_rank, h1, hL, beq_self_eq_true]
    rfl
  | false =>
    have hW : ruleW (nm, false, rk, body, x) = [ruleWd, nm, dgt rk ++ [58]] ++ bodyW body ++ [arrowW false, litText x] := rfl
    have hbd := rbody_ok (pre := [ruleWd, nm, dgt rk ++ [58]]) (a := arrowW false) (h := litText x) hv hb (by simp)
    unfold m_ref05_ruleOf
    rw [hW] at hL ⊢
    have e0 : idx ([ruleWd, nm, dgt rk ++ [58]] ++ bodyW body ++ [arrowW false, litText x]) 0 = some ruleWd := rfl
    have a1 : m_ref05_at ([ruleWd, nm, dgt rk ++ [58]] ++ bodyW body ++ [arrowW false, litText x]) 1 = some nm := at_nat _ 1
    have a2 : m_ref05_at ([ruleWd, nm, dgt rk ++ [58]] ++ bodyW body ++ [arrowW false, litText x]) 2 = some (dgt rk ++ [58]) := at_nat _ 2
    have k1 : (ruleWd == [115, 116, 114, 105, 99, 116]) = false := rfl
    have k2 : ((len (dgt rk ++ [58])) != 2) = false := rfl
    have k3 : sub (dgt rk ++ [58]) 0 1 = some (dgt rk) := rfl
    simp only [e0, a1, a2, Option.bind_some, k1, Bool.false_and, Bool.false_eq_true, if_false, Bool.not_false, if_true, k2, k3, num_ok h0 h9, seqE]
    have e2 : ((3 : Int), ([] : List T_Literal)) = ((([ruleWd, nm, dgt rk ++ [58]] : List Str).length : Int), ([] : List T_Literal)) := rfl
    rw [e2, hbd]
    simp only [w1 _ (show ([ruleWd, nm, dgt rk ++ [58]] : List Str).length ≤ 3 by simp), at_nat, hlast, Option.bind_some, ref_parse, litParse_text hx, bne_self_eq_false, Bool.false_eq_true, if_false, ref_validName, hn, Bool.not_true, m_ref05_rank, h1, hL, beq_self_eq_true]
    rfl
end
section
theorem El.ws_ne (e : El) : e.ws ≠ [] := by
  cases e with
  | p x => simp [El.ws, premW]
  | r x => simp [El.ws, ruleW]
  | t x => simp [El.ws, promW]
noncomputable def lineS (ln : Str) : T_ref05_line := match elOf ln with
  | some e => lineT e
  | none => noLine
theorem ref_lineOf {ln : Str} (h : ln.length ≤ 5000) : m_ref05_lineOf ln = some (lineS ln) := by
  have hsp : m_ref05_Split ln 32 = some (splitB 32 ln) := ref_Split (by omega) 32
  have hsl := splitB_len 32 ln
  have hsh : Sh (splitB 32 ln) := fun w hw => by have := hsl.2 w hw; omega
  have hne := splitB_ne 32 ln
  unfold m_ref05_lineOf
  rw [hsp]
  obtain ⟨w, rest, hw⟩ := List.exists_cons_of_ne_nil hne
  have e0 : idx (splitB 32 ln) 0 = some w := by rw [hw]; rfl
  simp only [Option.bind_some, e0]
  rw [sel3]
  simp only [Option.bind_some]
  unfold lineS
  cases hx : elOf ln with
  | some e =>
    obtain ⟨ho, hl⟩ := elOf_some hx
    have hws : splitB 32 ln = e.ws := by rw [← hl]; exact jn_split e.ws_ne (El.wd ho)
    cases e with
    | p x =>
      have h' : okP x := ho
      have hw0 : w = kindW x.2.1 := by
        have : premW x = w :: rest := by rw [← hw]; exact hws.symm
        have h2 := congrArg (fun l : List Str => l.headD []) this
        exact h2.symm
      have hd : decide (w = [97, 120, 105, 111, 109] ∨ w = [112, 114, 101, 109, 105, 115, 101] ∨ w = [97, 115, 115, 117, 109, 101]) = true := by
        rw [hw0]
        rcases h'.1 with h | h | h <;> rw [h] <;> decide
      simp only [hd, if_true]
      rw [hws, ← hl]
      show Option.bind (m_ref05_premiseOf (jn (premW x)) (premW x)) _ = _
      rw [premOf_ok h']
      rfl
    | r x =>
      have h' : okR x := ho
      have hbl := (El.short ho (n := 5000) (by rw [hl]; omega)).2 x rfl
      have hw0 : w = if x.2.1 then strictW else ruleWd := by
        have : ruleW x = w :: rest := by rw [← hw]; exact hws.symm
        have h2 := congrArg (fun l : List Str => l.headD []) this
        have h3 : (ruleW x).headD [] = if x.2.1 then strictW else ruleWd := by unfold ruleW; cases x.2.1 <;> rfl
        rw [← h3]; exact h2.symm
      have hd : decide (w = [97, 120, 105, 111, 109] ∨ w = [112, 114, 101, 109, 105, 115, 101] ∨ w = [97, 115, 115, 117, 109, 101]) = false := by
        rw [hw0]; cases x.2.1 <;> decide
      have hd2 : decide (w = [115, 116, 114, 105, 99, 116] ∨ w = [114, 117, 108, 101]) = true := by
        rw [hw0]; cases x.2.1 <;> decide
      simp only [hd, Bool.false_eq_true, if_false]
      rw [sel2]
      simp only [Option.bind_some, hd2, if_true]
      rw [hws, ← hl]
      show Option.bind (m_ref05_ruleOf (jn (ruleW x)) (ruleW x)) _ = _
      rw [ruleOf_ok h' hbl]
      rfl
    | t x =>
      have h' : okT x := ho
      have hw0 : w = promoteW := by
        have : promW x = w :: rest := by rw [← hw]; exact hws.symm
        have h2 := congrArg (fun l : List Str => l.headD []) this
        exact h2.symm
      have hd : decide (w = [97, 120, 105, 111, 109] ∨ w = [112, 114, 101, 109, 105, 115, 101] ∨ w = [97, 115, 115, 117, 109, 101]) = false := by rw [hw0]; decide
      have hd2 : decide (w = [115, 116, 114, 105, 99, 116] ∨ w = [114, 117, 108, 101]) = false := by rw [hw0]; decide
      have hd3 : (w == [112, 114, 111, 109, 111, 116, 101]) = true := by rw [hw0]; rfl
      simp only [hd, Bool.false_eq_true, if_false]
      rw [sel2]
      simp only [Option.bind_some, hd2, Bool.false_eq_true, if_false, hd3, if_true]
      rw [hws, ← hl]
      show Option.bind (m_ref05_promotionOf (jn (promW x)) (promW x)) _ = _
      rw [promOf_ok h']
      rfl
  | none =>
    have hno := elOf_none hx
    simp only
    split
    · obtain ⟨t, h1, h2⟩ := premOf_any (ln := ln) hne hsh (by omega)
      rw [h1]
      rcases h2 with rfl | ⟨p, ho, he, _⟩
      · rfl
      · exact absurd ⟨.p p, ho, he⟩ hno
    · rw [sel2]
      simp only [Option.bind_some]
      split
      · obtain ⟨t, h1, h2⟩ := ruleOf_any (ln := ln) hne hsh (by omega)
        rw [h1]
        rcases h2 with rfl | ⟨p, ho, he, _⟩
        · rfl
        · exact absurd ⟨.r p, ho, he⟩ hno
      · split
        · obtain ⟨t, h1, h2⟩ := promOf_any (ln := ln) hsh
          rw [h1]
          rcases h2 with rfl | ⟨p, ho, he, _⟩
          · rfl
          · exact absurd ⟨.t p, ho, he⟩ hno
        · rfl
theorem splitB_cons (c x : UInt8) (r : Str) : splitB c (x :: r) = if x = c then [] :: splitB c r else match splitB c r with
    | [] => [[x]]
    | w :: l => (x :: w) :: l := rfl
theorem cut1_cons (c : UInt8) (r : Str) : cut1 (c :: r) = if c = 10 then ([], r, true) else (c :: (cut1 r).1, (cut1 r).2.1, (cut1 r).2.2) := rfl
theorem split_cut : ∀ s : Str, splitB 10 s = if (cut1 s).2.2 then (cut1 s).1 :: splitB 10 (cut1 s).2.1 else [(cut1 s).1]
  | [] => rfl
  | c :: r => by
    have ih := split_cut r
    rw [splitB_cons, cut1_cons]
    by_cases hc : c = 10
    · rw [if_pos hc, if_pos hc]; rfl
    · rw [if_neg hc, if_neg hc, ih]
      cases h : (cut1 r).2.2 <;> simp
theorem ref_parse_loop (lines : List Str) (hn : lines.length ≤ 6000) : ∀ (f : Nat) (s : Str) (last : Int) (i : Nat) (b : T_Base), s.length ≤ f → s.length ≤ 4096 → lines.drop i = splitB 10 s → last ≤ 3 →
    b.1.length + s.length ≤ 9000 → b.2.1.length + s.length ≤ 9000 → b.2.2.length + s.length ≤ 9000 →
    loop (m_ref05_Parse_L1 lines) (last, (i : Int), b.1, b.2.1, b.2.2) = some (endP (parseGo f s last ((i : Int) + 1) b)) := by
  have hw1 : w64 (len lines - 1) = (lines.length : Int) - 1 := w64_id (x := (lines.length : Int) - 1) (by omega) (by omega)
  have key : ∀ (i : Nat) (w : Str) (l : List Str), lines.drop i = w :: l → i < lines.length ∧ lines[i]? = some w ∧ lines.drop (i + 1) = l ∧ ((i : Int) == (lines.length : Int) - 1) = l.isEmpty := by
    intro i w l h
    have hi : i < lines.length := by
      have := congrArg List.length h
      simp only [List.length_drop, List.length_cons] at this
      omega
    rw [List.drop_eq_getElem_cons hi] at h
    simp only [List.cons.injEq] at h
    refine ⟨hi, by rw [List.getElem?_eq_getElem hi, h.1], h.2, ?_⟩
    have hl : l.length = lines.length - (i + 1) := by rw [← h.2, List.length_drop]
    cases l with
    | nil =>
      simp only [List.length_nil] at hl
      have : (i : Int) = (lines.length : Int) - 1 := by omega
      simp [this]
    | cons x l =>
      simp only [List.length_cons] at hl
      exact beq_false_of_ne (by omega)
  intro f
  induction f with
  | zero =>
    intro s last i b hf _ hd _ _ _ _
    obtain rfl : s = [] := List.length_eq_zero_iff.1 (by omega)
    obtain ⟨hi, hx, _, hl⟩ := key i [] [] hd
    apply loop_rt
    unfold m_ref05_Parse_L1
    have h1 : decide ((i : Int) < len lines) = true := decide_eq_true (show (i : Int) < (lines.length : Int) by omega)
    simp only [h1, if_true, hw1, hl, List.isEmpty_nil, idx_nat, hx, Option.bind_some]
    rfl
  | succ f ih =>
    intro s last i b hf h4 hd hla hb1 hb2 hb3
    unfold parseGo
    by_cases hs : s = []
    · subst hs
      obtain ⟨hi, hx, _, hl⟩ := key i [] [] hd
      apply loop_rt
      unfold m_ref05_Parse_L1
      have h1 : decide ((i : Int) < len lines) = true := decide_eq_true (show (i : Int) < (lines.length : Int) by omega)
      simp only [h1, if_true, hw1, hl, List.isEmpty_nil, idx_nat, hx, Option.bind_some]
      rfl
    · rw [if_neg hs]
      have hcl := cut1_len s
      have hless := cut1_less hs
      obtain ⟨l, hdl, hle⟩ : ∃ l, lines.drop i = (cut1 s).1 :: l ∧ l = if (cut1 s).2.2 then splitB 10 (cut1 s).2.1 else [] := by
        rw [hd, split_cut]
        cases (cut1 s).2.2 <;> exact ⟨_, rfl, rfl⟩
      obtain ⟨hi, hx, hd2, hl⟩ := key i _ _ hdl
      have hend : l.isEmpty = !(cut1 s).2.2 := by
        rw [hle]
        cases (cut1 s).2.2 with
        | false => rfl
        | true =>
          have := splitB_ne 10 (cut1 s).2.1
          simp only [if_true, Bool.not_true]
          cases h : splitB 10 (cut1 s).2.1 with
          | nil => exact absurd h this
          | cons => rfl
      have h1 : decide ((i : Int) < len lines) = true := decide_eq_true (show (i : Int) < (lines.length : Int) by omega)
      have hs3 : (if ((i : Int) == (lines.length : Int) - 1) = true then some ((cut1 s).1 == []) else some false : Option Bool) = some false := by
        rw [hl, hend]
        cases he : (cut1 s).2.2 with
        | true => rfl
        | false =>
          simp only [Bool.not_false, if_true]
          have hne : (cut1 s).1 ≠ [] := by
            intro h
            have := cut1_eq s
            rw [h, he] at this
            exact hs this
          have : ((cut1 s).1 == []) = false := beq_false_of_ne hne
          rw [this]
      have hlo := ref_lineOf (ln := (cut1 s).1) (by omega)
      cases hel : elOf (cut1 s).1 with
      | none =>
        have hln : lineS (cut1 s).1 = noLine := by unfold lineS; rw [hel]
        apply loop_rt
        unfold m_ref05_Parse_L1
        simp only [h1, if_true, hw1, hs3, Option.bind_some, Bool.false_eq_true, if_false, idx_nat, hx, hlo, hln, w64_succ i (by omega)]
        rfl
      | some e =>
        obtain ⟨ho, hle2⟩ := elOf_some hel
        have hln : lineS (cut1 s).1 = lineT e := by unfold lineS; rw [hel]
        have hk0 : ((lineT e).1 == 0) = false := by cases e <;> rfl
        have hk1 : (lineT e).1 = e.kind := by cases e <;> rfl
        have hs3' : (if (!(cut1 s).2.2) = true then some ((cut1 s).1 == []) else some false : Option Bool) = some false := by rw [hl, hend] at hs3; exact hs3
        have hk2 : (e.kind == 0) = false := by cases e <;> rfl
        have hB : m_ref05_Parse_L1 lines (last, (i : Int), b.1, b.2.1, b.2.2) = if (cut1 s).2.2 = true ∧ last ≤ e.kind then some (.inl (e.kind, ((i + 1 : Nat) : Int), (e.add b).1, (e.add b).2.1, (e.add b).2.2)) else some (.inr (.inr (noB, (i : Int) + 1, 3))) := by
          unfold m_ref05_Parse_L1
          simp only [h1, if_true, hw1, hs3', Option.bind_some, Bool.false_eq_true, if_false, idx_nat, hx, hlo, hln, hk2, Bool.false_or, hk1, hl, hend, w64_succ i (by omega)]
          by_cases hc : (cut1 s).2.2 = true ∧ last ≤ e.kind
          · have e3 : decide (e.kind < last) = false := decide_eq_false (by omega)
            rw [if_pos hc, e3, hc.1]
            simp only [Bool.not_true, Bool.or_self, Bool.false_eq_true, if_false]
            cases e with
            | p x =>
              simp only [El.kind, beq_self_eq_true, if_true]
              rw [app_ok (by simp only [List.length_cons, List.length_nil]; omega)]
              rfl
            | r x =>
              have : ((2 : Int) == 1) = false := rfl
              simp only [El.kind, this, Bool.false_eq_true, if_false, beq_self_eq_true, if_true]
              rw [app_ok (by simp only [List.length_cons, List.length_nil]; omega)]
              rfl
            | t x =>
              have q1 : ((3 : Int) == 1) = false := rfl
              have q2 : ((3 : Int) == 2) = false := rfl
              simp only [El.kind, q1, q2, Bool.false_eq_true, if_false]
              rw [app_ok (by simp only [List.length_cons, List.length_nil]; omega)]
              rfl
          · rw [if_neg hc]
            have e3 : (decide (e.kind < last) || !(cut1 s).2.2) = true := by
              cases h1 : (cut1 s).2.2 with
              | false => simp
              | true =>
                rw [h1] at hc
                have : e.kind < last := by simp at hc; omega
                simpa using this
            rw [e3, if_pos rfl]
            rfl
        simp only
        by_cases hc : (cut1 s).2.2 = true ∧ last ≤ e.kind
        · rw [if_pos hc] at hB ⊢
          rw [loop_nx hB]
          have ha1 : (e.add b).1.length ≤ b.1.length + 1 ∧ (e.add b).2.1.length ≤ b.2.1.length + 1 ∧ (e.add b).2.2.length ≤ b.2.2.length + 1 := by
            cases e <;> simp [El.add]
          have hd3 : lines.drop (i + 1) = splitB 10 (cut1 s).2.1 := by rw [hd2, hle, hc.1, if_pos rfl]
          have := ih (cut1 s).2.1 e.kind (i + 1) (e.add b) (by omega) (by omega) hd3 (by cases e <;> simp [El.kind]) (by omega) (by omega) (by omega)
          rw [this]
          have : ((i + 1 : Nat) : Int) + 1 = (i : Int) + 1 + 1 := by omega
          rw [this]
        · rw [if_neg hc] at hB ⊢
          exact loop_rt hB
theorem parseGo_last : ∀ (f : Nat) (s : Str) (n : Int) (b : T_Base), parseGo f s 0 n b = parseGo f s 1 n b
  | 0, _, _, _ => rfl
  | f + 1, s, n, b => by
    unfold parseGo
    split
    · rfl
    · split
      · rename_i e _
        have := e.kind_pos
        have h0 : (0 : Int) ≤ e.kind := by omega
        simp only [h0, this]
      · rfl
theorem ref_ParseS (s : Str) : m_ref05_Parse s = some (parseS s) := by
  unfold m_ref05_Parse parseS
  by_cases h4 : 4096 < s.length
  · have : decide ((4096 : Int) < len s) = true := decide_eq_true (show (4096 : Int) < (s.length : Int) by omega)
    rw [if_pos h4, this]
    rfl
  · have : decide ((4096 : Int) < len s) = false := decide_eq_false (show ¬ (4096 : Int) < (s.length : Int) by omega)
    rw [if_neg h4, this]
    have hsp : m_ref05_Split s 10 = some (splitB 10 s) := ref_Split (by omega) 10
    have hsl := splitB_len 10 s
    simp only [Bool.false_eq_true, if_false, hsp, Option.bind_some]
    have hp := ref_parse_loop (splitB 10 s) (by omega) s.length s 0 0 noB (Nat.le_refl _) (by omega) rfl (by omega) (by simp; omega) (by simp; omega) (by simp; omega)
    have e0 : ((0 : Int), (0 : Int), ([] : List T_Premise), ([] : List T_Rule), ([] : List T_Promotion)) = (0, ((0 : Nat) : Int), noB.1, noB.2.1, noB.2.2) := rfl
    rw [e0, hp]
    have e1 : ((0 : Nat) : Int) + 1 = 1 := rfl
    rw [e1, parseGo_last]
    cases hg : parseGo s.length s 1 1 noB with
    | inr n => rfl
    | inl b =>
      obtain ⟨h1, h2, h3, h5⟩ := parseGo_cnt _ _ _ _ _ _ (by omega) (by simp) hg
      simp only [List.length_nil, Nat.zero_add] at h1 h2 h3
      have hc : Cnt b := ⟨by omega, by omega, by omega, fun r hr => by have := h5 r hr; omega⟩
      simp only [endP, seqE]
      have : ((b.1, b.2.1, b.2.2) : T_Base) = b := rfl
      simp only [this, ref_Validate hc, Option.bind_some]
      by_cases hv : validS b = 0
      · simp [hv]
      · have : (validS b != 0) = true := by simpa using hv
        simp [this, hv]
end
section
set_option linter.unusedVariables false
def e_rulebase_Find_1 (n_ : Nat) (y0 : T_Rule) (y1 : Str) : Option Bool :=
  some (y0.1 == y1)
theorem le_rulebase_Find_1 (n_ : Nat) (y0 : T_Rule) (y1 : Str) : Le (e_rulebase_Find_1 n_ y0 y1) (m_rulebase_Find_1 y0 y1) := by
  unfold e_rulebase_Find_1 m_rulebase_Find_1
  repeat with_reducible (first | intro _ | exact Le.refl _ | apply Le.ite | apply Le.seqE | apply Le.bind | apply Le.lp | exact Le.none _)
def e_slices_IndexFunc_Rule__rulebase_Find_1_L1 (n_ : Nat) (y0 : List T_Rule) (y1 : Str) (s1 : Int) : Option (Int ⊕ Int) :=
  if decide (s1 < (len y0)) then
    (idx y0 s1).bind fun x1 =>
    ((e_rulebase_Find_1 n_) x1 y1).bind fun r1 =>
    if r1 then
      some (.inr s1)
    else
      some (.inl (w64 (s1 + 1)))
  else
    some (.inr (-1))
theorem le_slices_IndexFunc_Rule__rulebase_Find_1_L1 (n_ : Nat) (y0 : List T_Rule) (y1 : Str) (s1 : Int) : Le (e_slices_IndexFunc_Rule__rulebase_Find_1_L1 n_ y0 y1 s1) (m_slices_IndexFunc_Rule__rulebase_Find_1_L1 y0 y1 s1) := by
  unfold e_slices_IndexFunc_Rule__rulebase_Find_1_L1 m_slices_IndexFunc_Rule__rulebase_Find_1_L1
  repeat with_reducible (first | intro _ | apply le_rulebase_Find_1 | exact Le.refl _ | apply Le.ite | apply Le.seqE | apply Le.bind | apply Le.lp | exact Le.none _)
def e_slices_IndexFunc_Rule__rulebase_Find_1 (n_ : Nat) (y0 : List T_Rule) (y1 : Str) : Option Int :=
  (lp n_) ((e_slices_IndexFunc_Rule__rulebase_Find_1_L1 n_) y0 y1) 0
theorem le_slices_IndexFunc_Rule__rulebase_Find_1 (n_ : Nat) (y0 : List T_Rule) (y1 : Str) : Le (e_slices_IndexFunc_Rule__rulebase_Find_1 n_ y0 y1) (m_slices_IndexFunc_Rule__rulebase_Find_1 y0 y1) := by
  unfold e_slices_IndexFunc_Rule__rulebase_Find_1 m_slices_IndexFunc_Rule__rulebase_Find_1
  repeat with_reducible (first | intro _ | apply le_slices_IndexFunc_Rule__rulebase_Find_1_L1 | exact Le.refl _ | apply Le.ite | apply Le.seqE | apply Le.bind | apply Le.lp | exact Le.none _)
def e_rulebase_Find (n_ : Nat) (y0 : T_Base) (y1 : Str) : Option Int :=
  ((e_slices_IndexFunc_Rule__rulebase_Find_1 n_) y0.2.1 y1).bind fun r1 =>
  some r1
theorem le_rulebase_Find (n_ : Nat) (y0 : T_Base) (y1 : Str) : Le (e_rulebase_Find n_ y0 y1) (m_rulebase_Find y0 y1) := by
  unfold e_rulebase_Find m_rulebase_Find
  repeat with_reducible (first | intro _ | apply le_slices_IndexFunc_Rule__rulebase_Find_1 | exact Le.refl _ | apply Le.ite | apply Le.seqE | apply Le.bind | apply Le.lp | exact Le.none _)
def e_rulebase_Premise_1 (n_ : Nat) (y0 : T_Premise) (y1 : T_Literal) : Option Bool :=
  some (y0.1 == y1)
theorem le_rulebase_Premise_1 (n_ : Nat) (y0 : T_Premise) (y1 : T_Literal) : Le (e_rulebase_Premise_1 n_ y0 y1) (m_rulebase_Premise_1 y0 y1) := by
  unfold e_rulebase_Premise_1 m_rulebase_Premise_1
  repeat with_reducible (first | intro _ | exact Le.refl _ | apply Le.ite | apply Le.seqE | apply Le.bind | apply Le.lp | exact Le.none _)
def e_slices_IndexFunc_Premise__rulebase_Premise_1_L1 (n_ : Nat) (y0 : List T_Premise) (y1 : T_Literal) (s1 : Int) : Option (Int ⊕ Int) :=
  if decide (s1 < (len y0)) then
    (idx y0 s1).bind fun x1 =>
    ((e_rulebase_Premise_1 n_) x1 y1).bind fun r1 =>
    if r1 then
      some (.inr s1)
    else
      some (.inl (w64 (s1 + 1)))
  else
    some (.inr (-1))
theorem le_slices_IndexFunc_Premise__rulebase_Premise_1_L1 (n_ : Nat) (y0 : List T_Premise) (y1 : T_Literal) (s1 : Int) : Le (e_slices_IndexFunc_Premise__rulebase_Premise_1_L1 n_ y0 y1 s1) (m_slices_IndexFunc_Premise__rulebase_Premise_1_L1 y0 y1 s1) := by
  unfold e_slices_IndexFunc_Premise__rulebase_Premise_1_L1 m_slices_IndexFunc_Premise__rulebase_Premise_1_L1
  repeat with_reducible (first | intro _ | apply le_rulebase_Premise_1 | exact Le.refl _ | apply Le.ite | apply Le.seqE | apply Le.bind | apply Le.lp | exact Le.none _)
def e_slices_IndexFunc_Premise__rulebase_Premise_1 (n_ : Nat) (y0 : List T_Premise) (y1 : T_Literal) : Option Int :=
  (lp n_) ((e_slices_IndexFunc_Premise__rulebase_Premise_1_L1 n_) y0 y1) 0
theorem le_slices_IndexFunc_Premise__rulebase_Premise_1 (n_ : Nat) (y0 : List T_Premise) (y1 : T_Literal) : Le (e_slices_IndexFunc_Premise__rulebase_Premise_1 n_ y0 y1) (m_slices_IndexFunc_Premise__rulebase_Premise_1 y0 y1) := by
  unfold e_slices_IndexFunc_Premise__rulebase_Premise_1 m_slices_IndexFunc_Premise__rulebase_Premise_1
  repeat with_reducible (first | intro _ | apply le_slices_IndexFunc_Premise__rulebase_Premise_1_L1 | exact Le.refl _ | apply Le.ite | apply Le.seqE | apply Le.bind | apply Le.lp | exact Le.none _)
def e_rulebase_Premise (n_ : Nat) (y0 : T_Base) (y1 : T_Literal) : Option Int :=
  ((e_slices_IndexFunc_Premise__rulebase_Premise_1 n_) y0.1 y1).bind fun r1 =>
  some r1
theorem le_rulebase_Premise (n_ : Nat) (y0 : T_Base) (y1 : T_Literal) : Le (e_rulebase_Premise n_ y0 y1) (m_rulebase_Premise y0 y1) := by
  unfold e_rulebase_Premise m_rulebase_Premise
  repeat with_reducible (first | intro _ | apply le_slices_IndexFunc_Premise__rulebase_Premise_1 | exact Le.refl _ | apply Le.ite | apply Le.seqE | apply Le.bind | apply Le.lp | exact Le.none _)
def e_literal_ValidName_L1 (n_ : Nat) (y0 : Str) (s1 : Int) : Option (Int ⊕ Bool) :=
  if decide (s1 < (len y0)) then
    (sidx y0 s1).bind fun x1 =>
    if (decide (97 ≤ x1)) && (decide (x1 ≤ 122)) then
      some (.inl (w64 (s1 + 1)))
    else
      if (decide (0 < s1)) && (if decide (48 ≤ x1) then (decide (x1 ≤ 57)) || (x1 == 95) else x1 == 95) then
        some (.inl (w64 (s1 + 1)))
      else
        some (.inr false)
  else
    some (.inr true)
theorem le_literal_ValidName_L1 (n_ : Nat) (y0 : Str) (s1 : Int) : Le (e_literal_ValidName_L1 n_ y0 s1) (m_literal_ValidName_L1 y0 s1) := by
  unfold e_literal_ValidName_L1 m_literal_ValidName_L1
  repeat with_reducible (first | intro _ | exact Le.refl _ | apply Le.ite | apply Le.seqE | apply Le.bind | apply Le.lp | exact Le.none _)
def e_literal_ValidName (n_ : Nat) (y0 : Str) : Option Bool :=
  if ((len y0) == 0) || (decide (12 < (len y0))) then
    some false
  else
    (lp n_) ((e_literal_ValidName_L1 n_) y0) 0
theorem le_literal_ValidName (n_ : Nat) (y0 : Str) : Le (e_literal_ValidName n_ y0) (m_literal_ValidName y0) := by
  unfold e_literal_ValidName m_literal_ValidName
  repeat with_reducible (first | intro _ | apply le_literal_ValidName_L1 | exact Le.refl _ | apply Le.ite | apply Le.seqE | apply Le.bind | apply Le.lp | exact Le.none _)
def e_literal_Valid (n_ : Nat) (y0 : T_Literal) : Option Bool :=
  ((e_literal_ValidName n_) y0.2).bind fun r1 =>
  some r1
theorem le_literal_Valid (n_ : Nat) (y0 : T_Literal) : Le (e_literal_Valid n_ y0) (m_literal_Valid y0) := by
  unfold e_literal_Valid m_literal_Valid
  repeat with_reducible (first | intro _ | apply le_literal_ValidName | exact Le.refl _ | apply Le.ite | apply Le.seqE | apply Le.bind | apply Le.lp | exact Le.none _)
def e_rulebase_ranked (n_ : Nat) (y0 : Int) : Option Bool :=
  some ((decide (0 ≤ y0)) && (decide (y0 ≤ 9)))
theorem le_rulebase_ranked (n_ : Nat) (y0 : Int) : Le (e_rulebase_ranked n_ y0) (m_rulebase_ranked y0) := by
  unfold e_rulebase_ranked m_rulebase_ranked
  repeat with_reducible (first | intro _ | exact Le.refl _ | apply Le.ite | apply Le.seqE | apply Le.bind | apply Le.lp | exact Le.none _)
def e_rulebase_sourced (n_ : Nat) (y0 : Str) : Option Bool :=
  (
    if y0 == [] then
      some true
    else
      ((e_literal_ValidName n_) y0).bind fun r1 =>
      some r1 : Option Bool).bind fun s1 =>
  some s1
theorem le_rulebase_sourced (n_ : Nat) (y0 : Str) : Le (e_rulebase_sourced n_ y0) (m_rulebase_sourced y0) := by
  unfold e_rulebase_sourced m_rulebase_sourced
  repeat with_reducible (first | intro _ | apply le_literal_ValidName | exact Le.refl _ | apply Le.ite | apply Le.seqE | apply Le.bind | apply Le.lp | exact Le.none _)
def e_rulebase_premise (n_ : Nat) (y0 : T_Premise) : Option Int :=
  seqE (
    (
      if y0.2.1 == 1 then
        some (y0.2.1 == 1)
      else
        some (y0.2.1 == 3) : Option Bool).bind fun s2 =>
    if s2 then
      if y0.2.2.1 != 0 then
        some (.inr 1)
      else
        some (.inl ())
    else
      if y0.2.1 == 2 then
        ((e_rulebase_ranked n_) y0.2.2.1).bind fun r1 =>
        if !r1 then
          some (.inr 1)
        else
          some (.inl ())
      else
        some (.inr 4) : Option (Unit ⊕ Int)) fun _ =>
  (
    ((e_literal_Valid n_) y0.1).bind fun r2 =>
    if !r2 then
      some true
    else
      ((e_rulebase_sourced n_) y0.2.2.2).bind fun r3 =>
      some (!r3) : Option Bool).bind fun s3 =>
  if s3 then
    some 1
  else
    some 0
theorem le_rulebase_premise (n_ : Nat) (y0 : T_Premise) : Le (e_rulebase_premise n_ y0) (m_rulebase_premise y0) := by
  unfold e_rulebase_premise m_rulebase_premise
  repeat with_reducible (first | intro _ | apply le_rulebase_sourced | apply le_literal_Valid | apply le_rulebase_ranked | exact Le.refl _ | apply Le.ite | apply Le.seqE | apply Le.bind | apply Le.lp | exact Le.none _)
def e_rulebase_promotion (n_ : Nat) (y0 : T_Base) (y1 : T_Promotion) : Option Int :=
  (
    ((e_rulebase_ranked n_) y1.2.1).bind fun r1 =>
    if !r1 then
      some true
    else
      ((e_literal_Valid n_) y1.2.2).bind fun r2 =>
      some (!r2) : Option Bool).bind fun s1 =>
  if s1 then
    some 1
  else
    ((e_rulebase_Find n_) y0 y1.1).bind fun r3 =>
    if decide (r3 < 0) then
      some 6
    else
      (idx y0.2.1 r3).bind fun x1 =>
      if x1.2.1 then
        some 4
      else
        some 0
theorem le_rulebase_promotion (n_ : Nat) (y0 : T_Base) (y1 : T_Promotion) : Le (e_rulebase_promotion n_ y0 y1) (m_rulebase_promotion y0 y1) := by
  unfold e_rulebase_promotion m_rulebase_promotion
  repeat with_reducible (first | intro _ | apply le_rulebase_Find | apply le_literal_Valid | apply le_rulebase_ranked | exact Le.refl _ | apply Le.ite | apply Le.seqE | apply Le.bind | apply Le.lp | exact Le.none _)
def e_cmp_isNaN_string (n_ : Nat) (y0 : Str) : Option Bool :=
  some (!(y0 == y0))
theorem le_cmp_isNaN_string (n_ : Nat) (y0 : Str) : Le (e_cmp_isNaN_string n_ y0) (m_cmp_isNaN_string y0) := by
  unfold e_cmp_isNaN_string m_cmp_isNaN_string
  repeat with_reducible (first | intro _ | exact Le.refl _ | apply Le.ite | apply Le.seqE | apply Le.bind | apply Le.lp | exact Le.none _)
def e_cmp_Compare_string (n_ : Nat) (y0 : Str) (y1 : Str) : Option Int :=
  ((e_cmp_isNaN_string n_) y0).bind fun r1 =>
  ((e_cmp_isNaN_string n_) y1).bind fun r2 =>
  if r1 then
    if r2 then
      some 0
    else
      some (-1)
  else
    if r2 then
      some 1
    else
      if sless y0 y1 then
        some (-1)
      else
        if !(sless y0 y1 || y0 == y1) then
          some 1
        else
          some 0
theorem le_cmp_Compare_string (n_ : Nat) (y0 : Str) (y1 : Str) : Le (e_cmp_Compare_string n_ y0 y1) (m_cmp_Compare_string y0 y1) := by
  unfold e_cmp_Compare_string m_cmp_Compare_string
  repeat with_reducible (first | intro _ | apply le_cmp_isNaN_string | exact Le.refl _ | apply Le.ite | apply Le.seqE | apply Le.bind | apply Le.lp | exact Le.none _)
def e_literal_Compare (n_ : Nat) (y0 : T_Literal) (y1 : T_Literal) : Option Int :=
  ((e_cmp_Compare_string n_) y0.2 y1.2).bind fun r1 =>
  if (r1 != 0) || (y0.1 == y1.1) then
    some r1
  else
    if y1.1 then
      some (-1)
    else
      some 1
theorem le_literal_Compare (n_ : Nat) (y0 : T_Literal) (y1 : T_Literal) : Le (e_literal_Compare n_ y0 y1) (m_literal_Compare y0 y1) := by
  unfold e_literal_Compare m_literal_Compare
  repeat with_reducible (first | intro _ | apply le_cmp_Compare_string | exact Le.refl _ | apply Le.ite | apply Le.seqE | apply Le.bind | apply Le.lp | exact Le.none _)
def e_rulebase_rule_L1 (n_ : Nat) (y0 : T_Rule) (s3 : Int) : Option (Int ⊕ (Unit ⊕ Int)) :=
  if decide (s3 < (len y0.2.2.2.1)) then
    (idx y0.2.2.2.1 s3).bind fun x1 =>
    ((e_literal_Valid n_) x1).bind fun r4 =>
    if !r4 then
      some (.inr (.inr 1))
    else
      some (.inl (w64 (s3 + 1)))
  else
    some (.inr (.inl ()))
theorem le_rulebase_rule_L1 (n_ : Nat) (y0 : T_Rule) (s3 : Int) : Le (e_rulebase_rule_L1 n_ y0 s3) (m_rulebase_rule_L1 y0 s3) := by
  unfold e_rulebase_rule_L1 m_rulebase_rule_L1
  repeat with_reducible (first | intro _ | apply le_literal_Valid | exact Le.refl _ | apply Le.ite | apply Le.seqE | apply Le.bind | apply Le.lp | exact Le.none _)
def e_rulebase_rule_L2 (n_ : Nat) (y0 : T_Rule) (s4 : Int) : Option (Int ⊕ Int) :=
  if decide (s4 < (len y0.2.2.2.1)) then
    (idx y0.2.2.2.1 (w64 (s4 - 1))).bind fun x2 =>
    (idx y0.2.2.2.1 s4).bind fun x3 =>
    ((e_literal_Compare n_) x2 x3).bind fun r5 =>
    if decide (0 ≤ r5) then
      some (.inr 8)
    else
      some (.inl (w64 (s4 + 1)))
  else
    some (.inr 0)
theorem le_rulebase_rule_L2 (n_ : Nat) (y0 : T_Rule) (s4 : Int) : Le (e_rulebase_rule_L2 n_ y0 s4) (m_rulebase_rule_L2 y0 s4) := by
  unfold e_rulebase_rule_L2 m_rulebase_rule_L2
  repeat with_reducible (first | intro _ | apply le_literal_Compare | exact Le.refl _ | apply Le.ite | apply Le.seqE | apply Le.bind | apply Le.lp | exact Le.none _)
def e_rulebase_rule (n_ : Nat) (y0 : T_Rule) : Option Int :=
  if decide (4 < (len y0.2.2.2.1)) then
    some 2
  else
    (
      ((e_literal_ValidName n_) y0.1).bind fun r1 =>
      if !r1 then
        some true
      else
        ((e_literal_Valid n_) y0.2.2.2.2).bind fun r2 =>
        if !r2 then
          some true
        else
          ((e_rulebase_ranked n_) y0.2.2.1).bind fun r3 =>
          if !r3 then
            some true
          else
            if y0.2.1 then
              some (y0.2.2.1 != 0)
            else
              some false : Option Bool).bind fun s1 =>
    if s1 then
      some 1
    else
      seqE ((lp n_) ((e_rulebase_rule_L1 n_) y0) 0 : Option (Unit ⊕ Int)) fun _ =>
      (lp n_) ((e_rulebase_rule_L2 n_) y0) 1
theorem le_rulebase_rule (n_ : Nat) (y0 : T_Rule) : Le (e_rulebase_rule n_ y0) (m_rulebase_rule y0) := by
  unfold e_rulebase_rule m_rulebase_rule
  repeat with_reducible (first | intro _ | apply le_rulebase_rule_L2 | apply le_rulebase_rule_L1 | apply le_rulebase_ranked | apply le_literal_Valid | apply le_literal_ValidName | exact Le.refl _ | apply Le.ite | apply Le.seqE | apply Le.bind | apply Le.lp | exact Le.none _)
def e_rulebase_Validate_L1 (n_ : Nat) (y0 : T_Base) (s2 : Int) : Option (Int ⊕ (Unit ⊕ Int)) :=
  if decide (s2 < (len y0.1)) then
    (idx y0.1 s2).bind fun x1 =>
    ((e_rulebase_premise n_) x1).bind fun r1 =>
    if r1 != 0 then
      some (.inr (.inr r1))
    else
      ((e_rulebase_Premise n_) y0 x1.1).bind fun r2 =>
      if decide (r2 < s2) then
        some (.inr (.inr 5))
      else
        some (.inl (w64 (s2 + 1)))
  else
    some (.inr (.inl ()))
theorem le_rulebase_Validate_L1 (n_ : Nat) (y0 : T_Base) (s2 : Int) : Le (e_rulebase_Validate_L1 n_ y0 s2) (m_rulebase_Validate_L1 y0 s2) := by
  unfold e_rulebase_Validate_L1 m_rulebase_Validate_L1
  repeat with_reducible (first | intro _ | apply le_rulebase_Premise | apply le_rulebase_premise | exact Le.refl _ | apply Le.ite | apply Le.seqE | apply Le.bind | apply Le.lp | exact Le.none _)
def e_rulebase_Validate_L2 (n_ : Nat) (y0 : T_Base) (s4 : Int) : Option (Int ⊕ (Unit ⊕ Int)) :=
  if decide (s4 < (len y0.2.1)) then
    (idx y0.2.1 s4).bind fun x2 =>
    ((e_rulebase_rule n_) x2).bind fun r3 =>
    if r3 != 0 then
      some (.inr (.inr r3))
    else
      ((e_rulebase_Find n_) y0 x2.1).bind fun r4 =>
      if decide (r4 < s4) then
        some (.inr (.inr 5))
      else
        some (.inl (w64 (s4 + 1)))
  else
    some (.inr (.inl ()))
theorem le_rulebase_Validate_L2 (n_ : Nat) (y0 : T_Base) (s4 : Int) : Le (e_rulebase_Validate_L2 n_ y0 s4) (m_rulebase_Validate_L2 y0 s4) := by
  unfold e_rulebase_Validate_L2 m_rulebase_Validate_L2
  repeat with_reducible (first | intro _ | apply le_rulebase_Find | apply le_rulebase_rule | exact Le.refl _ | apply Le.ite | apply Le.seqE | apply Le.bind | apply Le.lp | exact Le.none _)
def e_rulebase_Validate_L3 (n_ : Nat) (y0 : T_Base) (s5 : Int) : Option (Int ⊕ Int) :=
  if decide (s5 < (len y0.2.2)) then
    (idx y0.2.2 s5).bind fun x3 =>
    ((e_rulebase_promotion n_) y0 x3).bind fun r5 =>
    if r5 != 0 then
      some (.inr r5)
    else
      some (.inl (w64 (s5 + 1)))
  else
    some (.inr 0)
theorem le_rulebase_Validate_L3 (n_ : Nat) (y0 : T_Base) (s5 : Int) : Le (e_rulebase_Validate_L3 n_ y0 s5) (m_rulebase_Validate_L3 y0 s5) := by
  unfold e_rulebase_Validate_L3 m_rulebase_Validate_L3
  repeat with_reducible (first | intro _ | apply le_rulebase_promotion | exact Le.refl _ | apply Le.ite | apply Le.seqE | apply Le.bind | apply Le.lp | exact Le.none _)
def e_rulebase_Validate (n_ : Nat) (y0 : T_Base) : Option Int :=
  if (decide (16 < (len y0.1))) || ((decide (24 < (len y0.2.1))) || (decide (8 < (len y0.2.2)))) then
    some 2
  else
    seqE ((lp n_) ((e_rulebase_Validate_L1 n_) y0) 0 : Option (Unit ⊕ Int)) fun _ =>
    seqE ((lp n_) ((e_rulebase_Validate_L2 n_) y0) 0 : Option (Unit ⊕ Int)) fun _ =>
    (lp n_) ((e_rulebase_Validate_L3 n_) y0) 0
theorem le_rulebase_Validate (n_ : Nat) (y0 : T_Base) : Le (e_rulebase_Validate n_ y0) (m_rulebase_Validate y0) := by
  unfold e_rulebase_Validate m_rulebase_Validate
  repeat with_reducible (first | intro _ | apply le_rulebase_Validate_L3 | apply le_rulebase_Validate_L2 | apply le_rulebase_Validate_L1 | exact Le.refl _ | apply Le.ite | apply Le.seqE | apply Le.bind | apply Le.lp | exact Le.none _)
def e_literal_Format (n_ : Nat) (y0 : T_Literal) : Option Str :=
  ((e_literal_Valid n_) y0).bind fun r1 =>
  if !r1 then
    some []
  else
    if y0.1 then
      (cat [126] y0.2).bind fun x1 =>
      some x1
    else
      some y0.2
theorem le_literal_Format (n_ : Nat) (y0 : T_Literal) : Le (e_literal_Format n_ y0) (m_literal_Format y0) := by
  unfold e_literal_Format m_literal_Format
  repeat with_reducible (first | intro _ | apply le_literal_Valid | exact Le.refl _ | apply Le.ite | apply Le.seqE | apply Le.bind | apply Le.lp | exact Le.none _)
def e_internal_strconv_small (n_ : Nat) (y0 : Int) : Option Str :=
  if decide (y0 < 10) then
    (sub [48, 49, 50, 51, 52, 53, 54, 55, 56, 57, 97, 98, 99, 100, 101, 102, 103, 104, 105, 106, 107, 108, 109, 110, 111, 112, 113, 114, 115, 116, 117, 118, 119, 120, 121, 122] y0 (w64 (y0 + 1))).bind fun x1 =>
    some x1
  else
    (sub [48, 48, 48, 49, 48, 50, 48, 51, 48, 52, 48, 53, 48, 54, 48, 55, 48, 56, 48, 57, 49, 48, 49, 49, 49, 50, 49, 51, 49, 52, 49, 53, 49, 54, 49, 55, 49, 56, 49, 57, 50, 48, 50, 49, 50, 50, 50, 51, 50, 52, 50, 53, 50, 54, 50, 55, 50, 56, 50, 57, 51, 48, 51, 49, 51, 50, 51, 51, 51, 52, 51, 53, 51, 54, 51, 55, 51, 56, 51, 57, 52, 48, 52, 49, 52, 50, 52, 51, 52, 52, 52, 53, 52, 54, 52, 55, 52, 56, 52, 57, 53, 48, 53, 49, 53, 50, 53, 51, 53, 52, 53, 53, 53, 54, 53, 55, 53, 56, 53, 57, 54, 48, 54, 49, 54, 50, 54, 51, 54, 52, 54, 53, 54, 54, 54, 55, 54, 56, 54, 57, 55, 48, 55, 49, 55, 50, 55, 51, 55, 52, 55, 53, 55, 54, 55, 55, 55, 56, 55, 57, 56, 48, 56, 49, 56, 50, 56, 51, 56, 52, 56, 53, 56, 54, 56, 55, 56, 56, 56, 57, 57, 48, 57, 49, 57, 50, 57, 51, 57, 52, 57, 53, 57, 54, 57, 55, 57, 56, 57, 57] (w64 (y0 * 2)) (w64 ((w64 (y0 * 2)) + 2))).bind fun x2 =>
    some x2
theorem le_internal_strconv_small (n_ : Nat) (y0 : Int) : Le (e_internal_strconv_small n_ y0) (m_internal_strconv_small y0) := by
  unfold e_internal_strconv_small m_internal_strconv_small
  repeat with_reducible (first | intro _ | exact Le.refl _ | apply Le.ite | apply Le.seqE | apply Le.bind | apply Le.lp | exact Le.none _)
def e_internal_strconv_FormatInt (n_ : Nat) (y0 : Int) (y1 : Int) : Option Str :=
  if y1 == 10 then
    if (decide (0 ≤ y0)) && (decide (y0 < 100)) then
      ((e_internal_strconv_small n_) y0).bind fun r1 =>
      some r1
    else
      none
  else
    none
theorem le_internal_strconv_FormatInt (n_ : Nat) (y0 : Int) (y1 : Int) : Le (e_internal_strconv_FormatInt n_ y0 y1) (m_internal_strconv_FormatInt y0 y1) := by
  unfold e_internal_strconv_FormatInt m_internal_strconv_FormatInt
  repeat with_reducible (first | intro _ | apply le_internal_strconv_small | exact Le.refl _ | apply Le.ite | apply Le.seqE | apply Le.bind | apply Le.lp | exact Le.none _)
def e_internal_strconv_Itoa (n_ : Nat) (y0 : Int) : Option Str :=
  ((e_internal_strconv_FormatInt n_) y0 10).bind fun r1 =>
  some r1
theorem le_internal_strconv_Itoa (n_ : Nat) (y0 : Int) : Le (e_internal_strconv_Itoa n_ y0) (m_internal_strconv_Itoa y0) := by
  unfold e_internal_strconv_Itoa m_internal_strconv_Itoa
  repeat with_reducible (first | intro _ | apply le_internal_strconv_FormatInt | exact Le.refl _ | apply Le.ite | apply Le.seqE | apply Le.bind | apply Le.lp | exact Le.none _)
def e_strconv_Itoa (n_ : Nat) (y0 : Int) : Option Str :=
  ((e_internal_strconv_Itoa n_) y0).bind fun r1 =>
  some r1
theorem le_strconv_Itoa (n_ : Nat) (y0 : Int) : Le (e_strconv_Itoa n_ y0) (m_strconv_Itoa y0) := by
  unfold e_strconv_Itoa m_strconv_Itoa
  repeat with_reducible (first | intro _ | apply le_internal_strconv_Itoa | exact Le.refl _ | apply Le.ite | apply Le.seqE | apply Le.bind | apply Le.lp | exact Le.none _)
def e_strings_Join (n_ : Nat) (y0 : List Str) (y1 : Str) : Option Str := joinM y0 y1
theorem le_strings_Join (n_ : Nat) (y0 : List Str) (y1 : Str) : Le (e_strings_Join n_ y0 y1) (m_strings_Join y0 y1) := by
  unfold e_strings_Join m_strings_Join
  repeat with_reducible (first | intro _ | exact Le.refl _ | apply Le.ite | apply Le.seqE | apply Le.bind | apply Le.lp | exact Le.none _)
def e_rulebase_premiseLine (n_ : Nat) (y0 : T_Premise) : Option Str :=
  (idx tab_rulebase_kinds y0.2.1).bind fun x1 =>
  ((e_literal_Format n_) y0.1).bind fun r1 =>
  (
    if y0.2.1 == 2 then
      ((e_strconv_Itoa n_) y0.2.2.1).bind fun r2 =>
      (app ([x1, r1] : List Str) ([r2] : List Str)).bind fun x2 =>
      some x2
    else
      some ([x1, r1] : List Str) : Option (List Str)).bind fun s1 =>
  (
    if !(y0.2.2.2 == []) then
      (app s1 ([[102, 114, 111, 109], y0.2.2.2] : List Str)).bind fun x3 =>
      some x3
    else
      some s1 : Option (List Str)).bind fun s2 =>
  ((e_strings_Join n_) s2 [32]).bind fun r3 =>
  some r3
theorem le_rulebase_premiseLine (n_ : Nat) (y0 : T_Premise) : Le (e_rulebase_premiseLine n_ y0) (m_rulebase_premiseLine y0) := by
  unfold e_rulebase_premiseLine m_rulebase_premiseLine
  repeat with_reducible (first | intro _ | apply le_strings_Join | apply le_strconv_Itoa | apply le_literal_Format | exact Le.refl _ | apply Le.ite | apply Le.seqE | apply Le.bind | apply Le.lp | exact Le.none _)
def e_rulebase_promotionLine (n_ : Nat) (y0 : T_Promotion) : Option Str :=
  (cat [112, 114, 111, 109, 111, 116, 101, 32] y0.1).bind fun x1 =>
  (cat x1 [32]).bind fun x2 =>
  ((e_strconv_Itoa n_) y0.2.1).bind fun r1 =>
  (cat x2 r1).bind fun x3 =>
  (cat x3 [32, 105, 102, 32]).bind fun x4 =>
  ((e_literal_Format n_) y0.2.2).bind fun r2 =>
  (cat x4 r2).bind fun x5 =>
  some x5
theorem le_rulebase_promotionLine (n_ : Nat) (y0 : T_Promotion) : Le (e_rulebase_promotionLine n_ y0) (m_rulebase_promotionLine y0) := by
  unfold e_rulebase_promotionLine m_rulebase_promotionLine
  repeat with_reducible (first | intro _ | apply le_literal_Format | apply le_strconv_Itoa | exact Le.refl _ | apply Le.ite | apply Le.seqE | apply Le.bind | apply Le.lp | exact Le.none _)
def e_rulebase_ruleLine_L1 (n_ : Nat) (y0 : T_Rule) (s3 : (List Str) × Int) : Option (((List Str) × Int) ⊕ (List Str)) :=
  if decide (s3.2 < (len y0.2.2.2.1)) then
    (idx y0.2.2.2.1 s3.2).bind fun x3 =>
    ((e_literal_Format n_) x3).bind fun r2 =>
    (
      if decide (s3.2 < (w64 ((len y0.2.2.2.1) - 1))) then
        (cat r2 [44]).bind fun x4 =>
        some x4
      else
        some r2 : Option Str).bind fun s4 =>
    (app s3.1 ([s4] : List Str)).bind fun x5 =>
    some (.inl (x5, w64 (s3.2 + 1)))
  else
    some (.inr s3.1)
theorem le_rulebase_ruleLine_L1 (n_ : Nat) (y0 : T_Rule) (s3 : (List Str) × Int) : Le (e_rulebase_ruleLine_L1 n_ y0 s3) (m_rulebase_ruleLine_L1 y0 s3) := by
  unfold e_rulebase_ruleLine_L1 m_rulebase_ruleLine_L1
  repeat with_reducible (first | intro _ | apply le_literal_Format | exact Le.refl _ | apply Le.ite | apply Le.seqE | apply Le.bind | apply Le.lp | exact Le.none _)
def e_rulebase_ruleLine (n_ : Nat) (y0 : T_Rule) : Option Str :=
  (cat y0.1 [58]).bind fun x1 =>
  (
    if !y0.2.1 then
      ((e_strconv_Itoa n_) y0.2.2.1).bind fun r1 =>
      (cat r1 [58]).bind fun x2 =>
      some (([[114, 117, 108, 101], y0.1, x2] : List Str), [61, 62])
    else
      some (([[115, 116, 114, 105, 99, 116], x1] : List Str), [45, 62]) : Option ((List Str) × Str)).bind fun s1 =>
  ((lp n_) ((e_rulebase_ruleLine_L1 n_) y0) (s1.1, 0) : Option (List Str)).bind fun s2 =>
  ((e_literal_Format n_) y0.2.2.2.2).bind fun r3 =>
  (app s2 ([s1.2, r3] : List Str)).bind fun x6 =>
  ((e_strings_Join n_) x6 [32]).bind fun r4 =>
  some r4
theorem le_rulebase_ruleLine (n_ : Nat) (y0 : T_Rule) : Le (e_rulebase_ruleLine n_ y0) (m_rulebase_ruleLine y0) := by
  unfold e_rulebase_ruleLine m_rulebase_ruleLine
  repeat with_reducible (first | intro _ | apply le_strings_Join | apply le_literal_Format | apply le_rulebase_ruleLine_L1 | apply le_strconv_Itoa | exact Le.refl _ | apply Le.ite | apply Le.seqE | apply Le.bind | apply Le.lp | exact Le.none _)
def e_strings_Builder_Len (n_ : Nat) (y0 : Str) : Option Int := some (len y0)
theorem le_strings_Builder_Len (n_ : Nat) (y0 : Str) : Le (e_strings_Builder_Len n_ y0) (m_strings_Builder_Len y0) := by
  unfold e_strings_Builder_Len m_strings_Builder_Len
  repeat with_reducible (first | intro _ | exact Le.refl _ | apply Le.ite | apply Le.seqE | apply Le.bind | apply Le.lp | exact Le.none _)
def e_strings_Builder_String (n_ : Nat) (y0 : Str) : Option Str := some y0
theorem le_strings_Builder_String (n_ : Nat) (y0 : Str) : Le (e_strings_Builder_String n_ y0) (m_strings_Builder_String y0) := by
  unfold e_strings_Builder_String m_strings_Builder_String
  repeat with_reducible (first | intro _ | exact Le.refl _ | apply Le.ite | apply Le.seqE | apply Le.bind | apply Le.lp | exact Le.none _)
def e_strings_Builder_WriteString (n_ : Nat) (y0 : Str) (y1 : Str) : Option (Int × Unit × Str) := wstrM y0 y1
theorem le_strings_Builder_WriteString (n_ : Nat) (y0 : Str) (y1 : Str) : Le (e_strings_Builder_WriteString n_ y0 y1) (m_strings_Builder_WriteString y0 y1) := by
  unfold e_strings_Builder_WriteString m_strings_Builder_WriteString
  repeat with_reducible (first | intro _ | exact Le.refl _ | apply Le.ite | apply Le.seqE | apply Le.bind | apply Le.lp | exact Le.none _)
def e_rulebase_Format_L1 (n_ : Nat) (y0 : T_Base) (s2 : Int × Str) : Option ((Int × Str) ⊕ Str) :=
  if decide (s2.1 < (len y0.1)) then
    (idx y0.1 s2.1).bind fun x1 =>
    ((e_rulebase_premiseLine n_) x1).bind fun r2 =>
    (cat r2 [10]).bind fun x2 =>
    ((e_strings_Builder_WriteString n_) s2.2 x2).bind fun r3 =>
    some (.inl (w64 (s2.1 + 1), r3.2.2))
  else
    some (.inr s2.2)
theorem le_rulebase_Format_L1 (n_ : Nat) (y0 : T_Base) (s2 : Int × Str) : Le (e_rulebase_Format_L1 n_ y0 s2) (m_rulebase_Format_L1 y0 s2) := by
  unfold e_rulebase_Format_L1 m_rulebase_Format_L1
  repeat with_reducible (first | intro _ | apply le_strings_Builder_WriteString | apply le_rulebase_premiseLine | exact Le.refl _ | apply Le.ite | apply Le.seqE | apply Le.bind | apply Le.lp | exact Le.none _)
def e_rulebase_Format_L2 (n_ : Nat) (y0 : T_Base) (s4 : Int × Str) : Option ((Int × Str) ⊕ Str) :=
  if decide (s4.1 < (len y0.2.1)) then
    (idx y0.2.1 s4.1).bind fun x3 =>
    ((e_rulebase_ruleLine n_) x3).bind fun r4 =>
    (cat r4 [10]).bind fun x4 =>
    ((e_strings_Builder_WriteString n_) s4.2 x4).bind fun r5 =>
    some (.inl (w64 (s4.1 + 1), r5.2.2))
  else
    some (.inr s4.2)
theorem le_rulebase_Format_L2 (n_ : Nat) (y0 : T_Base) (s4 : Int × Str) : Le (e_rulebase_Format_L2 n_ y0 s4) (m_rulebase_Format_L2 y0 s4) := by
  unfold e_rulebase_Format_L2 m_rulebase_Format_L2
  repeat with_reducible (first | intro _ | apply le_strings_Builder_WriteString | apply le_rulebase_ruleLine | exact Le.refl _ | apply Le.ite | apply Le.seqE | apply Le.bind | apply Le.lp | exact Le.none _)
def e_rulebase_Format_L3 (n_ : Nat) (y0 : T_Base) (s6 : Int × Str) : Option ((Int × Str) ⊕ Str) :=
  if decide (s6.1 < (len y0.2.2)) then
    (idx y0.2.2 s6.1).bind fun x5 =>
    ((e_rulebase_promotionLine n_) x5).bind fun r6 =>
    (cat r6 [10]).bind fun x6 =>
    ((e_strings_Builder_WriteString n_) s6.2 x6).bind fun r7 =>
    some (.inl (w64 (s6.1 + 1), r7.2.2))
  else
    some (.inr s6.2)
theorem le_rulebase_Format_L3 (n_ : Nat) (y0 : T_Base) (s6 : Int × Str) : Le (e_rulebase_Format_L3 n_ y0 s6) (m_rulebase_Format_L3 y0 s6) := by
  unfold e_rulebase_Format_L3 m_rulebase_Format_L3
  repeat with_reducible (first | intro _ | apply le_strings_Builder_WriteString | apply le_rulebase_promotionLine | exact Le.refl _ | apply Le.ite | apply Le.seqE | apply Le.bind | apply Le.lp | exact Le.none _)
def e_rulebase_Format (n_ : Nat) (y0 : T_Base) : Option (Str × Int) :=
  ((e_rulebase_Validate n_) y0).bind fun r1 =>
  if r1 != 0 then
    some ([], r1)
  else
    ((lp n_) ((e_rulebase_Format_L1 n_) y0) (0, ([] : Str)) : Option Str).bind fun s1 =>
    ((lp n_) ((e_rulebase_Format_L2 n_) y0) (0, s1) : Option Str).bind fun s3 =>
    ((lp n_) ((e_rulebase_Format_L3 n_) y0) (0, s3) : Option Str).bind fun s5 =>
    ((e_strings_Builder_Len n_) s5).bind fun r8 =>
    if decide (4096 < r8) then
      some ([], 2)
    else
      ((e_strings_Builder_String n_) s5).bind fun r9 =>
      some (r9, 0)
theorem le_rulebase_Format (n_ : Nat) (y0 : T_Base) : Le (e_rulebase_Format n_ y0) (m_rulebase_Format y0) := by
  unfold e_rulebase_Format m_rulebase_Format
  repeat with_reducible (first | intro _ | apply le_strings_Builder_String | apply le_strings_Builder_Len | apply le_rulebase_Format_L3 | apply le_rulebase_Format_L2 | apply le_rulebase_Format_L1 | apply le_rulebase_Validate | exact Le.refl _ | apply Le.ite | apply Le.seqE | apply Le.bind | apply Le.lp | exact Le.none _)
def e_rulebase_words_next (n_ : Nat) (y0 : T_rulebase_words) : Option (Str × (List Str) × Bool) :=
  if (len y0.1) == 0 then
    some ([], y0.1, true)
  else
    (idx y0.1 0).bind fun x1 =>
    (sub y0.1 1 (len y0.1)).bind fun x2 =>
    some (x1, x2, y0.2)
theorem le_rulebase_words_next (n_ : Nat) (y0 : T_rulebase_words) : Le (e_rulebase_words_next n_ y0) (m_rulebase_words_next y0) := by
  unfold e_rulebase_words_next m_rulebase_words_next
  repeat with_reducible (first | intro _ | exact Le.refl _ | apply Le.ite | apply Le.seqE | apply Le.bind | apply Le.lp | exact Le.none _)
def e_literal_Parse (n_ : Nat) (y0 : Str) : Option (T_Literal × Int) :=
  (
    (
      if decide (0 < (len y0)) then
        (sidx y0 0).bind fun x1 =>
        some (x1 == 126)
      else
        some false : Option Bool).bind fun s2 =>
    if s2 then
      (sub y0 1 (len y0)).bind fun x2 =>
      some (x2, true)
    else
      some (y0, false) : Option (Str × Bool)).bind fun s1 =>
  ((e_literal_Valid n_) (s1.2, s1.1)).bind fun r1 =>
  if !r1 then
    some ((false, []), 3)
  else
    some ((s1.2, s1.1), 0)
theorem le_literal_Parse (n_ : Nat) (y0 : Str) : Le (e_literal_Parse n_ y0) (m_literal_Parse y0) := by
  unfold e_literal_Parse m_literal_Parse
  repeat with_reducible (first | intro _ | apply le_literal_Valid | exact Le.refl _ | apply Le.ite | apply Le.seqE | apply Le.bind | apply Le.lp | exact Le.none _)
def e_internal_stringslite_HasSuffix (n_ : Nat) (y0 : Str) (y1 : Str) : Option Bool :=
  (
    if decide ((len y1) ≤ (len y0)) then
      (sub y0 (w64 ((len y0) - (len y1))) (len y0)).bind fun x1 =>
      some (x1 == y1)
    else
      some false : Option Bool).bind fun s1 =>
  some s1
theorem le_internal_stringslite_HasSuffix (n_ : Nat) (y0 : Str) (y1 : Str) : Le (e_internal_stringslite_HasSuffix n_ y0 y1) (m_internal_stringslite_HasSuffix y0 y1) := by
  unfold e_internal_stringslite_HasSuffix m_internal_stringslite_HasSuffix
  repeat with_reducible (first | intro _ | exact Le.refl _ | apply Le.ite | apply Le.seqE | apply Le.bind | apply Le.lp | exact Le.none _)
def e_internal_stringslite_CutSuffix (n_ : Nat) (y0 : Str) (y1 : Str) : Option (Str × Bool) :=
  ((e_internal_stringslite_HasSuffix n_) y0 y1).bind fun r1 =>
  if !r1 then
    some (y0, false)
  else
    (sub y0 0 (w64 ((len y0) - (len y1)))).bind fun x1 =>
    some (x1, true)
theorem le_internal_stringslite_CutSuffix (n_ : Nat) (y0 : Str) (y1 : Str) : Le (e_internal_stringslite_CutSuffix n_ y0 y1) (m_internal_stringslite_CutSuffix y0 y1) := by
  unfold e_internal_stringslite_CutSuffix m_internal_stringslite_CutSuffix
  repeat with_reducible (first | intro _ | apply le_internal_stringslite_HasSuffix | exact Le.refl _ | apply Le.ite | apply Le.seqE | apply Le.bind | apply Le.lp | exact Le.none _)
def e_strings_CutSuffix (n_ : Nat) (y0 : Str) (y1 : Str) : Option (Str × Bool) :=
  ((e_internal_stringslite_CutSuffix n_) y0 y1).bind fun r1 =>
  some (r1.1, r1.2)
theorem le_strings_CutSuffix (n_ : Nat) (y0 : Str) (y1 : Str) : Le (e_strings_CutSuffix n_ y0 y1) (m_strings_CutSuffix y0 y1) := by
  unfold e_strings_CutSuffix m_strings_CutSuffix
  repeat with_reducible (first | intro _ | apply le_internal_stringslite_CutSuffix | exact Le.refl _ | apply Le.ite | apply Le.seqE | apply Le.bind | apply Le.lp | exact Le.none _)
def e_rulebase_words_literal (n_ : Nat) (y0 : T_rulebase_words) (y1 : Str) : Option (T_Literal × (List Str) × Bool) :=
  ((e_rulebase_words_next n_) y0).bind fun r1 =>
  ((e_strings_CutSuffix n_) r1.1 y1).bind fun r2 =>
  ((e_literal_Parse n_) r2.1).bind fun r3 =>
  (
    if r1.2.2 then
      some true
    else
      if !r2.2 then
        some true
      else
        some (r3.2 != 0) : Option Bool).bind fun s1 =>
  some (r3.1, r1.2.1, s1)
theorem le_rulebase_words_literal (n_ : Nat) (y0 : T_rulebase_words) (y1 : Str) : Le (e_rulebase_words_literal n_ y0 y1) (m_rulebase_words_literal y0 y1) := by
  unfold e_rulebase_words_literal m_rulebase_words_literal
  repeat with_reducible (first | intro _ | apply le_literal_Parse | apply le_strings_CutSuffix | apply le_rulebase_words_next | exact Le.refl _ | apply Le.ite | apply Le.seqE | apply Le.bind | apply Le.lp | exact Le.none _)
def e_rulebase_words_name (n_ : Nat) (y0 : T_rulebase_words) (y1 : Str) : Option (Str × (List Str) × Bool) :=
  ((e_rulebase_words_next n_) y0).bind fun r1 =>
  ((e_strings_CutSuffix n_) r1.1 y1).bind fun r2 =>
  (
    if r1.2.2 then
      some true
    else
      if !r2.2 then
        some true
      else
        ((e_literal_ValidName n_) r2.1).bind fun r3 =>
        some (!r3) : Option Bool).bind fun s1 =>
  some (r2.1, r1.2.1, s1)
theorem le_rulebase_words_name (n_ : Nat) (y0 : T_rulebase_words) (y1 : Str) : Le (e_rulebase_words_name n_ y0 y1) (m_rulebase_words_name y0 y1) := by
  unfold e_rulebase_words_name m_rulebase_words_name
  repeat with_reducible (first | intro _ | apply le_literal_ValidName | apply le_strings_CutSuffix | apply le_rulebase_words_next | exact Le.refl _ | apply Le.ite | apply Le.seqE | apply Le.bind | apply Le.lp | exact Le.none _)
def e_rulebase_words_rank (n_ : Nat) (y0 : T_rulebase_words) (y1 : Str) : Option (Int × (List Str) × Bool) :=
  ((e_rulebase_words_next n_) y0).bind fun r1 =>
  ((e_strings_CutSuffix n_) r1.1 y1).bind fun r2 =>
  (
    if !r2.2 then
      some true
    else
      if (len r2.1) != 1 then
        some true
      else
        (sidx r2.1 0).bind fun x1 =>
        if decide (x1 < 48) then
          some true
        else
          (sidx r2.1 0).bind fun x2 =>
          some (decide (57 < x2)) : Option Bool).bind fun s1 =>
  if s1 then
    some (0, r1.2.1, true)
  else
    (sidx r2.1 0).bind fun x3 =>
    some (w64 (IntKind.u8.wrap (x3 - 48)), r1.2.1, r1.2.2)
theorem le_rulebase_words_rank (n_ : Nat) (y0 : T_rulebase_words) (y1 : Str) : Le (e_rulebase_words_rank n_ y0 y1) (m_rulebase_words_rank y0 y1) := by
  unfold e_rulebase_words_rank m_rulebase_words_rank
  repeat with_reducible (first | intro _ | apply le_strings_CutSuffix | apply le_rulebase_words_next | exact Le.refl _ | apply Le.ite | apply Le.seqE | apply Le.bind | apply Le.lp | exact Le.none _)
def e_rulebase_words_premise (n_ : Nat) (y0 : T_rulebase_words) (y1 : Int) : Option (T_Premise × (List Str) × Bool) :=
  ((e_rulebase_words_literal n_) y0 []).bind fun r1 =>
  (
    if y1 == 2 then
      ((e_rulebase_words_rank n_) (r1.2.1, r1.2.2) []).bind fun r2 =>
      some (r2.2.1, r2.2.2, r2.1)
    else
      some (r1.2.1, r1.2.2, 0) : Option ((List Str) × Bool × Int)).bind fun s1 =>
  (
    if decide (0 < (len s1.1)) then
      (
        if s1.2.1 then
          some (s1.1, true)
        else
          ((e_rulebase_words_next n_) (s1.1, s1.2.1)).bind fun r3 =>
          some (r3.2.1, !(r3.1 == [102, 114, 111, 109])) : Option ((List Str) × Bool)).bind fun s3 =>
      ((e_rulebase_words_name n_) (s3.1, s3.2) []).bind fun r4 =>
      some (r4.2.1, r4.2.2, r4.1)
    else
      some (s1.1, s1.2.1, []) : Option ((List Str) × Bool × Str)).bind fun s2 =>
  some ((r1.1, y1, s1.2.2, s2.2.2), s2.1, s2.2.1)
theorem le_rulebase_words_premise (n_ : Nat) (y0 : T_rulebase_words) (y1 : Int) : Le (e_rulebase_words_premise n_ y0 y1) (m_rulebase_words_premise y0 y1) := by
  unfold e_rulebase_words_premise m_rulebase_words_premise
  repeat with_reducible (first | intro _ | apply le_rulebase_words_name | apply le_rulebase_words_next | apply le_rulebase_words_rank | apply le_rulebase_words_literal | exact Le.refl _ | apply Le.ite | apply Le.seqE | apply Le.bind | apply Le.lp | exact Le.none _)
def e_rulebase_words_promotion (n_ : Nat) (y0 : T_rulebase_words) : Option (T_Promotion × (List Str) × Bool) :=
  ((e_rulebase_words_name n_) y0 []).bind fun r1 =>
  ((e_rulebase_words_rank n_) (r1.2.1, r1.2.2) []).bind fun r2 =>
  (
    if r2.2.2 then
      some (r2.2.1, true)
    else
      ((e_rulebase_words_next n_) (r2.2.1, r2.2.2)).bind fun r3 =>
      some (r3.2.1, !(r3.1 == [105, 102])) : Option ((List Str) × Bool)).bind fun s1 =>
  ((e_rulebase_words_literal n_) (s1.1, s1.2) []).bind fun r4 =>
  some ((r1.1, r2.1, r4.1), r4.2.1, r4.2.2)
theorem le_rulebase_words_promotion (n_ : Nat) (y0 : T_rulebase_words) : Le (e_rulebase_words_promotion n_ y0) (m_rulebase_words_promotion y0) := by
  unfold e_rulebase_words_promotion m_rulebase_words_promotion
  repeat with_reducible (first | intro _ | apply le_rulebase_words_literal | apply le_rulebase_words_next | apply le_rulebase_words_rank | apply le_rulebase_words_name | exact Le.refl _ | apply Le.ite | apply Le.seqE | apply Le.bind | apply Le.lp | exact Le.none _)
def e_rulebase_words_rule_L1 (n_ : Nat) (s3 : (List Str) × Bool × (List T_Literal)) : Option (((List Str) × Bool × (List T_Literal)) ⊕ ((List Str) × Bool × (List T_Literal))) :=
  if (decide (2 < (len s3.1))) && (!s3.2.1) then
    (
      if (len s3.1) == 3 then
        some []
      else
        some [44] : Option Str).bind fun s4 =>
    ((e_rulebase_words_literal n_) (s3.1, s3.2.1) s4).bind fun r4 =>
    (app s3.2.2 ([r4.1] : List T_Literal)).bind fun x1 =>
    some (.inl (r4.2.1, r4.2.2, x1))
  else
    some (.inr (s3.1, s3.2.1, s3.2.2))
theorem le_rulebase_words_rule_L1 (n_ : Nat) (s3 : (List Str) × Bool × (List T_Literal)) : Le (e_rulebase_words_rule_L1 n_ s3) (m_rulebase_words_rule_L1 s3) := by
  unfold e_rulebase_words_rule_L1 m_rulebase_words_rule_L1
  repeat with_reducible (first | intro _ | apply le_rulebase_words_literal | exact Le.refl _ | apply Le.ite | apply Le.seqE | apply Le.bind | apply Le.lp | exact Le.none _)
def e_rulebase_words_rule (n_ : Nat) (y0 : T_rulebase_words) (y1 : Bool) : Option (T_Rule × (List Str) × Bool) :=
  (
    if y1 then
      ((e_rulebase_words_name n_) y0 [58]).bind fun r1 =>
      some ([45, 62], r1.2.1, r1.2.2, r1.1, 0)
    else
      ((e_rulebase_words_name n_) y0 []).bind fun r2 =>
      ((e_rulebase_words_rank n_) (r2.2.1, r2.2.2) [58]).bind fun r3 =>
      some ([61, 62], r3.2.1, r3.2.2, r2.1, r3.1) : Option (Str × (List Str) × Bool × Str × Int)).bind fun s1 =>
  ((lp n_) ((e_rulebase_words_rule_L1 n_)) (s1.2.1, s1.2.2.1, ([] : List T_Literal)) : Option ((List Str) × Bool × (List T_Literal))).bind fun s2 =>
  (
    if s2.2.1 then
      some (s2.1, true)
    else
      ((e_rulebase_words_next n_) (s2.1, s2.2.1)).bind fun r5 =>
      some (r5.2.1, !(r5.1 == s1.1)) : Option ((List Str) × Bool)).bind fun s5 =>
  ((e_rulebase_words_literal n_) (s5.1, s5.2) []).bind fun r6 =>
  some ((s1.2.2.2.1, y1, s1.2.2.2.2, s2.2.2, r6.1), r6.2.1, r6.2.2)
theorem le_rulebase_words_rule (n_ : Nat) (y0 : T_rulebase_words) (y1 : Bool) : Le (e_rulebase_words_rule n_ y0 y1) (m_rulebase_words_rule y0 y1) := by
  unfold e_rulebase_words_rule m_rulebase_words_rule
  repeat with_reducible (first | intro _ | apply le_rulebase_words_literal | apply le_rulebase_words_next | apply le_rulebase_words_rule_L1 | apply le_rulebase_words_rank | apply le_rulebase_words_name | exact Le.refl _ | apply Le.ite | apply Le.seqE | apply Le.bind | apply Le.lp | exact Le.none _)
def e_rulebase_words_add_L1 (n_ : Nat) (r1 : Str × (List Str) × Bool) (s3 : Int × Int) : Option ((Int × Int) ⊕ Int) :=
  if decide (s3.2 < 4) then
    (idx tab_rulebase_kinds s3.2).bind fun x1 =>
    if x1 == r1.1 then
      some (.inl (s3.2, w64 (s3.2 + 1)))
    else
      some (.inl (s3.1, w64 (s3.2 + 1)))
  else
    some (.inr s3.1)
theorem le_rulebase_words_add_L1 (n_ : Nat) (r1 : Str × (List Str) × Bool) (s3 : Int × Int) : Le (e_rulebase_words_add_L1 n_ r1 s3) (m_rulebase_words_add_L1 r1 s3) := by
  unfold e_rulebase_words_add_L1 m_rulebase_words_add_L1
  repeat with_reducible (first | intro _ | exact Le.refl _ | apply Le.ite | apply Le.seqE | apply Le.bind | apply Le.lp | exact Le.none _)
def e_rulebase_words_add (n_ : Nat) (y0 : T_rulebase_words) (y1 : T_Base) : Option (Int × Str × (List Str) × Bool × (List T_Premise) × (List T_Rule) × (List T_Promotion)) :=
  ((e_rulebase_words_next n_) y0).bind fun r1 =>
  (
    if r1.1 == [97, 120, 105, 111, 109] then
      some (r1.1 == [97, 120, 105, 111, 109])
    else
      if r1.1 == [112, 114, 101, 109, 105, 115, 101] then
        some (r1.1 == [112, 114, 101, 109, 105, 115, 101])
      else
        some (r1.1 == [97, 115, 115, 117, 109, 101]) : Option Bool).bind fun s1 =>
  if s1 then
    ((lp n_) ((e_rulebase_words_add_L1 n_) r1) (1, 0) : Option Int).bind fun s2 =>
    ((e_rulebase_words_premise n_) (r1.2.1, r1.2.2) s2).bind fun r2 =>
    (app y1.1 ([r2.1] : List T_Premise)).bind fun x2 =>
    ((e_rulebase_premiseLine n_) r2.1).bind fun r3 =>
    some (1, r3, r2.2.1, r2.2.2, x2, y1.2.1, y1.2.2)
  else
    (
      if r1.1 == [115, 116, 114, 105, 99, 116] then
        some (r1.1 == [115, 116, 114, 105, 99, 116])
      else
        some (r1.1 == [114, 117, 108, 101]) : Option Bool).bind fun s4 =>
    if s4 then
      ((e_rulebase_words_rule n_) (r1.2.1, r1.2.2) (r1.1 == [115, 116, 114, 105, 99, 116])).bind fun r4 =>
      (app y1.2.1 ([r4.1] : List T_Rule)).bind fun x3 =>
      ((e_rulebase_ruleLine n_) r4.1).bind fun r5 =>
      some (2, r5, r4.2.1, r4.2.2, y1.1, x3, y1.2.2)
    else
      if r1.1 == [112, 114, 111, 109, 111, 116, 101] then
        ((e_rulebase_words_promotion n_) (r1.2.1, r1.2.2)).bind fun r6 =>
        (app y1.2.2 ([r6.1] : List T_Promotion)).bind fun x4 =>
        ((e_rulebase_promotionLine n_) r6.1).bind fun r7 =>
        some (3, r7, r6.2.1, r6.2.2, y1.1, y1.2.1, x4)
      else
        some (0, [], r1.2.1, r1.2.2, y1.1, y1.2.1, y1.2.2)
theorem le_rulebase_words_add (n_ : Nat) (y0 : T_rulebase_words) (y1 : T_Base) : Le (e_rulebase_words_add n_ y0 y1) (m_rulebase_words_add y0 y1) := by
  unfold e_rulebase_words_add m_rulebase_words_add
  repeat with_reducible (first | intro _ | apply le_rulebase_promotionLine | apply le_rulebase_words_promotion | apply le_rulebase_ruleLine | apply le_rulebase_words_rule | apply le_rulebase_premiseLine | apply le_rulebase_words_premise | apply le_rulebase_words_add_L1 | apply le_rulebase_words_next | exact Le.refl _ | apply Le.ite | apply Le.seqE | apply Le.bind | apply Le.lp | exact Le.none _)
def e_internal_stringslite_Index (n_ : Nat) (y0 : Str) (y1 : Str) : Option Int := index1 y0 y1
theorem le_internal_stringslite_Index (n_ : Nat) (y0 : Str) (y1 : Str) : Le (e_internal_stringslite_Index n_ y0 y1) (m_internal_stringslite_Index y0 y1) := by
  unfold e_internal_stringslite_Index m_internal_stringslite_Index
  repeat with_reducible (first | intro _ | exact Le.refl _ | apply Le.ite | apply Le.seqE | apply Le.bind | apply Le.lp | exact Le.none _)
def e_internal_stringslite_Cut (n_ : Nat) (y0 : Str) (y1 : Str) : Option (Str × Str × Bool) :=
  ((e_internal_stringslite_Index n_) y0 y1).bind fun r1 =>
  if decide (0 ≤ r1) then
    (sub y0 0 r1).bind fun x1 =>
    (sub y0 (w64 (r1 + (len y1))) (len y0)).bind fun x2 =>
    some (x1, x2, true)
  else
    some (y0, [], false)
theorem le_internal_stringslite_Cut (n_ : Nat) (y0 : Str) (y1 : Str) : Le (e_internal_stringslite_Cut n_ y0 y1) (m_internal_stringslite_Cut y0 y1) := by
  unfold e_internal_stringslite_Cut m_internal_stringslite_Cut
  repeat with_reducible (first | intro _ | apply le_internal_stringslite_Index | exact Le.refl _ | apply Le.ite | apply Le.seqE | apply Le.bind | apply Le.lp | exact Le.none _)
def e_strings_Cut (n_ : Nat) (y0 : Str) (y1 : Str) : Option (Str × Str × Bool) :=
  ((e_internal_stringslite_Cut n_) y0 y1).bind fun r1 =>
  some (r1.1, r1.2.1, r1.2.2)
theorem le_strings_Cut (n_ : Nat) (y0 : Str) (y1 : Str) : Le (e_strings_Cut n_ y0 y1) (m_strings_Cut y0 y1) := by
  unfold e_strings_Cut m_strings_Cut
  repeat with_reducible (first | intro _ | apply le_internal_stringslite_Cut | exact Le.refl _ | apply Le.ite | apply Le.seqE | apply Le.bind | apply Le.lp | exact Le.none _)
def e_strings_Fields (n_ : Nat) (y0 : Str) : Option (List Str) := fieldsM y0
theorem le_strings_Fields (n_ : Nat) (y0 : Str) : Le (e_strings_Fields n_ y0) (m_strings_Fields y0) := by
  unfold e_strings_Fields m_strings_Fields
  repeat with_reducible (first | intro _ | exact Le.refl _ | apply Le.ite | apply Le.seqE | apply Le.bind | apply Le.lp | exact Le.none _)
def e_rulebase_Parse_L1 (n_ : Nat) (s2 : Str × Int × Int × (List T_Premise) × (List T_Rule) × (List T_Promotion)) : Option ((Str × Int × Int × (List T_Premise) × (List T_Rule) × (List T_Promotion)) ⊕ (((List T_Premise) × (List T_Rule) × (List T_Promotion)) ⊕ (T_Base × Int × Int))) :=
  if !(s2.1 == []) then
    ((e_strings_Cut n_) s2.1 [10]).bind fun r1 =>
    ((e_strings_Fields n_) r1.1).bind fun r2 =>
    ((e_rulebase_words_add n_) (r2, false) (s2.2.2.2.1, s2.2.2.2.2.1, s2.2.2.2.2.2)).bind fun r3 =>
    if (!r1.2.2) || (r3.2.2.2.1 || ((decide (0 < (len r3.2.2.1))) || ((!(r3.2.1 == r1.1)) || (decide (r3.1 < s2.2.1))))) then
      some (.inr (.inr ((([] : List T_Premise), ([] : List T_Rule), ([] : List T_Promotion)), s2.2.2.1, 3)))
    else
      some (.inl (r1.2.1, r3.1, w64 (s2.2.2.1 + 1), r3.2.2.2.2.1, r3.2.2.2.2.2.1, r3.2.2.2.2.2.2))
  else
    some (.inr (.inl (s2.2.2.2.1, s2.2.2.2.2.1, s2.2.2.2.2.2)))
theorem le_rulebase_Parse_L1 (n_ : Nat) (s2 : Str × Int × Int × (List T_Premise) × (List T_Rule) × (List T_Promotion)) : Le (e_rulebase_Parse_L1 n_ s2) (m_rulebase_Parse_L1 s2) := by
  unfold e_rulebase_Parse_L1 m_rulebase_Parse_L1
  repeat with_reducible (first | intro _ | apply le_rulebase_words_add | apply le_strings_Fields | apply le_strings_Cut | exact Le.refl _ | apply Le.ite | apply Le.seqE | apply Le.bind | apply Le.lp | exact Le.none _)
def e_rulebase_Parse (n_ : Nat) (y0 : Str) : Option (T_Base × Int × Int) :=
  if decide (4096 < (len y0)) then
    some ((([] : List T_Premise), ([] : List T_Rule), ([] : List T_Promotion)), 0, 2)
  else
    seqE ((lp n_) ((e_rulebase_Parse_L1 n_)) (y0, 1, 1, ([] : List T_Premise), ([] : List T_Rule), ([] : List T_Promotion)) : Option (((List T_Premise) × (List T_Rule) × (List T_Promotion)) ⊕ (T_Base × Int × Int))) fun s1 =>
    ((e_rulebase_Validate n_) (s1.1, s1.2.1, s1.2.2)).bind fun r4 =>
    if r4 != 0 then
      some ((([] : List T_Premise), ([] : List T_Rule), ([] : List T_Promotion)), 0, r4)
    else
      some ((s1.1, s1.2.1, s1.2.2), 0, 0)
theorem le_rulebase_Parse (n_ : Nat) (y0 : Str) : Le (e_rulebase_Parse n_ y0) (m_rulebase_Parse y0) := by
  unfold e_rulebase_Parse m_rulebase_Parse
  repeat with_reducible (first | intro _ | apply le_rulebase_Validate | apply le_rulebase_Parse_L1 | exact Le.refl _ | apply Le.ite | apply Le.seqE | apply Le.bind | apply Le.lp | exact Le.none _)
def e_law05_awake (n_ : Nat) : Option Bool :=
  ((e_rulebase_Parse n_) [97, 120, 105, 111, 109, 32, 112, 10, 112, 114, 101, 109, 105, 115, 101, 32, 113, 32, 51, 32, 102, 114, 111, 109, 32, 97, 110, 110, 10, 115, 116, 114, 105, 99, 116, 32, 115, 49, 58, 32, 112, 44, 32, 113, 32, 45, 62, 32, 114, 10, 114, 117, 108, 101, 32, 100, 49, 32, 50, 58, 32, 114, 32, 61, 62, 32, 126, 116, 10, 112, 114, 111, 109, 111, 116, 101, 32, 100, 49, 32, 53, 32, 105, 102, 32, 113, 10]).bind fun r1 =>
  ((e_rulebase_Format n_) r1.1).bind fun r2 =>
  ((e_rulebase_Parse n_) [115, 116, 114, 105, 99, 116, 32, 115, 58, 32, 113, 44, 32, 112, 32, 45, 62, 32, 114, 10]).bind fun r3 =>
  ((e_rulebase_Parse n_) [97, 120, 105, 111, 109, 32, 112, 10, 114, 117, 108, 101, 32, 100, 32, 49, 50, 58, 32, 61, 62, 32, 112, 10]).bind fun r4 =>
  (
    if r1.2.2 == 0 then
      if r1.2.1 == 0 then
        if r2.2 == 0 then
          if r2.1 == [97, 120, 105, 111, 109, 32, 112, 10, 112, 114, 101, 109, 105, 115, 101, 32, 113, 32, 51, 32, 102, 114, 111, 109, 32, 97, 110, 110, 10, 115, 116, 114, 105, 99, 116, 32, 115, 49, 58, 32, 112, 44, 32, 113, 32, 45, 62, 32, 114, 10, 114, 117, 108, 101, 32, 100, 49, 32, 50, 58, 32, 114, 32, 61, 62, 32, 126, 116, 10, 112, 114, 111, 109, 111, 116, 101, 32, 100, 49, 32, 53, 32, 105, 102, 32, 113, 10] then
            if (len r1.1.2.1) == 2 then
              if r3.2.2 == 8 then
                if r3.2.1 == 0 then
                  if r4.2.2 == 3 then
                    if r4.2.1 == 2 then
                      ((e_rulebase_Find n_) r1.1 [100, 49]).bind fun r5 =>
                      some (r5 == 1)
                    else
                      some false
                  else
                    some false
                else
                  some false
              else
                some false
            else
              some false
          else
            some false
        else
          some false
      else
        some false
    else
      some false : Option Bool).bind fun s1 =>
  some s1
theorem le_law05_awake (n_ : Nat) : Le (e_law05_awake n_ ) (m_law05_awake ) := by
  unfold e_law05_awake m_law05_awake
  repeat with_reducible (first | intro _ | apply le_rulebase_Find | apply le_rulebase_Format | apply le_rulebase_Parse | exact Le.refl _ | apply Le.ite | apply Le.seqE | apply Le.bind | apply Le.lp | exact Le.none _)
end

end Go.GD
