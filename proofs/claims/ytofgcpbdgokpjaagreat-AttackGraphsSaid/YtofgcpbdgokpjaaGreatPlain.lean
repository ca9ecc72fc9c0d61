/- Plain lemmas on the models' words: lists, numbers, loops. Conditions: none. -/
import Derived.Test.YtofgcpbdgokpjaaGreatLib
namespace Go.GD
set_option autoImplicit false

theorem w64_id {x : Int} (h1 : -9223372036854775808 ≤ x) (h2 : x < 9223372036854775808) : w64 x = x := by
  simp only [w64, IntKind.wrap, IntKind.signed, IntKind.bits]
  simp; omega
theorem w64_nat (n : Nat) (h : n < 9223372036854775808) : w64 (n : Int) = n := w64_id (by omega) (by omega)
theorem w64_succ (n : Nat) (h : n + 1 < 9223372036854775808) : w64 ((n : Int) + 1) = ((n + 1 : Nat) : Int) := by rw [w64_id (by omega) (by omega)]; omega

theorem idx_nat {α : Type} (l : List α) (i : Nat) : idx l (i : Int) = l[i]? := by simp [idx]
theorem sidx_nat (l : Str) (i : Nat) : sidx l (i : Int) = (l[i]?).map (fun b => (b.toNat : Int)) := by simp [sidx]
theorem idx_some {α : Type} {l : List α} {i : Int} (h0 : 0 ≤ i) (h1 : i < l.length) : ∃ x, idx l i = some x ∧ l[i.toNat]? = some x := by
  have : l[i.toNat]? = some l[i.toNat] := List.getElem?_eq_getElem (by omega)
  exact ⟨_, by simp [idx, h0, this], this⟩
theorem app_ok {α : Type} {l m : List α} (h : l.length + m.length < 4294967296) : app l m = some (l ++ m) := by simp [app, h]
theorem cat_ok {l m : Str} (h : l.length + m.length < 4294967296) : cat l m = some (l ++ m) := by simp [cat, h]
theorem sub_ok {α : Type} {l : List α} {i j : Int} (h0 : 0 ≤ i) (h1 : i ≤ j) (h2 : j ≤ l.length) : sub l i j = some ((l.take j.toNat).drop i.toNat) := by simp [sub, h0, h1, h2]
theorem sub_pre {α : Type} {l : List α} {j : Int} (h1 : 0 ≤ j) (h2 : j ≤ l.length) : sub l 0 j = some (l.take j.toNat) := by simp [sub, h1, h2]
theorem sub_suf {α : Type} {l : List α} {i : Int} (h1 : 0 ≤ i) (h2 : i ≤ l.length) : sub l i (len l) = some (l.drop i.toNat) := by simp [sub, h1, h2]

/-! ### Loops -/

/-- a walk along a list -/
def runL {σ ρ α : Type} (step : Nat → σ → α → Option (σ ⊕ ρ)) (fin : σ → Option ρ) : Nat → List α → σ → Option ρ
  | _, [], s => fin s
  | i, x :: l, s => match step i s x with
    | none => none
    | some (.inl s') => runL step fin (i + 1) l s'
    | some (.inr r) => some r

theorem loop_runL {σ ρ α τ : Type} {B : τ → Option (τ ⊕ ρ)} (mk : Nat → σ → τ) (l : List α) (step : Nat → σ → α → Option (σ ⊕ ρ)) (fin : σ → Option ρ)
    (hB : ∀ i x s, l[i]? = some x → B (mk i s) = (step i s x).map fun o => match o with | .inl s' => .inl (mk (i + 1) s') | .inr r => .inr r)
    (he : ∀ s, B (mk l.length s) = (fin s).map .inr) : ∀ (n i : Nat) (s : σ), i + n = l.length → loop B (mk i s) = runL step fin i (l.drop i) s := by
  intro n
  induction n with
  | zero =>
    intro i s h
    rw [Nat.add_zero] at h
    subst h
    rw [loop_eq, he, List.drop_length]
    cases hf : fin s <;> simp [runL, hf]
  | succ n ih =>
    intro i s h
    have hx : l[i]? = some l[i] := List.getElem?_eq_getElem (by omega)
    rw [loop_eq, hB i _ s hx, List.drop_eq_getElem_cons (by omega)]
    cases hs : step i s l[i] with
    | none => simp [runL, hs]
    | some o =>
      cases o with
      | inl s' => simp only [Option.map_some, runL, hs]; exact ih (i + 1) s' (by omega)
      | inr r => simp [runL, hs]

theorem loop_runL0 {σ ρ α τ : Type} {B : τ → Option (τ ⊕ ρ)} (mk : Nat → σ → τ) (l : List α) (step : Nat → σ → α → Option (σ ⊕ ρ)) (fin : σ → Option ρ)
    (hB : ∀ i x s, l[i]? = some x → B (mk i s) = (step i s x).map fun o => match o with | .inl s' => .inl (mk (i + 1) s') | .inr r => .inr r)
    (he : ∀ s, B (mk l.length s) = (fin s).map .inr) (s : σ) : loop B (mk 0 s) = runL step fin 0 l s := by
  have := loop_runL mk l step fin hB he l.length 0 s (by omega)
  simpa using this

/-- a loop that goes through to its end -/
theorem loop_for {ρ α : Type} {B : Int → Option (Int ⊕ ρ)} {l : List α} {r : ρ} (hB : ∀ (i : Nat) (x : α), l[i]? = some x → B (i : Int) = some (.inl ((i + 1 : Nat) : Int)))
    (he : B (l.length : Int) = some (.inr r)) : loop B 0 = some r := by
  have h := loop_runL0 (B := B) (fun i (_ : Unit) => (i : Int)) l (fun _ _ _ => some (.inl ())) (fun _ => some r) (fun i x s hx => by simp [hB i x hx]) (fun s => by simp [he]) ()
  have key : ∀ (l : List α) (i : Nat), runL (fun _ (_ : Unit) (_ : α) => some (.inl ())) (fun _ => some r) i l () = some r := by
    intro l
    induction l with
    | nil => intro i; rfl
    | cons x l ih => intro i; exact ih (i + 1)
  rw [key] at h
  exact h

/-- the same, with a state of which I holds -/
theorem loop_forI {ρ α σ τ : Type} {B : τ → Option (τ ⊕ ρ)} (mk : Nat → σ → τ) (l : List α) (I : Nat → σ → Prop) (Q : ρ → Prop)
    (hB : ∀ i x s, l[i]? = some x → I i s → (∃ s', B (mk i s) = some (.inl (mk (i + 1) s')) ∧ I (i + 1) s') ∨ ∃ r, B (mk i s) = some (.inr r) ∧ Q r)
    (he : ∀ s, I l.length s → ∃ r, B (mk l.length s) = some (.inr r) ∧ Q r) : ∀ s, I 0 s → ∃ r, loop B (mk 0 s) = some r ∧ Q r := by
  have key : ∀ n i s, i + n = l.length → I i s → ∃ r, loop B (mk i s) = some r ∧ Q r := by
    intro n
    induction n with
    | zero =>
      intro i s h hI
      rw [Nat.add_zero] at h
      subst h
      obtain ⟨r, h1, h2⟩ := he s hI
      exact ⟨r, by rw [loop_eq, h1], h2⟩
    | succ n ih =>
      intro i s h hI
      have hx : l[i]? = some l[i] := List.getElem?_eq_getElem (by omega)
      rcases hB i _ s hx hI with ⟨s', h1, h2⟩ | ⟨r, h1, h2⟩
      · obtain ⟨r, h3, h4⟩ := ih (i + 1) s' (by omega) h2
        exact ⟨r, by rw [loop_eq, h1]; exact h3, h4⟩
      · exact ⟨r, by rw [loop_eq, h1], h2⟩
  exact fun s hI => key l.length 0 s (by omega) hI

/-- rounds counted by a number alone -/
theorem loop_nat {ρ τ : Type} {B : τ → Option (τ ⊕ ρ)} (μ : τ → Nat) (I : τ → Prop) (Q : ρ → Prop)
    (step : ∀ s, I s → (∃ s', B s = some (.inl s') ∧ I s' ∧ μ s' < μ s) ∨ (∃ r, B s = some (.inr r) ∧ Q r)) (s : τ) (h : I s) : ∃ r, loop B s = some r ∧ Q r := loop_spec I μ Q step s h

end Go.GD
