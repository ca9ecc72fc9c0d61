/- The plain law: what the models compute, in plain Lean. Conditions: none. -/
import Derived.Test.YteleongkifgjhaaDoorLib
import Derived.Test.YteleongkifgjhaaDoorModels
import Derived.Lib.TrailingZeros
import Derived.Test.YteleongkifgjhaaDoorJoin
namespace Go.GD
set_option autoImplicit false

section
theorem w64_id {x : Int} (h1 : -9223372036854775808 ≤ x) (h2 : x < 9223372036854775808) : w64 x = x := by
  simp only [w64, IntKind.wrap, IntKind.signed, IntKind.bits]
  simp; omega
theorem w64_succ (n : Nat) (h : n + 1 < 9223372036854775808) : w64 ((n : Int) + 1) = ((n + 1 : Nat) : Int) := by rw [w64_id (by omega) (by omega)]; omega
theorem idx_nat {α : Type} (l : List α) (i : Nat) : idx l (i : Int) = l[i]? := by simp [idx]
theorem idx_some {α : Type} {l : List α} {i : Int} (h0 : 0 ≤ i) (h1 : i < l.length) : ∃ x, idx l i = some x ∧ l[i.toNat]? = some x := by
  have : l[i.toNat]? = some l[i.toNat] := List.getElem?_eq_getElem (by omega)
  exact ⟨_, by simp [idx, h0, this], this⟩
theorem app_ok {α : Type} {l m : List α} (h : l.length + m.length < 4294967296) : app l m = some (l ++ m) := by simp [app, h]
theorem cat_ok {l m : Str} (h : l.length + m.length < 4294967296) : cat l m = some (l ++ m) := by simp [cat, h]
theorem sub_pre {α : Type} {l : List α} {j : Int} (h1 : 0 ≤ j) (h2 : j ≤ l.length) : sub l 0 j = some (l.take j.toNat) := by simp [sub, h1, h2]
/-- a walk along a list -/
def runL {σ ρ α : Type} (step : Nat → σ → α → Option (σ ⊕ ρ)) (fin : σ → Option ρ) : Nat → List α → σ → Option ρ
  | _, [], s => fin s
  | i, x :: l, s => match step i s x with
    | none => none
    | some (.inl s') => runL step fin (i + 1) l s'
    | some (.inr r) => some r
theorem loop_runL {σ ρ α τ : Type} {B : τ → Option (τ ⊕ ρ)} (mk : Nat → σ → τ) (l : List α) (step : Nat → σ → α → Option (σ ⊕ ρ)) (fin : σ → Option ρ)
    (hB : ∀ i x s, l[i]? = some x → B (mk i s) = (step i s x).map fun o => match o with | .inl s' => .inl (mk (i + 1) s') | .inr r => .inr r)
    (he : ∀ s, B (mk l.length s) = (fin s).map .inr) : ∀ (n i : Nat) (s : σ), i + n = l.length → loop B (mk i s) = runL step fin i (l.drop i) s := by
  intro n
  induction n with
  | zero =>
    intro i s h
    rw [Nat.add_zero] at h
    subst h
    rw [loop_eq, he, List.drop_length]
    cases hf : fin s <;> simp [runL, hf]
  | succ n ih =>
    intro i s h
    have hx : l[i]? = some l[i] := List.getElem?_eq_getElem (by omega)
    rw [loop_eq, hB i _ s hx, List.drop_eq_getElem_cons (by omega)]
    cases hs : step i s l[i] with
    | none => simp [runL, hs]
    | some o =>
      cases o with
      | inl s' => simp only [Option.map_some, runL, hs]; exact ih (i + 1) s' (by omega)
      | inr r => simp [runL, hs]
theorem loop_runL0 {σ ρ α τ : Type} {B : τ → Option (τ ⊕ ρ)} (mk : Nat → σ → τ) (l : List α) (step : Nat → σ → α → Option (σ ⊕ ρ)) (fin : σ → Option ρ)
    (hB : ∀ i x s, l[i]? = some x → B (mk i s) = (step i s x).map fun o => match o with | .inl s' => .inl (mk (i + 1) s') | .inr r => .inr r)
    (he : ∀ s, B (mk l.length s) = (fin s).map .inr) (s : σ) : loop B (mk 0 s) = runL step fin 0 l s := by
  have := loop_runL mk l step fin hB he l.length 0 s (by omega)
  simpa using this
/-- a loop that goes through to its end -/
theorem loop_for {ρ α : Type} {B : Int → Option (Int ⊕ ρ)} {l : List α} {r : ρ} (hB : ∀ (i : Nat) (x : α), l[i]? = some x → B (i : Int) = some (.inl ((i + 1 : Nat) : Int)))
    (he : B (l.length : Int) = some (.inr r)) : loop B 0 = some r := by
  have h := loop_runL0 (B := B) (fun i (_ : Unit) => (i : Int)) l (fun _ _ _ => some (.inl ())) (fun _ => some r) (fun i x s hx => by simp [hB i x hx]) (fun s => by simp [he]) ()
  have key : ∀ (l : List α) (i : Nat), runL (fun _ (_ : Unit) (_ : α) => some (.inl ())) (fun _ => some r) i l () = some r := by
    intro l
    induction l with
    | nil => intro i; rfl
    | cons x l ih => intro i; exact ih (i + 1)
  rw [key] at h
  exact h
/-- the same, with a state of which I holds -/
theorem loop_forI {ρ α σ τ : Type} {B : τ → Option (τ ⊕ ρ)} (mk : Nat → σ → τ) (l : List α) (I : Nat → σ → Prop) (Q : ρ → Prop)
    (hB : ∀ i x s, l[i]? = some x → I i s → (∃ s', B (mk i s) = some (.inl (mk (i + 1) s')) ∧ I (i + 1) s') ∨ ∃ r, B (mk i s) = some (.inr r) ∧ Q r)
    (he : ∀ s, I l.length s → ∃ r, B (mk l.length s) = some (.inr r) ∧ Q r) : ∀ s, I 0 s → ∃ r, loop B (mk 0 s) = some r ∧ Q r := by
  have key : ∀ n i s, i + n = l.length → I i s → ∃ r, loop B (mk i s) = some r ∧ Q r := by
    intro n
    induction n with
    | zero =>
      intro i s h hI
      rw [Nat.add_zero] at h
      subst h
      obtain ⟨r, h1, h2⟩ := he s hI
      exact ⟨r, by rw [loop_eq, h1], h2⟩
    | succ n ih =>
      intro i s h hI
      have hx : l[i]? = some l[i] := List.getElem?_eq_getElem (by omega)
      rcases hB i _ s hx hI with ⟨s', h1, h2⟩ | ⟨r, h1, h2⟩
      · obtain ⟨r, h3, h4⟩ := ih (i + 1) s' (by omega) h2
        exact ⟨r, by rw [loop_eq, h1]; exact h3, h4⟩
      · exact ⟨r, by rw [loop_eq, h1], h2⟩
  exact fun s hI => key l.length 0 s (by omega) hI
end
section
/-- the reader's state as it is kept -/
structure SrcOk (s : T_keep_Src) : Prop where
  lo : 0 ≤ s.2
  hi : s.2 ≤ s.1.length
  small : s.1.length ≤ 2000
theorem keep_New (l : List Int) : m_keep_New l = some (l.take 2000, 0) := by
  unfold m_keep_New
  by_cases h : 2000 < len l
  · rw [if_pos h, sub_pre (by omega) (by simp [len] at h; omega)]; rfl
  · rw [if_neg h, sub_pre (by simp [len]) (by simp [len])]
    simp only [Option.bind_some]
    rw [List.take_of_length_le (by simp), List.take_of_length_le (by simp [len] at h; omega)]
theorem srcOk_New (l : List Int) : SrcOk (l.take 2000, 0) := ⟨Int.le_refl _, by simp, by simp; omega⟩
theorem keep_Raw {s : T_keep_Src} (h : SrcOk s) : ∃ v k, m_keep_Src_Raw s = some (v, k) ∧ SrcOk (s.1, k) := by
  obtain ⟨h1, h2, h3⟩ := h
  unfold m_keep_Src_Raw
  by_cases hk : len s.1 ≤ s.2
  · exact ⟨0, s.2, by simp [hk], h1, h2, h3⟩
  · have hk' : s.2 < s.1.length := by simpa [len] using hk
    obtain ⟨x, hx, _⟩ := idx_some h1 hk'
    refine ⟨x, s.2 + 1, ?_, by show (0 : Int) ≤ s.2 + 1; omega, by show s.2 + 1 ≤ (s.1.length : Int); omega, h3⟩
    simp only [hk, decide_false, Bool.false_eq_true, if_false]
    rw [w64_id (x := s.2 + 1) (by omega) (by omega), show s.2 + 1 - 1 = s.2 by omega, w64_id (by omega) (by omega), hx]; rfl
theorem keep_Mod {x n : Int} (h0 : 1 ≤ n) (h1 : n ≤ 4611686018427387904) : ∃ v, m_keep_Mod x n = some v ∧ 0 ≤ v ∧ v < n := by
  unfold m_keep_Mod
  have hn : ¬ n < 1 := by omega
  have hn0 : n ≠ 0 := by omega
  simp only [hn, decide_false, Bool.false_eq_true, if_false, remK, hn0, Option.bind_some]
  have ha := Int.tmod_lt_of_pos x (show 0 < n by omega)
  have hb : -n < x.tmod n := by
    have := Int.lt_tmod_of_pos x (show 0 < n by omega)
    exact this
  by_cases hx : x.tmod n < 0
  · exact ⟨x.tmod n + n, by simp [hx, w64_id (x := x.tmod n + n) (by omega) (by omega)], by omega, by omega⟩
  · exact ⟨x.tmod n, by simp [hx], by omega, ha⟩
theorem keep_N {s : T_keep_Src} {n : Int} (h : SrcOk s) (h0 : 1 ≤ n) (h1 : n ≤ 4611686018427387904) : ∃ v k, m_keep_Src_N s n = some (v, k) ∧ 0 ≤ v ∧ v < n ∧ SrcOk (s.1, k) := by
  obtain ⟨v, k, hr, hk⟩ := keep_Raw h
  obtain ⟨u, hu, h2, h3⟩ := keep_Mod (x := v) h0 h1
  exact ⟨u, k, by simp [m_keep_Src_N, hr, hu], h2, h3, hk⟩
end
section
section
variable {α : Type} [BEq α]
/-- adjacent repetitions left out -/
def dd (a : α) : List α → List α
  | [] => []
  | b :: r => if a == b then dd b r else b :: dd b r
end
section
variable {α : Type} {lt : α → α → Bool}
abbrev Asc (lt : α → α → Bool) (l : List α) : Prop := l.Pairwise fun x y => lt x y = true
end
section
variable {α : Type} [BEq α]
noncomputable def indexL (y0 : List α) (y1 : α) (s1 : Int) : Option (Int ⊕ Int) :=
  if decide (s1 < (len y0)) then
    (idx y0 s1).bind fun x1 =>
    if y1 == x1 then
      some (.inr s1)
    else
      some (.inl (w64 (s1 + 1)))
  else
    some (.inr (-1))
noncomputable def indexM (y0 : List α) (y1 : α) : Option Int := loop (indexL y0 y1) 0
theorem indexM_spec (l : List α) (x : α) (hb : l.length < 9223372036854775807) : ∃ r, indexM l x = some r ∧ (0 ≤ r ↔ ∃ y ∈ l, x == y) := by
  have h := loop_forI (B := indexL l x) (fun i (_ : Unit) => (i : Int)) l (fun i _ => ∀ j y, j < i → l[j]? = some y → (x == y) = false) (fun r => (0 ≤ r ↔ ∃ y ∈ l, x == y)) ?_ ?_ () (by simp)
  · exact h
  · intro i y s hy hI
    have hi := (List.getElem?_eq_some_iff.1 hy).1
    have hlt : decide ((i : Int) < len l) = true := by simp [len]; omega
    unfold indexL
    simp only [hlt, if_true, idx_nat, hy, Option.bind_some]
    cases hxy : x == y with
    | true => exact .inr ⟨_, rfl, ⟨fun _ => ⟨y, List.mem_of_getElem? hy, hxy⟩, fun _ => by omega⟩⟩
    | false =>
      refine .inl ⟨(), by simp [w64_succ i (by omega)], fun j z hj hz => ?_⟩
      rcases Nat.lt_succ_iff_lt_or_eq.1 hj with h | rfl
      · exact hI j z h hz
      · rw [hy] at hz; cases hz; exact hxy
  · intro s hI
    unfold indexL
    refine ⟨-1, by simp [len], ⟨fun h => by omega, fun ⟨y, hy, hxy⟩ => ?_⟩⟩
    obtain ⟨j, hj⟩ := List.mem_iff_getElem?.1 hy
    rw [hI j y (List.getElem?_eq_some_iff.1 hj).1 hj] at hxy
    cases hxy
end
end
section
/-- whatever the one answers, the other answers -/
structure Le {α : Type} (a b : Option α) : Prop where
  el : ∀ r, a = some r → b = some r
theorem Le.refl {α : Type} (a : Option α) : Le a a := ⟨fun _ h => h⟩
theorem Le.bind {α β : Type} {a b : Option α} {f g : α → Option β} (h : Le a b) (k : ∀ x, Le (f x) (g x)) : Le (a.bind f) (b.bind g) := ⟨fun r hr => by
  cases a with
  | none => cases hr
  | some x => rw [h.el x rfl]; exact (k x).el r hr⟩
theorem Le.ite {α : Type} {c : Prop} [Decidable c] {a b a' b' : Option α} (h : Le a b) (k : Le a' b') : Le (if c then a else a') (if c then b else b') := by
  split
  · exact h
  · exact k
theorem Le.seqE {σ α : Type} {a b : Option (σ ⊕ α)} {f g : σ → Option α} (h : Le a b) (k : ∀ x, Le (f x) (g x)) : Le (seqE a f) (seqE b g) :=
  Le.bind h fun o => by
    cases o with
    | inl s => exact k s
    | inr r => exact Le.refl _
theorem Le.none {α : Type} (b : Option α) : Le none b := ⟨fun _ h => nomatch h⟩
abbrev lp {σ ρ : Type} (n : Nat) (B : σ → Option (σ ⊕ ρ)) (s : σ) : Option ρ := iter B n s
theorem Le.lp {σ ρ : Type} {B C : σ → Option (σ ⊕ ρ)} (h : ∀ s, Le (B s) (C s)) (n : Nat) (s : σ) : Le (lp n B s) (loop C s) := by
  refine ⟨fun r hr => ?_⟩
  refine loop_of_iter (n := n) ?_
  revert s
  induction n with
  | zero => intro s hr; cases hr
  | succ n ih =>
    intro s hr
    simp only [iter] at hr ⊢
    cases hb : B s with
    | none => rw [hb] at hr; cases hr
    | some o =>
      rw [hb] at hr
      rw [(h s).el o hb]
      cases o with
      | inl s' => exact ih s' hr
      | inr r' => exact hr
theorem Le.lim {α : Type} {a : Option α} {f : Nat → Option α} (n : Nat) (h : ∀ m, n ≤ m → Le a (f m)) : Le a (limM f) := ⟨fun r hr => limM_of n fun m hm => (h m hm).el r hr⟩
end
section
abbrev ltI (x y : Int) : Bool := decide (x < y)
/-- first by the one, then by the other -/
abbrev lexLt {α β : Type} [BEq α] (lt1 : α → α → Bool) (lt2 : β → β → Bool) (x y : α × β) : Bool := lt1 x.1 y.1 || (x.1 == y.1 && lt2 x.2 y.2)
section
variable {α : Type} {lt : α → α → Bool}
end
end
section
section
variable {α : Type} {l : List α} {i : Nat} {x : α}
theorem at_lt (h : l[i]? = some x) : i < l.length := (List.getElem?_eq_some_iff.1 h).1
theorem at_dec (h : l[i]? = some x) : decide ((i : Int) < len l) = true := by have := at_lt h; simp [len]; omega
theorem at_idx (h : l[i]? = some x) : idx l (i : Int) = some x := by rw [idx_nat]; exact h
theorem at_suc (h : l[i]? = some x) (hl : l.length < 4294967296) : w64 ((i : Int) + 1) = ((i + 1 : Nat) : Int) := w64_succ i (by have := at_lt h; omega)
theorem mem_at (h : l[i]? = some x) : x ∈ l := List.mem_of_getElem? h
end
section
variable {α σ ρ : Type}
/-- is there one? the answer at the first -/
theorem loop_find {B : Int → Option (Int ⊕ ρ)} (l : List α) (p : α → Bool) (yes no : ρ)
    (hB : ∀ (i : Nat) x, l[i]? = some x → B (i : Int) = some (if p x then .inr yes else .inl ((i + 1 : Nat) : Int))) (he : B (l.length : Int) = some (.inr no)) :
    loop B 0 = some (if l.any p then yes else no) := by
  have key : ∀ (n i : Nat), i + n = l.length → loop B (i : Int) = some (if (l.drop i).any p then yes else no) := by
    intro n
    induction n with
    | zero =>
      intro i h
      rw [Nat.add_zero] at h
      subst h
      rw [loop_eq, he, List.drop_length]
      rfl
    | succ n ih =>
      intro i h
      have hx : l[i]? = some l[i] := List.getElem?_eq_getElem (by omega)
      rw [loop_eq, hB i _ hx, List.drop_eq_getElem_cons (by omega)]
      cases hp : p l[i] with
      | true => simp only [if_true, List.any_cons, hp, Bool.true_or]
      | false =>
        simp only [Bool.false_eq_true, if_false, List.any_cons, hp, Bool.false_or]
        exact ih (i + 1) (by omega)
  have := key l.length 0 (by omega)
  simpa using this
theorem loop_any {B : Int → Option (Int ⊕ Bool)} (l : List α) (p : α → Bool) (hB : ∀ (i : Nat) x, l[i]? = some x → B (i : Int) = some (if p x then .inr true else .inl ((i + 1 : Nat) : Int))) (he : B (l.length : Int) = some (.inr false)) :
    loop B 0 = some (l.any p) := by
  rw [loop_find l p true false hB he]
  cases l.any p <;> rfl
end
end
section
abbrev lt2 : T_Pair → T_Pair → Bool := lexLt ltI ltI
end
section
/-- there is an answer, and it is so -/
def Ok {α : Type} (x : Option α) (Q : α → Prop) : Prop := ∃ a, x = some a ∧ Q a
section
variable {α β : Type}
theorem Ok.ret {a : α} {Q : α → Prop} (h : Q a) : Ok (some a) Q := ⟨a, rfl, h⟩
theorem Ok.bind {x : Option α} {f : α → Option β} {I : α → Prop} {Q : β → Prop} (h : Ok x I) (k : ∀ a, I a → Ok (f a) Q) : Ok (x.bind f) Q := by
  obtain ⟨a, rfl, ha⟩ := h; exact k a ha
theorem Ok.ite {c : Bool} {x y : Option α} {Q : α → Prop} (hx : c = true → Ok x Q) (hy : c = false → Ok y Q) : Ok (if c = true then x else y) Q := by
  cases c with
  | true => exact hx rfl
  | false => exact hy rfl
theorem Ok.imp {x : Option α} {I Q : α → Prop} (h : Ok x I) (k : ∀ a, I a → Q a) : Ok x Q := by
  obtain ⟨a, h1, h2⟩ := h; exact ⟨a, h1, k a h2⟩
theorem Ok.idx {l : List α} {i : Int} (h0 : 0 ≤ i) (h1 : i < l.length) : Ok (idx l i) fun x => x ∈ l ∧ l[i.toNat]? = some x := by
  obtain ⟨x, h2, h3⟩ := idx_some h0 h1
  exact ⟨x, h2, List.mem_of_getElem? h3, h3⟩
theorem Ok.app {l m : List α} (h : l.length + m.length < 4294967296) : Ok (app l m) fun z => z = l ++ m := ⟨_, app_ok h, rfl⟩
theorem Ok.cat {l m : Str} (h : l.length + m.length < 4294967296) : Ok (cat l m) fun z => z = l ++ m := ⟨_, cat_ok h, rfl⟩
end
section
variable {s : T_keep_Src}
theorem Ok.N {n : Int} (h : SrcOk s) (h0 : 0 ≤ n) (h1 : n ≤ 4611686018427387904) : Ok (m_keep_Src_N s n) fun r => 0 ≤ r.1 ∧ (1 ≤ n → r.1 < n) ∧ SrcOk (s.1, r.2) := by
  by_cases hn : 1 ≤ n
  · obtain ⟨v, k, e, a, b, c⟩ := keep_N h hn h1
    exact ⟨_, e, a, fun _ => b, c⟩
  · obtain ⟨v, k, hr, hk⟩ := keep_Raw h
    have hn1 : n < 1 := by omega
    refine ⟨(0, k), ?_, Int.le_refl _, fun h => absurd h hn, hk⟩
    simp [m_keep_Src_N, hr, m_keep_Mod, hn1]
end
section
variable {α β σ τ ρ : Type}
/-- one round more, or an end -/
def Nx (mk : Nat → σ → τ) (I : Nat → σ → Prop) (Q : ρ → Prop) (i : Nat) : τ ⊕ ρ → Prop
  | .inl t => ∃ s, t = mk i s ∧ I i s
  | .inr r => Q r
def Fin (Q : ρ → Prop) : τ ⊕ ρ → Prop
  | .inl _ => False
  | .inr r => Q r
theorem Ok.forI {B : τ → Option (τ ⊕ ρ)} (mk : Nat → σ → τ) (l : List α) (I : Nat → σ → Prop) (Q : ρ → Prop) (hB : ∀ i x s, l[i]? = some x → I i s → Ok (B (mk i s)) (Nx mk I Q (i + 1)))
    (he : ∀ s, I l.length s → Ok (B (mk l.length s)) (Fin Q)) (s : σ) (h : I 0 s) : Ok (loop B (mk 0 s)) Q := by
  refine loop_forI mk l I Q (fun i x s hx hI => ?_) (fun s hI => ?_) s h
  · obtain ⟨o, h1, h2⟩ := hB i x s hx hI
    cases o with
    | inl t => obtain ⟨s', rfl, h3⟩ := h2; exact .inl ⟨s', h1, h3⟩
    | inr r => exact .inr ⟨r, h1, h2⟩
  · obtain ⟨o, h1, h2⟩ := he s hI
    cases o with
    | inl t => exact h2.elim
    | inr r => exact ⟨r, h1, h2⟩
theorem Ok.seqE {x : Option (σ ⊕ α)} {f : σ → Option α} {I : σ ⊕ α → Prop} {Q : α → Prop} (h : Ok x I) (k : ∀ a, I (.inl a) → Ok (f a) Q) (k2 : ∀ r, I (.inr r) → Q r) : Ok (seqE x f) Q := by
  obtain ⟨a, rfl, ha⟩ := h
  cases a with
  | inl a => exact k a ha
  | inr r => exact ⟨r, rfl, k2 r ha⟩
end
theorem dec_lt {α : Type} {l : List α} {i : Nat} {x : α} (h : l[i]? = some x) : decide ((i : Int) < len l) = true := decide_eq_true (show (i : Int) < (l.length : Int) by have := (List.getElem?_eq_some_iff.1 h).1; omega)
theorem dec_end {α : Type} {l : List α} : decide ((l.length : Int) < len l) = false := decide_eq_false (show ¬ (l.length : Int) < (l.length : Int) by omega)
theorem set_same {α : Type} {l : List α} {i : Nat} {x : α} (h : l[i]? = some x) : l.set i x = l := by
  apply List.ext_getElem?
  intro j
  by_cases hj : i = j
  · subst hj; rw [List.getElem?_set_self (List.getElem?_eq_some_iff.1 h).1, h]
  · rw [List.getElem?_set_ne hj]
theorem app_nil_ok {α : Type} {l : List α} (h : l.length < 4294967296) : app ([] : List α) l = some l := by rw [app_ok (by simpa using h), List.nil_append]
end
section
/-- is there the attack? -/
def ed (L : List T_Pair) (a b : Int) : Bool := L.any fun p => p.1 == a && p.2 == b
theorem ed_mem {L : List T_Pair} {a b : Int} : ed L a b = true ↔ (a, b) ∈ L := by
  unfold ed
  rw [List.any_eq_true]
  constructor
  · rintro ⟨⟨x, y⟩, h1, h2⟩
    simp at h2
    obtain ⟨rfl, rfl⟩ := h2
    exact h1
  · intro h; exact ⟨_, h, by simp⟩
theorem net_Has (n : Int) (L : List T_Pair) (hb : L.length < 4294967296) (a b : Int) : m_net_Has (n, L) a b = some (ed L a b) := by
  unfold m_net_Has ed
  apply loop_any
  · intro i x hx
    unfold m_net_Has_L1
    simp only [at_dec hx, if_true, at_idx hx, Option.bind_some, at_suc hx hb]
    cases h1 : x.1 == a <;> cases h2 : x.2 == b <;> simp
  · unfold m_net_Has_L1
    simp [len]
theorem net_In (l : List Int) (hb : l.length < 4294967296) (x : Int) : m_net_In l x = some (decide (x ∈ l)) := by
  have h : m_net_In l x = some (l.any (· == x)) := by
    unfold m_net_In
    apply loop_any
    · intro i y hy
      unfold m_net_In_L1
      simp only [at_dec hy, if_true, at_idx hy, Option.bind_some, at_suc hy hb]
      cases y == x <;> rfl
    · unfold m_net_In_L1
      simp [len]
  rw [h]
  congr 1
  rw [Bool.eq_iff_iff, List.any_eq_true, decide_eq_true_eq]
  constructor
  · rintro ⟨y, h1, h2⟩; rw [← eq_of_beq h2]; exact h1
  · intro h; exact ⟨x, h, by simp⟩
end
section
set_option linter.unusedVariables false
def att (R : Nat → Nat → Prop) (S : Nat → Prop) (j : Nat) : Prop := ∃ m, S m ∧ R m j
section
variable {D : Nat → Prop} {R : Nat → Nat → Prop}
end
theorem loop_uptoS {σ τ ρ : Type} {B : τ → Option (τ ⊕ ρ)} (mk : σ → Nat → τ) (M : Nat) (I : Nat → σ → Prop) (Q : ρ → Prop)
    (hB : ∀ i s, i < M → I i s → (∃ s', B (mk s i) = some (.inl (mk s' (i + 1))) ∧ I (i + 1) s') ∨ ∃ r, B (mk s i) = some (.inr r) ∧ Q r)
    (he : ∀ s, I M s → ∃ r, B (mk s M) = some (.inr r) ∧ Q r) : ∀ s, I 0 s → ∃ r, loop B (mk s 0) = some r ∧ Q r := by
  have key : ∀ n i s, i + n = M → I i s → ∃ r, loop B (mk s i) = some r ∧ Q r := by
    intro n
    induction n with
    | zero =>
      intro i s h hi
      rw [Nat.add_zero] at h
      subst h
      obtain ⟨r, h1, h2⟩ := he s hi
      exact ⟨r, by rw [loop_eq, h1], h2⟩
    | succ n ih =>
      intro i s h hi
      rcases hB i s (by omega) hi with ⟨s', h1, h2⟩ | ⟨r, h1, h2⟩
      · obtain ⟨r, h3, h4⟩ := ih (i + 1) s' (by omega) h2
        exact ⟨r, by rw [loop_eq, h1]; exact h3, h4⟩
      · exact ⟨r, by rw [loop_eq, h1], h2⟩
  exact fun s hi => key M 0 s (by omega) hi
section
variable (N : Nat) (L : List T_Pair)
variable {N L} (hN : N ≤ 64) (hL : L.length < 4294967296) (hR : ∀ a b : Int, ed L a b = true → ∃ m, m < N ∧ a = (m : Int))
include hN hL
include hR in
end
end
section
set_option linter.unusedVariables false
def badE (n : Int) (p : T_Pair) : Bool := decide (p.1 < 0) || decide (n ≤ p.1) || decide (p.2 < 0) || decide (n ≤ p.2)
/-- what both checks answer at a place -/
def vStep (n : Int) (L : List T_Pair) (i : Nat) : Option Int := match L[i]? with
  | none => some 0
  | some p => if badE n p then some 1 else if i = 0 then none else match L[i - 1]? with
    | none => none
    | some q => if !lt2 q p then some 8 else none
theorem valid_step2 (n : Int) (L : List T_Pair) (hL : L.length < 4294967296) (i : Nat) (hi : i ≤ L.length) : m_ref10_Validate_L1 (n, L) (i : Int) = match vStep n L i with
    | some e => some (.inr e)
    | none => some (.inl ((i + 1 : Nat) : Int)) := by
  unfold m_ref10_Validate_L1 vStep
  by_cases he : i = L.length
  · subst he
    simp [len]
  · have hx : L[i]? = some L[i] := List.getElem?_eq_getElem (by omega)
    generalize L[i] = x at hx
    simp only [at_dec hx, if_true, at_idx hx, Option.bind_some, hx, at_suc hx hL]
    have hb : (decide (x.1 < 0) || (decide (n ≤ x.1) || (decide (x.2 < 0) || decide (n ≤ x.2)))) = badE n x := by simp [badE, Bool.or_assoc]
    rw [hb]
    cases badE n x with
    | true => simp
    | false =>
      simp only [Bool.false_eq_true, if_false]
      by_cases h0 : i = 0
      · subst h0; simp
      · obtain ⟨j, rfl⟩ : ∃ j, i = j + 1 := ⟨i - 1, by omega⟩
        have hy : L[j]? = some L[j] := List.getElem?_eq_getElem (by omega)
        generalize L[j] = y at hy
        have hd : decide (0 < ((j + 1 : Nat) : Int)) = true := by rw [decide_eq_true_eq]; omega
        have hw : w64 (((j + 1 : Nat) : Int) - 1) = (j : Int) := by rw [w64_id (by omega) (by omega)]; omega
        simp only [hd, if_true, hw, at_idx hy, Option.bind_some, Nat.add_sub_cancel, hy, h0, if_false]
        have hlt : lt2 y x = (ltI y.1 x.1 || (y.1 == x.1 && ltI y.2 x.2)) := rfl
        rw [hlt]
        simp only [ltI]
        by_cases h1 : x.1 < y.1
        · have h2 : ¬ y.1 < x.1 := by omega
          have h3 : (y.1 == x.1) = false := by simp; omega
          simp [h1, h2, h3]
        · by_cases h3 : y.1 = x.1
          · have h2 : ¬ y.1 < x.1 := by omega
            by_cases h4 : x.2 ≤ y.2
            · have h5 : ¬ y.2 < x.2 := by omega
              simp [h3, h4, h5]
            · have h5 : y.2 < x.2 := by omega
              simp [h3, h4, h5]
          · have h2 : y.1 < x.1 := by omega
            have h4 : (y.1 == x.1) = false := by simpa using h3
            simp [h1, h2, h4]
end
section
set_option linter.unusedVariables false
theorem range_ok {s : T_keep_Src} {lo hi : Int} (h : SrcOk s) (h0 : -1000 ≤ lo) (h1 : lo ≤ hi) (h2 : hi ≤ 1000) : ∃ v k, m_keep_Src_Range s lo hi = some (v, k) ∧ lo ≤ v ∧ v ≤ hi ∧ SrcOk (s.1, k) := by
  have e1 : w64 (hi - lo) = hi - lo := w64_id (by omega) (by omega)
  have e2 : w64 (hi - lo + 1) = hi - lo + 1 := w64_id (by omega) (by omega)
  obtain ⟨v, k, h3, h4, h5, h6⟩ := keep_N h (n := hi - lo + 1) (by omega) (by omega)
  exact ⟨lo + v, k, by unfold m_keep_Src_Range; rw [e1, e2, h3]; simp [w64_id (show -9223372036854775808 ≤ lo + v by omega) (by omega)], by omega, by omega, h6⟩
/-- a graph as the reader makes it -/
structure DrG (g : T_Graph) (n : Int) : Prop where
  lo : 1 ≤ g.1
  hi : g.1 ≤ n
  asc : Asc lt2 g.2
  inn : ∀ p ∈ g.2, 0 ≤ p.1 ∧ p.1 < g.1 ∧ 0 ≤ p.2 ∧ p.2 < g.1
  len : g.2.length ≤ 1000
/-- rows up to a, in row a up to b -/
structure RowsI (N a b : Nat) (l : List T_Pair) : Prop where
  asc : Asc lt2 l
  inn : ∀ p ∈ l, 0 ≤ p.1 ∧ p.1 < N ∧ 0 ≤ p.2 ∧ p.2 < N
  done : ∀ p ∈ l, p.1 < a ∨ (p.1 = a ∧ p.2 < b)
  len : l.length ≤ a * N + b
theorem net_Graph_ok {s : T_keep_Src} {n : Int} (h : SrcOk s) (h0 : 1 ≤ n) (h1 : n ≤ 10) : ∃ g k, m_net_Graph s n = some (g, k) ∧ DrG g n ∧ SrcOk (s.1, k) := by
  obtain ⟨N0, k1, h2, h3, h4, h5⟩ := range_ok h (show -1000 ≤ (1 : Int) by omega) h0 (by omega)
  obtain ⟨N, rfl⟩ := Int.eq_ofNat_of_zero_le (show 0 ≤ N0 by omega)
  obtain ⟨d, k2, h6, h7, h8, h9⟩ := range_ok h5 (show -1000 ≤ (2 : Int) by omega) (show (2 : Int) ≤ 5 by omega) (by omega)
  have hN : N ≤ 10 := by omega
  -- a row
  have row : ∀ (a : Nat) (k : Int) (l : List T_Pair), a < N → SrcOk (s.1, k) → RowsI N a 0 l → ∃ k' l', loop (m_net_Graph_L2 ((N : Int), k1) ((a : Int), k, l) (d, k2) s) (0, k, l) = some (.inl (((a + 1 : Nat) : Int), k', l')) ∧ SrcOk (s.1, k') ∧ RowsI N (a + 1) 0 l' := by
    intro a k l ha hk hl
    have h := loop_uptoS (B := m_net_Graph_L2 ((N : Int), k1) ((a : Int), k, l) (d, k2) s) (fun (z : Int × List T_Pair) b => ((b : Int), z.1, z.2)) N (fun b z => SrcOk (s.1, z.1) ∧ RowsI N a b z.2)
      (fun r => ∃ k' l', r = .inl (((a + 1 : Nat) : Int), k', l') ∧ SrcOk (s.1, k') ∧ RowsI N (a + 1) 0 l') ?_ ?_ (k, l) ⟨hk, hl⟩
    · obtain ⟨r, h10, k', l', rfl, h11⟩ := h
      exact ⟨k', l', h10, h11⟩
    · rintro b ⟨kb, lb⟩ hb ⟨hs, hI⟩
      replace hI : RowsI N a b lb := hI
      replace hs : SrcOk (s.1, kb) := hs
      have hd : decide ((b : Int) < (N : Int)) = true := by simp; omega
      have hm : ∃ m, (1 ≤ m ∧ m ≤ 1000) ∧ (if ((a : Int) == (b : Int)) = true then some 9 else some d) = some m := by
        by_cases he : ((a : Int) == (b : Int)) = true
        · exact ⟨9, by omega, by rw [if_pos he]⟩
        · exact ⟨d, by omega, by rw [if_neg he]⟩
      obtain ⟨m, hm1, hm2⟩ := hm
      obtain ⟨v, k3, h10, h11, h12, h13⟩ := keep_N hs (n := m) hm1.1 (by omega)
      have hll : lb.length ≤ 110 := by
        have h14 := hI.len
        have h15 : a * N ≤ 10 * 10 := Nat.mul_le_mul (by omega) hN
        omega
      have hstep : m_net_Graph_L2 ((N : Int), k1) ((a : Int), k, l) (d, k2) s ((b : Int), kb, lb) = if (v == 1) = true then some (.inl (((b + 1 : Nat) : Int), k3, lb ++ [((a : Int), (b : Int))])) else some (.inl (((b + 1 : Nat) : Int), k3, lb)) := by
        unfold m_net_Graph_L2
        simp only [hd, if_true]
        rw [hm2]
        simp only [Option.bind_some]
        have h10' : m_keep_Src_N (s.1, kb) m = some (v, k3) := h10
        rw [h10']
        simp only [Option.bind_some, w64_succ b (by omega)]
        rw [app_ok (by simp; omega)]
        rfl
      by_cases hv : (v == 1) = true
      · rw [if_pos hv] at hstep
        refine .inl ⟨(k3, lb ++ [((a : Int), (b : Int))]), hstep, h13, ?_, ?_, ?_, ?_⟩
        · refine List.pairwise_append.2 ⟨hI.asc, by simp, fun p hp r hr => ?_⟩
          simp only [List.mem_singleton] at hr
          subst hr
          rcases hI.done p hp with h14 | ⟨h14, h15⟩
          · simp [lt2, lexLt, ltI, h14]
          · simp [lt2, lexLt, ltI, h14, h15]
        · intro p hp
          rw [List.mem_append, List.mem_singleton] at hp
          rcases hp with hp | rfl
          · exact hI.inn p hp
          · exact ⟨by simp, by simp; omega, by simp, by simp; omega⟩
        · intro p hp
          rw [List.mem_append, List.mem_singleton] at hp
          rcases hp with hp | rfl
          · rcases hI.done p hp with h14 | ⟨h14, h15⟩
            · exact .inl h14
            · exact .inr ⟨h14, by omega⟩
          · exact .inr ⟨rfl, by simp; omega⟩
        · have := hI.len; simp; omega
      · rw [if_neg hv] at hstep
        refine .inl ⟨(k3, lb), hstep, h13, hI.asc, hI.inn, fun p hp => ?_, by have := hI.len; simp only; omega⟩
        rcases hI.done p hp with h14 | ⟨h14, h15⟩
        · exact .inl h14
        · exact .inr ⟨h14, by omega⟩
    · rintro ⟨kb, lb⟩ ⟨hs, hI⟩
      replace hI : RowsI N a N lb := hI
      refine ⟨_, ?_, kb, lb, rfl, hs, hI.asc, hI.inn, fun p hp => ?_, ?_⟩
      · unfold m_net_Graph_L2
        simp [w64_succ a (by omega)]
      · rcases hI.done p hp with h14 | ⟨h14, h15⟩
        · exact .inl (by omega)
        · exact .inl (by omega)
      · have := hI.len
        rw [Nat.add_mul]; omega
  have h := loop_uptoS (B := m_net_Graph_L1 ((N : Int), k1) (d, k2) s) (fun (z : Int × List T_Pair) a => ((a : Int), z.1, z.2)) N (fun a z => SrcOk (s.1, z.1) ∧ RowsI N a 0 z.2)
    (fun r => SrcOk (s.1, r.1) ∧ RowsI N N 0 r.2) ?_ ?_ (k2, []) ⟨h9, by simp, by simp, by simp, by simp⟩
  · obtain ⟨⟨k', l'⟩, h10, h11, h12⟩ := h
    refine ⟨((N : Int), l'), k', ?_, ⟨h3, h4, h12.asc, h12.inn, ?_⟩, h11⟩
    · unfold m_net_Graph
      rw [h2]
      simp only [Option.bind_some, h6]
      have h10' : loop (m_net_Graph_L1 ((N : Int), k1) (d, k2) s) (0, k2, []) = some (k', l') := h10
      rw [h10']
      rfl
    · have h13 : l'.length ≤ N * N + 0 := h12.len
      have h14 : N * N ≤ 10 * 10 := Nat.mul_le_mul hN hN
      simp only; omega
  · rintro a ⟨ka, la⟩ ha ⟨hs, hI⟩
    obtain ⟨k', l', h10, h11, h12⟩ := row a ka la ha hs hI
    have hd : decide ((a : Int) < (N : Int)) = true := by simp; omega
    refine .inl ⟨(k', l'), ?_, h11, h12⟩
    show m_net_Graph_L1 ((N : Int), k1) (d, k2) s ((a : Int), ka, la) = _
    rw [m_net_Graph_L1]
    simp only [hd, if_true]
    exact h10
  · rintro ⟨ka, la⟩ ⟨hs, hI⟩
    refine ⟨(ka, la), ?_, hs, hI⟩
    show m_net_Graph_L1 ((N : Int), k1) (d, k2) s ((N : Int), ka, la) = _
    rw [m_net_Graph_L1]
    simp
end
section
/-- a dialogue's moves as the rules make them: (player, kind, node, target) -/
structure WfL (l : List T_Move) : Prop where
  big : l.length ≤ 400
  first : ∃ r, l[0]? = some (1, 1, r, 0)
  rest : ∀ (i : Nat) m, l[i]? = some m → i ≠ 0 → (m.1 = 1 ∨ m.1 = 2) ∧
    ((m.2.1 = 2 ∧ ∃ (t : Nat) (x : T_Move), m.2.2.2 = (t : Int) ∧ t < i ∧ l[t]? = some x ∧ x.1 + m.1 = 3) ∨
     (m.2.1 = 3 ∧ ∃ (t : Nat) (x : T_Move), m.2.2.2 = (t : Int) ∧ t < i ∧ l[t]? = some x ∧ x.2.1 = 2) ∨ (m.2.1 = 4 ∧ m.2.2.2 = 0))
variable {l : List T_Move}
theorem WfL.pos (h : WfL l) : 0 < l.length := by obtain ⟨r, h⟩ := h.first; exact (List.getElem?_eq_some_iff.1 h).1
theorem WfL.by12 (h : WfL l) {i : Nat} {m : T_Move} (hm : l[i]? = some m) : m.1 = 1 ∨ m.1 = 2 := by
  by_cases hi : i = 0
  · subst hi
    obtain ⟨r, h⟩ := h.first
    rw [h] at hm
    cases hm
    exact .inl rfl
  · exact (h.rest i m hm hi).1
theorem WfL.att (h : WfL l) {i : Nat} {m : T_Move} (hm : l[i]? = some m) (hk : m.2.1 = 2) : ∃ (t : Nat) (x : T_Move), m.2.2.2 = (t : Int) ∧ t < i ∧ l[t]? = some x ∧ x.1 + m.1 = 3 := by
  by_cases hi : i = 0
  · subst hi
    obtain ⟨r, h⟩ := h.first
    rw [h] at hm
    cases hm
    cases hk
  · rcases (h.rest i m hm hi).2 with h1 | h1 | h1
    · exact h1.2
    · have := h1.1; omega
    · have := h1.1; omega
theorem WfL.ret (h : WfL l) {i : Nat} {m : T_Move} (hm : l[i]? = some m) (hk : m.2.1 = 3) : ∃ (t : Nat) (x : T_Move), m.2.2.2 = (t : Int) ∧ t < i ∧ l[t]? = some x ∧ x.2.1 = 2 := by
  by_cases hi : i = 0
  · subst hi
    obtain ⟨r, h⟩ := h.first
    rw [h] at hm
    cases hm
    cases hk
  · rcases (h.rest i m hm hi).2 with h1 | h1 | h1
    · have := h1.1; omega
    · exact h1.2
    · have := h1.1; omega
/-- the target of a move lies before it -/
theorem WfL.tgt (h : WfL l) {i : Nat} {m : T_Move} (hm : l[i]? = some m) (hi : i ≠ 0) : ∃ (t : Nat) (x : T_Move), m.2.2.2 = (t : Int) ∧ t < i ∧ l[t]? = some x := by
  rcases (h.rest i m hm hi).2 with ⟨_, t, x, h1, h2, h3, _⟩ | ⟨_, t, x, h1, h2, h3, _⟩ | ⟨_, h1⟩
  · exact ⟨t, x, h1, h2, h3⟩
  · exact ⟨t, x, h1, h2, h3⟩
  · have hp := h.pos
    exact ⟨0, l[0], h1, by omega, List.getElem?_eq_getElem hp⟩
def retd (l : List T_Move) (j : Nat) : Bool := l.any fun m => m.2.1 == 3 && m.2.2.2 == (j : Int)
/-- which moves are gone -/
structure IsGo (l : List T_Move) (G : List Bool) : Prop where
  len : G.length = l.length
  at_ : ∀ (j : Nat) m, l[j]? = some m → G[j]? = some (m.2.1 == 3 || m.2.1 == 4 || retd l j || (m.2.1 == 2 && (G[m.2.2.2.toNat]?).getD false))
theorem IsGo.uniq (h : WfL l) {G G' : List Bool} (hG : IsGo l G) (hG' : IsGo l G') : G = G' := by
  have key : ∀ (n j : Nat), j < n → G[j]? = G'[j]? := by
    intro n
    induction n with
    | zero => intro j hj; omega
    | succ n ih =>
      intro j hj
      by_cases hjn : j < n
      · exact ih j hjn
      · obtain rfl : j = n := by omega
        cases hm : l[j]? with
        | none =>
          have h1 : l.length ≤ j := List.getElem?_eq_none_iff.1 hm
          rw [List.getElem?_eq_none (by rw [hG.len]; exact h1), List.getElem?_eq_none (by rw [hG'.len]; exact h1)]
        | some m =>
          rw [hG.at_ j m hm, hG'.at_ j m hm]
          by_cases hk : m.2.1 = 2
          · obtain ⟨t, x, h1, h2, _, _⟩ := h.att hm hk
            rw [h1, Int.toNat_natCast, ih t h2]
          · have : (m.2.1 == 2) = false := by simpa using hk
            rw [this]
            simp
  exact List.ext_getElem? fun j => key (j + 1) j (by omega)
theorem retd_iff {j : Nat} : retd l j = true ↔ ∃ (k : Nat) (m : T_Move), l[k]? = some m ∧ m.2.1 = 3 ∧ m.2.2.2 = (j : Int) := by
  unfold retd
  rw [List.any_eq_true]
  constructor
  · rintro ⟨m, hm, hc⟩
    obtain ⟨k, hk⟩ := List.mem_iff_getElem?.1 hm
    simp only [Bool.and_eq_true, beq_iff_eq] at hc
    exact ⟨k, m, hk, hc.1, hc.2⟩
  · rintro ⟨k, m, hk, h1, h2⟩
    exact ⟨m, List.mem_of_getElem? hk, by simp [h1, h2]⟩
theorem retd_zero (h : WfL l) : retd l 0 = false := by
  cases hr : retd l 0 with
  | false => rfl
  | true =>
    obtain ⟨k, m, hk, h1, h2⟩ := retd_iff.1 hr
    obtain ⟨t, x, h3, _, h5, h6⟩ := h.ret hk h1
    obtain ⟨r, h7⟩ := h.first
    obtain rfl : t = 0 := by omega
    rw [h7] at h5
    cases h5
    cases h6
theorem mkR_ok {α : Type} {n : Nat} (z : α) (h : n < 4294967296) : mkS (n : Int) (n : Int) z = some (List.replicate n z) := by
  unfold mkS
  simp
  omega
/-- the reference finds what is gone -/
theorem ref_gone {d : T_Dialogue} (h : WfL d.2.2.2) : Ok (m_ref27_gone d) (IsGo d.2.2.2) := by
  have hbig := h.big
  unfold m_ref27_gone
  have e0 : len d.2.2.2 = (d.2.2.2.length : Int) := rfl
  rw [e0, mkR_ok false (by omega), Option.bind_some]
  generalize hl : d.2.2.2 = l at *
  -- the first i are found
  refine Ok.forI (fun i (s : List Bool) => (s, (i : Int))) l (fun i s => s.length = l.length ∧ ∀ (j : Nat) m, j < i → l[j]? = some m → s[j]? = some (m.2.1 == 3 || m.2.1 == 4 || retd l j || (m.2.1 == 2 && (s[m.2.2.2.toNat]?).getD false))) _ (fun i m s hm hs => ?_) (fun s hs => ?_) _ ⟨by simp, by intro j m hj; omega⟩
  · obtain ⟨hs1, hs2⟩ := hs
    have hi := (List.getElem?_eq_some_iff.1 hm).1
    have hsi : ∃ x, s[i]? = some x := ⟨s[i], List.getElem?_eq_getElem (by omega)⟩
    obtain ⟨x0, hx0⟩ := hsi
    unfold m_ref27_gone_L1
    rw [hl]
    simp only [dec_lt hm, if_true, idx_nat, hm, Option.bind_some]
    refine .bind (I := fun o => o = s.set i (m.2.1 == 3 || m.2.1 == 4)) ?_ fun s2 hs2' => ?_
    · simp only [hx0, Option.bind_some, Int.toNat_natCast]
      by_cases h3 : m.2.1 = 3
      · simp only [h3, beq_self_eq_true, if_true, Bool.true_or]; exact .ret rfl
      · have : (m.2.1 == 3) = false := by simpa using h3
        simp only [this, Bool.false_eq_true, if_false, Bool.false_or]; exact .ret rfl
    subst hs2'
    -- the moves behind it
    refine .bind (I := fun o => o = s.set i (m.2.1 == 3 || m.2.1 == 4 || retd l i)) ?_ fun s3 hs3 => ?_
    · have hmk : ∀ (k : Nat), i + 1 ≤ k → Ok (loop (m_ref27_gone_L2 d (s, (i : Int))) (s.set i (m.2.1 == 3 || m.2.1 == 4 || (l.take k).any fun m' => m'.2.1 == 3 && m'.2.2.2 == (i : Int)), (k : Int))) fun o => o = s.set i (m.2.1 == 3 || m.2.1 == 4 || retd l i) := by
        intro k
        induction hn : l.length - k generalizing k with
        | zero =>
          intro _
          refine ⟨_, ?_, rfl⟩
          rw [loop_eq]
          unfold m_ref27_gone_L2
          rw [hl]
          have : decide ((k : Int) < len l) = false := decide_eq_false (show ¬ (k : Int) < (l.length : Int) by omega)
          simp only [this, Bool.false_eq_true, if_false]
          rw [List.take_of_length_le (by omega)]
          rfl
        | succ n ih =>
          intro hk
          have hkl : k < l.length := by omega
          have hy : l[k]? = some l[k] := List.getElem?_eq_getElem hkl
          have := ih (k + 1) (by omega) (by omega)
          rw [loop_eq]
          have hstep : m_ref27_gone_L2 d (s, (i : Int)) (s.set i (m.2.1 == 3 || m.2.1 == 4 || (l.take k).any fun m' => m'.2.1 == 3 && m'.2.2.2 == (i : Int)), (k : Int)) = some (.inl (s.set i (m.2.1 == 3 || m.2.1 == 4 || (l.take (k + 1)).any fun m' => m'.2.1 == 3 && m'.2.2.2 == (i : Int)), ((k + 1 : Nat) : Int))) := by
            unfold m_ref27_gone_L2
            rw [hl]
            simp only [dec_lt hy, if_true, idx_nat, hy, Option.bind_some, Int.toNat_natCast, List.getElem?_set_self (show i < s.length by omega), w64_succ k (by omega), List.set_set]
            rw [List.take_add_one, hy, List.any_append]
            simp only [Option.toList, List.any_cons, List.any_nil, Bool.or_false]
            cases hq : (m.2.1 == 3 || m.2.1 == 4 || (l.take k).any fun m' => m'.2.1 == 3 && m'.2.2.2 == (i : Int)) with
            | true =>
              simp only [if_true]
              rw [← Bool.or_assoc, hq, Bool.true_or]
              rfl
            | false =>
              simp only [Bool.false_eq_true, if_false]
              simp only [Bool.or_eq_false_iff] at hq
              rw [hq.1.1, hq.1.2, hq.2]
              by_cases h3 : l[k].2.1 = 3
              · simp [h3]
              · have : (l[k].2.1 == 3) = false := by simpa using h3
                simp [this]
          rw [hstep]
          exact this
      have h0 := hmk (i + 1) (Nat.le_refl _)
      have hnone : ((l.take (i + 1)).any fun m' => m'.2.1 == 3 && m'.2.2.2 == (i : Int)) = false := by
        rw [List.any_eq_false]
        intro m' hm'
        obtain ⟨k, hk⟩ := List.mem_iff_getElem?.1 hm'
        rw [List.getElem?_take] at hk
        split at hk
        · rename_i hki
          simp only [Bool.and_eq_true, beq_iff_eq, not_and]
          intro h3 h4
          obtain ⟨t, x, h5, h6, _⟩ := h.ret hk h3
          omega
        · cases hk
      rw [hnone, Bool.or_false] at h0
      rw [w64_succ i (by omega)]
      exact h0
    subst hs3
    -- what it attacks
    have hfin : ∀ (e : Bool), e = (m.2.1 == 3 || m.2.1 == 4 || retd l i || (m.2.1 == 2 && (s[m.2.2.2.toNat]?).getD false)) → (s.set i e).length = l.length ∧ ∀ (j : Nat) m', j < i + 1 → l[j]? = some m' → (s.set i e)[j]? = some (m'.2.1 == 3 || m'.2.1 == 4 || retd l j || (m'.2.1 == 2 && ((s.set i e)[m'.2.2.2.toNat]?).getD false)) := by
      intro e he
      refine ⟨by simp [hs1], fun j m' hj hm' => ?_⟩
      have htg : (m'.2.1 == 2 && ((s.set i e)[m'.2.2.2.toNat]?).getD false) = (m'.2.1 == 2 && (s[m'.2.2.2.toNat]?).getD false) := by
        by_cases hk : m'.2.1 = 2
        · obtain ⟨t, x, h1, h2, _, _⟩ := h.att hm' hk
          rw [h1, Int.toNat_natCast, List.getElem?_set_ne (by omega)]
        · have : (m'.2.1 == 2) = false := by simpa using hk
          simp [this]
      rw [htg]
      by_cases hji : j = i
      · subst hji
        rw [hm] at hm'
        cases hm'
        rw [List.getElem?_set_self (by omega), he]
      · rw [List.getElem?_set_ne (fun e => hji e.symm)]
        exact hs2 j m' (by omega) hm'
    by_cases h2 : m.2.1 = 2
    · obtain ⟨t, x, g1, g2, g3, g4⟩ := h.att hm h2
      have hst : ∃ y, s[t]? = some y := ⟨s[t], List.getElem?_eq_getElem (by omega)⟩
      obtain ⟨y, hy⟩ := hst
      have hty : (s.set i (m.2.1 == 3 || m.2.1 == 4 || retd l i))[t]? = some y := by rw [List.getElem?_set_ne (by omega)]; exact hy
      simp only [h2, beq_self_eq_true, if_true, g1, idx_nat, List.getElem?_set_self (show i < s.length by omega), Option.bind_some, Int.toNat_natCast, List.set_set]
      have h23 : ((2 : Int) == 3) = false := by decide
      have h24 : ((2 : Int) == 4) = false := by decide
      simp only [h2, h23, h24, Bool.false_or] at hty ⊢
      refine .bind (I := fun o => o = s.set i (retd l i || y)) ?_ fun s6 hs6 => ?_
      · cases hr : retd l i with
        | true => simp only [if_true, Bool.true_or]; exact .ret rfl
        | false =>
          rw [hr] at hty
          simp only [Bool.false_eq_true, if_false, hty, Option.bind_some, Bool.false_or]
          exact .ret rfl
      · subst hs6
        refine .ret ⟨_, by rw [w64_succ i (by omega)], hfin _ ?_⟩
        rw [g1, Int.toNat_natCast, hy, h2]
        simp
    · have : (m.2.1 == 2) = false := by simpa using h2
      simp only [this, Bool.false_eq_true, if_false]
      refine .ret ⟨_, by rw [w64_succ i (by omega)], hfin _ ?_⟩
      simp [this]
  · obtain ⟨hs1, hs2⟩ := hs
    unfold m_ref27_gone_L1
    rw [hl]
    simp only [dec_end, Bool.false_eq_true, if_false]
    exact .ret ⟨hs1, fun j m hm => hs2 j m (List.getElem?_eq_some_iff.1 hm).1 hm⟩
end
section
variable {l : List T_Move}
/-- an attack on j that stands -/
def hitBy (l : List T_Move) (S : List Int) (lo j : Nat) : Prop := ∃ (k : Nat) (m : T_Move), lo < k ∧ l[k]? = some m ∧ m.2.1 = 2 ∧ m.2.2.2 = (j : Int) ∧ S[k]? = some 1
open Classical in
/-- the moves' status: 0 gone, 1 in, 2 out -/
structure IsSt (l : List T_Move) (G : List Bool) (S : List Int) : Prop where
  len : S.length = l.length
  at_ : ∀ (j : Nat) (g : Bool), G[j]? = some g → S[j]? = some (if g = true then 0 else if hitBy l S j j then 2 else 1)
theorem hitBy_congr (h : WfL l) {S S' : List Int} {j lo : Nat} (hj : j ≤ lo) (he : ∀ k, lo < k → S[k]? = S'[k]?) : hitBy l S lo j ↔ hitBy l S' lo j :=
  have _ := h
  have _ := hj
  ⟨fun ⟨k, m, h1, h2, h3, h4, h5⟩ => ⟨k, m, h1, h2, h3, h4, by rw [← he k h1]; exact h5⟩, fun ⟨k, m, h1, h2, h3, h4, h5⟩ => ⟨k, m, h1, h2, h3, h4, by rw [he k h1]; exact h5⟩⟩
theorem IsSt.uniq (h : WfL l) {G : List Bool} (hG : G.length = l.length) {S S' : List Int} (hS : IsSt l G S) (hS' : IsSt l G S') : S = S' := by
  have key : ∀ (n j : Nat), l.length ≤ j + n → S[j]? = S'[j]? := by
    intro n
    induction n with
    | zero =>
      intro j hj
      rw [List.getElem?_eq_none (by rw [hS.len]; omega), List.getElem?_eq_none (by rw [hS'.len]; omega)]
    | succ n ih =>
      intro j hj
      by_cases hjl : j < l.length
      · have hg : G[j]? = some G[j] := List.getElem?_eq_getElem (by omega)
        rw [hS.at_ j _ hg, hS'.at_ j _ hg]
        have := hitBy_congr h (S := S) (S' := S') (Nat.le_refl j) fun k hk => ih k (by omega)
        by_cases hh : hitBy l S j j
        · rw [if_pos hh, if_pos (this.1 hh)]
        · rw [if_neg hh, if_neg (fun h => hh (this.2 h))]
      · rw [List.getElem?_eq_none (by rw [hS.len]; omega), List.getElem?_eq_none (by rw [hS'.len]; omega)]
  exact List.ext_getElem? fun j => key l.length j (by omega)
theorem IsSt.vals {G : List Bool} {S : List Int} (hG : G.length = l.length) (hS : IsSt l G S) {j : Nat} {x : Int} (hx : S[j]? = some x) : x = 0 ∨ x = 1 ∨ x = 2 := by
  have hj : j < l.length := by rw [← hS.len]; exact (List.getElem?_eq_some_iff.1 hx).1
  have hg : G[j]? = some G[j] := List.getElem?_eq_getElem (by omega)
  rw [hS.at_ j _ hg] at hx
  cases hx
  split
  · exact .inl rfl
  · split
    · exact .inr (.inr rfl)
    · exact .inr (.inl rfl)
/-- an attack on j behind lo, in what is found so far -/
def hitB (l : List T_Move) (S : List Int) (j lo : Nat) (hi : Nat) : Bool := (List.range hi).any fun k => decide (lo < k) && match l[k]? with
  | some m => m.2.1 == 2 && m.2.2.2 == (j : Int) && S[k]? == some 1
  | none => false
theorem hitB_iff {S : List Int} {j lo : Nat} : hitB l S j lo l.length = true ↔ hitBy l S lo j := by
  unfold hitB hitBy
  rw [List.any_eq_true]
  constructor
  · rintro ⟨k, hk, hc⟩
    simp only [Bool.and_eq_true, decide_eq_true_eq] at hc
    obtain ⟨h1, h2⟩ := hc
    split at h2
    · rename_i m hm
      simp only [Bool.and_eq_true, beq_iff_eq] at h2
      exact ⟨k, m, h1, hm, h2.1.1, h2.1.2, h2.2⟩
    · cases h2
  · rintro ⟨k, m, h1, h2, h3, h4, h5⟩
    refine ⟨k, List.mem_range.2 (List.getElem?_eq_some_iff.1 h2).1, ?_⟩
    simp [h1, h2, h3, h4, h5]
theorem hitB_suc {S : List Int} {j lo hi : Nat} : hitB l S j lo (hi + 1) = (hitB l S j lo hi || (decide (lo < hi) && match l[hi]? with | some m => m.2.1 == 2 && m.2.2.2 == (j : Int) && S[hi]? == some 1 | none => false)) := by
  unfold hitB
  rw [List.range_succ, List.any_append]
  simp
theorem hitB_none {S : List Int} {j lo hi : Nat} (h : hi ≤ lo + 1) : hitB l S j lo hi = false := by
  unfold hitB
  rw [List.any_eq_false]
  intro k hk
  have := List.mem_range.1 hk
  have : decide (lo < k) = false := decide_eq_false (by omega)
  simp [this]
theorem hitB_set {S : List Int} {j lo hi : Nat} {x : Int} : hitB l (S.set lo x) j lo hi = hitB l S j lo hi := by
  unfold hitB
  congr 1
  funext k
  by_cases hk : lo < k
  · rw [List.getElem?_set_ne (by omega)]
  · have : decide (lo < k) = false := decide_eq_false hk
    simp [this]
/-- the reference finds the status -/
theorem ref_Status_of {d : T_Dialogue} {G : List Bool} (h : WfL d.2.2.2) (hg : m_ref27_gone d = some G) (hG : IsGo d.2.2.2 G) : Ok (m_ref27_Status d) (IsSt d.2.2.2 G) := by
  have hbig := h.big
  have hpos := h.pos
  unfold m_ref27_Status
  rw [hg, Option.bind_some]
  have e0 : len d.2.2.2 = (d.2.2.2.length : Int) := rfl
  rw [e0, mkR_ok (0 : Int) (by omega), Option.bind_some]
  have hGl := hG.len
  generalize hl : d.2.2.2 = l at *
  rw [w64_id (by omega) (by omega)]
  -- i moves are left
  have key : ∀ (i : Nat) (s : List Int), i ≤ l.length → s.length = l.length → (∀ j, j < i → s[j]? = some 0) → (∀ (j : Nat) (g : Bool), i ≤ j → G[j]? = some g → s[j]? = some (if g = true then 0 else if hitB l s j j l.length = true then 2 else 1)) → Ok (loop (m_ref27_Status_L1 G d) (s, (i : Int) - 1)) (IsSt l G) := by
    intro i
    induction i with
    | zero =>
      intro s _ hs1 _ hs3
      refine ⟨s, ?_, hs1, fun j g hj => ?_⟩
      · rw [loop_eq]
        unfold m_ref27_Status_L1
        simp
      · rw [hs3 j g (by omega) hj]
        by_cases hh : hitBy l s j j
        · rw [if_pos hh, if_pos (hitB_iff.2 hh)]
        · rw [if_neg hh, if_neg (fun h => hh (hitB_iff.1 h))]
    | succ i ih =>
      intro s hi hs1 hs2 hs3
      have hgi : G[i]? = some G[i] := List.getElem?_eq_getElem (by omega)
      have hsi := hs2 i (by omega)
      rw [loop_eq]
      have hstep : m_ref27_Status_L1 G d (s, ((i + 1 : Nat) : Int) - 1) = some (.inl (if G[i] = true then s else s.set i (if hitB l s i i l.length = true then 2 else 1), (i : Int) - 1)) := by
        unfold m_ref27_Status_L1
        rw [show ((i + 1 : Nat) : Int) - 1 = (i : Int) by omega]
        have hd : decide ((0 : Int) ≤ (i : Int)) = true := decide_eq_true (by omega)
        simp only [hd, if_true, idx_nat, hgi, Option.bind_some]
        rw [w64_id (x := (i : Int) - 1) (by omega) (by omega)]
        cases hgv : G[i] with
        | true => simp
        | false =>
          simp only [Bool.false_eq_true, if_false, hsi, Option.bind_some, Int.toNat_natCast]
          -- the inner loop
          have hin : ∀ (n k : Nat), l.length = k + n → i + 1 ≤ k → loop (m_ref27_Status_L2 d (s, (i : Int))) (s.set i (if hitB l s i i k = true then 2 else 1), (k : Int)) = some (.inl (s.set i (if hitB l s i i l.length = true then 2 else 1), (i : Int) - 1)) := by
            intro n
            induction n with
            | zero =>
              intro k hk _
              rw [loop_eq]
              unfold m_ref27_Status_L2
              rw [hl]
              have : decide ((k : Int) < len l) = false := decide_eq_false (show ¬ (k : Int) < (l.length : Int) by omega)
              simp only [this, Bool.false_eq_true, if_false, w64_id (x := (i : Int) - 1) (by omega) (by omega)]
              rw [show k = l.length by omega]
            | succ n ihn =>
              intro k hk hik
              have hkl : k < l.length := by omega
              have hy : l[k]? = some l[k] := List.getElem?_eq_getElem hkl
              have hsk : ∃ v, s[k]? = some v := ⟨s[k], List.getElem?_eq_getElem (by omega)⟩
              obtain ⟨v, hv⟩ := hsk
              have := ihn (k + 1) (by omega) (by omega)
              rw [loop_eq]
              have hst2 : m_ref27_Status_L2 d (s, (i : Int)) (s.set i (if hitB l s i i k = true then 2 else 1), (k : Int)) = some (.inl (s.set i (if hitB l s i i (k + 1) = true then 2 else 1), ((k + 1 : Nat) : Int))) := by
                unfold m_ref27_Status_L2
                rw [hl]
                have hdk : decide (i < k) = true := decide_eq_true (by omega)
                simp only [dec_lt hy, if_true, idx_nat, hy, Option.bind_some, List.getElem?_set_ne (show i ≠ k by omega), hv, Int.toNat_natCast, List.getElem?_set_self (show i < s.length by omega), w64_succ k (by omega), List.set_set]
                rw [hitB_suc, hy, hdk, hv]
                simp only [Bool.true_and]
                by_cases h2 : l[k].2.1 = 2
                · by_cases ht : l[k].2.2.2 = (i : Int)
                  · by_cases hv1 : v = 1
                    · simp [h2, ht, hv1]
                    · simp [h2, ht, hv1]
                  · simp [h2, ht]
                · simp [h2]
              rw [hst2]
              exact this
          rw [w64_succ i (by omega)]
          have h0 := hin (l.length - (i + 1)) (i + 1) (by omega) (Nat.le_refl _)
          rw [hitB_none (Nat.le_refl _)] at h0
          exact h0
      rw [hstep]
      refine ih _ (by omega) (by split <;> simp [hs1]) (fun j hj => ?_) (fun j g hj hgj => ?_)
      · split
        · exact hs2 j (by omega)
        · rw [List.getElem?_set_ne (by omega)]
          exact hs2 j (by omega)
      · by_cases hji : j = i
        · subst hji
          rw [hgi] at hgj
          cases hgj
          split
          · exact hsi
          · rw [List.getElem?_set_self (by omega), hitB_set]
        · have h1 := hs3 j g (by omega) hgj
          split
          · exact h1
          · rw [List.getElem?_set_ne (by omega), h1]
            have : hitB l (s.set i (if hitB l s i i l.length = true then 2 else 1)) j j l.length = hitB l s j j l.length := by
              unfold hitB
              congr 1
              funext k
              by_cases hk : j < k
              · rw [List.getElem?_set_ne (by omega)]
              · have : decide (j < k) = false := decide_eq_false hk
                simp [this]
            rw [this]
  exact key l.length _ (Nat.le_refl _) (by simp) (fun j hj => by rw [List.getElem?_replicate]; simp [hj]) (fun j g hj hgj => by
    have := (List.getElem?_eq_some_iff.1 hgj).1
    omega)
end
section
variable {l : List T_Move}
theorem prot_attacks (h : WfL l) {i : Nat} {m : T_Move} (hm : l[i]? = some m) : m_protocol_attacks l (i : Int) = some (m.2.1 == 2) := by
  unfold m_protocol_attacks
  simp only [idx_nat, hm, Option.bind_some]
  by_cases hk : m.2.1 = 2
  · obtain ⟨t, x, h1, h2, _, _⟩ := h.att hm hk
    simp [hk, h1, h2]
  · have : (m.2.1 == 2) = false := by simpa using hk
    simp [this]
theorem prot_Status_L1 {d : T_Dialogue} (h : WfL d.2.2.2) : Ok (loop (m_protocol_Status_L1 d (List.replicate d.2.2.2.length false)) (List.replicate d.2.2.2.length false, 0)) fun R => R.length = d.2.2.2.length ∧ ∀ j, j < d.2.2.2.length → R[j]? = some (retd d.2.2.2 j) := by
  have hbig := h.big
  generalize hl : d.2.2.2 = l at *
  refine Ok.forI (fun i (s : List Bool) => (s, (i : Int))) l (fun i s => s.length = l.length ∧ ∀ j, j < l.length → s[j]? = some (retd (l.take i) j)) _ (fun i m s hm hs => ?_) (fun s hs => ?_) _ ⟨by simp, fun j hj => by rw [List.getElem?_replicate]; simp [hj, retd]⟩
  · obtain ⟨hs1, hs2⟩ := hs
    have hi := (List.getElem?_eq_some_iff.1 hm).1
    have hsuc : ∀ j, retd (l.take (i + 1)) j = (retd (l.take i) j || (m.2.1 == 3 && m.2.2.2 == (j : Int))) := by
      intro j
      unfold retd
      rw [List.take_add_one, hm, List.any_append]
      simp
    unfold m_protocol_Status_L1
    rw [hl]
    simp only [dec_lt hm, if_true, idx_nat, hm, Option.bind_some]
    by_cases h3 : m.2.1 = 3
    · obtain ⟨t, x, g1, g2, g3, _⟩ := h.ret hm h3
      have hst : (List.replicate l.length false).length = l.length := by simp
      have e1 : decide ((0 : Int) ≤ (t : Int)) = true := decide_eq_true (by omega)
      have e2 : decide ((t : Int) < len (List.replicate l.length false)) = true := decide_eq_true (show (t : Int) < ((List.replicate l.length false).length : Int) by omega)
      simp only [h3, g1, e1, e2, beq_self_eq_true, Bool.and_self, if_true, idx_nat, hs2 t (by omega), Option.bind_some, Int.toNat_natCast]
      refine .ret ⟨_, by rw [w64_succ i (by omega)], by simp [hs1], fun j hj => ?_⟩
      rw [hsuc]
      by_cases hjt : j = t
      · subst hjt
        rw [List.getElem?_set_self (by omega)]
        simp [h3, g1]
      · rw [List.getElem?_set_ne (fun e => hjt e.symm), hs2 j hj, g1]
        have : ((t : Int) == (j : Int)) = false := beq_eq_false_iff_ne.2 (fun e => hjt (by omega))
        simp [this]
    · have e3 : (m.2.1 == 3) = false := by simpa using h3
      simp only [e3, Bool.false_and, Bool.false_eq_true, if_false]
      refine .ret ⟨_, by rw [w64_succ i (by omega)], hs1, fun j hj => ?_⟩
      rw [hsuc, e3, hs2 j hj]
      simp
  · obtain ⟨hs1, hs2⟩ := hs
    unfold m_protocol_Status_L1
    rw [hl]
    simp only [dec_end, Bool.false_eq_true, if_false]
    rw [List.take_of_length_le (Nat.le_refl _)] at hs2
    exact .ret ⟨hs1, hs2⟩
theorem prot_Status_L2 {d : T_Dialogue} (h : WfL d.2.2.2) {G R : List Bool} (hG : IsGo d.2.2.2 G) (hR : R.length = d.2.2.2.length ∧ ∀ j, j < d.2.2.2.length → R[j]? = some (retd d.2.2.2 j)) :
    Ok (loop (m_protocol_Status_L2 d R) (List.replicate d.2.2.2.length 0, 0)) fun S => S.length = d.2.2.2.length ∧ ∀ (j : Nat) (g : Bool), G[j]? = some g → S[j]? = some (if g = true then 0 else 1) := by
  have hbig := h.big
  have hGl := hG.len
  generalize hl : d.2.2.2 = l at *
  obtain ⟨hR1, hR2⟩ := hR
  refine Ok.forI (fun i (s : List Int) => (s, (i : Int))) l (fun i s => s.length = l.length ∧ (∀ (j : Nat) (g : Bool), j < i → G[j]? = some g → s[j]? = some (if g = true then 0 else 1)) ∧ ∀ j, i ≤ j → j < l.length → s[j]? = some 0) _ (fun i m s hm hs => ?_) (fun s hs => ?_) _ ⟨by simp, fun j g hj => by omega, fun j _ hj => by rw [List.getElem?_replicate]; simp [hj]⟩
  · obtain ⟨hs1, hs2, hs3⟩ := hs
    have hi := (List.getElem?_eq_some_iff.1 hm).1
    have hsi := hs3 i (Nat.le_refl _) hi
    have hgi := hG.at_ i m hm
    unfold m_protocol_Status_L2
    rw [hl]
    simp only [dec_lt hm, if_true]
    refine .bind (I := fun o => G[i]? = some (!o)) ?_ fun o ho => ?_
    · by_cases hi0 : i = 0
      · subst hi0
        simp only [show (((0 : Nat) : Int) == 0) = true by decide, if_true]
        refine .ret ?_
        obtain ⟨r, hr⟩ := h.first
        rw [hr] at hm
        cases hm
        rw [hgi, retd_zero h]
        rfl
      · have e0 : ((i : Int) == 0) = false := by simpa using hi0
        simp only [e0, Bool.false_eq_true, if_false, prot_attacks h hm, Option.bind_some]
        by_cases h2 : m.2.1 = 2
        · obtain ⟨t, x, g1, g2, g3, _⟩ := h.att hm h2
          have hgt : G[t]? = some G[t] := List.getElem?_eq_getElem (by omega)
          have hst := hs2 t _ g2 hgt
          simp only [h2, beq_self_eq_true, if_true, idx_nat, hR2 i hi, Option.bind_some, hm, g1, hst]
          rw [hgi, g1, Int.toNat_natCast, hgt, h2]
          have h23 : ((2 : Int) == 3) = false := by decide
          have h24 : ((2 : Int) == 4) = false := by decide
          simp only [h23, h24, Bool.false_or, beq_self_eq_true, Bool.true_and, Option.getD_some]
          cases retd l i with
          | true => simp only [Bool.not_true, Bool.false_eq_true, if_false]; exact .ret rfl
          | false =>
            simp only [Bool.not_false, if_true]
            refine .ret ?_
            cases G[t] <;> rfl
        · have e2 : (m.2.1 == 2) = false := by simpa using h2
          simp only [e2, Bool.false_eq_true, if_false]
          refine .ret ?_
          rw [hgi, e2]
          rcases (h.rest i m hm hi0).2 with h1 | h1 | h1
          · exact absurd h1.1 h2
          · simp [h1.1]
          · simp [h1.1]
    · refine .ite (fun hc => ?_) fun hc => ?_
      · subst hc
        simp only [idx_nat, hsi, Option.bind_some, Int.toNat_natCast]
        refine .ret ⟨_, by rw [w64_succ i (by omega)], by simp [hs1], fun j g hj hg => ?_, fun j hj hjl => ?_⟩
        · by_cases hji : j = i
          · subst hji
            rw [ho] at hg
            cases hg
            rw [List.getElem?_set_self (by omega)]
            rfl
          · rw [List.getElem?_set_ne (fun e => hji e.symm)]
            exact hs2 j g (by omega) hg
        · rw [List.getElem?_set_ne (by omega)]
          exact hs3 j (by omega) hjl
      · subst hc
        refine .ret ⟨_, by rw [w64_succ i (by omega)], hs1, fun j g hj hg => ?_, fun j hj hjl => hs3 j (by omega) hjl⟩
        by_cases hji : j = i
        · subst hji
          rw [ho] at hg
          cases hg
          rw [hsi]
          rfl
        · exact hs2 j g (by omega) hg
  · obtain ⟨hs1, hs2, hs3⟩ := hs
    unfold m_protocol_Status_L2
    rw [hl]
    simp only [dec_end, Bool.false_eq_true, if_false]
    exact .ret ⟨hs1, fun j g hg => hs2 j g (by rw [← hGl]; exact (List.getElem?_eq_some_iff.1 hg).1) hg⟩
theorem hitB_from {S : List Int} {j lo : Nat} : ∀ (hi : Nat), lo < hi → hitB l S j lo hi = (hitB l S j (lo + 1) hi || match l[lo + 1]? with | some m => decide (lo + 1 < hi) && m.2.1 == 2 && m.2.2.2 == (j : Int) && S[lo + 1]? == some 1 | none => false) := by
  intro hi
  induction hi with
  | zero => intro h; omega
  | succ n ih =>
    intro h
    rw [hitB_suc, hitB_suc]
    by_cases hn : lo < n
    · rw [ih hn]
      have e1 : decide (lo < n) = true := decide_eq_true hn
      by_cases hn2 : lo + 1 = n
      · subst hn2
        have e2 : decide (lo + 1 < lo + 1) = false := by simp
        have e3 : decide (lo + 1 < lo + 1 + 1) = true := by simp
        rw [e1, e2, e3]
        cases l[lo + 1]? <;> simp
      · have e2 : decide (lo + 1 < n) = true := decide_eq_true (by omega)
        have e3 : decide (lo + 1 < n + 1) = true := decide_eq_true (by omega)
        rw [e1, e2, e3]
        cases l[lo + 1]? with
        | none => simp
        | some m =>
          simp only [Bool.true_and]
          exact Bool.or_right_comm _ _ _
    · have hn' : n = lo := by omega
      subst hn'
      rw [hitB_none (Nat.le_succ _), hitB_none (by omega)]
      have e1 : decide (n < n) = false := by simp
      have e2 : decide (n + 1 < n) = false := by simp
      have e3 : decide (n + 1 < n + 1) = false := by simp
      rw [e1, e2, e3]
      cases l[n + 1]? <;> simp
theorem prot_Status_L3 {d : T_Dialogue} (h : WfL d.2.2.2) {G : List Bool} (hG : IsGo d.2.2.2 G) {S0 : List Int} (hS : S0.length = d.2.2.2.length ∧ ∀ (j : Nat) (g : Bool), G[j]? = some g → S0[j]? = some (if g = true then 0 else 1)) :
    Ok (loop (m_protocol_Status_L3 d) (S0, (d.2.2.2.length : Int) - 1)) (IsSt d.2.2.2 G) := by
  have hbig := h.big
  have hpos := h.pos
  have hGl := hG.len
  generalize hl : d.2.2.2 = l at *
  have key : ∀ (i : Nat) (s : List Int), i < l.length → s.length = l.length → (∀ (j : Nat) (g : Bool), G[j]? = some g → s[j]? = some (if g = true then 0 else if hitB l s j i l.length = true then 2 else 1)) → Ok (loop (m_protocol_Status_L3 d) (s, (i : Int))) (IsSt l G) := by
    intro i
    induction i with
    | zero =>
      intro s _ hs1 hs2
      refine ⟨s, ?_, hs1, fun j g hj => ?_⟩
      · rw [loop_eq]
        unfold m_protocol_Status_L3
        simp
      · rw [hs2 j g hj]
        have hiff : hitB l s j 0 l.length = true ↔ hitBy l s j j := by
          rw [hitB_iff]
          constructor
          · rintro ⟨k, m, h1, h2, h3, h4, h5⟩
            obtain ⟨t, x, g1, g2, _, _⟩ := h.att h2 h3
            exact ⟨k, m, by omega, h2, h3, h4, h5⟩
          · rintro ⟨k, m, h1, h2, h3, h4, h5⟩
            exact ⟨k, m, by omega, h2, h3, h4, h5⟩
        by_cases hh : hitBy l s j j
        · rw [if_pos hh, if_pos (hiff.2 hh)]
        · rw [if_neg hh, if_neg (fun h => hh (hiff.1 h))]
    | succ i ih =>
      intro s hi hs1 hs2
      have hgi : G[i + 1]? = some G[i + 1] := List.getElem?_eq_getElem (by omega)
      have hm : l[i + 1]? = some l[i + 1] := List.getElem?_eq_getElem hi
      have hsi := hs2 (i + 1) _ hgi
      have hGat := hG.at_ (i + 1) _ hm
      generalize hv : (if G[i + 1] = true then (0 : Int) else if hitB l s (i + 1) (i + 1) l.length = true then 2 else 1) = v at hsi ⊢
      have hstep : m_protocol_Status_L3 d (s, ((i + 1 : Nat) : Int)) = if (v == 1) = true then (some l[i + 1]).bind fun x10 => (idx s x10.2.2.2).bind fun _ => some (.inl (s.set x10.2.2.2.toNat 2, (i : Int))) else some (.inl (s, (i : Int))) := by
        unfold m_protocol_Status_L3
        have hd : decide ((0 : Int) < ((i + 1 : Nat) : Int)) = true := decide_eq_true (by omega)
        simp only [hd, if_true, idx_nat, hsi, Option.bind_some]
        rw [hl, w64_id (x := ((i + 1 : Nat) : Int) - 1) (by omega) (by omega), show ((i + 1 : Nat) : Int) - 1 = (i : Int) by omega]
        simp only [hm, Option.bind_some]
      rw [loop_eq, hstep]
      -- what the hits are with one move more
      have hmore : ∀ (s' : List Int) (j : Nat), (∀ k, i < k → s'[k]? = s[k]?) → hitB l s' j i l.length = (hitB l s j (i + 1) l.length || (l[i + 1].2.1 == 2 && l[i + 1].2.2.2 == (j : Int) && v == 1)) := by
        intro s' j he
        rw [hitB_from l.length (by omega), hm]
        have e1 : decide (i + 1 < l.length) = true := decide_eq_true hi
        have e2 : hitB l s' j (i + 1) l.length = hitB l s j (i + 1) l.length := by
          unfold hitB
          congr 1
          funext k
          by_cases hk : i + 1 < k
          · rw [he k (by omega)]
          · have : decide (i + 1 < k) = false := decide_eq_false hk
            simp [this]
        rw [e2, he (i + 1) (by omega), hsi, e1]
        simp
      by_cases hv1 : v = 1
      · -- it stands: its target is out
        have hgf : G[i + 1] = false := by
          cases hq : G[i + 1] with
          | false => rfl
          | true => rw [hq] at hv; simp at hv; omega
        rw [hgi, hgf] at hGat
        have hGat := (Option.some.inj hGat).symm
        simp only [Bool.or_eq_false_iff] at hGat
        obtain ⟨⟨⟨q1, q2⟩, q3⟩, q4⟩ := hGat
        have hk2 : l[i + 1].2.1 = 2 := by
          rcases (h.rest (i + 1) _ hm (by omega)).2 with h1 | h1 | h1
          · exact h1.1
          · rw [h1.1] at q1; cases q1
          · rw [h1.1] at q2; cases q2
        obtain ⟨t, x, g1, g2, g3, _⟩ := h.att hm hk2
        have hgt : G[t]? = some G[t] := List.getElem?_eq_getElem (by omega)
        have hgt0 : G[t] = false := by
          rw [hk2, g1, Int.toNat_natCast, hgt] at q4
          simpa using q4
        have hst := hs2 t _ hgt
        simp only [hv1, beq_self_eq_true, if_true, Option.bind_some, g1, idx_nat, hst, Int.toNat_natCast]
        refine ih _ (by omega) (by simp [hs1]) fun j g hj => ?_
        rw [hmore (s.set t 2) j (fun k hk => by rw [List.getElem?_set_ne (by omega)]), hk2, g1, hv1]
        by_cases hjt : j = t
        · subst hjt
          rw [List.getElem?_set_self (by omega)]
          rw [hgt, hgt0] at hj
          cases hj
          simp
        · have : ((t : Int) == (j : Int)) = false := beq_eq_false_iff_ne.2 (fun e => hjt (by omega))
          rw [List.getElem?_set_ne (fun e => hjt e.symm), hs2 j g hj, this]
          simp
      · have e1 : (v == 1) = false := by simpa using hv1
        simp only [e1, Bool.false_eq_true, if_false]
        refine ih _ (by omega) hs1 fun j g hj => ?_
        rw [hmore s j (fun _ _ => rfl), e1, hs2 j g hj]
        simp
  have := key (l.length - 1) S0 (by omega) hS.1 (fun j g hj => by rw [hitB_none (by omega), hS.2 j g hj]; simp)
  rw [show ((l.length - 1 : Nat) : Int) = (l.length : Int) - 1 by omega] at this
  exact this
theorem prot_Status_of {d : T_Dialogue} {G : List Bool} (h : WfL d.2.2.2) (hG : IsGo d.2.2.2 G) : Ok (m_protocol_Status d) (IsSt d.2.2.2 G) := by
  have hbig := h.big
  have hpos := h.pos
  unfold m_protocol_Status
  have e0 : len d.2.2.2 = (d.2.2.2.length : Int) := rfl
  rw [e0, mkR_ok (0 : Int) (by omega), Option.bind_some, mkR_ok false (by omega), Option.bind_some]
  refine .bind (prot_Status_L1 h) fun R hR => .bind (prot_Status_L2 h hG hR) fun S hS => ?_
  have e1 : len (List.replicate d.2.2.2.length (0 : Int)) = (d.2.2.2.length : Int) := by simp [len]
  rw [e1, w64_id (by omega) (by omega)]
  exact prot_Status_L3 h hG hS
/-- both answer the same status -/
structure St (l : List T_Move) (S : List Int) : Prop where
  go : ∃ G, IsGo l G ∧ IsSt l G S
theorem status_both {d : T_Dialogue} (h : WfL d.2.2.2) : ∃ S, m_protocol_Status d = some S ∧ m_ref27_Status d = some S ∧ St d.2.2.2 S := by
  obtain ⟨G, hg, hG⟩ := ref_gone h
  obtain ⟨S, h1, h2⟩ := ref_Status_of h hg hG
  obtain ⟨S', h3, h4⟩ := prot_Status_of h hG
  obtain rfl := IsSt.uniq h hG.len h2 h4
  exact ⟨S, h3, h1, G, hG, h2⟩
end
section
variable {l : List T_Move}
/-- the player in whose favour the root is -/
def leadS (S : List Int) : Int := if S[0]? = some 1 then 1 else 2
theorem St.len {S : List Int} (h : St l S) : S.length = l.length := by obtain ⟨G, hG, hS⟩ := h.go; exact hS.len
theorem St.vals {S : List Int} (h : St l S) {j : Nat} {x : Int} (hx : S[j]? = some x) : x = 0 ∨ x = 1 ∨ x = 2 := by obtain ⟨G, hG, hS⟩ := h.go; exact hS.vals hG.len hx
/-- what is not gone, but for the claim, is an attack -/
theorem St.att {S : List Int} (hw : WfL l) (h : St l S) {i : Nat} {m : T_Move} (hm : l[i]? = some m) {x : Int} (hx : S[i]? = some x) (h0 : x ≠ 0) (hi : i ≠ 0) : m.2.1 = 2 := by
  obtain ⟨G, hG, hS⟩ := h.go
  have hil := (List.getElem?_eq_some_iff.1 hm).1
  have hiG : i < G.length := by rw [hG.len]; exact hil
  have hg : G[i]? = some G[i] := List.getElem?_eq_getElem hiG
  have h1 := hS.at_ i _ hg
  rw [hx] at h1
  have hgf : G[i] = false := by
    cases hq : G[i] with
    | false => rfl
    | true => rw [hq] at h1; simp at h1; exact absurd h1 h0
  have h2 := hG.at_ i m hm
  rw [hg, hgf] at h2
  have h2 := (Option.some.inj h2).symm
  simp only [Bool.or_eq_false_iff] at h2
  rcases (hw.rest i m hm hi).2 with q | q | q
  · exact q.1
  · have := h2.1.1.1; rw [q.1] at this; cases this
  · have := h2.1.1.2; rw [q.1] at this; cases this
theorem St.root {S : List Int} (hw : WfL l) (h : St l S) : S[0]? = some 1 ∨ S[0]? = some 2 := by
  obtain ⟨G, hG, hS⟩ := h.go
  obtain ⟨r, hr⟩ := hw.first
  have h2 := hG.at_ 0 _ hr
  rw [retd_zero hw] at h2
  have h2 : G[0]? = some false := by rw [h2]; rfl
  have h1 := hS.at_ 0 _ h2
  rw [h1]
  by_cases hh : hitBy l S 0 0
  · rw [if_pos hh]; exact .inr rfl
  · rw [if_neg hh]; exact .inl rfl
theorem leadS_12 (S : List Int) : leadS S = 1 ∨ leadS S = 2 := by unfold leadS; split <;> simp
theorem ref_leader {S : List Int} (hw : WfL l) (h : St l S) : m_ref27_leader S = some (leadS S) := by
  unfold m_ref27_leader leadS
  rcases h.root hw with h0 | h0
  · rw [show idx S 0 = some 1 from by rw [show (0 : Int) = ((0 : Nat) : Int) from rfl, idx_nat]; exact h0, h0]
    rfl
  · rw [show idx S 0 = some 2 from by rw [show (0 : Int) = ((0 : Nat) : Int) from rfl, idx_nat]; exact h0, h0]
    rfl
/-- the leading part -/
structure IsLd (l : List T_Move) (S : List Int) (L : List Bool) : Prop where
  len : L.length = l.length
  root : L[0]? = some true
  at_ : ∀ (i : Nat) m x, i ≠ 0 → l[i]? = some m → S[i]? = some x → L[i]? = some (x != 0 && ((L[m.2.2.2.toNat]?).getD false && (((l[m.2.2.2.toNat]?).getD (0, 0, 0, 0)).1 == leadS S || x == 1)))
theorem prot_of {d : T_Dialogue} {S : List Int} (h : WfL d.2.2.2) (hS : St d.2.2.2 S) (hp : m_protocol_Status d = some S) : ∃ L, m_protocol_of d = some (d, S, leadS S, L) ∧ IsLd d.2.2.2 S L := by
  have hbig := h.big
  have hpos := h.pos
  have hSl := hS.len
  suffices hh : Ok (m_protocol_of d) fun o => ∃ L, o = (d, S, leadS S, L) ∧ IsLd d.2.2.2 S L by
    obtain ⟨o, h1, L, rfl, h2⟩ := hh
    exact ⟨L, h1, h2⟩
  unfold m_protocol_of
  rw [hp]
  have e0 : len d.2.2.2 = (d.2.2.2.length : Int) := rfl
  rw [e0, Option.bind_some, mkR_ok false (by omega), Option.bind_some, Option.bind_some]
  refine .bind (I := fun o => o = leadS S) ?_ fun s2 hs2 => ?_
  · have hl2 := hS.root h
    dsimp only
    rcases hl2 with h0 | h0
    · rw [show idx S 0 = some 1 from by rw [show (0 : Int) = ((0 : Nat) : Int) from rfl, idx_nat]; exact h0, Option.bind_some]
      exact .ret (by unfold leadS; rw [if_pos h0])
    · rw [show idx S 0 = some 2 from by rw [show (0 : Int) = ((0 : Nat) : Int) from rfl, idx_nat]; exact h0, Option.bind_some]
      exact .ret (by unfold leadS; rw [if_neg (by rw [h0]; simp)])
  subst hs2
  dsimp only
  have hr0 : idx (List.replicate d.2.2.2.length false) 0 = some false := by
    rw [show (0 : Int) = ((0 : Nat) : Int) from rfl, idx_nat, List.getElem?_replicate, if_pos hpos]
  rw [hr0, Option.bind_some]
  refine .bind (I := fun L => IsLd d.2.2.2 S L) ?_ fun L hL => .ret ⟨L, rfl, hL⟩
  generalize hl : d.2.2.2 = l at *
  -- the first i are found
  have key : ∀ (n i : Nat) (s : List Bool), l.length = i + n → 1 ≤ i → (s.length = l.length ∧ s[0]? = some true ∧ (∀ j, i ≤ j → j < l.length → s[j]? = some false) ∧ ∀ (j : Nat) m x, j ≠ 0 → j < i → l[j]? = some m → S[j]? = some x → s[j]? = some (x != 0 && ((s[m.2.2.2.toNat]?).getD false && (((l[m.2.2.2.toNat]?).getD (0, 0, 0, 0)).1 == leadS S || x == 1)))) →
      Ok (loop (m_protocol_of_L1 d (d, S, 1, List.replicate l.length false) (leadS S)) ((i : Int), s)) (IsLd l S) := by
    intro n
    induction n with
    | zero =>
      rintro i s hi h1 ⟨hs1, hs2, hs3, hs4⟩
      refine ⟨s, ?_, hs1, hs2, fun j m x hj hm hx => hs4 j m x hj (by have := (List.getElem?_eq_some_iff.1 hm).1; omega) hm hx⟩
      rw [loop_eq]
      unfold m_protocol_of_L1
      rw [hl]
      have : decide ((i : Int) < len l) = false := decide_eq_false (show ¬ (i : Int) < (l.length : Int) by omega)
      simp only [this, Bool.false_eq_true, if_false]
    | succ n ih =>
      rintro i s hi h1 ⟨hs1, hs2, hs3, hs4⟩
      have hil : i < l.length := by omega
      have hm : l[i]? = some l[i] := List.getElem?_eq_getElem hil
      have hx : S[i]? = some S[i] := List.getElem?_eq_getElem (by omega)
      have hsi := hs3 i (Nat.le_refl _) hil
      obtain ⟨t, z, g1, g2, g3⟩ := h.tgt hm (by omega)
      have hst : s[t]? = some s[t] := List.getElem?_eq_getElem (by omega)
      have hstep : m_protocol_of_L1 d (d, S, 1, List.replicate l.length false) (leadS S) ((i : Int), s) = some (.inl (((i + 1 : Nat) : Int), s.set i (S[i] != 0 && (s[t] && (z.1 == leadS S || S[i] == 1))))) := by
        unfold m_protocol_of_L1
        rw [hl]
        simp only [dec_lt hm, if_true, idx_nat, hx, hm, Option.bind_some, g1, hst, g3, hsi, Int.toNat_natCast, w64_succ i (by omega)]
        have hsf : s.set i false = s := set_same hsi
        by_cases hx0 : S[i] = 0
        · simp [hx0, hsf]
        · have e1 : (S[i] == 0) = false := by simpa using hx0
          have e2 : (S[i] != 0) = true := by simpa using hx0
          simp only [e1, e2, Bool.false_eq_true, if_false, Option.bind_some, Bool.true_and]
          cases hq : s[t] with
          | false => simp [hsf]
          | true =>
            by_cases hz : z.1 = leadS S
            · simp [hz]
            · have : (z.1 == leadS S) = false := by simpa using hz
              simp [this]
      rw [loop_eq, hstep]
      refine ih (i + 1) _ (by omega) (by omega) ⟨by simp [hs1], by rw [List.getElem?_set_ne (by omega)]; exact hs2, fun j hj hjl => by rw [List.getElem?_set_ne (by omega)]; exact hs3 j (by omega) hjl, fun j m x hj hji hmj hxj => ?_⟩
      obtain ⟨t', z', k1, k2, k3⟩ := h.tgt hmj hj
      rw [k1, Int.toNat_natCast, List.getElem?_set_ne (show i ≠ t' by omega)]
      by_cases hjeq : j = i
      · subst hjeq
        rw [hm] at hmj
        cases hmj
        rw [hx] at hxj
        cases hxj
        rw [g1] at k1
        obtain rfl : t = t' := by omega
        rw [List.getElem?_set_self (by omega), hst, g3]
        rfl
      · rw [List.getElem?_set_ne (fun e => hjeq e.symm), hs4 j m x hj (by omega) hmj hxj, k1, Int.toNat_natCast]
  refine key (l.length - 1) 1 _ (by omega) (Nat.le_refl _) ⟨by simp, by rw [show Int.toNat 0 = 0 from rfl, List.getElem?_set_self (by simpa using hpos)], fun j hj hjl => ?_, fun j m x h0 h1 => by omega⟩
  rw [show Int.toNat 0 = 0 from rfl, List.getElem?_set_ne (by omega), List.getElem?_replicate, if_pos hjl]
/-- the indices of the leading part -/
def idxs (L : List Bool) (i : Nat) : List Int := ((List.range i).filter fun k => L[k]? == some true).map Int.ofNat
theorem idxs_suc (L : List Bool) (i : Nat) : idxs L (i + 1) = idxs L i ++ (if L[i]? = some true then [(i : Int)] else []) := by
  unfold idxs
  rw [List.range_succ, List.filter_append, List.map_append]
  congr 1
  by_cases h : L[i]? = some true <;> simp [h]
theorem idxs_mem {L : List Bool} {i : Nat} {t : Nat} : (t : Int) ∈ idxs L i ↔ t < i ∧ L[t]? = some true := by
  unfold idxs
  simp only [List.mem_map, List.mem_filter, List.mem_range, beq_iff_eq]
  constructor
  · rintro ⟨k, ⟨h1, h2⟩, h3⟩
    have : k = t := by have : (k : Int) = (t : Int) := h3; omega
    subst this
    exact ⟨h1, h2⟩
  · rintro ⟨h1, h2⟩
    exact ⟨t, ⟨h1, h2⟩, rfl⟩
theorem idxs_len (L : List Bool) (i : Nat) : (idxs L i).length ≤ i := by
  unfold idxs
  rw [List.length_map]
  exact Nat.le_trans (List.length_filter_le _ _) (by simp)
theorem ref_Leading {d : T_Dialogue} {S : List Int} {L : List Bool} (h : WfL d.2.2.2) (hS : St d.2.2.2 S) (hr : m_ref27_Status d = some S) (hL : IsLd d.2.2.2 S L) : m_ref27_Leading d = some (idxs L d.2.2.2.length) := by
  have hbig := h.big
  have hpos := h.pos
  have hSl := hS.len
  have hLl := hL.len
  unfold m_ref27_Leading
  rw [hr, Option.bind_some]
  have hld := ref_leader h hS
  generalize hl : d.2.2.2 = l at *
  have key : ∀ (n i : Nat), l.length = i + n → 1 ≤ i → loop (m_ref27_Leading_L1 d S) (idxs L i, (i : Int)) = some (idxs L l.length) := by
    intro n
    induction n with
    | zero =>
      intro i hi h1
      rw [loop_eq]
      unfold m_ref27_Leading_L1
      rw [hl]
      have : decide ((i : Int) < len l) = false := decide_eq_false (show ¬ (i : Int) < (l.length : Int) by omega)
      simp only [this, Bool.false_eq_true, if_false]
      rw [show i = l.length by omega]
    | succ n ih =>
      intro i hi h1
      have hil : i < l.length := by omega
      have hm : l[i]? = some l[i] := List.getElem?_eq_getElem hil
      have hx : S[i]? = some S[i] := List.getElem?_eq_getElem (by omega)
      obtain ⟨t, z, g1, g2, g3⟩ := h.tgt hm (by omega)
      have hLt : L[t]? = some L[t] := List.getElem?_eq_getElem (by omega)
      have hat := hL.at_ i _ _ (by omega) hm hx
      rw [g1, Int.toNat_natCast, hLt, g3] at hat
      have hlen := idxs_len L i
      have hstep : m_ref27_Leading_L1 d S (idxs L i, (i : Int)) = some (.inl (idxs L (i + 1), ((i + 1 : Nat) : Int))) := by
        unfold m_ref27_Leading_L1
        rw [hl]
        have hin : m_net_In (idxs L i) (t : Int) = some L[t] := by
          rw [net_In _ (by omega)]
          congr 1
          cases hq : L[t] with
          | true => exact decide_eq_true (idxs_mem.2 ⟨g2, by rw [hLt, hq]⟩)
          | false => exact decide_eq_false fun hc => by have := (idxs_mem.1 hc).2; rw [hLt, hq] at this; cases this
        have happ : app (idxs L i) ([(i : Int)] : List Int) = some (idxs L i ++ [(i : Int)]) := app_ok (by simp; omega)
        simp only [dec_lt hm, if_true, idx_nat, hx, hm, Option.bind_some, g1, hin, g3, hld, happ, w64_succ i (by omega)]
        rw [idxs_suc, hat]
        simp only [Option.getD_some]
        by_cases hx0 : S[i] = 0
        · simp [hx0]
        · have e1 : (S[i] == 0) = false := by simpa using hx0
          have e2 : (S[i] != 0) = true := by simpa using hx0
          simp only [e1, e2, Bool.false_eq_true, if_false, Option.bind_some, Bool.true_and]
          cases hq : L[t] with
          | false => simp
          | true =>
            by_cases hz : z.1 = leadS S
            · simp [hz]
            · have e3 : (z.1 == leadS S) = false := by simpa using hz
              by_cases hx1 : S[i] = 1
              · simp [e3, hx1]
              · have e4 : (S[i] == 1) = false := by simpa using hx1
                simp [e3, e4]
      rw [loop_eq, hstep]
      exact ih (i + 1) (by omega) (by omega)
  have h1 : ([0] : List Int) = idxs L 1 := by
    rw [idxs_suc, hL.root]
    rfl
  rw [h1]
  exact key (l.length - 1) 1 (by omega) (Nat.le_refl _)
inductive Mv (l : List T_Move) (a : Int) : Nat → Prop
  | here {i : Nat} {m : T_Move} : l[i]? = some m → m.1 = 1 → m.2.2.1 = a → Mv l a i
  | up {i t : Nat} {m : T_Move} : l[i]? = some m → i ≠ 0 → m.2.2.2 = (t : Int) → Mv l a t → Mv l a i
theorem prot_moved {d : T_Dialogue} {S : List Int} {ld : Int} {L : List Bool} (h : WfL d.2.2.2) (a : Int) (i : Nat) (hi : i < d.2.2.2.length) : Ok (m_protocol_table_moved (d, S, ld, L) (i : Int) a) fun b => b = true ↔ Mv d.2.2.2 a i := by
  unfold m_protocol_table_moved
  generalize hl : d.2.2.2 = l at *
  induction i using Nat.strongRecOn with
  | _ i ih =>
    have hm : l[i]? = some l[i] := List.getElem?_eq_getElem hi
    rw [loop_eq]
    by_cases hc : l[i].1 = 1 ∧ l[i].2.2.1 = a
    · refine ⟨true, ?_, fun _ => .here hm hc.1 hc.2, fun _ => rfl⟩
      unfold m_protocol_table_moved_L1
      rw [hl]
      simp [idx_nat, hm, hc.1, hc.2]
    · have hcb : (l[i].1 == 1 && l[i].2.2.1 == a) = false := by
        rw [Bool.and_eq_false_iff]
        by_cases h1 : l[i].1 = 1
        · exact .inr (by simpa using fun h2 => hc ⟨h1, h2⟩)
        · exact .inl (by simpa using h1)
      have hno : ¬ (∃ m, l[i]? = some m ∧ m.1 = 1 ∧ m.2.2.1 = a) := by
        rintro ⟨m, h1, h2⟩
        rw [hm] at h1
        cases h1
        exact hc h2
      by_cases hi0 : i = 0
      · subst hi0
        refine ⟨false, ?_, nofun, fun hv => ?_⟩
        · unfold m_protocol_table_moved_L1
          rw [hl]
          simp only [idx_nat, hm, Option.bind_some, hcb, Bool.false_eq_true, if_false, show (((0 : Nat) : Int) == 0) = true from rfl, if_true]
        · cases hv with
          | here h1 h2 h3 => exact absurd ⟨_, h1, h2, h3⟩ hno
          | up _ h2 => exact absurd rfl h2
      · obtain ⟨t, z, g1, g2, g3⟩ := h.tgt hm hi0
        have hstep : m_protocol_table_moved_L1 (d, S, ld, L) a (i : Int) = some (.inl (t : Int)) := by
          unfold m_protocol_table_moved_L1
          rw [hl]
          have e0 : ((i : Int) == 0) = false := by simpa using hi0
          simp only [idx_nat, hm, Option.bind_some, hcb, Bool.false_eq_true, if_false, e0, g1]
        rw [hstep]
        refine (ih t g2 (by omega)).imp fun b hb => hb.trans ⟨fun hv => .up hm hi0 g1 hv, fun hv => ?_⟩
        cases hv with
        | here h1 h2 h3 => exact absurd ⟨_, h1, h2, h3⟩ hno
        | up h1 _ h3 h4 =>
          rw [hm] at h1
          cases h1
          rw [g1] at h3
          have := Int.ofNat.inj h3
          subst this
          exact h4
theorem ref_repeated {d : T_Dialogue} (h : WfL d.2.2.2) (a : Int) (i : Nat) (hi : i < d.2.2.2.length) : Ok (m_ref27_repeated d (i : Int) a) fun b => b = true ↔ Mv d.2.2.2 a i := by
  unfold m_ref27_repeated
  generalize hl : d.2.2.2 = l at *
  refine .seqE (I := fun o => match o with | .inl _ => (Mv l a 0 ↔ Mv l a i) | .inr b => b = true ∧ Mv l a i) ?_ (fun _ hv => ?_) (fun b hb => ⟨fun _ => hb.2, fun _ => hb.1⟩)
  · induction i using Nat.strongRecOn with
    | _ i ih =>
      have hm : l[i]? = some l[i] := List.getElem?_eq_getElem hi
      rw [loop_eq]
      by_cases hi0 : i = 0
      · subst hi0
        refine ⟨.inl (), ?_, Iff.rfl⟩
        unfold m_ref27_repeated_L1
        simp
      · have hd : decide ((0 : Int) < (i : Int)) = true := decide_eq_true (by omega)
        by_cases hc : l[i].1 = 1 ∧ l[i].2.2.1 = a
        · refine ⟨.inr true, ?_, rfl, .here hm hc.1 hc.2⟩
          unfold m_ref27_repeated_L1
          rw [hl]
          simp only [hd, if_true, idx_nat, hm, Option.bind_some, hc.1, hc.2, beq_self_eq_true]
        · have hno : ¬ (∃ m, l[i]? = some m ∧ m.1 = 1 ∧ m.2.2.1 = a) := by
            rintro ⟨m, h1, h2⟩
            rw [hm] at h1
            cases h1
            exact hc h2
          obtain ⟨t, z, g1, g2, g3⟩ := h.tgt hm hi0
          have hstep : m_ref27_repeated_L1 d a (i : Int) = some (.inl (t : Int)) := by
            unfold m_ref27_repeated_L1
            rw [hl]
            simp only [hd, if_true, idx_nat, hm, Option.bind_some, g1]
            by_cases h1 : l[i].1 = 1
            · have h2 : (l[i].2.2.1 == a) = false := by simpa using fun h2 => hc ⟨h1, h2⟩
              simp [h1, h2]
            · have h2 : (l[i].1 == 1) = false := by simpa using h1
              simp [h2]
          rw [hstep]
          have hup : Mv l a t ↔ Mv l a i := ⟨fun hv => .up hm hi0 g1 hv, fun hv => by
            cases hv with
            | here h1 h2 h3 => exact absurd ⟨_, h1, h2, h3⟩ hno
            | up h1 _ h3 h4 =>
              rw [hm] at h1
              cases h1
              rw [g1] at h3
              have := Int.ofNat.inj h3
              subst this
              exact h4⟩
          refine (ih t g2 (by omega)).imp fun o ho => ?_
          cases o with
          | inl u => exact ho.trans hup
          | inr b => exact ⟨ho.1, hup.1 ho.2⟩
  · obtain ⟨r, hr⟩ := h.first
    rw [show (0 : Int) = ((0 : Nat) : Int) from rfl, idx_nat, hr, Option.bind_some]
    have hv : Mv l a 0 ↔ Mv l a i := hv
    refine .ret ?_
    rw [← hv, beq_iff_eq]
    constructor
    · intro e
      exact .here hr rfl e
    · intro hv0
      cases hv0 with
      | here h1 h2 h3 => rw [hr] at h1; cases h1; exact h3
      | up _ h2 => exact absurd rfl h2
end
section
variable {l : List T_Move}
/-- a dialogue's graph as it must be -/
structure WfG (g : T_Graph) : Prop where
  n : 0 ≤ g.1 ∧ g.1 ≤ 1000
  len : g.2.length ≤ 10000
  at_ : ∀ p ∈ g.2, 0 ≤ p.1 ∧ p.1 < g.1 ∧ 0 ≤ p.2 ∧ p.2 < g.1
/-- an attack of the player behind that is legal -/
def LegA (E : List T_Pair) (l : List T_Move) (ld : Int) (i : Nat) (x : T_Move) : Prop := ∃ m p, l[i]? = some m ∧ m.1 = ld ∧ p ∈ E ∧ p.2 = m.2.2.1 ∧ x = (3 - ld, 2, p.1, (i : Int)) ∧ x ∉ l ∧ ¬ (3 - ld = 1 ∧ Mv l p.1 i)
def Leg (d : T_Dialogue) (S : List Int) (L : List Bool) (x : T_Move) : Prop := ∃ i : Nat, L[i]? = some true ∧ LegA d.1.2 d.2.2.2 (leadS S) i x
theorem contains_move {l : List T_Move} (x : T_Move) (h : l.length < 4294967296) : m_slices_Contains_Move l x = some (decide (x ∈ l)) := by
  obtain ⟨r, h1, h2⟩ := indexM_spec l x (by omega)
  unfold m_slices_Contains_Move m_slices_Index_Move
  rw [show loop (m_slices_Index_Move_L1 l x) 0 = some r from h1]
  simp only [Option.bind_some]
  congr 1
  rw [decide_eq_decide, h2]
  simp
theorem prot_legal {d : T_Dialogue} {S : List Int} {L : List Bool} (h : WfL d.2.2.2) (hg : WfG d.1) (hL : L.length = d.2.2.2.length) : Ok (m_protocol_table_legal (d, S, leadS S, L)) fun P => P.length ≤ 4000000 ∧ ∀ x, x ∈ P ↔ Leg d S L x := by
  have hbig := h.big
  have hgl := hg.len
  have hld := leadS_12 S
  unfold m_protocol_table_legal
  have ho : m_protocol_other (leadS S) = some (3 - leadS S) := by
    unfold m_protocol_other
    rw [w64_id (by omega) (by omega)]
  rw [ho, Option.bind_some]
  generalize hl : d.2.2.2 = l at *
  generalize hE : d.1.2 = E at *
  have hLeg : ∀ x, Leg d S L x ↔ ∃ i : Nat, L[i]? = some true ∧ LegA E l (leadS S) i x := by
    intro x
    unfold Leg
    rw [hl, hE]
  simp only [hLeg]
  refine Ok.forI (fun i (P : List T_Move) => (P, (i : Int))) l (fun i P => P.length ≤ i * E.length ∧ ∀ x, x ∈ P ↔ ∃ j : Nat, j < i ∧ L[j]? = some true ∧ LegA E l (leadS S) j x) _ (fun i m P hm hP => ?_) (fun P hP => ?_) _ ⟨by simp, by simp⟩
  · obtain ⟨hP1, hP2⟩ := hP
    have hil := (List.getElem?_eq_some_iff.1 hm).1
    have hLi : L[i]? = some L[i] := List.getElem?_eq_getElem (by omega)
    have hm1 : i * E.length ≤ 400 * 10000 := Nat.mul_le_mul (by omega) hgl
    unfold m_protocol_table_legal_L1
    rw [hl]
    simp only [dec_lt hm, if_true, idx_nat, hm, hLi, Option.bind_some]
    refine .bind (I := fun o => o = !(L[i] && decide (m.1 = leadS S))) ?_ fun o ho => ?_
    · cases L[i] with
      | false => exact .ret rfl
      | true =>
        simp only [Bool.not_true, Bool.false_eq_true, if_false, Bool.true_and]
        refine .ret ?_
        by_cases hq : m.1 = leadS S <;> simp [hq]
    subst ho
    by_cases hc : L[i] = true ∧ m.1 = leadS S
    · rw [hc.1, decide_eq_true hc.2]
      simp only [Bool.and_self, Bool.not_true, Bool.false_eq_true, if_false]
      refine Ok.forI (fun k (P' : List T_Move) => (P', (k : Int))) E (fun k P' => P'.length ≤ i * E.length + k ∧ ∀ x, x ∈ P' ↔ (∃ j : Nat, j < i ∧ L[j]? = some true ∧ LegA E l (leadS S) j x) ∨ LegA (E.take k) l (leadS S) i x) _ (fun k p P' hp hP' => ?_) (fun P' hP' => ?_) P ⟨by omega, fun x => by
        rw [hP2]
        have : LegA (E.take 0) l (leadS S) i x ↔ False := ⟨by rintro ⟨m, p, _, _, h3, _⟩; simp at h3, False.elim⟩
        rw [this, or_false]⟩
      · obtain ⟨hQ1, hQ2⟩ := hP'
        have hkl := (List.getElem?_eq_some_iff.1 hp).1
        unfold m_protocol_table_legal_L2
        rw [hE, hl]
        simp only [dec_lt hp, if_true, idx_nat, hp, Option.bind_some, contains_move _ (show l.length < 4294967296 by omega)]
        -- whether it is taken
        refine .bind (I := fun o => o = false ↔ (p.2 = m.2.2.1 ∧ (3 - leadS S, 2, p.1, (i : Int)) ∉ l ∧ ¬ (3 - leadS S = 1 ∧ Mv l p.1 i))) ?_ fun o ho => ?_
        · by_cases h1 : p.2 = m.2.2.1
          · have e1 : (p.2 != m.2.2.1) = false := by simp [h1]
            simp only [e1, Bool.false_eq_true, if_false]
            by_cases h2 : (3 - leadS S, 2, p.1, (i : Int)) ∈ l
            · rw [decide_eq_true h2]
              simp only [if_true]
              exact .ret ⟨nofun, fun hh => absurd h2 hh.2.1⟩
            · rw [decide_eq_false h2]
              simp only [Bool.false_eq_true, if_false]
              by_cases h3 : 3 - leadS S = 1
              · have e3 : ((3 - leadS S) == 1) = true := by simpa using h3
                simp only [e3, if_true]
                refine .bind (prot_moved (S := S) (ld := leadS S) (L := L) (show WfL d.2.2.2 by rw [hl]; exact h) p.1 i (by rw [hl]; exact hil)) fun b hb => ?_
                rw [hl] at hb
                refine .ret ⟨fun hf => ⟨h1, h2, fun hh => ?_⟩, fun hh => ?_⟩
                · rw [hb.2 hh.2] at hf; cases hf
                · cases hbv : b with
                  | false => rfl
                  | true => exact absurd ⟨h3, hb.1 hbv⟩ hh.2.2
              · have e3 : ((3 - leadS S) == 1) = false := by simpa using h3
                simp only [e3, Bool.false_eq_true, if_false]
                exact .ret ⟨fun _ => ⟨h1, h2, fun hh => h3 hh.1⟩, fun _ => rfl⟩
          · have e1 : (p.2 != m.2.2.1) = true := by simpa using h1
            simp only [e1, if_true]
            exact .ret ⟨nofun, fun hh => absurd hh.1 h1⟩
        have hsplit : ∀ x, LegA (E.take (k + 1)) l (leadS S) i x ↔ LegA (E.take k) l (leadS S) i x ∨ (o = false ∧ x = (3 - leadS S, 2, p.1, (i : Int))) := by
          intro x
          rw [ho]
          constructor
          · rintro ⟨m', p', q1, q2, q3, q4, q5, q6, q7⟩
            rw [List.take_add_one, hp] at q3
            rcases List.mem_append.1 q3 with q3 | q3
            · exact .inl ⟨m', p', q1, q2, q3, q4, q5, q6, q7⟩
            · simp at q3
              subst q3
              rw [hm] at q1
              cases q1
              subst q5
              exact .inr ⟨⟨q4, q6, q7⟩, rfl⟩
          · rintro (⟨m', p', q1, q2, q3, q4, q5, q6, q7⟩ | ⟨⟨q4, q6, q7⟩, rfl⟩)
            · exact ⟨m', p', q1, q2, by rw [List.take_add_one]; exact List.mem_append.2 (.inl q3), q4, q5, q6, q7⟩
            · exact ⟨m, p, hm, hc.2, by rw [List.take_add_one, hp]; simp, q4, rfl, q6, q7⟩
        refine .ite (fun hot => ?_) fun hof => ?_
        · refine .ret ⟨_, by rw [w64_succ k (by omega)], by omega, fun x => ?_⟩
          rw [hQ2, hsplit]
          rw [hot]
          simp
        · rw [app_ok (by simp; omega), Option.bind_some]
          refine .ret ⟨_, by rw [w64_succ k (by omega)], by simp; omega, fun x => ?_⟩
          rw [List.mem_append, hQ2, hsplit, List.mem_singleton, or_assoc]
          simp [hof]
      · obtain ⟨hQ1, hQ2⟩ := hP'
        unfold m_protocol_table_legal_L2
        rw [hE]
        simp only [dec_end, Bool.false_eq_true, if_false]
        refine .ret ⟨_, by rw [w64_succ i (by omega)], by rw [Nat.add_mul, Nat.one_mul]; exact hQ1, fun x => ?_⟩
        rw [hQ2, List.take_of_length_le (Nat.le_refl _)]
        constructor
        · rintro (⟨j, q1, q2, q3⟩ | q)
          · exact ⟨j, by omega, q2, q3⟩
          · exact ⟨i, by omega, by rw [hLi, hc.1], q⟩
        · rintro ⟨j, q1, q2, q3⟩
          by_cases hji : j = i
          · subst hji; exact .inr q3
          · exact .inl ⟨j, by omega, q2, q3⟩
    · have : (L[i] && decide (m.1 = leadS S)) = false := by
        rw [Bool.and_eq_false_iff]
        by_cases h1 : L[i] = true
        · exact .inr (decide_eq_false fun h2 => hc ⟨h1, h2⟩)
        · exact .inl (by simpa using h1)
      rw [this]
      simp only [Bool.not_false, if_true]
      refine .ret ⟨_, by rw [w64_succ i (by omega)], by rw [Nat.add_mul]; omega, fun x => ?_⟩
      rw [hP2]
      constructor
      · rintro ⟨j, q1, q2, q3⟩; exact ⟨j, by omega, q2, q3⟩
      · rintro ⟨j, q1, q2, q3⟩
        by_cases hji : j = i
        · subst hji
          obtain ⟨m', p, q4, q5, _⟩ := q3
          rw [hm] at q4
          cases q4
          rw [hLi] at q2
          exact absurd ⟨Option.some.inj q2, q5⟩ hc
        · exact ⟨j, by omega, q2, q3⟩
  · obtain ⟨hP1, hP2⟩ := hP
    have hm1 : l.length * E.length ≤ 400 * 10000 := Nat.mul_le_mul (by omega) hgl
    unfold m_protocol_table_legal_L1
    rw [hl]
    simp only [dec_end, Bool.false_eq_true, if_false]
    refine .ret ⟨by omega, fun x => ?_⟩
    rw [hP2]
    constructor
    · rintro ⟨j, _, q2, q3⟩; exact ⟨j, q2, q3⟩
    · rintro ⟨j, q2, q3⟩
      exact ⟨j, by rw [← hL]; exact (List.getElem?_eq_some_iff.1 q2).1, q2, q3⟩
/-- has the move i been attacked by the node a already? -/
def doneA (l : List T_Move) (i : Nat) (a : Int) : Bool := l.any fun m => m.2.1 == 2 && m.2.2.2 == (i : Int) && m.2.2.1 == a
theorem doneA_iff (h : WfL l) {i : Nat} {m : T_Move} {ld a : Int} (hm : l[i]? = some m) (hld : m.1 = ld) : doneA l i a = true ↔ (3 - ld, 2, a, (i : Int)) ∈ l := by
  unfold doneA
  rw [List.any_eq_true]
  constructor
  · rintro ⟨x, hx, hc⟩
    obtain ⟨k, hk⟩ := List.mem_iff_getElem?.1 hx
    simp only [Bool.and_eq_true, beq_iff_eq] at hc
    obtain ⟨t, z, g1, g2, g3, g4⟩ := h.att hk hc.1.1
    rw [hc.1.2] at g1
    have := Int.ofNat.inj g1
    subst this
    rw [hm] at g3
    cases g3
    have : x = (3 - ld, 2, a, (i : Int)) := by
      obtain ⟨x1, x2, x3, x4⟩ := x
      simp only at hc g4
      obtain ⟨⟨rfl, rfl⟩, rfl⟩ := hc
      have : x1 = 3 - ld := by omega
      rw [this]
    rw [← this]
    exact hx
  · intro hx
    exact ⟨_, hx, by simp⟩
theorem ref_attacks_L3 {d : T_Dialogue} (h : WfL d.2.2.2) (i : Nat) (r : Bool) (s : List T_Move) (a : Int) : loop (m_ref27_attacks_L3 d (i : Int) (s, a)) (r, 0) = some (r && !doneA d.2.2.2 i a) := by
  have hbig := h.big
  generalize hl : d.2.2.2 = l at *
  have hh : Ok (loop (m_ref27_attacks_L3 d (i : Int) (s, a)) (r, 0)) fun o => o = (r && !doneA l i a) := by
    refine Ok.forI (fun k (b : Bool) => (b, (k : Int))) l (fun k b => b = (r && !doneA (l.take k) i a)) _ (fun k m b hm hb => ?_) (fun b hb => ?_) r (by simp [doneA])
    · have hk := (List.getElem?_eq_some_iff.1 hm).1
      subst hb
      unfold m_ref27_attacks_L3
      rw [hl]
      simp only [dec_lt hm, if_true, idx_nat, hm, Option.bind_some]
      have hs : doneA (l.take (k + 1)) i a = (doneA (l.take k) i a || (m.2.1 == 2 && m.2.2.2 == (i : Int) && m.2.2.1 == a)) := by
        unfold doneA
        rw [List.take_add_one, hm, List.any_append]
        simp
      refine .bind (I := fun o => o = (r && !doneA (l.take (k + 1)) i a)) ?_ fun o ho => .ret ⟨_, by rw [w64_succ k (by omega)], ho⟩
      rw [hs]
      cases hq : (r && !doneA (l.take k) i a) with
      | false =>
        simp only [Bool.false_eq_true, if_false]
        refine .ret ?_
        cases r <;> simp_all
      | true =>
        simp only [Bool.and_eq_true, Bool.not_eq_true'] at hq
        rw [hq.1, hq.2]
        simp only [if_true, Bool.true_and, Bool.false_or]
        by_cases h2 : m.2.1 = 2
        · by_cases h3 : m.2.2.2 = (i : Int)
          · simp only [h2, h3, beq_self_eq_true, if_true, Bool.true_and]; exact .ret rfl
          · have e3 : (m.2.2.2 == (i : Int)) = false := by simpa using h3
            simp only [h2, e3, beq_self_eq_true, if_true, Bool.false_eq_true, if_false]; exact .ret rfl
        · have e2 : (m.2.1 == 2) = false := by simpa using h2
          simp only [e2, Bool.false_eq_true, if_false]; exact .ret rfl
    · subst hb
      unfold m_ref27_attacks_L3
      rw [hl]
      simp only [dec_end, Bool.false_eq_true, if_false]
      rw [List.take_of_length_le (Nat.le_refl _)]
      exact .ret rfl
  obtain ⟨o, h1, rfl⟩ := hh
  exact h1
/-- what the reference takes -/
def LegB (d : T_Dialogue) (ld : Int) (hi : Int) (i : Nat) (x : T_Move) : Prop := ∃ m a, d.2.2.2[i]? = some m ∧ m.1 = ld ∧ 0 ≤ a ∧ a < hi ∧ (a, m.2.2.1) ∈ d.1.2 ∧ x = (3 - ld, 2, a, (i : Int)) ∧ x ∉ d.2.2.2 ∧ ¬ (3 - ld = 1 ∧ Mv d.2.2.2 a i)
theorem legB_iff {d : T_Dialogue} {ld : Int} (hg : WfG d.1) {i : Nat} {x : T_Move} : LegB d ld d.1.1 i x ↔ LegA d.1.2 d.2.2.2 ld i x := by
  constructor
  · rintro ⟨m, a, h1, h2, _, _, h5, h6, h7, h8⟩
    exact ⟨m, (a, m.2.2.1), h1, h2, h5, rfl, h6, h7, h8⟩
  · rintro ⟨m, p, h1, h2, h3, h4, h5, h6, h7⟩
    have := hg.at_ p h3
    refine ⟨m, p.1, h1, h2, this.1, this.2.1, ?_, h5, h6, h7⟩
    rw [← h4]
    exact h3
theorem ref27_attacks {d : T_Dialogue} {S : List Int} {L : List Bool} (h : WfL d.2.2.2) (hg : WfG d.1) (hS : St d.2.2.2 S) (hr : m_ref27_Status d = some S) (hL : IsLd d.2.2.2 S L) : Ok (m_ref27_attacks d) fun P => P.length ≤ 4000000 ∧ ∀ x, x ∈ P ↔ Leg d S L x := by
  have hbig := h.big
  have hgl := hg.len
  have hgn := hg.n
  have hld := leadS_12 S
  have hLl := hL.len
  have hlead := ref_leader h hS
  have hLeadg := ref_Leading h hS hr hL
  unfold m_ref27_attacks
  rw [hr, Option.bind_some, hlead, Option.bind_some, hLeadg, Option.bind_some]
  have hNat : ∃ N : Nat, d.1.1 = (N : Int) := ⟨d.1.1.toNat, by omega⟩
  obtain ⟨N, hN⟩ := hNat
  have hil := idxs_len L d.2.2.2.length
  -- the leading moves before the q-th
  refine Ok.imp (I := fun P => P.length ≤ 400 * 1000 ∧ ∀ x, x ∈ P ↔ ∃ (i : Nat), (i : Int) ∈ idxs L d.2.2.2.length ∧ LegB d (leadS S) d.1.1 i x) ?_ fun P hP => ⟨by omega, fun x => ?_⟩
  · refine Ok.forI (fun q (P : List T_Move) => (P, (q : Int))) (idxs L d.2.2.2.length) (fun q P => P.length ≤ q * N ∧ ∀ x, x ∈ P ↔ ∃ (i : Nat), (i : Int) ∈ (idxs L d.2.2.2.length).take q ∧ LegB d (leadS S) d.1.1 i x) _ (fun q y P hy hP => ?_) (fun P hP => ?_) _ ⟨by simp, by simp⟩
    · obtain ⟨hP1, hP2⟩ := hP
      have hq := (List.getElem?_eq_some_iff.1 hy).1
      obtain ⟨i, rfl, hiL⟩ : ∃ i : Nat, y = (i : Int) ∧ i < d.2.2.2.length := by
        have hmem := List.mem_of_getElem? hy
        unfold idxs at hmem
        obtain ⟨k, hk, rfl⟩ := List.mem_map.1 hmem
        exact ⟨k, rfl, by have := List.mem_range.1 (List.mem_filter.1 hk).1; exact this⟩
      have hm : d.2.2.2[i]? = some d.2.2.2[i] := List.getElem?_eq_getElem hiL
      have hqN : q * N ≤ 400 * 1000 := Nat.mul_le_mul (by omega) (by omega)
      have htake : ∀ (i' : Nat), (i' : Int) ∈ (idxs L d.2.2.2.length).take (q + 1) ↔ (i' : Int) ∈ (idxs L d.2.2.2.length).take q ∨ i' = i := by
        intro i'
        rw [List.take_add_one, hy, List.mem_append]
        exact or_congr Iff.rfl ⟨fun h => by simp at h; omega, fun h => by subst h; simp⟩
      unfold m_ref27_attacks_L1
      simp only [dec_lt hy, if_true, idx_nat, hy, hm, Option.bind_some]
      rw [w64_id (x := 3 - leadS S) (by omega) (by omega)]
      have hby := h.by12 hm
      by_cases hb : d.2.2.2[i].1 = leadS S
      · have e1 : (d.2.2.2[i].1 == 3 - leadS S) = false := by rw [beq_eq_false_iff_ne]; omega
        simp only [e1, Bool.false_eq_true, if_false]
        refine Ok.forI (fun k (P' : List T_Move) => (P', (k : Int))) (List.range N) (fun k P' => P'.length ≤ q * N + k ∧ ∀ x, x ∈ P' ↔ (∃ (i : Nat), (i : Int) ∈ (idxs L d.2.2.2.length).take q ∧ LegB d (leadS S) d.1.1 i x) ∨ LegB d (leadS S) (k : Int) i x) _ (fun k z P' hz hP' => ?_) (fun P' hP' => ?_) P ⟨by omega, fun x => by
          rw [hP2]
          have : LegB d (leadS S) ((0 : Nat) : Int) i x ↔ False := ⟨by rintro ⟨m, a, _, _, h3, h4, _⟩; omega, False.elim⟩
          rw [this, or_false]⟩
        · obtain ⟨hQ1, hQ2⟩ := hP'
          have hkN : k < N := by simpa using (List.getElem?_eq_some_iff.1 hz).1
          unfold m_ref27_attacks_L2
          have hdk : decide ((k : Int) < d.1.1) = true := decide_eq_true (by omega)
          have hhas : m_net_Has d.1 (k : Int) d.2.2.2[i].2.2.1 = some (ed d.1.2 (k : Int) d.2.2.2[i].2.2.1) := net_Has d.1.1 d.1.2 (by omega) _ _
          simp only [hdk, if_true, idx_nat, hm, Option.bind_some, hhas]
          rw [ref_attacks_L3 h, Option.bind_some, w64_id (x := 3 - leadS S) (by omega) (by omega)]
          refine .bind (I := fun o => o = true ↔ ((((k : Int)), d.2.2.2[i].2.2.1) ∈ d.1.2 ∧ (3 - leadS S, 2, (k : Int), (i : Int)) ∉ d.2.2.2 ∧ ¬ (3 - leadS S = 1 ∧ Mv d.2.2.2 (k : Int) i))) ?_ fun o ho => ?_
          · have hdone := doneA_iff h (a := (k : Int)) hm hb
            cases hq2 : (ed d.1.2 (k : Int) d.2.2.2[i].2.2.1 && !doneA d.2.2.2 i (k : Int)) with
            | false =>
              simp only [Bool.false_eq_true, if_false]
              refine .ret ⟨nofun, fun hh => ?_⟩
              have e2 := ed_mem.2 hh.1
              rw [e2, Bool.true_and, Bool.not_eq_false'] at hq2
              exact absurd (hdone.1 hq2) hh.2.1
            | true =>
              simp only [Bool.and_eq_true, Bool.not_eq_true'] at hq2
              have e2 := ed_mem.1 hq2.1
              have e3 : (3 - leadS S, 2, (k : Int), (i : Int)) ∉ d.2.2.2 := fun hh => by rw [hdone.2 hh] at hq2; cases hq2.2
              simp only [if_true]
              by_cases h2 : 3 - leadS S = 2
              · have e4 : ((3 - leadS S) == 2) = true := by simpa using h2
                simp only [e4, if_true]
                exact .ret ⟨fun _ => ⟨e2, e3, fun hh => by omega⟩, fun _ => rfl⟩
              · have e4 : ((3 - leadS S) == 2) = false := by simpa using h2
                simp only [e4, Bool.false_eq_true, if_false]
                refine .bind (ref_repeated h (k : Int) i hiL) fun b hb2 => .ret ⟨fun hh => ⟨e2, e3, fun h3 => ?_⟩, fun hh => ?_⟩
                · rw [hb2.2 h3.2] at hh; cases hh
                · cases hbv : b with
                  | false => rfl
                  | true => exact absurd ⟨by omega, hb2.1 hbv⟩ hh.2.2
          have hsplit : ∀ x, LegB d (leadS S) ((k + 1 : Nat) : Int) i x ↔ LegB d (leadS S) (k : Int) i x ∨ (o = true ∧ x = (3 - leadS S, 2, (k : Int), (i : Int))) := by
            intro x
            rw [ho]
            constructor
            · rintro ⟨m, a, q1, q2, q3, q4, q5, q6, q7, q8⟩
              by_cases hak : a = (k : Int)
              · subst hak
                rw [hm] at q1
                cases q1
                subst q6
                exact .inr ⟨⟨q5, q7, q8⟩, rfl⟩
              · exact .inl ⟨m, a, q1, q2, q3, by omega, q5, q6, q7, q8⟩
            · rintro (⟨m, a, q1, q2, q3, q4, q5, q6, q7, q8⟩ | ⟨⟨q5, q7, q8⟩, rfl⟩)
              · exact ⟨m, a, q1, q2, q3, by omega, q5, q6, q7, q8⟩
              · exact ⟨_, (k : Int), hm, hb, by omega, by omega, q5, rfl, q7, q8⟩
          refine .ite (fun hot => ?_) fun hof => ?_
          · rw [app_ok (by simp; omega), Option.bind_some]
            refine .ret ⟨_, by rw [w64_succ k (by omega)], by simp; omega, fun x => ?_⟩
            rw [List.mem_append, hQ2, hsplit, List.mem_singleton, or_assoc]
            simp [hot]
          · refine .ret ⟨_, by rw [w64_succ k (by omega)], by omega, fun x => ?_⟩
            rw [hQ2, hsplit]
            simp [hof]
        · obtain ⟨hQ1, hQ2⟩ := hP'
          unfold m_ref27_attacks_L2
          have hdk : decide (((List.range N).length : Int) < d.1.1) = false := decide_eq_false (by rw [List.length_range]; omega)
          simp only [hdk, Bool.false_eq_true, if_false]
          refine .ret ⟨_, by rw [w64_succ q (by omega)], by rw [Nat.add_mul, Nat.one_mul]; simpa using hQ1, fun x => ?_⟩
          rw [hQ2, List.length_range, ← hN]
          constructor
          · rintro (⟨j, q1, q2⟩ | q1)
            · exact ⟨j, (htake j).2 (.inl q1), q2⟩
            · exact ⟨i, (htake i).2 (.inr rfl), q1⟩
          · rintro ⟨j, q1, q2⟩
            rcases (htake j).1 q1 with q1 | rfl
            · exact .inl ⟨j, q1, q2⟩
            · exact .inr q2
      · have e1 : (d.2.2.2[i].1 == 3 - leadS S) = true := by rw [beq_iff_eq]; omega
        simp only [e1, if_true]
        refine .ret ⟨_, by rw [w64_succ q (by omega)], by rw [Nat.add_mul]; omega, fun x => ?_⟩
        rw [hP2]
        constructor
        · rintro ⟨j, q1, q2⟩; exact ⟨j, (htake j).2 (.inl q1), q2⟩
        · rintro ⟨j, q1, q2⟩
          rcases (htake j).1 q1 with q1 | rfl
          · exact ⟨j, q1, q2⟩
          · obtain ⟨m, a, q3, q4, _⟩ := q2
            rw [hm] at q3
            cases q3
            exact absurd q4 hb
    · obtain ⟨hP1, hP2⟩ := hP
      have hqN : (idxs L d.2.2.2.length).length * N ≤ 400 * 1000 := Nat.mul_le_mul (by omega) (by omega)
      unfold m_ref27_attacks_L1
      simp only [dec_end, Bool.false_eq_true, if_false]
      rw [List.take_of_length_le (Nat.le_refl _)] at hP2
      exact .ret ⟨by omega, hP2⟩
  · rw [hP.2]
    unfold Leg
    constructor
    · rintro ⟨i, h1, h2⟩
      exact ⟨i, (idxs_mem.1 h1).2, (legB_iff hg).1 h2⟩
    · rintro ⟨i, h1, h2⟩
      exact ⟨i, idxs_mem.2 ⟨by rw [← hLl]; exact (List.getElem?_eq_some_iff.1 h1).1, h1⟩, (legB_iff hg).2 h2⟩
end
section
variable {l : List T_Move}
/-- a dialogue as the rules make it -/
structure WfD (d : T_Dialogue) : Prop where
  l : WfL d.2.2.2
  g : WfG d.1
/-- the moves that the player behind may make -/
def limS (d : T_Dialogue) (S : List Int) : Int := if leadS S = 1 then d.2.2.1.2 else d.2.2.1.1
/-- what an end is like -/
def endS (d : T_Dialogue) (S : List Int) (none_ : Bool) : T_Outcome :=
  let last := (d.2.2.2[d.2.2.2.length - 1]?).getD (0, 0, 0, 0)
  if last.2.1 = 4 then (3 - last.1, 3)
  else if 200 ≤ d.2.2.2.length then (leadS S, 4)
  else if limS d S ≤ ((d.2.2.2.filter fun m => decide (m.1 ≠ leadS S)).length : Int) then (leadS S, 2)
  else if none_ then (leadS S, 1) else (0, 0)
theorem cnt_loop (h : l.length ≤ 400) {B : Int × Int → Option ((Int × Int) ⊕ Int)} (q : T_Move → Bool) (hB : ∀ (i : Nat) m (c : Int), l[i]? = some m → 0 ≤ c → c ≤ 400 → B (c, (i : Int)) = some (.inl ((if q m = true then c + 1 else c), ((i + 1 : Nat) : Int))))
    (he : ∀ c, B (c, (l.length : Int)) = some (.inr c)) : loop B (0, 0) = some ((l.filter q).length : Int) := by
  have hh : Ok (loop B (0, 0)) fun o => o = ((l.filter q).length : Int) := by
    refine Ok.forI (fun i (c : Int) => (c, (i : Int))) l (fun i c => c = (((l.take i).filter q).length : Int)) _ (fun i m c hm hc => ?_) (fun c hc => ?_) 0 (by simp)
    · have hi := (List.getElem?_eq_some_iff.1 hm).1
      have hle : ((l.take i).filter q).length ≤ i := Nat.le_trans (List.length_filter_le _ _) (by rw [List.length_take]; exact Nat.min_le_left _ _)
      refine ⟨_, hB i m c hm (by omega) (by omega), _, rfl, ?_⟩
      show (if q m = true then c + 1 else c) = (((l.take (i + 1)).filter q).length : Int)
      rw [List.take_add_one, hm, List.filter_append, List.length_append, hc]
      cases hq : q m <;> simp [hq]
    · refine ⟨_, he c, ?_⟩
      rw [List.take_of_length_le (Nat.le_refl _)] at hc
      exact hc
  obtain ⟨o, h1, rfl⟩ := hh
  exact h1
theorem WfL.last (h : WfL l) : ∃ m, l[l.length - 1]? = some m := ⟨_, List.getElem?_eq_getElem (by have := h.pos; omega)⟩
theorem prot_End {d : T_Dialogue} {S : List Int} {L : List Bool} (h : WfD d) (hS : St d.2.2.2 S) (hof : m_protocol_of d = some (d, S, leadS S, L)) (hL : L.length = d.2.2.2.length) : ∃ P, m_protocol_table_legal (d, S, leadS S, L) = some P ∧ (P.length ≤ 4000000 ∧ ∀ x, x ∈ P ↔ Leg d S L x) ∧ m_protocol_End d = some (endS d S (decide (P.length = 0))) := by
  have _ := hS
  obtain ⟨P, hP1, hP2⟩ := prot_legal h.l h.g hL
  refine ⟨P, hP1, hP2, ?_⟩
  have hpos := h.l.pos
  have hbig := h.l.big
  have hld := leadS_12 S
  obtain ⟨m, hm⟩ := h.l.last
  have hm12 := h.l.by12 hm
  unfold m_protocol_End
  have e0 : ((len d.2.2.2) == 0) = false := by
    rw [beq_eq_false_iff_ne]
    exact (show (d.2.2.2.length : Int) ≠ 0 by omega)
  rw [e0, hof]
  simp only [Bool.false_eq_true, if_false, Option.bind_some]
  unfold m_protocol_table_end
  have hother : ∀ x : Int, x = 1 ∨ x = 2 → m_protocol_other x = some (3 - x) := fun x hx => by
    unfold m_protocol_other
    rw [w64_id (by omega) (by omega)]
  have hc := cnt_loop (B := m_protocol_table_end_L1 (d, S, leadS S, L)) hbig (fun m => decide (m.1 ≠ leadS S)) (fun i m c hm hc0 hc1 => by
    have hby := h.l.by12 hm
    have hi := (List.getElem?_eq_some_iff.1 hm).1
    unfold m_protocol_table_end_L1
    simp only [dec_lt hm, if_true, idx_nat, hm, Option.bind_some, hother _ hld, w64_succ i (by omega)]
    by_cases hq : m.1 = leadS S
    · have e1 : (m.1 == 3 - leadS S) = false := by rw [beq_eq_false_iff_ne]; omega
      have e2 : decide (m.1 ≠ leadS S) = false := by simp [hq]
      rw [e1, e2]
      simp only [Bool.false_eq_true, if_false]
    · have e1 : (m.1 == 3 - leadS S) = true := by rw [beq_iff_eq]; omega
      simp only [e1, if_true]
      rw [w64_id (x := c + 1) (by omega) (by omega)]
      simp [hq]) (fun c => by
    unfold m_protocol_table_end_L1
    simp only [dec_end, Bool.false_eq_true, if_false])
  rw [hc]
  have e1 : w64 (len d.2.2.2 - 1) = ((d.2.2.2.length - 1 : Nat) : Int) := by
    have : len d.2.2.2 = (d.2.2.2.length : Int) := rfl
    rw [this, w64_id (by omega) (by omega)]
    omega
  have hlen : len d.2.2.2 = (d.2.2.2.length : Int) := rfl
  simp only [Option.bind_some, e1, idx_nat, hm, hother _ hld, hother _ hm12, hP1]
  unfold endS
  rw [hm]
  simp only [Option.getD_some]
  by_cases h4 : m.2.1 = 4
  · simp [h4]
  · have e4 : (m.2.1 == 4) = false := by simpa using h4
    rw [e4, if_neg h4]
    simp only [Bool.false_eq_true, if_false]
    by_cases h5 : 200 ≤ d.2.2.2.length
    · have : decide ((200 : Int) ≤ len d.2.2.2) = true := decide_eq_true (by omega)
      simp [this, h5]
    · have : decide ((200 : Int) ≤ len d.2.2.2) = false := decide_eq_false (by omega)
      rw [this, if_neg h5]
      simp only [Bool.false_eq_true, if_false]
      have hi : idx ([d.2.2.1.1, d.2.2.1.2] : List Int) (w64 (3 - leadS S - 1)) = some (limS d S) := by
        unfold limS
        rcases hld with h1 | h1 <;> rw [h1] <;> rfl
      rw [hi, Option.bind_some]
      by_cases h6 : limS d S ≤ ((d.2.2.2.filter fun m => decide (m.1 ≠ leadS S)).length : Int)
      · rw [decide_eq_true h6, if_pos h6]
        simp
      · rw [decide_eq_false h6, if_neg h6]
        simp only [Bool.false_eq_true, if_false]
        by_cases h7 : P.length = 0
        · have : ((len P) == 0) = true := by rw [beq_iff_eq]; exact (show (P.length : Int) = 0 by omega)
          simp [this, h7]
        · have : ((len P) == 0) = false := by rw [beq_eq_false_iff_ne]; exact (show (P.length : Int) ≠ 0 by omega)
          simp [this, h7]
theorem ref_End {d : T_Dialogue} {S : List Int} {L : List Bool} (h : WfD d) (hS : St d.2.2.2 S) (hr : m_ref27_Status d = some S) (hL : IsLd d.2.2.2 S L) : ∃ P, m_ref27_attacks d = some P ∧ (P.length ≤ 4000000 ∧ ∀ x, x ∈ P ↔ Leg d S L x) ∧ m_ref27_End d = some (endS d S (decide (P.length = 0))) := by
  obtain ⟨P, hP1, hP2⟩ := ref27_attacks h.l h.g hS hr hL
  refine ⟨P, hP1, hP2, ?_⟩
  have hpos := h.l.pos
  have hbig := h.l.big
  have hld := leadS_12 S
  obtain ⟨m, hm⟩ := h.l.last
  have hm12 := h.l.by12 hm
  unfold m_ref27_End
  have e1 : w64 (len d.2.2.2 - 1) = ((d.2.2.2.length - 1 : Nat) : Int) := by
    have : len d.2.2.2 = (d.2.2.2.length : Int) := rfl
    rw [this, w64_id (by omega) (by omega)]
    omega
  have hlen : len d.2.2.2 = (d.2.2.2.length : Int) := rfl
  have hc := cnt_loop (B := m_ref27_End_L1 d (leadS S)) hbig (fun m => decide (m.1 ≠ leadS S)) (fun i m c hm hc0 hc1 => by
    have hi := (List.getElem?_eq_some_iff.1 hm).1
    unfold m_ref27_End_L1
    simp only [dec_lt hm, if_true, idx_nat, hm, Option.bind_some, w64_succ i (by omega)]
    by_cases hq : m.1 = leadS S
    · simp [hq]
    · have e1 : (m.1 != leadS S) = true := by simpa using hq
      simp only [e1, if_true]
      rw [w64_id (x := c + 1) (by omega) (by omega)]
      simp [hq]) (fun c => by
    unfold m_ref27_End_L1
    simp only [dec_end, Bool.false_eq_true, if_false])
  rw [e1, idx_nat, hm, Option.bind_some, hr]
  simp only [Option.bind_some, ref_leader h.l hS, hc, hP1]
  unfold endS
  rw [hm]
  simp only [Option.getD_some]
  by_cases h4 : m.2.1 = 4
  · have : w64 (3 - m.1) = 3 - m.1 := w64_id (by omega) (by omega)
    simp [h4, this]
  · have e4 : (m.2.1 == 4) = false := by simpa using h4
    rw [e4, if_neg h4]
    simp only [Bool.false_eq_true, if_false]
    by_cases h5 : 200 ≤ d.2.2.2.length
    · have : decide ((200 : Int) ≤ len d.2.2.2) = true := decide_eq_true (by omega)
      simp [this, h5]
    · have : decide ((200 : Int) ≤ len d.2.2.2) = false := decide_eq_false (by omega)
      rw [this, if_neg h5]
      simp only [Bool.false_eq_true, if_false]
      have hi : idx ([d.2.2.1.1, d.2.2.1.2] : List Int) (w64 (2 - leadS S)) = some (limS d S) := by
        unfold limS
        rcases hld with h1 | h1 <;> rw [h1] <;> rfl
      rw [hi, Option.bind_some]
      by_cases h6 : limS d S ≤ ((d.2.2.2.filter fun m => decide (m.1 ≠ leadS S)).length : Int)
      · rw [decide_eq_true h6, if_pos h6]
        simp
      · rw [decide_eq_false h6, if_neg h6]
        simp only [Bool.false_eq_true, if_false]
        by_cases h7 : P.length = 0
        · have : ((len P) == 0) = true := by rw [beq_iff_eq]; exact (show (P.length : Int) = 0 by omega)
          simp [this, h7]
        · have : ((len P) == 0) = false := by rw [beq_eq_false_iff_ne]; exact (show (P.length : Int) ≠ 0 by omega)
          simp [this, h7]
/-- all that both find in a dialogue -/
structure Found (d : T_Dialogue) (S : List Int) (L : List Bool) (P R : List T_Move) (e : T_Outcome) : Prop where
  st : St d.2.2.2 S
  ld : IsLd d.2.2.2 S L
  ps : m_protocol_Status d = some S
  rs : m_ref27_Status d = some S
  po : m_protocol_of d = some (d, S, leadS S, L)
  pl : m_protocol_table_legal (d, S, leadS S, L) = some P
  rl : m_ref27_attacks d = some R
  pm : ∀ x, x ∈ P ↔ Leg d S L x
  rm : ∀ x, x ∈ R ↔ Leg d S L x
  pn : P.length ≤ 4000000
  rn : R.length ≤ 4000000
  pe : m_protocol_End d = some e
  re : m_ref27_End d = some e
  es : e = endS d S (decide (R.length = 0))
theorem found {d : T_Dialogue} (h : WfD d) : ∃ S L P R e, Found d S L P R e := by
  obtain ⟨S, h1, h2, hS⟩ := status_both h.l
  obtain ⟨L, h3, hL⟩ := prot_of h.l hS h1
  obtain ⟨P, p1, ⟨p2, p3⟩, p4⟩ := prot_End h hS h3 hL.len
  obtain ⟨R, r1, ⟨r2, r3⟩, r4⟩ := ref_End h hS h2 hL
  have he : decide (P.length = 0) = decide (R.length = 0) := by
    rw [decide_eq_decide, List.length_eq_zero_iff, List.length_eq_zero_iff, List.eq_nil_iff_forall_not_mem, List.eq_nil_iff_forall_not_mem]
    exact forall_congr' fun x => not_congr ((p3 x).trans (r3 x).symm)
  rw [he] at p4
  exact ⟨S, L, P, R, _, hS, hL, h1, h2, h3, p1, r1, p3, r3, p2, r2, p4, r4, rfl⟩
theorem endS_cases (d : T_Dialogue) (S : List Int) (b : Bool) : endS d S b = (0, 0) ∨ ((endS d S b).2 ≠ 0 ∧ 1 ≤ (endS d S b).2 ∧ (endS d S b).2 ≤ 4) := by
  unfold endS
  dsimp only
  split
  · exact .inr ⟨by simp, by simp, by simp⟩
  · split
    · exact .inr ⟨by simp, by simp, by simp⟩
    · split
      · exact .inr ⟨by simp, by simp, by simp⟩
      · split
        · exact .inr ⟨by simp, by simp, by simp⟩
        · exact .inl rfl
theorem endS_open {d : T_Dialogue} {S : List Int} {b : Bool} (h : endS d S b = (0, 0)) : d.2.2.2.length < 200 ∧ b = false := by
  unfold endS at h
  dsimp only at h
  split at h
  · simp at h
  · split at h
    · simp at h
    · rename_i h5
      split at h
      · simp at h
      · split at h
        · simp at h
        · rename_i h7
          exact ⟨by omega, by simpa using h7⟩
/-- whose turn it is -/
def turnS (S : List Int) (e : T_Outcome) : Int := if e.2 = 0 then 3 - leadS S else 0
theorem turn_both {d : T_Dialogue} {S : List Int} {L : List Bool} {P R : List T_Move} {e : T_Outcome} (h : WfD d) (f : Found d S L P R e) : m_protocol_Turn d = some (turnS S e) ∧ m_ref27_Turn d = some (turnS S e) := by
  have hpos := h.l.pos
  have hld := leadS_12 S
  have hw : w64 (3 - leadS S) = 3 - leadS S := w64_id (by omega) (by omega)
  have hec := endS_cases d S (decide (R.length = 0))
  rw [← f.es] at hec
  unfold m_protocol_Turn m_ref27_Turn turnS
  have e0 : ((len d.2.2.2) == 0) = false := by
    rw [beq_eq_false_iff_ne]
    exact (show (d.2.2.2.length : Int) ≠ 0 by omega)
  simp only [e0, Bool.false_eq_true, if_false, f.pe, f.re, Option.bind_some]
  rcases hec with rfl | ⟨h1, h2, h3⟩
  · simp only [f.po, f.rs, ref_leader h.l f.st, Option.bind_some]
    refine ⟨?_, ?_⟩
    · simp [m_protocol_other, hw]
    · simp [hw]
  · have e1 : (e.2 != 0) = true := by simpa using h1
    have e2 : (e == (0, 0)) = false := by
      rw [beq_eq_false_iff_ne]
      intro hh
      rw [hh] at h1
      exact h1 rfl
    simp [e1, e2, h1]
/-- a move that is made: the move as it is stored, or the error -/
def judgeS (d : T_Dialogue) (S : List Int) (R : List T_Move) (e : T_Outcome) (m : T_Move) : T_Move × Int :=
  if turnS S e = 0 then (m, 7)
  else if ¬ (m.2.1 = 2 ∨ m.2.1 = 3 ∨ m.2.1 = 4) then (m, 4)
  else if m.1 ≠ 3 - leadS S then (m, 8)
  else if m.2.1 = 4 then ((m.1, m.2.1, 0, 0), 0)
  else if m.2.2.2 < 0 ∨ (d.2.2.2.length : Int) ≤ m.2.2.2 ∨ (m.2.1 = 2 ∧ (m.2.2.1 < 0 ∨ d.1.1 ≤ m.2.2.1)) then (m, 1)
  else if m.2.1 = 2 then (if m ∈ R then (m, 0) else (m, 9))
  else
    let x := (d.2.2.2[m.2.2.2.toNat]?).getD (0, 0, 0, 0)
    if x.1 ≠ m.1 ∨ x.2.1 ≠ 2 ∨ (S[m.2.2.2.toNat]?).getD 0 = 0 then (m, 6) else ((m.1, m.2.1, 0, m.2.2.2), 0)
def applyS (d : T_Dialogue) (j : T_Move × Int) : T_Dialogue × Int :=
  if j.2 = 0 then ((d.1, d.2.1, d.2.2.1, d.2.2.2 ++ [j.1]), 0) else (((0, []), 0, (0, 0), []), j.2)
theorem ref_Apply {d : T_Dialogue} {S : List Int} {L : List Bool} {P R : List T_Move} {e : T_Outcome} (h : WfD d) (f : Found d S L P R e) (m : T_Move) : m_ref27_Apply d m = some (applyS d (judgeS d S R e m)) := by
  have hpos := h.l.pos
  have hbig := h.l.big
  have hld := leadS_12 S
  have hlen : len d.2.2.2 = (d.2.2.2.length : Int) := rfl
  obtain ⟨_, ht⟩ := turn_both h f
  unfold m_ref27_Apply
  rw [ht, Option.bind_some]
  unfold judgeS
  by_cases ht0 : turnS S e = 0
  · rw [if_pos ht0]
    have : (turnS S e == 0) = true := by simpa using ht0
    simp [this, applyS]
  · rw [if_neg ht0]
    have e0 : (turnS S e == 0) = false := by simpa using ht0
    have hte : turnS S e = 3 - leadS S := by
      unfold turnS at ht0 ⊢
      split
      · rfl
      · rename_i hn; rw [if_neg hn] at ht0; exact absurd rfl ht0
    rw [e0]
    simp only [Bool.false_eq_true, if_false, hte, Option.bind_some]
    have hfin : ∀ (b k n t : Int), ((app ([] : List T_Move) d.2.2.2).bind fun x4 => (app x4 ([(b, k, n, t)] : List T_Move)).bind fun x5 => some x5) = some (d.2.2.2 ++ [(b, k, n, t)]) := by
      intro b k n t
      rw [app_nil_ok (by omega), Option.bind_some, app_ok (by simp; omega)]
      rfl
    by_cases hkk : m.2.1 = 2 ∨ m.2.1 = 3 ∨ m.2.1 = 4
    · have hkb : ((m.2.1 != 2) && ((m.2.1 != 3) && (m.2.1 != 4))) = false := by
        rcases hkk with h | h | h <;> rw [h] <;> rfl
      rw [hkb, if_neg (not_not_intro hkk)]
      simp only [Bool.false_eq_true, if_false]
      by_cases h8 : m.1 = 3 - leadS S
      · have e8 : (m.1 != 3 - leadS S) = false := by simp [h8]
        rw [e8, if_neg (not_not_intro h8)]
        simp only [Bool.false_eq_true, if_false]
        by_cases h4 : m.2.1 = 4
        · rw [if_pos h4]
          have e2 : (m.2.1 == 2) = false := by rw [h4]; rfl
          have e3 : (m.2.1 == 3) = false := by rw [h4]; rfl
          simp only [e2, e3, Bool.false_eq_true, if_false, seqE, Option.bind_some, hfin]
          rfl
        · rw [if_neg h4]
          by_cases h2 : m.2.1 = 2
          · have e2 : (m.2.1 == 2) = true := by simpa using h2
            simp only [e2, if_true]
            by_cases hr : m.2.2.2 < 0 ∨ (d.2.2.2.length : Int) ≤ m.2.2.2 ∨ (m.2.1 = 2 ∧ (m.2.2.1 < 0 ∨ d.1.1 ≤ m.2.2.1))
            · have : ((!((decide (0 ≤ m.2.2.2)) && (decide (m.2.2.2 < (len d.2.2.2))))) || ((decide (m.2.2.1 < 0)) || (decide (d.1.1 ≤ m.2.2.1)))) = true := by
                rw [hlen]
                rcases hr with hr | hr | hr
                · have : decide (0 ≤ m.2.2.2) = false := decide_eq_false (by omega)
                  simp [this]
                · have : decide (m.2.2.2 < (d.2.2.2.length : Int)) = false := decide_eq_false (by omega)
                  simp [this]
                · simpa using Or.inr hr.2
              rw [this, if_pos hr]
              rfl
            · have : ((!((decide (0 ≤ m.2.2.2)) && (decide (m.2.2.2 < (len d.2.2.2))))) || ((decide (m.2.2.1 < 0)) || (decide (d.1.1 ≤ m.2.2.1)))) = false := by
                rw [hlen, decide_eq_true (show 0 ≤ m.2.2.2 by omega), decide_eq_true (show m.2.2.2 < (d.2.2.2.length : Int) by omega), decide_eq_false (show ¬ m.2.2.1 < 0 from fun hh => hr (.inr (.inr ⟨h2, .inl hh⟩))), decide_eq_false (show ¬ d.1.1 ≤ m.2.2.1 from fun hh => hr (.inr (.inr ⟨h2, .inr hh⟩)))]
                rfl
              rw [this, if_neg hr, if_pos h2]
              simp only [Bool.false_eq_true, if_false, f.rl, Option.bind_some]
              have hany : loop (m_ref27_Apply_L1 R m) (false, 0) = some (decide (m ∈ R)) := by
                have hh : Ok (loop (m_ref27_Apply_L1 R m) (false, 0)) fun o => o = decide (m ∈ R) := by
                  refine Ok.forI (fun i (b : Bool) => (b, (i : Int))) R (fun i b => b = decide (m ∈ R.take i)) _ (fun i x b hx hb => ?_) (fun b hb => ?_) false (by simp)
                  · have hi := (List.getElem?_eq_some_iff.1 hx).1
                    have := f.rn
                    unfold m_ref27_Apply_L1
                    simp only [dec_lt hx, if_true, idx_nat, hx, Option.bind_some, w64_succ i (by omega)]
                    refine .ret ⟨_, rfl, ?_⟩
                    show (b || x == m) = decide (m ∈ R.take (i + 1))
                    rw [hb, List.take_add_one, hx]
                    by_cases q : x = m
                    · subst q; simp
                    · have e1 : (x == m) = false := by simpa using q
                      have q' : ¬ m = x := fun e => q e.symm
                      simp [e1, q']
                  · unfold m_ref27_Apply_L1
                    simp only [dec_end, Bool.false_eq_true, if_false]
                    rw [List.take_of_length_le (Nat.le_refl _)] at hb
                    exact .ret hb
                obtain ⟨o, h1, rfl⟩ := hh
                exact h1
              rw [hany]
              by_cases hmR : m ∈ R
              · rw [decide_eq_true hmR, if_pos hmR]
                simp only [Option.bind_some, Bool.not_true, Bool.false_eq_true, if_false, seqE, hfin]
                rfl
              · rw [decide_eq_false hmR, if_neg hmR]
                rfl
          · have h3 : m.2.1 = 3 := by omega
            have e2 : (m.2.1 == 2) = false := by simpa using h2
            have e3 : (m.2.1 == 3) = true := by simpa using h3
            simp only [e2, e3, if_true, Bool.false_eq_true, if_false]
            by_cases hb : 0 ≤ m.2.2.2 ∧ m.2.2.2 < (d.2.2.2.length : Int)
            · have hr : ¬ (m.2.2.2 < 0 ∨ (d.2.2.2.length : Int) ≤ m.2.2.2 ∨ (m.2.1 = 2 ∧ (m.2.2.1 < 0 ∨ d.1.1 ≤ m.2.2.1))) := by
                rintro (q | q | q)
                · omega
                · omega
                · exact h2 q.1
              have : (!((decide (0 ≤ m.2.2.2)) && (decide (m.2.2.2 < (len d.2.2.2))))) = false := by
                rw [hlen, decide_eq_true hb.1, decide_eq_true hb.2]; rfl
              have hlt : m.2.2.2.toNat < d.2.2.2.length := by omega
              have hx : idx d.2.2.2 m.2.2.2 = some d.2.2.2[m.2.2.2.toNat] := by
                unfold idx
                rw [if_pos hb.1]
                exact List.getElem?_eq_getElem hlt
              have hlt2 : m.2.2.2.toNat < S.length := by rw [f.st.len]; exact hlt
              have hs : idx S m.2.2.2 = some S[m.2.2.2.toNat] := by
                unfold idx
                rw [if_pos hb.1]
                exact List.getElem?_eq_getElem hlt2
              rw [this, if_neg hr, if_neg h2, List.getElem?_eq_getElem hlt, List.getElem?_eq_getElem hlt2]
              simp only [Bool.false_eq_true, if_false, hx, hs, f.rs, Option.bind_some, Option.getD_some]
              generalize d.2.2.2[m.2.2.2.toNat] = x
              generalize S[m.2.2.2.toNat] = y
              by_cases q2 : x.2.1 = 2
              · have e6 : (x.2.1 != 2) = false := by simp [q2]
                by_cases q1 : x.1 = m.1
                · have e5 : (x.1 != m.1) = false := by simp [q1]
                  by_cases q3 : y = 0
                  · simp [q1, q2, q3, seqE, applyS]
                  · have e7 : (y == 0) = false := by simpa using q3
                    have hno : ¬ (x.1 ≠ m.1 ∨ x.2.1 ≠ 2 ∨ y = 0) := by
                      rintro (q | q | q)
                      · exact q q1
                      · exact q q2
                      · exact q3 q
                    rw [e6, e5, e7, if_neg hno]
                    simp only [Bool.false_eq_true, if_false, Option.bind_some, seqE, hfin]
                    rfl
                · have e5 : (x.1 != m.1) = true := by simpa using q1
                  simp [e5, e6, q1, seqE, applyS]
              · have e6 : (x.2.1 != 2) = true := by simpa using q2
                simp [e6, q2, seqE, applyS]
            · have hr : (m.2.2.2 < 0 ∨ (d.2.2.2.length : Int) ≤ m.2.2.2 ∨ (m.2.1 = 2 ∧ (m.2.2.1 < 0 ∨ d.1.1 ≤ m.2.2.1))) := by
                by_cases q : m.2.2.2 < 0
                · exact .inl q
                · exact .inr (.inl (by omega))
              have : (!((decide (0 ≤ m.2.2.2)) && (decide (m.2.2.2 < (len d.2.2.2))))) = true := by
                rw [hlen, Bool.not_eq_true', Bool.and_eq_false_iff]
                by_cases q : m.2.2.2 < 0
                · exact .inl (decide_eq_false (by omega))
                · exact .inr (decide_eq_false (by omega))
              rw [this, if_pos hr]
              rfl
      · have e8 : (m.1 != 3 - leadS S) = true := by simpa using h8
        rw [e8, if_pos h8]
        rfl
    · have hkb : ((m.2.1 != 2) && ((m.2.1 != 3) && (m.2.1 != 4))) = true := by
        have h2 : (m.2.1 != 2) = true := by rw [bne_iff_ne]; exact fun q => hkk (.inl q)
        have h3 : (m.2.1 != 3) = true := by rw [bne_iff_ne]; exact fun q => hkk (.inr (.inl q))
        have h4 : (m.2.1 != 4) = true := by rw [bne_iff_ne]; exact fun q => hkk (.inr (.inr q))
        rw [h2, h3, h4]; rfl
      rw [hkb, if_pos hkk]
      rfl
/-- a move that is made leaves a dialogue as the rules make it -/
theorem WfD.apply {d : T_Dialogue} {S : List Int} {L : List Bool} {P R : List T_Move} {e : T_Outcome} (h : WfD d) (f : Found d S L P R e) {m : T_Move} (hj : (judgeS d S R e m).2 = 0) : WfD (applyS d (judgeS d S R e m)).1 ∧ d.2.2.2.length < 200 := by
  have hpos := h.l.pos
  have hld := leadS_12 S
  have hopen : d.2.2.2.length < 200 := by
    by_cases ht0 : turnS S e = 0
    · unfold judgeS at hj
      rw [if_pos ht0] at hj
      cases hj
    · have he := endS_cases d S (decide (R.length = 0))
      rw [← f.es] at he
      rcases he with he | he
      · exact (endS_open (f.es ▸ he)).1
      · unfold turnS at ht0
        rw [if_neg he.1] at ht0
        exact absurd rfl ht0
  refine ⟨?_, hopen⟩
  have key : ∀ y : T_Move, (y.1 = 1 ∨ y.1 = 2) → ((y.2.1 = 2 ∧ ∃ (t : Nat) (x : T_Move), y.2.2.2 = (t : Int) ∧ d.2.2.2[t]? = some x ∧ x.1 + y.1 = 3) ∨ (y.2.1 = 3 ∧ ∃ (t : Nat) (x : T_Move), y.2.2.2 = (t : Int) ∧ d.2.2.2[t]? = some x ∧ x.2.1 = 2) ∨ (y.2.1 = 4 ∧ y.2.2.2 = 0)) → WfL (d.2.2.2 ++ [y]) := by
    intro y hy hk
    refine ⟨by simp; omega, ?_, fun i m' hm' hi => ?_⟩
    · obtain ⟨r, hr⟩ := h.l.first
      exact ⟨r, by rw [List.getElem?_append_left hpos]; exact hr⟩
    · have hold : ∀ (t : Nat) (x : T_Move), d.2.2.2[t]? = some x → (d.2.2.2 ++ [y])[t]? = some x := fun t x hx => by
        rw [List.getElem?_append_left (List.getElem?_eq_some_iff.1 hx).1]; exact hx
      by_cases hil : i < d.2.2.2.length
      · rw [List.getElem?_append_left hil] at hm'
        obtain ⟨h1, h2⟩ := h.l.rest i m' hm' hi
        refine ⟨h1, ?_⟩
        rcases h2 with ⟨a, t, x, b, c, dd, ee⟩ | ⟨a, t, x, b, c, dd, ee⟩ | q
        · exact .inl ⟨a, t, x, b, c, hold t x dd, ee⟩
        · exact .inr (.inl ⟨a, t, x, b, c, hold t x dd, ee⟩)
        · exact .inr (.inr q)
      · have hil2 : i = d.2.2.2.length := by
          have := (List.getElem?_eq_some_iff.1 hm').1
          simp at this
          omega
        subst hil2
        rw [List.getElem?_append_right (Nat.le_refl _), Nat.sub_self] at hm'
        cases hm'
        refine ⟨hy, ?_⟩
        rcases hk with ⟨a, t, x, b, dd, ee⟩ | ⟨a, t, x, b, dd, ee⟩ | q
        · exact .inl ⟨a, t, x, b, (List.getElem?_eq_some_iff.1 dd).1, hold t x dd, ee⟩
        · exact .inr (.inl ⟨a, t, x, b, (List.getElem?_eq_some_iff.1 dd).1, hold t x dd, ee⟩)
        · exact .inr (.inr q)
  have hfin : ∀ j : T_Move × Int, j.2 = 0 → WfL (d.2.2.2 ++ [j.1]) → WfD (applyS d j).1 := by
    intro j hj0 hw
    unfold applyS
    rw [if_pos hj0]
    exact ⟨hw, h.g⟩
  refine hfin _ hj ?_
  unfold judgeS at hj ⊢
  split at hj
  · cases hj
  · rename_i h1
    rw [if_neg h1]
    split at hj
    · cases hj
    · rename_i h2
      rw [if_neg h2]
      split at hj
      · cases hj
      · rename_i h3
        rw [if_neg h3]
        have h3 : m.1 = 3 - leadS S := Classical.not_not.1 h3
        have hby : m.1 = 1 ∨ m.1 = 2 := by omega
        split at hj
        · rename_i h4
          rw [if_pos h4]
          exact key _ hby (.inr (.inr ⟨h4, rfl⟩))
        · rename_i h4
          rw [if_neg h4]
          split at hj
          · cases hj
          · rename_i h5
            rw [if_neg h5]
            split at hj
            · rename_i h6
              rw [if_pos h6]
              split at hj
              · rename_i h7
                rw [if_pos h7]
                obtain ⟨i, _, m', p, q1, q2, _, _, q5, _⟩ := (f.rm m).1 h7
                refine key _ hby (.inl ⟨h6, i, m', ?_, q1, ?_⟩)
                · rw [q5]
                · rw [q5, q2]
                  show leadS S + (3 - leadS S) = 3
                  omega
              · cases hj
            · rename_i h6
              rw [if_neg h6]
              have h3k : m.2.1 = 3 := by omega
              dsimp only at hj ⊢
              split at hj
              · cases hj
              · rename_i h7
                rw [if_neg h7]
                have hlt : m.2.2.2.toNat < d.2.2.2.length := by omega
                have hx : d.2.2.2[m.2.2.2.toNat]? = some d.2.2.2[m.2.2.2.toNat] := List.getElem?_eq_getElem hlt
                refine key _ hby (.inr (.inl ⟨h3k, m.2.2.2.toNat, _, ?_, hx, ?_⟩))
                · show m.2.2.2 = _
                  omega
                · rw [hx] at h7
                  simp only [Option.getD_some] at h7
                  by_cases q : d.2.2.2[m.2.2.2.toNat].2.1 = 2
                  · exact q
                  · exact absurd (.inr (.inl q)) h7
end
section
/-- numbers below 100 are written alike, in one or two bytes -/
def DigOk : Prop := ∀ k : Nat, k < 100 → ∃ s : Str, m_report_number (k : Int) = some s ∧ m_ref42_digits (k : Int) = some s ∧ s.length ≤ 2
def playS (x : Int) : Str := if x = 1 then [80] else [79]
theorem play_both (x : Int) : m_report_player x = some (playS x) ∧ m_ref42_player x = some (playS x) := by
  unfold m_report_player m_ref42_player playS
  by_cases h : x = 1
  · simp [h]
  · have : (x == 1) = false := by simpa using h
    simp [this, h]
theorem playS_len (x : Int) : (playS x).length = 1 := by unfold playS; split <;> rfl
/-- numbers that can be written -/
structure Nums (l : List T_Move) : Prop where
  len : l.length ≤ 100
  at_ : ∀ m ∈ l, 0 ≤ m.2.2.1 ∧ m.2.2.1 < 100 ∧ 0 ≤ m.2.2.2 ∧ m.2.2.2 < 100
/-- both write the same line for a move -/
theorem line_both (hd : DigOk) {d : T_Dialogue} {S : List Int} (hS : S.length = d.2.2.2.length) (hv : ∀ (j : Nat) x, S[j]? = some x → x = 0 ∨ x = 1 ∨ x = 2) (hn : Nums d.2.2.2) {i : Nat} {m : T_Move} (hm : d.2.2.2[i]? = some m) (out : List Str) (ho : out.length ≤ 1000) :
    ∃ t : Str, m_report_Dialogue_L1 d S (out, (i : Int)) = some (.inl (out ++ [t], ((i + 1 : Nat) : Int))) ∧ m_ref42_Dialogue_L1 d S (out, (i : Int)) = some (.inl (out ++ [t], ((i + 1 : Nat) : Int))) ∧ t.length ≤ 200 := by
  have hi := (List.getElem?_eq_some_iff.1 hm).1
  have hlen := hn.len
  obtain ⟨n0, n1, n2, n3⟩ := hn.at_ m (List.mem_of_getElem? hm)
  obtain ⟨di, a1, a2, a3⟩ := hd i (by omega)
  obtain ⟨dn, b1, b2, b3⟩ := hd m.2.2.1.toNat (by omega)
  obtain ⟨dt, c1, c2, c3⟩ := hd m.2.2.2.toNat (by omega)
  rw [show ((m.2.2.1.toNat : Nat) : Int) = m.2.2.1 by omega] at b1 b2
  rw [show ((m.2.2.2.toNat : Nat) : Int) = m.2.2.2 by omega] at c1 c2
  have hx : S[i]? = some S[i] := List.getElem?_eq_getElem (by omega)
  have hv := hv i _ hx
  obtain ⟨p1, p2⟩ := play_both m.1
  have p3 := playS_len m.1
  have hc : ∀ (x y : Str), x.length ≤ 500 → y.length ≤ 500 → cat x y = some (x ++ y) := fun x y hx hy => cat_ok (by omega)
  have happ : ∀ t : Str, app out ([t] : List Str) = some (out ++ [t]) := fun t => app_ok (by simp; omega)
  have hw := w64_succ i (by omega)
  unfold m_report_Dialogue_L1 m_ref42_Dialogue_L1 m_report_act
  simp only [dec_lt hm, if_true, idx_nat, hm, hx, Option.bind_some, a1, a2, p1, p2, b1, b2, c1, c2]
  generalize S[i] = st at hv
  -- the words of the status
  have hwd : ∃ w : Str, idx ([[103, 111, 110, 101], [105, 110], [111, 117, 116]] : List Str) st = some w ∧ (if (st == 1) = true then some [44, 32, 105, 110] else if (st == 2) = true then some [44, 32, 111, 117, 116] else some [44, 32, 103, 111, 110, 101] : Option Str) = some (44 :: 32 :: w) ∧ w.length ≤ 4 := by
    rcases hv with rfl | rfl | rfl
    · exact ⟨_, rfl, rfl, by simp⟩
    · exact ⟨_, rfl, rfl, by simp⟩
    · exact ⟨_, rfl, rfl, by simp⟩
  obtain ⟨w, w1, w2, w3⟩ := hwd
  rw [w2]
  simp only [w1, Option.bind_some]
  by_cases h1 : m.2.1 = 1
  · have e1 : (m.2.1 == 1) = true := by simpa using h1
    simp only [e1, if_true, Bool.true_or]
    refine ⟨di ++ [32] ++ playS m.1 ++ [32] ++ ([99, 108, 97, 105, 109, 115, 32] ++ dn) ++ ([44, 32] ++ w), ?_, ?_, by simp; omega⟩
    · rw [hc _ _ (by omega) (by simp), Option.bind_some, hc _ _ (by simp; omega) (by omega), Option.bind_some, hc _ _ (by simp; omega) (by simp), Option.bind_some, hc _ _ (by simp) (by omega), Option.bind_some, Option.bind_some, hc _ _ (by simp; omega) (by simp; omega), Option.bind_some, hc _ _ (by simp) (by omega), Option.bind_some, hc _ _ (by simp; omega) (by simp; omega), Option.bind_some, Option.bind_some, happ, Option.bind_some, hw]
    · rw [hc _ _ (by omega) (by simp), Option.bind_some, hc _ _ (by simp; omega) (by omega), Option.bind_some, hc _ _ (by simp) (by omega), Option.bind_some, hc _ _ (by simp; omega) (by simp; omega), Option.bind_some, hc _ _ (by simp; omega) (by simp; omega), Option.bind_some, Option.bind_some, happ, Option.bind_some, hw]
      simp
  · have e1 : (m.2.1 == 1) = false := by simpa using h1
    by_cases h2 : m.2.1 = 2
    · have e2 : (m.2.1 == 2) = true := by simpa using h2
      simp only [e1, e2, if_true, Bool.false_eq_true, if_false, Bool.or_true]
      refine ⟨di ++ [32] ++ playS m.1 ++ [32] ++ ([109, 111, 118, 101, 115, 32] ++ dn ++ [32, 97, 103, 97, 105, 110, 115, 116, 32] ++ dt) ++ ([44, 32] ++ w), ?_, ?_, by simp; omega⟩
      · rw [hc _ _ (by omega) (by simp), Option.bind_some, hc _ _ (by simp; omega) (by omega), Option.bind_some, hc _ _ (by simp; omega) (by simp), Option.bind_some, hc _ _ (by simp) (by omega), Option.bind_some, hc _ _ (by simp; omega) (by simp), Option.bind_some, hc _ _ (by simp; omega) (by omega), Option.bind_some, Option.bind_some, hc _ _ (by simp; omega) (by simp; omega), Option.bind_some, hc _ _ (by simp) (by omega), Option.bind_some, hc _ _ (by simp; omega) (by simp; omega), Option.bind_some, Option.bind_some, happ, Option.bind_some, hw]
      · rw [hc _ _ (by omega) (by simp), Option.bind_some, hc _ _ (by simp; omega) (by omega), Option.bind_some, hc _ _ (by simp) (by omega), Option.bind_some, hc _ _ (by simp; omega) (by simp), Option.bind_some, hc _ _ (by simp; omega) (by omega), Option.bind_some, hc _ _ (by simp; omega) (by simp; omega), Option.bind_some, hc _ _ (by simp; omega) (by simp; omega), Option.bind_some, Option.bind_some, happ, Option.bind_some, hw]
        simp
    · have e2 : (m.2.1 == 2) = false := by simpa using h2
      by_cases h3 : m.2.1 = 3
      · have e3 : (m.2.1 == 3) = true := by simpa using h3
        simp only [e1, e2, e3, if_true, Bool.false_eq_true, if_false, Bool.or_false]
        refine ⟨di ++ [32] ++ playS m.1 ++ [32] ++ ([114, 101, 116, 114, 97, 99, 116, 115, 32] ++ dt), ?_, ?_, by simp; omega⟩
        · rw [hc _ _ (by omega) (by simp), Option.bind_some, hc _ _ (by simp; omega) (by omega), Option.bind_some, hc _ _ (by simp; omega) (by simp), Option.bind_some, hc _ _ (by simp) (by omega), Option.bind_some, Option.bind_some, hc _ _ (by simp; omega) (by simp; omega), Option.bind_some, Option.bind_some, happ, Option.bind_some, hw]
        · rw [hc _ _ (by omega) (by simp), Option.bind_some, hc _ _ (by simp; omega) (by omega), Option.bind_some, hc _ _ (by simp) (by omega), Option.bind_some, hc _ _ (by simp; omega) (by simp; omega), Option.bind_some, Option.bind_some, happ, Option.bind_some, hw]
          simp
      · have e3 : (m.2.1 == 3) = false := by simpa using h3
        simp only [e1, e2, e3, Bool.false_eq_true, if_false, Bool.or_false]
        refine ⟨di ++ [32] ++ playS m.1 ++ [32] ++ [99, 111, 110, 99, 101, 100, 101, 115], ?_, ?_, by simp; omega⟩
        · rw [hc _ _ (by omega) (by simp), Option.bind_some, hc _ _ (by simp; omega) (by omega), Option.bind_some, hc _ _ (by simp; omega) (by simp), Option.bind_some, Option.bind_some, hc _ _ (by simp; omega) (by simp), Option.bind_some, Option.bind_some, happ, Option.bind_some, hw]
        · rw [hc _ _ (by omega) (by simp), Option.bind_some, hc _ _ (by simp; omega) (by omega), Option.bind_some, hc _ _ (by simp; omega) (by simp), Option.bind_some, Option.bind_some, happ, Option.bind_some, hw]
          simp
/-- the last line -/
def lastDS (S : List Int) (e : T_Outcome) : Str :=
  if e.2 = 0 then [114, 117, 110, 110, 105, 110, 103, 44, 32] ++ playS (turnS S e) ++ [32, 116, 111, 32, 109, 111, 118, 101]
  else playS e.1 ++ [32, 119, 105, 110, 115, 58, 32] ++ (([[], [110, 111, 32, 109, 111, 118, 101], [110, 111, 32, 116, 105, 109, 101], [99, 111, 110, 99, 101, 100, 101, 100], [102, 117, 108, 108]] : List Str)[e.2.toNat]?).getD []
theorem dlg_both (hd : DigOk) {d : T_Dialogue} {S : List Int} {L : List Bool} {P R : List T_Move} {e : T_Outcome} (h : WfD d) (f : Found d S L P R e) (hn : Nums d.2.2.2) :
    ∃ T : List Str, m_report_Dialogue d = some (T ++ [lastDS S e]) ∧ m_ref42_Dialogue d = some (T ++ [lastDS S e]) ∧ T.length = d.2.2.2.length := by
  have hlen := hn.len
  obtain ⟨t1, t2⟩ := turn_both h f
  have hSl := f.st.len
  have hv : ∀ (j : Nat) x, S[j]? = some x → x = 0 ∨ x = 1 ∨ x = 2 := fun j x hx => f.st.vals hx
  -- the lines of the moves
  have hls : ∃ T : List Str, loop (m_report_Dialogue_L1 d S) (([] : List Str), 0) = some T ∧ loop (m_ref42_Dialogue_L1 d S) (([] : List Str), 0) = some T ∧ T.length = d.2.2.2.length := by
    have key : ∀ (n i : Nat) (out : List Str), d.2.2.2.length = i + n → out.length = i → ∃ T : List Str, loop (m_report_Dialogue_L1 d S) (out, (i : Int)) = some T ∧ loop (m_ref42_Dialogue_L1 d S) (out, (i : Int)) = some T ∧ T.length = d.2.2.2.length := by
      intro n
      induction n with
      | zero =>
        intro i out hi ho
        have hdd : decide ((i : Int) < len d.2.2.2) = false := decide_eq_false (show ¬ (i : Int) < (d.2.2.2.length : Int) by omega)
        refine ⟨out, ?_, ?_, by omega⟩
        · rw [loop_eq]; unfold m_report_Dialogue_L1; simp only [hdd, Bool.false_eq_true, if_false]
        · rw [loop_eq]; unfold m_ref42_Dialogue_L1; simp only [hdd, Bool.false_eq_true, if_false]
      | succ n ih =>
        intro i out hi ho
        have hm : d.2.2.2[i]? = some d.2.2.2[i] := List.getElem?_eq_getElem (by omega)
        obtain ⟨t, g1, g2, g3⟩ := line_both hd hSl hv hn hm out (by omega)
        obtain ⟨T, q1, q2, q3⟩ := ih (i + 1) (out ++ [t]) (by omega) (by simp; omega)
        exact ⟨T, by rw [loop_eq, g1]; exact q1, by rw [loop_eq, g2]; exact q2, q3⟩
    exact key d.2.2.2.length 0 [] (by omega) rfl
  obtain ⟨T, l1, l2, l3⟩ := hls
  have hc : ∀ (x y : Str), x.length ≤ 500 → y.length ≤ 500 → cat x y = some (x ++ y) := fun x y hx hy => cat_ok (by omega)
  have happ : ∀ t : Str, app T ([t] : List Str) = some (T ++ [t]) := fun t => app_ok (by simp; omega)
  have hec := endS_cases d S (decide (R.length = 0))
  rw [← f.es] at hec
  obtain ⟨p1, p2⟩ := play_both (turnS S e)
  obtain ⟨q1, q2⟩ := play_both e.1
  have p3 := playS_len (turnS S e)
  have q3 := playS_len e.1
  refine ⟨T, ?_, ?_, l3⟩
  · unfold m_report_Dialogue
    rw [f.ps, Option.bind_some, l1, Option.bind_some, f.pe, Option.bind_some]
    by_cases h0 : e.2 = 0
    · have e0 : (e.2 == 0) = true := by simpa using h0
      simp only [e0, if_true, t1, Option.bind_some, p1]
      rw [hc _ _ (by simp) (by omega), Option.bind_some, hc _ _ (by simp; omega) (by simp), Option.bind_some, happ, Option.bind_some]
      unfold lastDS
      rw [if_pos h0]
    · have e0 : (e.2 == 0) = false := by simpa using h0
      have hr : e.2 = 1 ∨ e.2 = 2 ∨ e.2 = 3 ∨ e.2 = 4 := by
        rcases hec with rfl | hec
        · exact absurd rfl h0
        · omega
      have hw : ∃ w : Str, idx ([[], [110, 111, 32, 109, 111, 118, 101], [110, 111, 32, 116, 105, 109, 101], [99, 111, 110, 99, 101, 100, 101, 100], [102, 117, 108, 108]] : List Str) e.2 = some w ∧ (([[], [110, 111, 32, 109, 111, 118, 101], [110, 111, 32, 116, 105, 109, 101], [99, 111, 110, 99, 101, 100, 101, 100], [102, 117, 108, 108]] : List Str)[e.2.toNat]?).getD [] = w ∧ w.length ≤ 10 := by
        rcases hr with hr | hr | hr | hr <;> rw [hr]
        · exact ⟨_, rfl, rfl, by decide⟩
        · exact ⟨_, rfl, rfl, by decide⟩
        · exact ⟨_, rfl, rfl, by decide⟩
        · exact ⟨_, rfl, rfl, by decide⟩
      obtain ⟨w, w1, w2, w3⟩ := hw
      simp only [e0, Bool.false_eq_true, if_false, w1, q1, Option.bind_some]
      rw [hc _ _ (by omega) (by simp), Option.bind_some, hc _ _ (by simp; omega) (by omega), Option.bind_some, happ, Option.bind_some]
      unfold lastDS
      rw [if_neg h0, w2]
  · unfold m_ref42_Dialogue
    rw [f.rs, Option.bind_some, l2, Option.bind_some, f.re, Option.bind_some]
    by_cases h0 : e.2 = 0
    · have e0 : (e.2 == 0) = true := by simpa using h0
      simp only [e0, if_true, t2, Option.bind_some, p2]
      rw [hc _ _ (by simp) (by omega), Option.bind_some, hc _ _ (by simp; omega) (by simp), Option.bind_some, happ, Option.bind_some]
      unfold lastDS
      rw [if_pos h0]
    · have e0 : (e.2 == 0) = false := by simpa using h0
      have hr : e.2 = 1 ∨ e.2 = 2 ∨ e.2 = 3 ∨ e.2 = 4 := by
        rcases hec with rfl | hec
        · exact absurd rfl h0
        · omega
      have hw : ∃ w : Str, idx ([[], [110, 111, 32, 109, 111, 118, 101], [110, 111, 32, 116, 105, 109, 101], [99, 111, 110, 99, 101, 100, 101, 100], [102, 117, 108, 108]] : List Str) e.2 = some w ∧ (([[], [110, 111, 32, 109, 111, 118, 101], [110, 111, 32, 116, 105, 109, 101], [99, 111, 110, 99, 101, 100, 101, 100], [102, 117, 108, 108]] : List Str)[e.2.toNat]?).getD [] = w ∧ w.length ≤ 10 := by
        rcases hr with hr | hr | hr | hr <;> rw [hr]
        · exact ⟨_, rfl, rfl, by decide⟩
        · exact ⟨_, rfl, rfl, by decide⟩
        · exact ⟨_, rfl, rfl, by decide⟩
        · exact ⟨_, rfl, rfl, by decide⟩
      obtain ⟨w, w1, w2, w3⟩ := hw
      simp only [e0, Bool.false_eq_true, if_false, w1, q2, Option.bind_some]
      rw [hc _ _ (by omega) (by simp), Option.bind_some, hc _ _ (by simp; omega) (by omega), Option.bind_some, happ, Option.bind_some]
      unfold lastDS
      rw [if_neg h0, w2]
      rfl
theorem sames_self (l : List Str) (h : l.length < 4294967296) : m_ref42_Same l l = some true := by
  unfold m_ref42_Same
  simp only [bne_self_eq_false, Bool.false_eq_true, if_false]
  exact loop_for (l := l) (fun i x hx => by
    have := (List.getElem?_eq_some_iff.1 hx).1
    unfold m_ref42_Same_L1
    simp only [dec_lt hx, if_true, idx_nat, hx, Option.bind_some, beq_self_eq_true, Bool.not_true, Bool.false_eq_true, if_false, w64_succ i (by omega)]) (by
    unfold m_ref42_Same_L1
    simp only [dec_end, Bool.false_eq_true, if_false])
theorem DrG.wf {g : T_Graph} {n : Int} (h : DrG g n) (hn : n ≤ 1000) : WfG g := ⟨⟨by have := h.lo; omega, by have := h.hi; omega⟩, by have := h.len; omega, h.inn⟩
end
section
theorem Ok.Range {s : T_keep_Src} {lo hi : Int} (h : SrcOk s) (h0 : -1000 ≤ lo) (h1 : lo ≤ hi) (h2 : hi ≤ 1000) : Ok (m_keep_Src_Range s lo hi) fun r => lo ≤ r.1 ∧ r.1 ≤ hi ∧ SrcOk (s.1, r.2) := by
  obtain ⟨v, k, e, a, b, c⟩ := range_ok h h0 h1 h2
  exact ⟨_, e, a, b, c⟩
/-- a dialogue that is played here -/
structure Played (d : T_Dialogue) (i : Nat) : Prop where
  wf : WfD d
  n : d.1.1 ≤ 90
  len : d.2.2.2.length ≤ i + 1
  at_ : ∀ m ∈ d.2.2.2, 0 ≤ m.2.2.1 ∧ m.2.2.1 < 100 ∧ 0 ≤ m.2.2.2 ∧ m.2.2.2 < 100
theorem Played.nums {d : T_Dialogue} {i : Nat} (h : Played d i) (hi : i ≤ 90) : Nums d.2.2.2 := ⟨by have := h.len; omega, h.at_⟩
theorem judge_nums {d : T_Dialogue} {S : List Int} {L : List Bool} {P R : List T_Move} {e : T_Outcome} (h : WfD d) (f : Found d S L P R e) {i : Nat} (hp : Played d i) (hi : i ≤ 90) {m : T_Move} (hj : (judgeS d S R e m).2 = 0) :
    0 ≤ (judgeS d S R e m).1.2.2.1 ∧ (judgeS d S R e m).1.2.2.1 < 100 ∧ 0 ≤ (judgeS d S R e m).1.2.2.2 ∧ (judgeS d S R e m).1.2.2.2 < 100 := by
  have _ := h
  have _ := f
  have hlen := hp.len
  have hn := hp.n
  have hg := hp.wf.g.n
  unfold judgeS at hj ⊢
  split at hj
  · cases hj
  · rename_i h1
    rw [if_neg h1]
    split at hj
    · cases hj
    · rename_i h2
      rw [if_neg h2]
      split at hj
      · cases hj
      · rename_i h3
        rw [if_neg h3]
        split at hj
        · rename_i h4
          rw [if_pos h4]
          exact ⟨by simp, by simp, by simp, by simp⟩
        · rename_i h4
          rw [if_neg h4]
          split at hj
          · cases hj
          · rename_i h5
            rw [if_neg h5]
            have hb : 0 ≤ m.2.2.2 ∧ m.2.2.2 < 100 := ⟨by omega, by omega⟩
            split at hj
            · rename_i h6
              rw [if_pos h6]
              split at hj
              · rename_i h7
                rw [if_pos h7]
                have : ¬ m.2.2.1 < 0 := fun q => h5 (.inr (.inr ⟨h6, .inl q⟩))
                have : ¬ d.1.1 ≤ m.2.2.1 := fun q => h5 (.inr (.inr ⟨h6, .inr q⟩))
                exact ⟨by show 0 ≤ m.2.2.1; omega, by show m.2.2.1 < 100; omega, hb⟩
              · cases hj
            · rename_i h6
              rw [if_neg h6]
              dsimp only at hj ⊢
              split at hj
              · cases hj
              · rename_i h7
                rw [if_neg h7]
                exact ⟨by simp, by simp, hb⟩
theorem Played.next {d : T_Dialogue} {S : List Int} {L : List Bool} {P R : List T_Move} {e : T_Outcome} {i : Nat} (hp : Played d i) (hi : i ≤ 90) (f : Found d S L P R e) {m : T_Move} (hj : (judgeS d S R e m).2 = 0) : Played (applyS d (judgeS d S R e m)).1 (i + 1) := by
  have h1 := hp.wf.apply f hj
  have h2 := judge_nums hp.wf f hp hi hj
  have e1 : (applyS d (judgeS d S R e m)).1 = (d.1, d.2.1, d.2.2.1, d.2.2.2 ++ [(judgeS d S R e m).1]) := by unfold applyS; rw [if_pos hj]
  refine ⟨h1.1, ?_, ?_, fun x hx => ?_⟩
  · rw [e1]; exact hp.n
  · rw [e1]
    have := hp.len
    simp only [List.length_append, List.length_singleton]
    omega
  · rw [e1] at hx
    rcases List.mem_append.1 hx with hx | hx
    · exact hp.at_ x hx
    · simp only [List.mem_singleton] at hx
      rw [hx]
      exact h2
theorem DrG.valid10 {g : T_Graph} {n : Int} (h : DrG g n) (hn : n ≤ 40) : m_ref10_Validate g = some 0 := by
  obtain ⟨N, L⟩ := g
  have hlo := h.lo
  have hhi := h.hi
  have hl := h.len
  simp only at hlo hhi hl
  have hbad : ∀ p ∈ L, badE N p = false := fun p hp => by
    have := h.inn p hp
    simp only at this
    simp [badE]; omega
  unfold m_ref10_Validate
  have h0 : (decide (N < 0) || decide (40 < N)) = false := by simp; omega
  rw [h0]
  simp only [Bool.false_eq_true, if_false]
  refine loop_for (l := L) (fun i x hx => ?_) ?_
  · have hi := at_lt hx
    rw [valid_step2 N L (by omega) i (by omega)]
    have hv : vStep N L i = none := by
      unfold vStep
      rw [hx]
      simp only [hbad x (mem_at hx), Bool.false_eq_true, if_false]
      by_cases h0 : i = 0
      · simp [h0]
      · rw [if_neg h0]
        have hp : L[i - 1]? = some L[i - 1] := List.getElem?_eq_getElem (by omega)
        rw [hp]
        have hlt : lt2 L[i - 1] x = true := by
          have h3 := List.pairwise_iff_getElem.1 h.asc (i - 1) i (by simp only; omega) hi (by omega)
          rw [List.getElem?_eq_getElem hi] at hx
          rw [← Option.some.inj hx]; exact h3
        simp [hlt]
    rw [hv]
  · rw [valid_step2 N L (by omega) _ (Nat.le_refl _)]
    simp [vStep]
/-- a dialogue that has just begun -/
theorem played_new {g : T_Graph} {n : Int} (hg : DrG g n) (hn : n ≤ 40) {r a b : Int} (hr : 0 ≤ r ∧ r < g.1) (ha : 1 ≤ a ∧ a ≤ 200) (hb : 0 ≤ b ∧ b ≤ 200) : m_ref27_New g r (a, b) = some ((g, r, (a, b), [(1, 1, r, 0)]), 0) ∧ Played (g, r, (a, b), [(1, 1, r, 0)]) 0 := by
  have h1 := hg.valid10 hn
  refine ⟨?_, ⟨⟨by simp, ⟨r, rfl⟩, fun i m hm hi => ?_⟩, hg.wf (by omega)⟩, by have := hg.hi; show g.1 ≤ 90; omega, by simp, fun m hm => ?_⟩
  · unfold m_ref27_New
    rw [h1]
    have e1 : (decide (r < 0) || (decide (g.1 ≤ r) || (decide (a < 1) || (decide (200 < a) || (decide (b < 0) || decide (200 < b)))))) = false := by
      rw [decide_eq_false (show ¬ r < 0 by omega), decide_eq_false (show ¬ g.1 ≤ r by omega), decide_eq_false (show ¬ a < 1 by omega), decide_eq_false (show ¬ 200 < a by omega), decide_eq_false (show ¬ b < 0 by omega), decide_eq_false (show ¬ 200 < b by omega)]
      rfl
    simp only [Option.bind_some, bne_self_eq_false, Bool.false_eq_true, if_false, e1]
  · have : i = 0 := by
      have := (List.getElem?_eq_some_iff.1 hm).1
      simp at this
      exact this
    exact absurd this hi
  · simp only [List.mem_singleton] at hm
    subst hm
    have := hg.hi
    exact ⟨hr.1, by show r < 100; omega, by simp, by simp⟩
theorem p_ReportDialogues (hw : m_law42_awake = some true) (hd : DigOk) (y0 : List Int) : m_law42_ReportDialogues y0 = some true := by
  suffices h : Ok (m_law42_ReportDialogues y0) fun r => r = true by obtain ⟨r, h1, rfl⟩ := h; exact h1
  unfold m_law42_ReportDialogues
  rw [keep_New, Option.bind_some]
  obtain ⟨g, k, e1, hg, hk⟩ := net_Graph_ok (srcOk_New y0) (n := 5) (by omega) (by omega)
  rw [e1, Option.bind_some]
  have hlo := hg.lo
  have hhi := hg.hi
  refine .bind (I := fun o => SrcOk (y0.take 2000, o.1) ∧ Played o.2 0) ?_ fun s1 hs1 => ?_
  · refine .bind (Ok.N hk (by show 0 ≤ g.1; omega) (by show g.1 ≤ _; omega)) fun r3 h3 => .bind (Ok.Range h3.2.2 (by omega) (by omega) (by omega)) fun r4 h4 => .bind (Ok.Range h4.2.2 (by omega) (by omega) (by omega)) fun r5 h5 => ?_
    obtain ⟨q1, q2⟩ := played_new hg (by omega) (r := r3.1) (a := r4.1) (b := r5.1) ⟨h3.1, h3.2.1 (by omega)⟩ ⟨by omega, by omega⟩ ⟨by omega, by omega⟩
    dsimp only at q1 ⊢
    rw [q1, Option.bind_some]
    exact .ret ⟨h5.2.2, q2⟩
  obtain ⟨hk1, hp1⟩ := hs1
  refine .seqE (I := fun o => o = .inl ()) ?_ (fun _ _ => by rw [hw]; exact .ret rfl) (fun r hr => by cases hr)
  refine Ok.forI (fun i (z : Int × T_Dialogue) => ((i : Int), z.1, z.2.1.1, z.2.1.2, z.2.2.1, z.2.2.2.1.1, z.2.2.2.1.2, z.2.2.2.2)) (List.range 15) (fun i z => SrcOk (y0.take 2000, z.1) ∧ Played z.2 i) _ (fun i x z hx hz => ?_) (fun z hz => ?_) s1 ⟨hk1, hp1⟩
  · obtain ⟨k, d⟩ := z
    obtain ⟨hzk, hp⟩ := hz
    dsimp only at hzk hp
    have hi : i < 15 := by simpa using (List.getElem?_eq_some_iff.1 hx).1
    obtain ⟨S, L, P, R, e, f⟩ := found hp.wf
    obtain ⟨T, t1, t2, t3⟩ := dlg_both hd hp.wf f (hp.nums (by omega))
    obtain ⟨_, u2⟩ := turn_both hp.wf f
    have hlen := hp.len
    have hTl : (T ++ [lastDS S e]).length = d.2.2.2.length + 1 := by simp [t3]
    have hld := leadS_12 S
    have hec := endS_cases d S (decide (R.length = 0))
    rw [← f.es] at hec
    unfold m_law42_ReportDialogues_L1
    have hdi : decide ((i : Int) < 15) = true := decide_eq_true (by omega)
    have hdd : (((d.1.1, d.1.2), d.2.1, (d.2.2.1.1, d.2.2.1.2), d.2.2.2) : T_Dialogue) = d := rfl
    simp only [hdi, if_true, hdd, t1, t2, Option.bind_some, sames_self _ (show (T ++ [lastDS S e]).length < 4294967296 by omega), Bool.not_true, Bool.false_eq_true, if_false]
    have hl1 : len (T ++ [lastDS S e]) = ((d.2.2.2.length + 1 : Nat) : Int) := by show ((T ++ [lastDS S e]).length : Int) = _; rw [hTl]
    have hl2 : w64 (len d.2.2.2 + 1) = ((d.2.2.2.length + 1 : Nat) : Int) := w64_succ _ (by omega)
    have hne : (len (T ++ [lastDS S e]) != w64 (len d.2.2.2 + 1)) = false := by rw [hl1, hl2]; simp
    have hix : idx (T ++ [lastDS S e]) (w64 (len (T ++ [lastDS S e]) - 1)) = some (lastDS S e) := by
      rw [hl1, w64_id (by omega) (by omega), show (((d.2.2.2.length + 1 : Nat) : Int) - 1) = ((d.2.2.2.length : Nat) : Int) by omega, idx_nat, ← t3, List.getElem?_append_right (Nat.le_refl _), Nat.sub_self]
      rfl
    rw [hne]
    simp only [Bool.false_eq_true, if_false, hix, u2, Option.bind_some]
    refine .seqE (I := fun o => o = .inl ()) ?_ (fun _ _ => ?_) (fun r hr => by cases hr)
    · -- the last line
      unfold turnS lastDS
      by_cases h0 : e.2 = 0
      · rw [if_pos h0, if_pos h0]
        unfold turnS
        rw [if_pos h0]
        rcases hld with hl | hl
        · rw [hl]
          exact .ret rfl
        · rw [hl]
          exact .ret rfl
      · rw [if_neg h0, if_neg h0]
        have e2 : ((0 : Int) == 1) = false := by decide
        have e3 : ((0 : Int) == 2) = false := by decide
        simp only [e2, e3, Bool.false_eq_true, if_false, f.re, Option.bind_some]
        generalize (([[], [110, 111, 32, 109, 111, 118, 101], [110, 111, 32, 116, 105, 109, 101], [99, 111, 110, 99, 101, 100, 101, 100], [102, 117, 108, 108]] : List Str)[e.2.toNat]?).getD [] = w
        have hpl := playS_len e.1
        have hlw : decide (len (playS e.1 ++ [32, 119, 105, 110, 115, 58, 32] ++ w) < 7) = false := decide_eq_false (show ¬ ((playS e.1 ++ [32, 119, 105, 110, 115, 58, 32] ++ w).length : Int) < 7 by simp; omega)
        rw [hlw]
        simp only [Bool.false_eq_true, if_false]
        rw [sub_pre (by omega) (by simp; omega), Option.bind_some]
        have hcmp : ((List.take (Int.toNat 7) (playS e.1 ++ [32, 119, 105, 110, 115, 58, 32] ++ w) == [80, 32, 119, 105, 110, 115, 58]) == (e.1 == 1)) = true := by
          unfold playS
          by_cases h1 : e.1 = 1
          · rw [if_pos h1, h1]; rfl
          · have : (e.1 == 1) = false := by simpa using h1
            rw [if_neg h1, this]; rfl
        rw [hcmp]
        exact .ret rfl
    · -- the next move
      unfold m_ref27_Legal
      rw [u2, Option.bind_some]
      by_cases ht : turnS S e = 0
      · have : (turnS S e == 0) = true := by simpa using ht
        simp only [this, if_true, Option.bind_some]
        exact .ret rfl
      · have : (turnS S e == 0) = false := by simpa using ht
        simp only [this, Bool.false_eq_true, if_false, f.rl, Option.bind_some]
        have hRn := f.rn
        refine .ite (fun _ => .ret rfl) fun hR0 => ?_
        have hRpos : 0 < R.length := by
          have : ¬ (len R = 0) := by simpa using hR0
          have : ¬ ((R.length : Int) = 0) := this
          omega
        refine .bind (Ok.N hzk (by show 0 ≤ (R.length : Int); omega) (by show (R.length : Int) ≤ _; omega)) fun r23 h23 => ?_
        refine .bind (.idx h23.1 (h23.2.1 (by show 1 ≤ (R.length : Int); omega))) fun x3 h3 => ?_
        refine .bind (I := fun o => SrcOk (y0.take 2000, o.1)) ?_ fun s7 hs7 => ?_
        · refine .bind (Ok.N h23.2.2 (by omega) (by omega)) fun r24 h24 => .ite (fun _ => ?_) fun _ => .ite (fun _ => .ret h24.2.2) fun _ => .ret h24.2.2
          exact .bind (Ok.N h24.2.2 (by show 0 ≤ (d.2.2.2.length : Int); omega) (by show (d.2.2.2.length : Int) ≤ _; omega)) fun r25 h25 => .ret h25.2.2
        · rw [ref_Apply hp.wf f, Option.bind_some]
          by_cases hj : (judgeS d S R e (x3.1, s7.2.1, s7.2.2.1, s7.2.2.2)).2 = 0
          · have hap : (applyS d (judgeS d S R e (x3.1, s7.2.1, s7.2.2.1, s7.2.2.2))).2 = 0 := by unfold applyS; rw [if_pos hj]
            have : ((applyS d (judgeS d S R e (x3.1, s7.2.1, s7.2.2.1, s7.2.2.2))).2 == 0) = true := by simpa using hap
            simp only [this, if_true]
            exact .ret ⟨(s7.1, (applyS d (judgeS d S R e (x3.1, s7.2.1, s7.2.2.1, s7.2.2.2))).1), by rw [w64_succ i (by omega)], hs7, hp.next (by omega) f hj⟩
          · have hap : (applyS d (judgeS d S R e (x3.1, s7.2.1, s7.2.2.1, s7.2.2.2))).2 ≠ 0 := by unfold applyS; rw [if_neg hj]; exact hj
            have : ((applyS d (judgeS d S R e (x3.1, s7.2.1, s7.2.2.1, s7.2.2.2))).2 == 0) = false := by simpa using hap
            simp only [this, Bool.false_eq_true, if_false]
            exact .ret ⟨(s7.1, d), by rw [w64_succ i (by omega)], hs7, ⟨hp.wf, hp.n, by have := hp.len; show d.2.2.2.length ≤ i + 1 + 1; omega, hp.at_⟩⟩
  · unfold m_law42_ReportDialogues_L1
    have hdi : decide (((List.range 15).length : Int) < 15) = false := by simp
    simp only [hdi, Bool.false_eq_true, if_false]
    exact .ret rfl
end
section
set_option linter.unusedVariables false
def e_keep_Voc_L1 (n_ : Nat) (y0 : Int) (s1 : (List Str) × Int) : Option (((List Str) × Int) ⊕ (List Str)) :=
  if decide (s1.2 < y0) then
    (app s1.1 ([strOf ([IntKind.u8.wrap (w64 (97 + s1.2))] : List Int)] : List Str)).bind fun x1 =>
    some (.inl (x1, w64 (s1.2 + 1)))
  else
    some (.inr s1.1)
theorem le_keep_Voc_L1 (n_ : Nat) (y0 : Int) (s1 : (List Str) × Int) : Le (e_keep_Voc_L1 n_ y0 s1) (m_keep_Voc_L1 y0 s1) := by
  unfold e_keep_Voc_L1 m_keep_Voc_L1
  repeat with_reducible (first | intro _ | exact Le.refl _ | apply Le.ite | apply Le.seqE | apply Le.bind | apply Le.lp | exact Le.none _)
def e_keep_Voc (n_ : Nat) (y0 : Int) : Option (List Str) :=
  (lp n_) ((e_keep_Voc_L1 n_) y0) (([] : List Str), 0)
theorem le_keep_Voc (n_ : Nat) (y0 : Int) : Le (e_keep_Voc n_ y0) (m_keep_Voc y0) := by
  unfold e_keep_Voc m_keep_Voc
  repeat with_reducible (first | intro _ | apply le_keep_Voc_L1 | exact Le.refl _ | apply Le.ite | apply Le.seqE | apply Le.bind | apply Le.lp | exact Le.none _)
def e_ref42_Same_L1 (n_ : Nat) (y0 : List Str) (y1 : List Str) (s1 : Int) : Option (Int ⊕ Bool) :=
  if decide (s1 < (len y0)) then
    (idx y0 s1).bind fun x1 =>
    (idx y1 s1).bind fun x2 =>
    if !(x1 == x2) then
      some (.inr false)
    else
      some (.inl (w64 (s1 + 1)))
  else
    some (.inr true)
theorem le_ref42_Same_L1 (n_ : Nat) (y0 : List Str) (y1 : List Str) (s1 : Int) : Le (e_ref42_Same_L1 n_ y0 y1 s1) (m_ref42_Same_L1 y0 y1 s1) := by
  unfold e_ref42_Same_L1 m_ref42_Same_L1
  repeat with_reducible (first | intro _ | exact Le.refl _ | apply Le.ite | apply Le.seqE | apply Le.bind | apply Le.lp | exact Le.none _)
def e_ref42_Same (n_ : Nat) (y0 : List Str) (y1 : List Str) : Option Bool :=
  if (len y0) != (len y1) then
    some false
  else
    (lp n_) ((e_ref42_Same_L1 n_) y0 y1) 0
theorem le_ref42_Same (n_ : Nat) (y0 : List Str) (y1 : List Str) : Le (e_ref42_Same n_ y0 y1) (m_ref42_Same y0 y1) := by
  unfold e_ref42_Same m_ref42_Same
  repeat with_reducible (first | intro _ | apply le_ref42_Same_L1 | exact Le.refl _ | apply Le.ite | apply Le.seqE | apply Le.bind | apply Le.lp | exact Le.none _)
def e_formula_Depth_L1 (n_ : Nat) (y0 : T_Formula) (rec_formula_Depth : T_Formula → Option Int) (s1 : Int × Int) : Option ((Int × Int) ⊕ Int) :=
  if decide (s1.2 < (len ((fv y0).2.2))) then
    (idx ((fv y0).2.2) s1.2).bind fun x1 =>
    (rec_formula_Depth x1).bind fun r1 =>
    some (.inl (if (w64 (1 + r1)) > s1.1 then w64 (1 + r1) else s1.1, w64 (s1.2 + 1)))
  else
    some (.inr s1.1)
theorem le_formula_Depth_L1 (n_ : Nat) (y0 : T_Formula) {rec_formula_Depth rec_formula_Depth' : T_Formula → Option Int} (h_rec_formula_Depth : ∀ u0, Le (rec_formula_Depth u0) (rec_formula_Depth' u0)) (s1 : Int × Int) : Le (e_formula_Depth_L1 n_ y0 rec_formula_Depth s1) (m_formula_Depth_L1 y0 rec_formula_Depth' s1) := by
  unfold e_formula_Depth_L1 m_formula_Depth_L1
  repeat with_reducible (first | intro _ | apply h_rec_formula_Depth | exact Le.refl _ | apply Le.ite | apply Le.seqE | apply Le.bind | apply Le.lp | exact Le.none _)
def fe_formula_Depth (n_ : Nat) (rec_formula_Depth : T_Formula → Option Int) (y0 : T_Formula) : Option Int :=
  (lp n_) ((e_formula_Depth_L1 n_) y0 rec_formula_Depth) (0, 0)
theorem lef_formula_Depth (n_ : Nat) {rec_formula_Depth rec_formula_Depth' : T_Formula → Option Int} (h_rec_formula_Depth : ∀ u0, Le (rec_formula_Depth u0) (rec_formula_Depth' u0)) (y0 : T_Formula) : Le (fe_formula_Depth n_ rec_formula_Depth y0) (F_formula_Depth rec_formula_Depth' y0) := by
  unfold fe_formula_Depth F_formula_Depth
  repeat with_reducible (first | intro _ | apply h_rec_formula_Depth | apply le_formula_Depth_L1 | exact Le.refl _ | apply Le.ite | apply Le.seqE | apply Le.bind | apply Le.lp | exact Le.none _)
def ke_formula_Depth (n_ : Nat) : Nat → T_Formula → Option Int
  | 0 => fun _ => none
  | k + 1 => fun y0 => (fe_formula_Depth n_) ((ke_formula_Depth n_) k) y0
theorem lek_formula_Depth (n_ : Nat) : ∀ (k m : Nat), k ≤ m → ∀ u0, Le (ke_formula_Depth n_ k u0) (k_formula_Depth m u0)
  | 0, _, _ => fun u0 => Le.none _
  | k + 1, m, h => fun u0 => by
    obtain ⟨m, rfl⟩ : ∃ q, m = q + 1 := ⟨m - 1, by omega⟩
    exact lef_formula_Depth n_ (lek_formula_Depth n_ k m (by omega)) _
def e_formula_Depth (n_ : Nat) (y0 : T_Formula) : Option Int :=
  ke_formula_Depth n_ n_ y0
theorem le_formula_Depth (n_ : Nat) (y0 : T_Formula) : Le (e_formula_Depth n_ y0) (m_formula_Depth y0) := Le.lim n_ fun m h => lek_formula_Depth n_ n_ m h _
def e_formula_Size_L1 (n_ : Nat) (y0 : T_Formula) (rec_formula_Size : T_Formula → Option Int) (s1 : Int × Int) : Option ((Int × Int) ⊕ Int) :=
  if decide (s1.2 < (len ((fv y0).2.2))) then
    (idx ((fv y0).2.2) s1.2).bind fun x1 =>
    (rec_formula_Size x1).bind fun r1 =>
    some (.inl (w64 (s1.1 + r1), w64 (s1.2 + 1)))
  else
    some (.inr s1.1)
theorem le_formula_Size_L1 (n_ : Nat) (y0 : T_Formula) {rec_formula_Size rec_formula_Size' : T_Formula → Option Int} (h_rec_formula_Size : ∀ u0, Le (rec_formula_Size u0) (rec_formula_Size' u0)) (s1 : Int × Int) : Le (e_formula_Size_L1 n_ y0 rec_formula_Size s1) (m_formula_Size_L1 y0 rec_formula_Size' s1) := by
  unfold e_formula_Size_L1 m_formula_Size_L1
  repeat with_reducible (first | intro _ | apply h_rec_formula_Size | exact Le.refl _ | apply Le.ite | apply Le.seqE | apply Le.bind | apply Le.lp | exact Le.none _)
def fe_formula_Size (n_ : Nat) (rec_formula_Size : T_Formula → Option Int) (y0 : T_Formula) : Option Int :=
  (lp n_) ((e_formula_Size_L1 n_) y0 rec_formula_Size) (1, 0)
theorem lef_formula_Size (n_ : Nat) {rec_formula_Size rec_formula_Size' : T_Formula → Option Int} (h_rec_formula_Size : ∀ u0, Le (rec_formula_Size u0) (rec_formula_Size' u0)) (y0 : T_Formula) : Le (fe_formula_Size n_ rec_formula_Size y0) (F_formula_Size rec_formula_Size' y0) := by
  unfold fe_formula_Size F_formula_Size
  repeat with_reducible (first | intro _ | apply h_rec_formula_Size | apply le_formula_Size_L1 | exact Le.refl _ | apply Le.ite | apply Le.seqE | apply Le.bind | apply Le.lp | exact Le.none _)
def ke_formula_Size (n_ : Nat) : Nat → T_Formula → Option Int
  | 0 => fun _ => none
  | k + 1 => fun y0 => (fe_formula_Size n_) ((ke_formula_Size n_) k) y0
theorem lek_formula_Size (n_ : Nat) : ∀ (k m : Nat), k ≤ m → ∀ u0, Le (ke_formula_Size n_ k u0) (k_formula_Size m u0)
  | 0, _, _ => fun u0 => Le.none _
  | k + 1, m, h => fun u0 => by
    obtain ⟨m, rfl⟩ : ∃ q, m = q + 1 := ⟨m - 1, by omega⟩
    exact lef_formula_Size n_ (lek_formula_Size n_ k m (by omega)) _
def e_formula_Size (n_ : Nat) (y0 : T_Formula) : Option Int :=
  ke_formula_Size n_ n_ y0
theorem le_formula_Size (n_ : Nat) (y0 : T_Formula) : Le (e_formula_Size n_ y0) (m_formula_Size y0) := Le.lim n_ fun m h => lek_formula_Size n_ n_ m h _
def e_formula_counted (n_ : Nat) (y0 : T_Formula) : Option Bool :=
  (
    if ((fv y0).1) == 1 then
      some (((fv y0).1) == 1)
    else
      if ((fv y0).1) == 2 then
        some (((fv y0).1) == 2)
      else
        some (((fv y0).1) == 3) : Option Bool).bind fun s1 =>
  if s1 then
    some ((len ((fv y0).2.2)) == 0)
  else
    if ((fv y0).1) == 4 then
      some ((len ((fv y0).2.2)) == 1)
    else
      (
        if ((fv y0).1) == 5 then
          some (((fv y0).1) == 5)
        else
          some (((fv y0).1) == 6) : Option Bool).bind fun s2 =>
      if s2 then
        some ((decide (2 ≤ (len ((fv y0).2.2)))) && (decide ((len ((fv y0).2.2)) ≤ 6)))
      else
        (
          if ((fv y0).1) == 7 then
            some (((fv y0).1) == 7)
          else
            some (((fv y0).1) == 8) : Option Bool).bind fun s3 =>
        if s3 then
          some ((len ((fv y0).2.2)) == 2)
        else
          some false
theorem le_formula_counted (n_ : Nat) (y0 : T_Formula) : Le (e_formula_counted n_ y0) (m_formula_counted y0) := by
  unfold e_formula_counted m_formula_counted
  repeat with_reducible (first | intro _ | exact Le.refl _ | apply Le.ite | apply Le.seqE | apply Le.bind | apply Le.lp | exact Le.none _)
def e_formula_all__formula_counted_L1 (n_ : Nat) (y0 : T_Formula) (rec_formula_all__formula_counted : T_Formula → Option Bool) (s1 : Int) : Option (Int ⊕ Bool) :=
  if decide (s1 < (len ((fv y0).2.2))) then
    (idx ((fv y0).2.2) s1).bind fun x1 =>
    (rec_formula_all__formula_counted x1).bind fun r2 =>
    if !r2 then
      some (.inr false)
    else
      some (.inl (w64 (s1 + 1)))
  else
    some (.inr true)
theorem le_formula_all__formula_counted_L1 (n_ : Nat) (y0 : T_Formula) {rec_formula_all__formula_counted rec_formula_all__formula_counted' : T_Formula → Option Bool} (h_rec_formula_all__formula_counted : ∀ u0, Le (rec_formula_all__formula_counted u0) (rec_formula_all__formula_counted' u0)) (s1 : Int) : Le (e_formula_all__formula_counted_L1 n_ y0 rec_formula_all__formula_counted s1) (m_formula_all__formula_counted_L1 y0 rec_formula_all__formula_counted' s1) := by
  unfold e_formula_all__formula_counted_L1 m_formula_all__formula_counted_L1
  repeat with_reducible (first | intro _ | apply h_rec_formula_all__formula_counted | exact Le.refl _ | apply Le.ite | apply Le.seqE | apply Le.bind | apply Le.lp | exact Le.none _)
def fe_formula_all__formula_counted (n_ : Nat) (rec_formula_all__formula_counted : T_Formula → Option Bool) (y0 : T_Formula) : Option Bool :=
  ((e_formula_counted n_) y0).bind fun r1 =>
  if !r1 then
    some false
  else
    (lp n_) ((e_formula_all__formula_counted_L1 n_) y0 rec_formula_all__formula_counted) 0
theorem lef_formula_all__formula_counted (n_ : Nat) {rec_formula_all__formula_counted rec_formula_all__formula_counted' : T_Formula → Option Bool} (h_rec_formula_all__formula_counted : ∀ u0, Le (rec_formula_all__formula_counted u0) (rec_formula_all__formula_counted' u0)) (y0 : T_Formula) : Le (fe_formula_all__formula_counted n_ rec_formula_all__formula_counted y0) (F_formula_all__formula_counted rec_formula_all__formula_counted' y0) := by
  unfold fe_formula_all__formula_counted F_formula_all__formula_counted
  repeat with_reducible (first | intro _ | apply h_rec_formula_all__formula_counted | apply le_formula_all__formula_counted_L1 | apply le_formula_counted | exact Le.refl _ | apply Le.ite | apply Le.seqE | apply Le.bind | apply Le.lp | exact Le.none _)
def ke_formula_all__formula_counted (n_ : Nat) : Nat → T_Formula → Option Bool
  | 0 => fun _ => none
  | k + 1 => fun y0 => (fe_formula_all__formula_counted n_) ((ke_formula_all__formula_counted n_) k) y0
theorem lek_formula_all__formula_counted (n_ : Nat) : ∀ (k m : Nat), k ≤ m → ∀ u0, Le (ke_formula_all__formula_counted n_ k u0) (k_formula_all__formula_counted m u0)
  | 0, _, _ => fun u0 => Le.none _
  | k + 1, m, h => fun u0 => by
    obtain ⟨m, rfl⟩ : ∃ q, m = q + 1 := ⟨m - 1, by omega⟩
    exact lef_formula_all__formula_counted n_ (lek_formula_all__formula_counted n_ k m (by omega)) _
def e_formula_all__formula_counted (n_ : Nat) (y0 : T_Formula) : Option Bool :=
  ke_formula_all__formula_counted n_ n_ y0
theorem le_formula_all__formula_counted (n_ : Nat) (y0 : T_Formula) : Le (e_formula_all__formula_counted n_ y0) (m_formula_all__formula_counted y0) := Le.lim n_ fun m h => lek_formula_all__formula_counted n_ n_ m h _
def e_literal_ValidName_L1 (n_ : Nat) (y0 : Str) (s1 : Int) : Option (Int ⊕ Bool) :=
  if decide (s1 < (len y0)) then
    (sidx y0 s1).bind fun x1 =>
    if (decide (97 ≤ x1)) && (decide (x1 ≤ 122)) then
      some (.inl (w64 (s1 + 1)))
    else
      if (decide (0 < s1)) && (if decide (48 ≤ x1) then (decide (x1 ≤ 57)) || (x1 == 95) else x1 == 95) then
        some (.inl (w64 (s1 + 1)))
      else
        some (.inr false)
  else
    some (.inr true)
theorem le_literal_ValidName_L1 (n_ : Nat) (y0 : Str) (s1 : Int) : Le (e_literal_ValidName_L1 n_ y0 s1) (m_literal_ValidName_L1 y0 s1) := by
  unfold e_literal_ValidName_L1 m_literal_ValidName_L1
  repeat with_reducible (first | intro _ | exact Le.refl _ | apply Le.ite | apply Le.seqE | apply Le.bind | apply Le.lp | exact Le.none _)
def e_literal_ValidName (n_ : Nat) (y0 : Str) : Option Bool :=
  if ((len y0) == 0) || (decide (12 < (len y0))) then
    some false
  else
    (lp n_) ((e_literal_ValidName_L1 n_) y0) 0
theorem le_literal_ValidName (n_ : Nat) (y0 : Str) : Le (e_literal_ValidName n_ y0) (m_literal_ValidName y0) := by
  unfold e_literal_ValidName m_literal_ValidName
  repeat with_reducible (first | intro _ | apply le_literal_ValidName_L1 | exact Le.refl _ | apply Le.ite | apply Le.seqE | apply Le.bind | apply Le.lp | exact Le.none _)
def e_formula_named (n_ : Nat) (y0 : T_Formula) : Option Bool :=
  if ((fv y0).1) == 3 then
    ((e_literal_ValidName n_) ((fv y0).2.1)).bind fun r1 =>
    some r1
  else
    some (((fv y0).2.1) == [])
theorem le_formula_named (n_ : Nat) (y0 : T_Formula) : Le (e_formula_named n_ y0) (m_formula_named y0) := by
  unfold e_formula_named m_formula_named
  repeat with_reducible (first | intro _ | apply le_literal_ValidName | exact Le.refl _ | apply Le.ite | apply Le.seqE | apply Le.bind | apply Le.lp | exact Le.none _)
def e_formula_all__formula_named_L1 (n_ : Nat) (y0 : T_Formula) (rec_formula_all__formula_named : T_Formula → Option Bool) (s1 : Int) : Option (Int ⊕ Bool) :=
  if decide (s1 < (len ((fv y0).2.2))) then
    (idx ((fv y0).2.2) s1).bind fun x1 =>
    (rec_formula_all__formula_named x1).bind fun r2 =>
    if !r2 then
      some (.inr false)
    else
      some (.inl (w64 (s1 + 1)))
  else
    some (.inr true)
theorem le_formula_all__formula_named_L1 (n_ : Nat) (y0 : T_Formula) {rec_formula_all__formula_named rec_formula_all__formula_named' : T_Formula → Option Bool} (h_rec_formula_all__formula_named : ∀ u0, Le (rec_formula_all__formula_named u0) (rec_formula_all__formula_named' u0)) (s1 : Int) : Le (e_formula_all__formula_named_L1 n_ y0 rec_formula_all__formula_named s1) (m_formula_all__formula_named_L1 y0 rec_formula_all__formula_named' s1) := by
  unfold e_formula_all__formula_named_L1 m_formula_all__formula_named_L1
  repeat with_reducible (first | intro _ | apply h_rec_formula_all__formula_named | exact Le.refl _ | apply Le.ite | apply Le.seqE | apply Le.bind | apply Le.lp | exact Le.none _)
def fe_formula_all__formula_named (n_ : Nat) (rec_formula_all__formula_named : T_Formula → Option Bool) (y0 : T_Formula) : Option Bool :=
  ((e_formula_named n_) y0).bind fun r1 =>
  if !r1 then
    some false
  else
    (lp n_) ((e_formula_all__formula_named_L1 n_) y0 rec_formula_all__formula_named) 0
theorem lef_formula_all__formula_named (n_ : Nat) {rec_formula_all__formula_named rec_formula_all__formula_named' : T_Formula → Option Bool} (h_rec_formula_all__formula_named : ∀ u0, Le (rec_formula_all__formula_named u0) (rec_formula_all__formula_named' u0)) (y0 : T_Formula) : Le (fe_formula_all__formula_named n_ rec_formula_all__formula_named y0) (F_formula_all__formula_named rec_formula_all__formula_named' y0) := by
  unfold fe_formula_all__formula_named F_formula_all__formula_named
  repeat with_reducible (first | intro _ | apply h_rec_formula_all__formula_named | apply le_formula_all__formula_named_L1 | apply le_formula_named | exact Le.refl _ | apply Le.ite | apply Le.seqE | apply Le.bind | apply Le.lp | exact Le.none _)
def ke_formula_all__formula_named (n_ : Nat) : Nat → T_Formula → Option Bool
  | 0 => fun _ => none
  | k + 1 => fun y0 => (fe_formula_all__formula_named n_) ((ke_formula_all__formula_named n_) k) y0
theorem lek_formula_all__formula_named (n_ : Nat) : ∀ (k m : Nat), k ≤ m → ∀ u0, Le (ke_formula_all__formula_named n_ k u0) (k_formula_all__formula_named m u0)
  | 0, _, _ => fun u0 => Le.none _
  | k + 1, m, h => fun u0 => by
    obtain ⟨m, rfl⟩ : ∃ q, m = q + 1 := ⟨m - 1, by omega⟩
    exact lef_formula_all__formula_named n_ (lek_formula_all__formula_named n_ k m (by omega)) _
def e_formula_all__formula_named (n_ : Nat) (y0 : T_Formula) : Option Bool :=
  ke_formula_all__formula_named n_ n_ y0
theorem le_formula_all__formula_named (n_ : Nat) (y0 : T_Formula) : Le (e_formula_all__formula_named n_ y0) (m_formula_all__formula_named y0) := Le.lim n_ fun m h => lek_formula_all__formula_named n_ n_ m h _
def e_formula_Validate (n_ : Nat) (y0 : T_Formula) : Option Int :=
  (
    ((e_formula_Size n_) y0).bind fun r1 =>
    if decide (600 < r1) then
      some true
    else
      ((e_formula_Depth n_) y0).bind fun r2 =>
      some (decide (20 < r2)) : Option Bool).bind fun s1 =>
  if s1 then
    some 2
  else
    ((e_formula_all__formula_counted n_) y0).bind fun r3 =>
    if !r3 then
      some 4
    else
      ((e_formula_all__formula_named n_) y0).bind fun r4 =>
      if !r4 then
        some 3
      else
        some 0
theorem le_formula_Validate (n_ : Nat) (y0 : T_Formula) : Le (e_formula_Validate n_ y0) (m_formula_Validate y0) := by
  unfold e_formula_Validate m_formula_Validate
  repeat with_reducible (first | intro _ | apply le_formula_all__formula_named | apply le_formula_all__formula_counted | apply le_formula_Depth | apply le_formula_Size | exact Le.refl _ | apply Le.ite | apply Le.seqE | apply Le.bind | apply Le.lp | exact Le.none _)
def e_formula_needed (n_ : Nat) (y0 : T_Formula) (y1 : Int) : Option Int :=
  (
    if ((fv y0).1) == 4 then
      some (((fv y0).1) == 4)
    else
      some (((fv y0).1) == 5) : Option Bool).bind fun s1 =>
  if s1 then
    some 5
  else
    if ((fv y0).1) == 6 then
      some 4
    else
      if ((fv y0).1) == 7 then
        some (w64 (3 - y1))
      else
        some 2
theorem le_formula_needed (n_ : Nat) (y0 : T_Formula) (y1 : Int) : Le (e_formula_needed n_ y0 y1) (m_formula_needed y0 y1) := by
  unfold e_formula_needed m_formula_needed
  repeat with_reducible (first | intro _ | exact Le.refl _ | apply Le.ite | apply Le.seqE | apply Le.bind | apply Le.lp | exact Le.none _)
def e_formula_strength (n_ : Nat) (y0 : T_Formula) : Option Int :=
  if ((fv y0).1) == 8 then
    some 1
  else
    if ((fv y0).1) == 7 then
      some 2
    else
      if ((fv y0).1) == 6 then
        some 3
      else
        if ((fv y0).1) == 5 then
          some 4
        else
          some 5
theorem le_formula_strength (n_ : Nat) (y0 : T_Formula) : Le (e_formula_strength n_ y0) (m_formula_strength y0) := by
  unfold e_formula_strength m_formula_strength
  repeat with_reducible (first | intro _ | exact Le.refl _ | apply Le.ite | apply Le.seqE | apply Le.bind | apply Le.lp | exact Le.none _)
def e_strings_Builder_WriteByte (n_ : Nat) (y0 : Str) (y1 : Int) : Option (Unit × Str) :=
  (some () : Option Unit).bind fun _ =>
  (chk (decide (0 ≤ y1) && decide (y1 < 256) && decide (len y0 + 1 < 4294967296))).bind fun _ =>
  some ((), y0 ++ [UInt8.ofNat y1.toNat])
theorem le_strings_Builder_WriteByte (n_ : Nat) (y0 : Str) (y1 : Int) : Le (e_strings_Builder_WriteByte n_ y0 y1) (m_strings_Builder_WriteByte y0 y1) := by
  unfold e_strings_Builder_WriteByte m_strings_Builder_WriteByte
  repeat with_reducible (first | intro _ | exact Le.refl _ | apply Le.ite | apply Le.seqE | apply Le.bind | apply Le.lp | exact Le.none _)
def e_strings_Builder_WriteString (n_ : Nat) (y0 : Str) (y1 : Str) : Option (Int × Unit × Str) := wstrM y0 y1
theorem le_strings_Builder_WriteString (n_ : Nat) (y0 : Str) (y1 : Str) : Le (e_strings_Builder_WriteString n_ y0 y1) (m_strings_Builder_WriteString y0 y1) := by
  unfold e_strings_Builder_WriteString m_strings_Builder_WriteString
  repeat with_reducible (first | intro _ | exact Le.refl _ | apply Le.ite | apply Le.seqE | apply Le.bind | apply Le.lp | exact Le.none _)
def e_formula_write_L1 (n_ : Nat) (y1 : T_Formula) (rec_formula_write : Str → T_Formula → Option Str) (s2 : Int × Str) : Option ((Int × Str) ⊕ Str) :=
  if decide (s2.1 < (len ((fv y1).2.2))) then
    (idx ((fv y1).2.2) s2.1).bind fun x1 =>
    (
      if decide (0 < s2.1) then
        (idx tab_formula_words ((fv y1).1)).bind fun x2 =>
        ((e_strings_Builder_WriteString n_) s2.2 x2).bind fun r5 =>
        some r5.2.2
      else
        some s2.2 : Option Str).bind fun s3 =>
    ((e_formula_strength n_) x1).bind fun r6 =>
    ((e_formula_needed n_) y1 s2.1).bind fun r7 =>
    if decide (r6 < r7) then
      ((e_strings_Builder_WriteByte n_) s3 40).bind fun r8 =>
      (rec_formula_write r8.2 x1).bind fun r9 =>
      ((e_strings_Builder_WriteByte n_) r9 41).bind fun r10 =>
      some (.inl (w64 (s2.1 + 1), r10.2))
    else
      (rec_formula_write s3 x1).bind fun r11 =>
      some (.inl (w64 (s2.1 + 1), r11))
  else
    some (.inr s2.2)
theorem le_formula_write_L1 (n_ : Nat) (y1 : T_Formula) {rec_formula_write rec_formula_write' : Str → T_Formula → Option Str} (h_rec_formula_write : ∀ u0 u1, Le (rec_formula_write u0 u1) (rec_formula_write' u0 u1)) (s2 : Int × Str) : Le (e_formula_write_L1 n_ y1 rec_formula_write s2) (m_formula_write_L1 y1 rec_formula_write' s2) := by
  unfold e_formula_write_L1 m_formula_write_L1
  repeat with_reducible (first | intro _ | apply h_rec_formula_write | apply le_strings_Builder_WriteByte | apply le_formula_needed | apply le_formula_strength | apply le_strings_Builder_WriteString | exact Le.refl _ | apply Le.ite | apply Le.seqE | apply Le.bind | apply Le.lp | exact Le.none _)
def fe_formula_write (n_ : Nat) (rec_formula_write : Str → T_Formula → Option Str) (y0 : Str) (y1 : T_Formula) : Option Str :=
  (
    if ((fv y1).1) == 1 then
      ((e_strings_Builder_WriteByte n_) y0 49).bind fun r1 =>
      some r1.2
    else
      if ((fv y1).1) == 2 then
        ((e_strings_Builder_WriteByte n_) y0 48).bind fun r2 =>
        some r2.2
      else
        if ((fv y1).1) == 3 then
          ((e_strings_Builder_WriteString n_) y0 ((fv y1).2.1)).bind fun r3 =>
          some r3.2.2
        else
          if ((fv y1).1) == 4 then
            ((e_strings_Builder_WriteByte n_) y0 126).bind fun r4 =>
            some r4.2
          else
            some y0 : Option Str).bind fun s1 =>
  (lp n_) ((e_formula_write_L1 n_) y1 rec_formula_write) (0, s1)
theorem lef_formula_write (n_ : Nat) {rec_formula_write rec_formula_write' : Str → T_Formula → Option Str} (h_rec_formula_write : ∀ u0 u1, Le (rec_formula_write u0 u1) (rec_formula_write' u0 u1)) (y0 : Str) (y1 : T_Formula) : Le (fe_formula_write n_ rec_formula_write y0 y1) (F_formula_write rec_formula_write' y0 y1) := by
  unfold fe_formula_write F_formula_write
  repeat with_reducible (first | intro _ | apply h_rec_formula_write | apply le_formula_write_L1 | apply le_strings_Builder_WriteString | apply le_strings_Builder_WriteByte | exact Le.refl _ | apply Le.ite | apply Le.seqE | apply Le.bind | apply Le.lp | exact Le.none _)
def ke_formula_write (n_ : Nat) : Nat → Str → T_Formula → Option Str
  | 0 => fun _ _ => none
  | k + 1 => fun y0 y1 => (fe_formula_write n_) ((ke_formula_write n_) k) y0 y1
theorem lek_formula_write (n_ : Nat) : ∀ (k m : Nat), k ≤ m → ∀ u0 u1, Le (ke_formula_write n_ k u0 u1) (k_formula_write m u0 u1)
  | 0, _, _ => fun u0 u1 => Le.none _
  | k + 1, m, h => fun u0 u1 => by
    obtain ⟨m, rfl⟩ : ∃ q, m = q + 1 := ⟨m - 1, by omega⟩
    exact lef_formula_write n_ (lek_formula_write n_ k m (by omega)) _ _
def e_formula_write (n_ : Nat) (y0 : Str) (y1 : T_Formula) : Option Str :=
  ke_formula_write n_ n_ y0 y1
theorem le_formula_write (n_ : Nat) (y0 : Str) (y1 : T_Formula) : Le (e_formula_write n_ y0 y1) (m_formula_write y0 y1) := Le.lim n_ fun m h => lek_formula_write n_ n_ m h _ _
def e_strings_Builder_Len (n_ : Nat) (y0 : Str) : Option Int := some (len y0)
theorem le_strings_Builder_Len (n_ : Nat) (y0 : Str) : Le (e_strings_Builder_Len n_ y0) (m_strings_Builder_Len y0) := by
  unfold e_strings_Builder_Len m_strings_Builder_Len
  repeat with_reducible (first | intro _ | exact Le.refl _ | apply Le.ite | apply Le.seqE | apply Le.bind | apply Le.lp | exact Le.none _)
def e_strings_Builder_String (n_ : Nat) (y0 : Str) : Option Str := some y0
theorem le_strings_Builder_String (n_ : Nat) (y0 : Str) : Le (e_strings_Builder_String n_ y0) (m_strings_Builder_String y0) := by
  unfold e_strings_Builder_String m_strings_Builder_String
  repeat with_reducible (first | intro _ | exact Le.refl _ | apply Le.ite | apply Le.seqE | apply Le.bind | apply Le.lp | exact Le.none _)
def e_formula_Format (n_ : Nat) (y0 : T_Formula) : Option (Str × Int) :=
  ((e_formula_Validate n_) y0).bind fun r1 =>
  if r1 != 0 then
    some ([], r1)
  else
    ((e_formula_write n_) ([] : Str) y0).bind fun r2 =>
    ((e_strings_Builder_Len n_) r2).bind fun r3 =>
    if decide (4096 < r3) then
      some ([], 2)
    else
      ((e_strings_Builder_String n_) r2).bind fun r4 =>
      some (r4, 0)
theorem le_formula_Format (n_ : Nat) (y0 : T_Formula) : Le (e_formula_Format n_ y0) (m_formula_Format y0) := by
  unfold e_formula_Format m_formula_Format
  repeat with_reducible (first | intro _ | apply le_strings_Builder_String | apply le_strings_Builder_Len | apply le_formula_write | apply le_formula_Validate | exact Le.refl _ | apply Le.ite | apply Le.seqE | apply Le.bind | apply Le.lp | exact Le.none _)
def e_slices_Index_bool_L1 (n_ : Nat) (y0 : List Bool) (y1 : Bool) (s1 : Int) : Option (Int ⊕ Int) :=
  if decide (s1 < (len y0)) then
    (idx y0 s1).bind fun x1 =>
    if y1 == x1 then
      some (.inr s1)
    else
      some (.inl (w64 (s1 + 1)))
  else
    some (.inr (-1))
theorem le_slices_Index_bool_L1 (n_ : Nat) (y0 : List Bool) (y1 : Bool) (s1 : Int) : Le (e_slices_Index_bool_L1 n_ y0 y1 s1) (m_slices_Index_bool_L1 y0 y1 s1) := by
  unfold e_slices_Index_bool_L1 m_slices_Index_bool_L1
  repeat with_reducible (first | intro _ | exact Le.refl _ | apply Le.ite | apply Le.seqE | apply Le.bind | apply Le.lp | exact Le.none _)
def e_slices_Index_bool (n_ : Nat) (y0 : List Bool) (y1 : Bool) : Option Int :=
  (lp n_) ((e_slices_Index_bool_L1 n_) y0 y1) 0
theorem le_slices_Index_bool (n_ : Nat) (y0 : List Bool) (y1 : Bool) : Le (e_slices_Index_bool n_ y0 y1) (m_slices_Index_bool y0 y1) := by
  unfold e_slices_Index_bool m_slices_Index_bool
  repeat with_reducible (first | intro _ | apply le_slices_Index_bool_L1 | exact Le.refl _ | apply Le.ite | apply Le.seqE | apply Le.bind | apply Le.lp | exact Le.none _)
def e_slices_Contains_bool (n_ : Nat) (y0 : List Bool) (y1 : Bool) : Option Bool :=
  ((e_slices_Index_bool n_) y0 y1).bind fun r1 =>
  some (decide (0 ≤ r1))
theorem le_slices_Contains_bool (n_ : Nat) (y0 : List Bool) (y1 : Bool) : Le (e_slices_Contains_bool n_ y0 y1) (m_slices_Contains_bool y0 y1) := by
  unfold e_slices_Contains_bool m_slices_Contains_bool
  repeat with_reducible (first | intro _ | apply le_slices_Index_bool | exact Le.refl _ | apply Le.ite | apply Le.seqE | apply Le.bind | apply Le.lp | exact Le.none _)
def e_world_Valid_L1 (n_ : Nat) (y0 : List Str) (s1 : Int) : Option (Int ⊕ Bool) :=
  if decide (s1 < (len y0)) then
    (idx y0 s1).bind fun x1 =>
    (
      ((e_literal_ValidName n_) x1).bind fun r1 =>
      if !r1 then
        some true
      else
        if decide (0 < s1) then
          (idx y0 (w64 (s1 - 1))).bind fun x2 =>
          some (!(sless x2 x1))
        else
          some false : Option Bool).bind fun s2 =>
    if s2 then
      some (.inr false)
    else
      some (.inl (w64 (s1 + 1)))
  else
    some (.inr true)
theorem le_world_Valid_L1 (n_ : Nat) (y0 : List Str) (s1 : Int) : Le (e_world_Valid_L1 n_ y0 s1) (m_world_Valid_L1 y0 s1) := by
  unfold e_world_Valid_L1 m_world_Valid_L1
  repeat with_reducible (first | intro _ | apply le_literal_ValidName | exact Le.refl _ | apply Le.ite | apply Le.seqE | apply Le.bind | apply Le.lp | exact Le.none _)
def e_world_Valid (n_ : Nat) (y0 : List Str) : Option Bool :=
  if decide (6 < (len y0)) then
    some false
  else
    (lp n_) ((e_world_Valid_L1 n_) y0) 0
theorem le_world_Valid (n_ : Nat) (y0 : List Str) : Le (e_world_Valid n_ y0) (m_world_Valid y0) := by
  unfold e_world_Valid m_world_Valid
  repeat with_reducible (first | intro _ | apply le_world_Valid_L1 | exact Le.refl _ | apply Le.ite | apply Le.seqE | apply Le.bind | apply Le.lp | exact Le.none _)
def e_order_Validate_L1 (n_ : Nat) (y0 : T_Order) (x2 : List Bool) (s3 : (List Bool) × Int × Int) : Option (((List Bool) × Int × Int) ⊕ (((List Bool) × Int) ⊕ Int)) :=
  if decide (s3.2.2 < (len y0.2)) then
    (idx y0.2 s3.2.2).bind fun x3 =>
    if (decide (x3 < 0)) || (decide ((len x2) ≤ x3)) then
      some (.inr (.inr 8))
    else
      (idx s3.1 x3).bind fun _ =>
      some (.inl (List.set s3.1 (Int.toNat x3) true, if x3 > s3.2.1 then x3 else s3.2.1, w64 (s3.2.2 + 1)))
  else
    some (.inr (.inl (s3.1, s3.2.1)))
theorem le_order_Validate_L1 (n_ : Nat) (y0 : T_Order) (x2 : List Bool) (s3 : (List Bool) × Int × Int) : Le (e_order_Validate_L1 n_ y0 x2 s3) (m_order_Validate_L1 y0 x2 s3) := by
  unfold e_order_Validate_L1 m_order_Validate_L1
  repeat with_reducible (first | intro _ | exact Le.refl _ | apply Le.ite | apply Le.seqE | apply Le.bind | apply Le.lp | exact Le.none _)
def e_order_Validate (n_ : Nat) (y0 : T_Order) : Option Int :=
  (
    ((e_world_Valid n_) y0.1).bind fun r1 =>
    if !r1 then
      some true
    else
      (shlK .i64 1 (len y0.1)).bind fun x1 =>
      some ((len y0.2) != x1) : Option Bool).bind fun s1 =>
  if s1 then
    some 1
  else
    (mkS (len y0.2) (len y0.2) (false : Bool)).bind fun x2 =>
    seqE ((lp n_) ((e_order_Validate_L1 n_) y0 x2) (x2, 0, 0) : Option (((List Bool) × Int) ⊕ Int)) fun s2 =>
    (sub s2.1 0 s2.2).bind fun x5 =>
    ((e_slices_Contains_bool n_) x5 false).bind fun r2 =>
    if r2 then
      some 8
    else
      some 0
theorem le_order_Validate (n_ : Nat) (y0 : T_Order) : Le (e_order_Validate n_ y0) (m_order_Validate y0) := by
  unfold e_order_Validate m_order_Validate
  repeat with_reducible (first | intro _ | apply le_slices_Contains_bool | apply le_order_Validate_L1 | apply le_world_Valid | exact Le.refl _ | apply Le.ite | apply Le.seqE | apply Le.bind | apply Le.lp | exact Le.none _)
def e_slices_Max_int_L1 (n_ : Nat) (y0 : List Int) (s2 : Int × Int) : Option ((Int × Int) ⊕ Int) :=
  if decide (s2.2 < (len y0)) then
    (idx y0 s2.2).bind fun x2 =>
    some (.inl (if x2 > s2.1 then x2 else s2.1, w64 (s2.2 + 1)))
  else
    some (.inr s2.1)
theorem le_slices_Max_int_L1 (n_ : Nat) (y0 : List Int) (s2 : Int × Int) : Le (e_slices_Max_int_L1 n_ y0 s2) (m_slices_Max_int_L1 y0 s2) := by
  unfold e_slices_Max_int_L1 m_slices_Max_int_L1
  repeat with_reducible (first | intro _ | exact Le.refl _ | apply Le.ite | apply Le.seqE | apply Le.bind | apply Le.lp | exact Le.none _)
def e_slices_Max_int (n_ : Nat) (y0 : List Int) : Option Int :=
  (
    if decide ((len y0) < 1) then
      none
    else
      some () : Option Unit).bind fun _ =>
  (idx y0 0).bind fun x1 =>
  (lp n_) ((e_slices_Max_int_L1 n_) y0) (x1, 1)
theorem le_slices_Max_int (n_ : Nat) (y0 : List Int) : Le (e_slices_Max_int n_ y0) (m_slices_Max_int y0) := by
  unfold e_slices_Max_int m_slices_Max_int
  repeat with_reducible (first | intro _ | apply le_slices_Max_int_L1 | exact Le.refl _ | apply Le.ite | apply Le.seqE | apply Le.bind | apply Le.lp | exact Le.none _)
def e_order_Levels_L1 (n_ : Nat) (y0 : T_Order) (s1 : (List Int) × Int) : Option (((List Int) × Int) ⊕ (List Int)) :=
  if decide (s1.2 < (len y0.2)) then
    (idx y0.2 s1.2).bind fun x2 =>
    (idx s1.1 x2).bind fun x3 =>
    (shlK .u64 1 (IntKind.u64.wrap (s1.2))).bind fun x4 =>
    (idx s1.1 x2).bind fun _ =>
    some (.inl (List.set s1.1 (Int.toNat x2) (bor .u64 x3 x4), w64 (s1.2 + 1)))
  else
    some (.inr s1.1)
theorem le_order_Levels_L1 (n_ : Nat) (y0 : T_Order) (s1 : (List Int) × Int) : Le (e_order_Levels_L1 n_ y0 s1) (m_order_Levels_L1 y0 s1) := by
  unfold e_order_Levels_L1 m_order_Levels_L1
  repeat with_reducible (first | intro _ | exact Le.refl _ | apply Le.ite | apply Le.seqE | apply Le.bind | apply Le.lp | exact Le.none _)
def e_order_Levels (n_ : Nat) (y0 : T_Order) : Option (List Int) :=
  ((e_order_Validate n_) y0).bind fun r1 =>
  if r1 != 0 then
    some ([] : List Int)
  else
    ((e_slices_Max_int n_) y0.2).bind fun r2 =>
    (mkS (w64 (r2 + 1)) (w64 (r2 + 1)) (0 : Int)).bind fun x1 =>
    (lp n_) ((e_order_Levels_L1 n_) y0) (x1, 0)
theorem le_order_Levels (n_ : Nat) (y0 : T_Order) : Le (e_order_Levels n_ y0) (m_order_Levels y0) := by
  unfold e_order_Levels m_order_Levels
  repeat with_reducible (first | intro _ | apply le_order_Levels_L1 | apply le_slices_Max_int | apply le_order_Validate | exact Le.refl _ | apply Le.ite | apply Le.seqE | apply Le.bind | apply Le.lp | exact Le.none _)
def e_internal_strconv_small (n_ : Nat) (y0 : Int) : Option Str :=
  if decide (y0 < 10) then
    (sub [48, 49, 50, 51, 52, 53, 54, 55, 56, 57, 97, 98, 99, 100, 101, 102, 103, 104, 105, 106, 107, 108, 109, 110, 111, 112, 113, 114, 115, 116, 117, 118, 119, 120, 121, 122] y0 (w64 (y0 + 1))).bind fun x1 =>
    some x1
  else
    (sub [48, 48, 48, 49, 48, 50, 48, 51, 48, 52, 48, 53, 48, 54, 48, 55, 48, 56, 48, 57, 49, 48, 49, 49, 49, 50, 49, 51, 49, 52, 49, 53, 49, 54, 49, 55, 49, 56, 49, 57, 50, 48, 50, 49, 50, 50, 50, 51, 50, 52, 50, 53, 50, 54, 50, 55, 50, 56, 50, 57, 51, 48, 51, 49, 51, 50, 51, 51, 51, 52, 51, 53, 51, 54, 51, 55, 51, 56, 51, 57, 52, 48, 52, 49, 52, 50, 52, 51, 52, 52, 52, 53, 52, 54, 52, 55, 52, 56, 52, 57, 53, 48, 53, 49, 53, 50, 53, 51, 53, 52, 53, 53, 53, 54, 53, 55, 53, 56, 53, 57, 54, 48, 54, 49, 54, 50, 54, 51, 54, 52, 54, 53, 54, 54, 54, 55, 54, 56, 54, 57, 55, 48, 55, 49, 55, 50, 55, 51, 55, 52, 55, 53, 55, 54, 55, 55, 55, 56, 55, 57, 56, 48, 56, 49, 56, 50, 56, 51, 56, 52, 56, 53, 56, 54, 56, 55, 56, 56, 56, 57, 57, 48, 57, 49, 57, 50, 57, 51, 57, 52, 57, 53, 57, 54, 57, 55, 57, 56, 57, 57] (w64 (y0 * 2)) (w64 ((w64 (y0 * 2)) + 2))).bind fun x2 =>
    some x2
theorem le_internal_strconv_small (n_ : Nat) (y0 : Int) : Le (e_internal_strconv_small n_ y0) (m_internal_strconv_small y0) := by
  unfold e_internal_strconv_small m_internal_strconv_small
  repeat with_reducible (first | intro _ | exact Le.refl _ | apply Le.ite | apply Le.seqE | apply Le.bind | apply Le.lp | exact Le.none _)
def e_internal_strconv_FormatInt (n_ : Nat) (y0 : Int) (y1 : Int) : Option Str :=
  if y1 == 10 then
    if (decide (0 ≤ y0)) && (decide (y0 < 100)) then
      ((e_internal_strconv_small n_) y0).bind fun r1 =>
      some r1
    else
      none
  else
    none
theorem le_internal_strconv_FormatInt (n_ : Nat) (y0 : Int) (y1 : Int) : Le (e_internal_strconv_FormatInt n_ y0 y1) (m_internal_strconv_FormatInt y0 y1) := by
  unfold e_internal_strconv_FormatInt m_internal_strconv_FormatInt
  repeat with_reducible (first | intro _ | apply le_internal_strconv_small | exact Le.refl _ | apply Le.ite | apply Le.seqE | apply Le.bind | apply Le.lp | exact Le.none _)
def e_internal_strconv_Itoa (n_ : Nat) (y0 : Int) : Option Str :=
  ((e_internal_strconv_FormatInt n_) y0 10).bind fun r1 =>
  some r1
theorem le_internal_strconv_Itoa (n_ : Nat) (y0 : Int) : Le (e_internal_strconv_Itoa n_ y0) (m_internal_strconv_Itoa y0) := by
  unfold e_internal_strconv_Itoa m_internal_strconv_Itoa
  repeat with_reducible (first | intro _ | apply le_internal_strconv_FormatInt | exact Le.refl _ | apply Le.ite | apply Le.seqE | apply Le.bind | apply Le.lp | exact Le.none _)
def e_strconv_Itoa (n_ : Nat) (y0 : Int) : Option Str :=
  ((e_internal_strconv_Itoa n_) y0).bind fun r1 =>
  some r1
theorem le_strconv_Itoa (n_ : Nat) (y0 : Int) : Le (e_strconv_Itoa n_ y0) (m_strconv_Itoa y0) := by
  unfold e_strconv_Itoa m_strconv_Itoa
  repeat with_reducible (first | intro _ | apply le_internal_strconv_Itoa | exact Le.refl _ | apply Le.ite | apply Le.seqE | apply Le.bind | apply Le.lp | exact Le.none _)
def e_report_number (n_ : Nat) (y0 : Int) : Option Str :=
  ((e_strconv_Itoa n_) y0).bind fun r1 =>
  some r1
theorem le_report_number (n_ : Nat) (y0 : Int) : Le (e_report_number n_ y0) (m_report_number y0) := by
  unfold e_report_number m_report_number
  repeat with_reducible (first | intro _ | apply le_strconv_Itoa | exact Le.refl _ | apply Le.ite | apply Le.seqE | apply Le.bind | apply Le.lp | exact Le.none _)
def e_world_whole (n_ : Nat) (y0 : Int) : Option Int :=
  (shlK .u64 1 y0).bind fun x1 =>
  (shrK .u64 18446744073709551615 (IntKind.u64.wrap (64 - x1))).bind fun x2 =>
  some x2
theorem le_world_whole (n_ : Nat) (y0 : Int) : Le (e_world_whole n_ y0) (m_world_whole y0) := by
  unfold e_world_whole m_world_whole
  repeat with_reducible (first | intro _ | exact Le.refl _ | apply Le.ite | apply Le.seqE | apply Le.bind | apply Le.lp | exact Le.none _)
def e_world_All (n_ : Nat) (y0 : List Str) : Option Int :=
  ((e_world_Valid n_) y0).bind fun r1 =>
  if !r1 then
    some 0
  else
    ((e_world_whole n_) (len y0)).bind fun r2 =>
    some r2
theorem le_world_All (n_ : Nat) (y0 : List Str) : Le (e_world_All n_ y0) (m_world_All y0) := by
  unfold e_world_All m_world_All
  repeat with_reducible (first | intro _ | apply le_world_whole | apply le_world_Valid | exact Le.refl _ | apply Le.ite | apply Le.seqE | apply Le.bind | apply Le.lp | exact Le.none _)
def e_world_split_L1 (n_ : Nat) (y0 : Int) (s1 : Int × Int × Int) : Option ((Int × Int × Int) ⊕ (Int × Int)) :=
  if decide (s1.2.2 < 32) then
    (shrK .u64 y0 (w64 (2 * s1.2.2))).bind fun x1 =>
    (shlK .u64 (band .u64 x1 1) s1.2.2).bind fun x2 =>
    (shrK .u64 y0 (w64 ((w64 (2 * s1.2.2)) + 1))).bind fun x3 =>
    (shlK .u64 (band .u64 x3 1) s1.2.2).bind fun x4 =>
    some (.inl (bor .u64 s1.1 x4, bor .u64 s1.2.1 x2, w64 (s1.2.2 + 1)))
  else
    some (.inr (s1.1, s1.2.1))
theorem le_world_split_L1 (n_ : Nat) (y0 : Int) (s1 : Int × Int × Int) : Le (e_world_split_L1 n_ y0 s1) (m_world_split_L1 y0 s1) := by
  unfold e_world_split_L1 m_world_split_L1
  repeat with_reducible (first | intro _ | exact Le.refl _ | apply Le.ite | apply Le.seqE | apply Le.bind | apply Le.lp | exact Le.none _)
def e_world_split (n_ : Nat) (y0 : Int) : Option (Int × Int) :=
  (lp n_) ((e_world_split_L1 n_) y0) (0, 0, 0)
theorem le_world_split (n_ : Nat) (y0 : Int) : Le (e_world_split n_ y0) (m_world_split y0) := by
  unfold e_world_split m_world_split
  repeat with_reducible (first | intro _ | apply le_world_split_L1 | exact Le.refl _ | apply Le.ite | apply Le.seqE | apply Le.bind | apply Le.lp | exact Le.none _)
def e_world_two (n_ : Nat) (y0 : Int) (y1 : T_Formula) (y2 : T_Formula) : Option T_Formula :=
  some (fm (y0, [], ([y1, y2] : List T_Formula)))
theorem le_world_two (n_ : Nat) (y0 : Int) (y1 : T_Formula) (y2 : T_Formula) : Le (e_world_two n_ y0 y1 y2) (m_world_two y0 y1 y2) := by
  unfold e_world_two m_world_two
  repeat with_reducible (first | intro _ | exact Le.refl _ | apply Le.ite | apply Le.seqE | apply Le.bind | apply Le.lp | exact Le.none _)
def fe_world_theory (n_ : Nat) (rec_world_theory : (List Str) → Int → Option T_Formula) (y0 : List Str) (y1 : Int) : Option T_Formula :=
  ((e_world_whole n_) (len y0)).bind fun r1 =>
  if y1 == 0 then
    some (fm (2, [], ([] : List T_Formula)))
  else
    if y1 == r1 then
      some (fm (1, [], ([] : List T_Formula)))
    else
      (sub y0 1 (len y0)).bind fun x1 =>
      ((e_world_split n_) y1).bind fun r2 =>
      if r2.1 == r2.2 then
        (rec_world_theory x1 r2.1).bind fun r3 =>
        some r3
      else
        (idx y0 0).bind fun x2 =>
        (idx y0 0).bind fun x3 =>
        ((e_world_whole n_) (len x1)).bind fun r4 =>
        if (r2.1 == r4) && (r2.2 == 0) then
          some (fm (3, x2, ([] : List T_Formula)))
        else
          if r2.1 == r4 then
            (rec_world_theory x1 r2.2).bind fun r5 =>
            ((e_world_two n_) 6 (fm (3, x2, ([] : List T_Formula))) r5).bind fun r6 =>
            some r6
          else
            if (r2.1 == 0) && (r2.2 == r4) then
              some (fm (4, [], ([fm (3, x3, ([] : List T_Formula))] : List T_Formula)))
            else
              if r2.1 == 0 then
                (rec_world_theory x1 r2.2).bind fun r7 =>
                ((e_world_two n_) 5 (fm (4, [], ([fm (3, x3, ([] : List T_Formula))] : List T_Formula))) r7).bind fun r8 =>
                some r8
              else
                if r2.2 == r4 then
                  (rec_world_theory x1 r2.1).bind fun r9 =>
                  ((e_world_two n_) 6 (fm (4, [], ([fm (3, x3, ([] : List T_Formula))] : List T_Formula))) r9).bind fun r10 =>
                  some r10
                else
                  if r2.2 == 0 then
                    (rec_world_theory x1 r2.1).bind fun r11 =>
                    ((e_world_two n_) 5 (fm (3, x2, ([] : List T_Formula))) r11).bind fun r12 =>
                    some r12
                  else
                    (rec_world_theory x1 r2.1).bind fun r13 =>
                    ((e_world_two n_) 5 (fm (3, x2, ([] : List T_Formula))) r13).bind fun r14 =>
                    (rec_world_theory x1 r2.2).bind fun r15 =>
                    ((e_world_two n_) 5 (fm (4, [], ([fm (3, x3, ([] : List T_Formula))] : List T_Formula))) r15).bind fun r16 =>
                    ((e_world_two n_) 6 r14 r16).bind fun r17 =>
                    some r17
theorem lef_world_theory (n_ : Nat) {rec_world_theory rec_world_theory' : (List Str) → Int → Option T_Formula} (h_rec_world_theory : ∀ u0 u1, Le (rec_world_theory u0 u1) (rec_world_theory' u0 u1)) (y0 : List Str) (y1 : Int) : Le (fe_world_theory n_ rec_world_theory y0 y1) (F_world_theory rec_world_theory' y0 y1) := by
  unfold fe_world_theory F_world_theory
  repeat with_reducible (first | intro _ | apply h_rec_world_theory | apply le_world_two | apply le_world_split | apply le_world_whole | exact Le.refl _ | apply Le.ite | apply Le.seqE | apply Le.bind | apply Le.lp | exact Le.none _)
def ke_world_theory (n_ : Nat) : Nat → (List Str) → Int → Option T_Formula
  | 0 => fun _ _ => none
  | k + 1 => fun y0 y1 => (fe_world_theory n_) ((ke_world_theory n_) k) y0 y1
theorem lek_world_theory (n_ : Nat) : ∀ (k m : Nat), k ≤ m → ∀ u0 u1, Le (ke_world_theory n_ k u0 u1) (k_world_theory m u0 u1)
  | 0, _, _ => fun u0 u1 => Le.none _
  | k + 1, m, h => fun u0 u1 => by
    obtain ⟨m, rfl⟩ : ∃ q, m = q + 1 := ⟨m - 1, by omega⟩
    exact lef_world_theory n_ (lek_world_theory n_ k m (by omega)) _ _
def e_world_theory (n_ : Nat) (y0 : List Str) (y1 : Int) : Option T_Formula :=
  ke_world_theory n_ n_ y0 y1
theorem le_world_theory (n_ : Nat) (y0 : List Str) (y1 : Int) : Le (e_world_theory n_ y0 y1) (m_world_theory y0 y1) := Le.lim n_ fun m h => lek_world_theory n_ n_ m h _ _
def e_world_Theory (n_ : Nat) (y0 : List Str) (y1 : Int) : Option (T_Formula × Int) :=
  ((e_world_Valid n_) y0).bind fun r1 =>
  if !r1 then
    some (fm (0, [], ([] : List T_Formula)), 1)
  else
    ((e_world_All n_) y0).bind fun r2 =>
    ((e_world_theory n_) y0 (band .u64 y1 r2)).bind fun r3 =>
    some (r3, 0)
theorem le_world_Theory (n_ : Nat) (y0 : List Str) (y1 : Int) : Le (e_world_Theory n_ y0 y1) (m_world_Theory y0 y1) := by
  unfold e_world_Theory m_world_Theory
  repeat with_reducible (first | intro _ | apply le_world_theory | apply le_world_All | apply le_world_Valid | exact Le.refl _ | apply Le.ite | apply Le.seqE | apply Le.bind | apply Le.lp | exact Le.none _)
def e_report_Order_L1 (n_ : Nat) (r1 : (List Int)) (y0 : T_Order) (s1 : (List Str) × Int) : Option (((List Str) × Int) ⊕ (List Str)) :=
  if decide (s1.2 < (len r1)) then
    (idx r1 s1.2).bind fun x1 =>
    ((e_world_Theory n_) y0.1 x1).bind fun r2 =>
    ((e_formula_Format n_) r2.1).bind fun r3 =>
    ((e_report_number n_) s1.2).bind fun r4 =>
    (cat r4 [58, 32]).bind fun x2 =>
    (cat x2 r3.1).bind fun x3 =>
    (app s1.1 ([x3] : List Str)).bind fun x4 =>
    some (.inl (x4, w64 (s1.2 + 1)))
  else
    some (.inr s1.1)
theorem le_report_Order_L1 (n_ : Nat) (r1 : (List Int)) (y0 : T_Order) (s1 : (List Str) × Int) : Le (e_report_Order_L1 n_ r1 y0 s1) (m_report_Order_L1 r1 y0 s1) := by
  unfold e_report_Order_L1 m_report_Order_L1
  repeat with_reducible (first | intro _ | apply le_report_number | apply le_formula_Format | apply le_world_Theory | exact Le.refl _ | apply Le.ite | apply Le.seqE | apply Le.bind | apply Le.lp | exact Le.none _)
def e_report_Order (n_ : Nat) (y0 : T_Order) : Option (List Str) :=
  ((e_order_Levels n_) y0).bind fun r1 =>
  (lp n_) ((e_report_Order_L1 n_) r1 y0) (([] : List Str), 0)
theorem le_report_Order (n_ : Nat) (y0 : T_Order) : Le (e_report_Order n_ y0) (m_report_Order y0) := by
  unfold e_report_Order m_report_Order
  repeat with_reducible (first | intro _ | apply le_report_Order_L1 | apply le_order_Levels | exact Le.refl _ | apply Le.ite | apply Le.seqE | apply Le.bind | apply Le.lp | exact Le.none _)
def e_law42_awake (n_ : Nat) : Option Bool :=
  ((e_keep_Voc n_) 2).bind fun r1 =>
  ((e_report_Order n_) (r1, ([2, 1, 2, 0] : List Int))).bind fun r2 =>
  ((e_keep_Voc n_) 2).bind fun r3 =>
  (idx r3 0).bind fun x1 =>
  ((e_keep_Voc n_) 2).bind fun r4 =>
  (idx r4 1).bind fun x2 =>
  (cat [48, 58, 32] x1).bind fun x3 =>
  (cat x3 [32, 38, 32]).bind fun x4 =>
  (cat x4 x2).bind fun x5 =>
  (cat [49, 58, 32] x1).bind fun x6 =>
  (cat x6 [32, 38, 32, 126]).bind fun x7 =>
  (cat x7 x2).bind fun x8 =>
  (cat [50, 58, 32, 126] x1).bind fun x9 =>
  ((e_ref42_Same n_) r2 ([x5, x8, x9] : List Str)).bind fun r5 =>
  some r5
theorem le_law42_awake (n_ : Nat) : Le (e_law42_awake n_ ) (m_law42_awake ) := by
  unfold e_law42_awake m_law42_awake
  repeat with_reducible (first | intro _ | apply le_ref42_Same | apply le_report_Order | apply le_keep_Voc | exact Le.refl _ | apply Le.ite | apply Le.seqE | apply Le.bind | apply Le.lp | exact Le.none _)
def fe_ref42_digits (n_ : Nat) (rec_ref42_digits : Int → Option Str) (y0 : Int) : Option Str :=
  if decide (y0 < 10) then
    some (strOf ([IntKind.u8.wrap (w64 (48 + y0))] : List Int))
  else
    (
      (quoK .i64 y0 10).bind fun x1 =>
      (remK y0 10).bind fun x2 =>
      (rec_ref42_digits x1).bind fun r1 =>
      (cat r1 (strOf ([IntKind.u8.wrap (w64 (48 + x2))] : List Int))).bind fun x3 =>
      some x3 : Option Str).bind fun s1 =>
    some s1
theorem lef_ref42_digits (n_ : Nat) {rec_ref42_digits rec_ref42_digits' : Int → Option Str} (h_rec_ref42_digits : ∀ u0, Le (rec_ref42_digits u0) (rec_ref42_digits' u0)) (y0 : Int) : Le (fe_ref42_digits n_ rec_ref42_digits y0) (F_ref42_digits rec_ref42_digits' y0) := by
  unfold fe_ref42_digits F_ref42_digits
  repeat with_reducible (first | intro _ | apply h_rec_ref42_digits | exact Le.refl _ | apply Le.ite | apply Le.seqE | apply Le.bind | apply Le.lp | exact Le.none _)
def ke_ref42_digits (n_ : Nat) : Nat → Int → Option Str
  | 0 => fun _ => none
  | k + 1 => fun y0 => (fe_ref42_digits n_) ((ke_ref42_digits n_) k) y0
theorem lek_ref42_digits (n_ : Nat) : ∀ (k m : Nat), k ≤ m → ∀ u0, Le (ke_ref42_digits n_ k u0) (k_ref42_digits m u0)
  | 0, _, _ => fun u0 => Le.none _
  | k + 1, m, h => fun u0 => by
    obtain ⟨m, rfl⟩ : ∃ q, m = q + 1 := ⟨m - 1, by omega⟩
    exact lef_ref42_digits n_ (lek_ref42_digits n_ k m (by omega)) _
def e_ref42_digits (n_ : Nat) (y0 : Int) : Option Str :=
  ke_ref42_digits n_ n_ y0
theorem le_ref42_digits (n_ : Nat) (y0 : Int) : Le (e_ref42_digits n_ y0) (m_ref42_digits y0) := Le.lim n_ fun m h => lek_ref42_digits n_ n_ m h _
end
section
theorem dlg_awake : m_law42_awake = some true := (le_law42_awake 60).el true (by kernel_rfl)
def digT : Bool := (List.range 100).all fun k => match e_report_number 60 (k : Int), e_ref42_digits 60 (k : Int) with
  | some a, some b => a == b && decide (a.length ≤ 2)
  | _, _ => false
theorem dig_ok : DigOk := fun k hk => by
  have h : digT = true := by kernel_rfl
  have h := List.all_eq_true.1 h k (List.mem_range.2 hk)
  cases h1 : e_report_number 60 (k : Int) with
  | none => rw [h1] at h; cases h
  | some a =>
    cases h2 : e_ref42_digits 60 (k : Int) with
    | none => rw [h1, h2] at h; cases h
    | some b =>
      rw [h1, h2] at h
      simp only [Bool.and_eq_true, beq_iff_eq, decide_eq_true_eq] at h
      obtain ⟨rfl, h3⟩ := h
      exact ⟨a, (le_report_number 60 _).el a h1, (le_ref42_digits 60 _).el a h2, h3⟩
theorem p_law42_ReportDialogues (y0 : List Int) {W0 : Prop} (_w0 : W0) : m_law42_ReportDialogues y0 = some true := p_ReportDialogues dlg_awake dig_ok y0
end

end Go.GD
