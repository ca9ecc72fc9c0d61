/- The plain law: what the models compute, in plain Lean. Conditions: none. -/
import Derived.Test.YtofmfdlkalakaaaGreatDoorLib
import Derived.Test.YtofmfdlkalakaaaGreatDoorModels
import Derived.Lib.TrailingZeros
import Derived.Test.YtofmfdlkalakaaaGreatDoorJoin
namespace Go.GD
set_option autoImplicit false

section
abbrev T_Literal := Bool × Str
abbrev T_Premise := T_Literal × Int × Int × Str
abbrev T_Rule := Str × Bool × Int × (List T_Literal) × T_Literal
abbrev T_Promotion := Str × Int × T_Literal
abbrev T_Base := (List T_Premise) × (List T_Rule) × (List T_Promotion)
abbrev T_Argument := Int × Int × (List Int) × T_Literal
noncomputable def m_slices_Equal_Pair_L1 (y0 : List T_Pair) (y1 : List T_Pair) (s1 : Int) : Option (Int ⊕ Bool) :=
  if decide (s1 < (len y0)) then
    (idx y0 s1).bind fun x1 =>
    (idx y1 s1).bind fun x2 =>
    if !(x1 == x2) then
      some (.inr false)
    else
      some (.inl (w64 (s1 + 1)))
  else
    some (.inr true)
noncomputable def m_slices_Equal_Pair (y0 : List T_Pair) (y1 : List T_Pair) : Option Bool :=
  if (len y0) != (len y1) then
    some false
  else
    loop (m_slices_Equal_Pair_L1 y0 y1) 0
noncomputable def m_slices_Equal_Move_L1 (y0 : List T_Move) (y1 : List T_Move) (s1 : Int) : Option (Int ⊕ Bool) :=
  if decide (s1 < (len y0)) then
    (idx y0 s1).bind fun x1 =>
    (idx y1 s1).bind fun x2 =>
    if !(x1 == x2) then
      some (.inr false)
    else
      some (.inl (w64 (s1 + 1)))
  else
    some (.inr true)
noncomputable def m_slices_Equal_Move (y0 : List T_Move) (y1 : List T_Move) : Option Bool :=
  if (len y0) != (len y1) then
    some false
  else
    loop (m_slices_Equal_Move_L1 y0 y1) 0
noncomputable def m_ref30_Replay_L1 (y0 : T_Transcript) (s3 : Int × Int × (List T_Pair) × Int × Int × Int × (List T_Move)) : Option ((Int × Int × (List T_Pair) × Int × Int × Int × (List T_Move)) ⊕ ((Int × (List T_Pair) × Int × Int × Int × (List T_Move)) ⊕ (T_Dialogue × Int × Int))) :=
  if decide (s3.1 < (len y0.2.2.2)) then
    (
      (idx y0.2.2.2 s3.1).bind fun x3 =>
      (m_ref27_Apply ((s3.2.1, s3.2.2.1), s3.2.2.2.1, (s3.2.2.2.2.1, s3.2.2.2.2.2.1), s3.2.2.2.2.2.2) x3).bind fun r2 =>
      some (r2.2, r2.1) : Option (Int × T_Dialogue)).bind fun s4 =>
    if s4.1 != 0 then
      some (.inr (.inr (((s3.2.1, s3.2.2.1), s3.2.2.2.1, (s3.2.2.2.2.1, s3.2.2.2.2.2.1), s3.2.2.2.2.2.2), s3.1, s4.1)))
    else
      (idx s4.2.2.2.2 s3.1).bind fun x4 =>
      (idx y0.2.2.2 s3.1).bind fun x5 =>
      if !(x4 == x5) then
        some (.inr (.inr (((s3.2.1, s3.2.2.1), s3.2.2.2.1, (s3.2.2.2.2.1, s3.2.2.2.2.2.1), s3.2.2.2.2.2.2), s3.1, 7)))
      else
        some (.inl (w64 (s3.1 + 1), s4.2.1.1, s4.2.1.2, s4.2.2.1, s4.2.2.2.1.1, s4.2.2.2.1.2, s4.2.2.2.2))
  else
    some (.inr (.inl (s3.2.1, s3.2.2.1, s3.2.2.2.1, s3.2.2.2.2.1, s3.2.2.2.2.2.1, s3.2.2.2.2.2.2)))
noncomputable def m_ref30_Replay (y0 : T_Transcript) : Option (T_Dialogue × Int × Int) :=
  (m_ref27_New y0.1 y0.2.1 y0.2.2.1).bind fun r1 =>
  if r1.2 != 0 then
    some (((0, ([] : List T_Pair)), 0, (0, 0), ([] : List T_Move)), 0, r1.2)
  else
    (
      if (len y0.2.2.2) == 0 then
        some true
      else
        (idx y0.2.2.2 0).bind fun x1 =>
        (idx r1.1.2.2.2 0).bind fun x2 =>
        some (!(x1 == x2)) : Option Bool).bind fun s1 =>
    if s1 then
      some (r1.1, 0, 7)
    else
      seqE (loop (m_ref30_Replay_L1 y0) (1, r1.1.1.1, r1.1.1.2, r1.1.2.1, r1.1.2.2.1.1, r1.1.2.2.1.2, r1.1.2.2.2) : Option ((Int × (List T_Pair) × Int × Int × Int × (List T_Move)) ⊕ (T_Dialogue × Int × Int))) fun s2 =>
      some (((s2.1, s2.2.1), s2.2.2.1, (s2.2.2.2.1, s2.2.2.2.2.1), s2.2.2.2.2.2), len y0.2.2.2, 0)
end
section
theorem w64_id {x : Int} (h1 : -9223372036854775808 ≤ x) (h2 : x < 9223372036854775808) : w64 x = x := by
  simp only [w64, IntKind.wrap, IntKind.signed, IntKind.bits]
  simp; omega
theorem w64_succ (n : Nat) (h : n + 1 < 9223372036854775808) : w64 ((n : Int) + 1) = ((n + 1 : Nat) : Int) := by rw [w64_id (by omega) (by omega)]; omega
theorem idx_nat {α : Type} (l : List α) (i : Nat) : idx l (i : Int) = l[i]? := by simp [idx]
theorem idx_some {α : Type} {l : List α} {i : Int} (h0 : 0 ≤ i) (h1 : i < l.length) : ∃ x, idx l i = some x ∧ l[i.toNat]? = some x := by
  have : l[i.toNat]? = some l[i.toNat] := List.getElem?_eq_getElem (by omega)
  exact ⟨_, by simp [idx, h0, this], this⟩
theorem app_ok {α : Type} {l m : List α} (h : l.length + m.length < 4294967296) : app l m = some (l ++ m) := by simp [app, h]
theorem sub_ok {α : Type} {l : List α} {i j : Int} (h0 : 0 ≤ i) (h1 : i ≤ j) (h2 : j ≤ l.length) : sub l i j = some ((l.take j.toNat).drop i.toNat) := by simp [sub, h0, h1, h2]
theorem sub_pre {α : Type} {l : List α} {j : Int} (h1 : 0 ≤ j) (h2 : j ≤ l.length) : sub l 0 j = some (l.take j.toNat) := by simp [sub, h1, h2]
/-- a walk along a list -/
def runL {σ ρ α : Type} (step : Nat → σ → α → Option (σ ⊕ ρ)) (fin : σ → Option ρ) : Nat → List α → σ → Option ρ
  | _, [], s => fin s
  | i, x :: l, s => match step i s x with
    | none => none
    | some (.inl s') => runL step fin (i + 1) l s'
    | some (.inr r) => some r
theorem loop_runL {σ ρ α τ : Type} {B : τ → Option (τ ⊕ ρ)} (mk : Nat → σ → τ) (l : List α) (step : Nat → σ → α → Option (σ ⊕ ρ)) (fin : σ → Option ρ)
    (hB : ∀ i x s, l[i]? = some x → B (mk i s) = (step i s x).map fun o => match o with | .inl s' => .inl (mk (i + 1) s') | .inr r => .inr r)
    (he : ∀ s, B (mk l.length s) = (fin s).map .inr) : ∀ (n i : Nat) (s : σ), i + n = l.length → loop B (mk i s) = runL step fin i (l.drop i) s := by
  intro n
  induction n with
  | zero =>
    intro i s h
    rw [Nat.add_zero] at h
    subst h
    rw [loop_eq, he, List.drop_length]
    cases hf : fin s <;> simp [runL, hf]
  | succ n ih =>
    intro i s h
    have hx : l[i]? = some l[i] := List.getElem?_eq_getElem (by omega)
    rw [loop_eq, hB i _ s hx, List.drop_eq_getElem_cons (by omega)]
    cases hs : step i s l[i] with
    | none => simp [runL, hs]
    | some o =>
      cases o with
      | inl s' => simp only [Option.map_some, runL, hs]; exact ih (i + 1) s' (by omega)
      | inr r => simp [runL, hs]
theorem loop_runL0 {σ ρ α τ : Type} {B : τ → Option (τ ⊕ ρ)} (mk : Nat → σ → τ) (l : List α) (step : Nat → σ → α → Option (σ ⊕ ρ)) (fin : σ → Option ρ)
    (hB : ∀ i x s, l[i]? = some x → B (mk i s) = (step i s x).map fun o => match o with | .inl s' => .inl (mk (i + 1) s') | .inr r => .inr r)
    (he : ∀ s, B (mk l.length s) = (fin s).map .inr) (s : σ) : loop B (mk 0 s) = runL step fin 0 l s := by
  have := loop_runL mk l step fin hB he l.length 0 s (by omega)
  simpa using this
/-- a loop that goes through to its end -/
theorem loop_for {ρ α : Type} {B : Int → Option (Int ⊕ ρ)} {l : List α} {r : ρ} (hB : ∀ (i : Nat) (x : α), l[i]? = some x → B (i : Int) = some (.inl ((i + 1 : Nat) : Int)))
    (he : B (l.length : Int) = some (.inr r)) : loop B 0 = some r := by
  have h := loop_runL0 (B := B) (fun i (_ : Unit) => (i : Int)) l (fun _ _ _ => some (.inl ())) (fun _ => some r) (fun i x s hx => by simp [hB i x hx]) (fun s => by simp [he]) ()
  have key : ∀ (l : List α) (i : Nat), runL (fun _ (_ : Unit) (_ : α) => some (.inl ())) (fun _ => some r) i l () = some r := by
    intro l
    induction l with
    | nil => intro i; rfl
    | cons x l ih => intro i; exact ih (i + 1)
  rw [key] at h
  exact h
/-- the same, with a state of which I holds -/
theorem loop_forI {ρ α σ τ : Type} {B : τ → Option (τ ⊕ ρ)} (mk : Nat → σ → τ) (l : List α) (I : Nat → σ → Prop) (Q : ρ → Prop)
    (hB : ∀ i x s, l[i]? = some x → I i s → (∃ s', B (mk i s) = some (.inl (mk (i + 1) s')) ∧ I (i + 1) s') ∨ ∃ r, B (mk i s) = some (.inr r) ∧ Q r)
    (he : ∀ s, I l.length s → ∃ r, B (mk l.length s) = some (.inr r) ∧ Q r) : ∀ s, I 0 s → ∃ r, loop B (mk 0 s) = some r ∧ Q r := by
  have key : ∀ n i s, i + n = l.length → I i s → ∃ r, loop B (mk i s) = some r ∧ Q r := by
    intro n
    induction n with
    | zero =>
      intro i s h hI
      rw [Nat.add_zero] at h
      subst h
      obtain ⟨r, h1, h2⟩ := he s hI
      exact ⟨r, by rw [loop_eq, h1], h2⟩
    | succ n ih =>
      intro i s h hI
      have hx : l[i]? = some l[i] := List.getElem?_eq_getElem (by omega)
      rcases hB i _ s hx hI with ⟨s', h1, h2⟩ | ⟨r, h1, h2⟩
      · obtain ⟨r, h3, h4⟩ := ih (i + 1) s' (by omega) h2
        exact ⟨r, by rw [loop_eq, h1]; exact h3, h4⟩
      · exact ⟨r, by rw [loop_eq, h1], h2⟩
  exact fun s hI => key l.length 0 s (by omega) hI
end
section
/-- the reader's state as it is kept -/
structure SrcOk (s : T_keep_Src) : Prop where
  lo : 0 ≤ s.2
  hi : s.2 ≤ s.1.length
  small : s.1.length ≤ 2000
theorem keep_New (l : List Int) : m_keep_New l = some (l.take 2000, 0) := by
  unfold m_keep_New
  by_cases h : 2000 < len l
  · rw [if_pos h, sub_pre (by omega) (by simp [len] at h; omega)]; rfl
  · rw [if_neg h, sub_pre (by simp [len]) (by simp [len])]
    simp only [Option.bind_some]
    rw [List.take_of_length_le (by simp), List.take_of_length_le (by simp [len] at h; omega)]
theorem srcOk_New (l : List Int) : SrcOk (l.take 2000, 0) := ⟨Int.le_refl _, by simp, by simp; omega⟩
theorem keep_Raw {s : T_keep_Src} (h : SrcOk s) : ∃ v k, m_keep_Src_Raw s = some (v, k) ∧ SrcOk (s.1, k) := by
  obtain ⟨h1, h2, h3⟩ := h
  unfold m_keep_Src_Raw
  by_cases hk : len s.1 ≤ s.2
  · exact ⟨0, s.2, by simp [hk], h1, h2, h3⟩
  · have hk' : s.2 < s.1.length := by simpa [len] using hk
    obtain ⟨x, hx, _⟩ := idx_some h1 hk'
    refine ⟨x, s.2 + 1, ?_, by show (0 : Int) ≤ s.2 + 1; omega, by show s.2 + 1 ≤ (s.1.length : Int); omega, h3⟩
    simp only [hk, decide_false, Bool.false_eq_true, if_false]
    rw [w64_id (x := s.2 + 1) (by omega) (by omega), show s.2 + 1 - 1 = s.2 by omega, w64_id (by omega) (by omega), hx]; rfl
theorem keep_Mod {x n : Int} (h0 : 1 ≤ n) (h1 : n ≤ 4611686018427387904) : ∃ v, m_keep_Mod x n = some v ∧ 0 ≤ v ∧ v < n := by
  unfold m_keep_Mod
  have hn : ¬ n < 1 := by omega
  have hn0 : n ≠ 0 := by omega
  simp only [hn, decide_false, Bool.false_eq_true, if_false, remK, hn0, Option.bind_some]
  have ha := Int.tmod_lt_of_pos x (show 0 < n by omega)
  have hb : -n < x.tmod n := by
    have := Int.lt_tmod_of_pos x (show 0 < n by omega)
    exact this
  by_cases hx : x.tmod n < 0
  · exact ⟨x.tmod n + n, by simp [hx, w64_id (x := x.tmod n + n) (by omega) (by omega)], by omega, by omega⟩
  · exact ⟨x.tmod n, by simp [hx], by omega, ha⟩
theorem keep_N {s : T_keep_Src} {n : Int} (h : SrcOk s) (h0 : 1 ≤ n) (h1 : n ≤ 4611686018427387904) : ∃ v k, m_keep_Src_N s n = some (v, k) ∧ 0 ≤ v ∧ v < n ∧ SrcOk (s.1, k) := by
  obtain ⟨v, k, hr, hk⟩ := keep_Raw h
  obtain ⟨u, hu, h2, h3⟩ := keep_Mod (x := v) h0 h1
  exact ⟨u, k, by simp [m_keep_Src_N, hr, hu], h2, h3, hk⟩
end
section
section
variable {α : Type} [BEq α]
/-- adjacent repetitions left out -/
def dd (a : α) : List α → List α
  | [] => []
  | b :: r => if a == b then dd b r else b :: dd b r
end
section
variable {α : Type} {lt : α → α → Bool}
/-- a strict order in which two that do not differ are one -/
structure Ord1 (lt : α → α → Bool) : Prop where
  irrefl : ∀ x, lt x x = false
  trans : ∀ x y z, lt x y = true → lt y z = true → lt x z = true
  tri : ∀ x y, lt x y = true ∨ x = y ∨ lt y x = true
abbrev Asc (lt : α → α → Bool) (l : List α) : Prop := l.Pairwise fun x y => lt x y = true
theorem Ord1.asymm (O : Ord1 lt) {x y : α} (h : lt x y = true) : lt y x = false := by
  cases hb : lt y x with
  | false => rfl
  | true => have := O.trans _ _ _ h hb; rw [O.irrefl] at this; cases this
/-- two ascending lists with the same elements are one -/
theorem Asc.ext (O : Ord1 lt) : ∀ {l m : List α}, Asc lt l → Asc lt m → (∀ x, x ∈ l ↔ x ∈ m) → l = m
  | [], [], _, _, _ => rfl
  | [], y :: m, _, _, h => by have := (h y).2 (List.mem_cons_self); cases this
  | x :: l, [], _, _, h => by have := (h x).1 (List.mem_cons_self); cases this
  | x :: l, y :: m, hl, hm, h => by
    obtain ⟨h1, h2⟩ := List.pairwise_cons.1 hl
    obtain ⟨h3, h4⟩ := List.pairwise_cons.1 hm
    have hxy : x = y := by
      rcases List.mem_cons.1 ((h x).1 (List.mem_cons_self)) with h5 | h5
      · exact h5
      · rcases List.mem_cons.1 ((h y).2 (List.mem_cons_self)) with h6 | h6
        · exact h6.symm
        · have := O.asymm (h3 x h5); rw [h1 y h6] at this; cases this
    subst hxy
    congr 1
    refine Asc.ext O h2 h4 fun z => ⟨fun hz => ?_, fun hz => ?_⟩
    · rcases List.mem_cons.1 ((h z).1 (List.mem_cons_of_mem _ hz)) with rfl | h5
      · have := h1 z hz; rw [O.irrefl] at this; cases this
      · exact h5
    · rcases List.mem_cons.1 ((h z).2 (List.mem_cons_of_mem _ hz)) with rfl | h5
      · have := h3 z hz; rw [O.irrefl] at this; cases this
      · exact h5
end
section
variable {α : Type} [BEq α]
noncomputable def indexL (y0 : List α) (y1 : α) (s1 : Int) : Option (Int ⊕ Int) :=
  if decide (s1 < (len y0)) then
    (idx y0 s1).bind fun x1 =>
    if y1 == x1 then
      some (.inr s1)
    else
      some (.inl (w64 (s1 + 1)))
  else
    some (.inr (-1))
noncomputable def indexM (y0 : List α) (y1 : α) : Option Int := loop (indexL y0 y1) 0
theorem indexM_spec (l : List α) (x : α) (hb : l.length < 9223372036854775807) : ∃ r, indexM l x = some r ∧ (0 ≤ r ↔ ∃ y ∈ l, x == y) := by
  have h := loop_forI (B := indexL l x) (fun i (_ : Unit) => (i : Int)) l (fun i _ => ∀ j y, j < i → l[j]? = some y → (x == y) = false) (fun r => (0 ≤ r ↔ ∃ y ∈ l, x == y)) ?_ ?_ () (by simp)
  · exact h
  · intro i y s hy hI
    have hi := (List.getElem?_eq_some_iff.1 hy).1
    have hlt : decide ((i : Int) < len l) = true := by simp [len]; omega
    unfold indexL
    simp only [hlt, if_true, idx_nat, hy, Option.bind_some]
    cases hxy : x == y with
    | true => exact .inr ⟨_, rfl, ⟨fun _ => ⟨y, List.mem_of_getElem? hy, hxy⟩, fun _ => by omega⟩⟩
    | false =>
      refine .inl ⟨(), by simp [w64_succ i (by omega)], fun j z hj hz => ?_⟩
      rcases Nat.lt_succ_iff_lt_or_eq.1 hj with h | rfl
      · exact hI j z h hz
      · rw [hy] at hz; cases hz; exact hxy
  · intro s hI
    unfold indexL
    refine ⟨-1, by simp [len], ⟨fun h => by omega, fun ⟨y, hy, hxy⟩ => ?_⟩⟩
    obtain ⟨j, hj⟩ := List.mem_iff_getElem?.1 hy
    rw [hI j y (List.getElem?_eq_some_iff.1 hj).1 hj] at hxy
    cases hxy
end
end
section
/-- whatever the one answers, the other answers -/
structure Le {α : Type} (a b : Option α) : Prop where
  el : ∀ r, a = some r → b = some r
theorem Le.refl {α : Type} (a : Option α) : Le a a := ⟨fun _ h => h⟩
theorem Le.bind {α β : Type} {a b : Option α} {f g : α → Option β} (h : Le a b) (k : ∀ x, Le (f x) (g x)) : Le (a.bind f) (b.bind g) := ⟨fun r hr => by
  cases a with
  | none => cases hr
  | some x => rw [h.el x rfl]; exact (k x).el r hr⟩
theorem Le.ite {α : Type} {c : Prop} [Decidable c] {a b a' b' : Option α} (h : Le a b) (k : Le a' b') : Le (if c then a else a') (if c then b else b') := by
  split
  · exact h
  · exact k
theorem Le.seqE {σ α : Type} {a b : Option (σ ⊕ α)} {f g : σ → Option α} (h : Le a b) (k : ∀ x, Le (f x) (g x)) : Le (seqE a f) (seqE b g) :=
  Le.bind h fun o => by
    cases o with
    | inl s => exact k s
    | inr r => exact Le.refl _
theorem Le.none {α : Type} (b : Option α) : Le none b := ⟨fun _ h => nomatch h⟩
abbrev lp {σ ρ : Type} (n : Nat) (B : σ → Option (σ ⊕ ρ)) (s : σ) : Option ρ := iter B n s
theorem Le.lp {σ ρ : Type} {B C : σ → Option (σ ⊕ ρ)} (h : ∀ s, Le (B s) (C s)) (n : Nat) (s : σ) : Le (lp n B s) (loop C s) := by
  refine ⟨fun r hr => ?_⟩
  refine loop_of_iter (n := n) ?_
  revert s
  induction n with
  | zero => intro s hr; cases hr
  | succ n ih =>
    intro s hr
    simp only [iter] at hr ⊢
    cases hb : B s with
    | none => rw [hb] at hr; cases hr
    | some o =>
      rw [hb] at hr
      rw [(h s).el o hb]
      cases o with
      | inl s' => exact ih s' hr
      | inr r' => exact hr
theorem Le.lim {α : Type} {a : Option α} {f : Nat → Option α} (n : Nat) (h : ∀ m, n ≤ m → Le a (f m)) : Le a (limM f) := ⟨fun r hr => limM_of n fun m hm => (h m hm).el r hr⟩
end
section
abbrev ltI (x y : Int) : Bool := decide (x < y)
abbrev cmpI (x y : Int) : Int := if x < y then -1 else if y < x then 1 else 0
/-- the first number that is not 0 -/
def orF : List Int → Int
  | [] => 0
  | x :: r => if x != 0 then x else orF r
/-- first by the one, then by the other -/
abbrev lexLt {α β : Type} [BEq α] (lt1 : α → α → Bool) (lt2 : β → β → Bool) (x y : α × β) : Bool := lt1 x.1 y.1 || (x.1 == y.1 && lt2 x.2 y.2)
theorem ord_ltI : Ord1 ltI := ⟨fun x => by simp, fun x y z h1 h2 => by simp at *; omega, fun x y => by simp; omega⟩
theorem ord_lex {α β : Type} [BEq α] [LawfulBEq α] {lt1 : α → α → Bool} {lt2 : β → β → Bool} (O1 : Ord1 lt1) (O2 : Ord1 lt2) : Ord1 (lexLt lt1 lt2) := by
  refine ⟨fun x => by simp [O1.irrefl, O2.irrefl], fun x y z h1 h2 => ?_, fun x y => ?_⟩
  · simp only [lexLt, Bool.or_eq_true, Bool.and_eq_true, beq_iff_eq] at *
    rcases h1 with h1 | ⟨h1, h1'⟩ <;> rcases h2 with h2 | ⟨h2, h2'⟩
    · exact .inl (O1.trans _ _ _ h1 h2)
    · exact .inl (h2 ▸ h1)
    · exact .inl (h1 ▸ h2)
    · exact .inr ⟨h1.trans h2, O2.trans _ _ _ h1' h2'⟩
  · obtain ⟨a, b⟩ := x; obtain ⟨c, d⟩ := y
    simp only [lexLt, Bool.or_eq_true, Bool.and_eq_true, beq_iff_eq, Prod.mk.injEq]
    rcases O1.tri a c with h | rfl | h
    · exact .inl (.inl h)
    · rcases O2.tri b d with h | rfl | h
      · exact .inl (.inr ⟨rfl, h⟩)
      · exact .inr (.inl ⟨rfl, rfl⟩)
      · exact .inr (.inr (.inr ⟨rfl, h⟩))
    · exact .inr (.inr (.inl h))
noncomputable def orL (y0 : List Int) (s1 : Int) : Option (Int ⊕ Int) :=
  if decide (s1 < (len y0)) then
    (idx y0 s1).bind fun x1 =>
    if x1 != 0 then
      some (.inr x1)
    else
      some (.inl (w64 (s1 + 1)))
  else
    some (.inr 0)
theorem orL_spec (l : List Int) (hb : l.length < 9223372036854775807) : loop (orL l) 0 = some (orF l) := by
  have h := loop_runL0 (B := orL l) (fun i (_ : Unit) => (i : Int)) l (fun _ _ x => if x != 0 then some (.inr x) else some (.inl ())) (fun _ => some 0) (fun i x s hx => ?_) (fun s => by simp [orL, len]) ()
  · have key : ∀ (l : List Int) (i : Nat), runL (fun _ (_ : Unit) (x : Int) => if x != 0 then some (Sum.inr x) else some (.inl ())) (fun _ => some 0) i l () = some (orF l) := by
      intro l
      induction l with
      | nil => intro i; rfl
      | cons x l ih =>
        intro i
        by_cases hx : x = 0
        · subst hx; exact ih (i + 1)
        · simp [runL, orF, hx]
    rw [key] at h
    exact h
  · have hi := (List.getElem?_eq_some_iff.1 hx).1
    unfold orL
    have hlt : decide ((i : Int) < len l) = true := by simp [len]; omega
    simp only [hlt, if_true, idx_nat, hx, Option.bind_some]
    by_cases h0 : x = 0
    · subst h0; simp [w64_succ i (by omega)]
    · simp [h0]
section
variable {α : Type} {lt : α → α → Bool}
end
end
section
section
variable {α : Type} {l : List α} {i : Nat} {x : α}
theorem at_lt (h : l[i]? = some x) : i < l.length := (List.getElem?_eq_some_iff.1 h).1
theorem at_dec (h : l[i]? = some x) : decide ((i : Int) < len l) = true := by have := at_lt h; simp [len]; omega
theorem end_dec (l : List α) : decide (((l.length : Nat) : Int) < len l) = false := by simp [len]
theorem at_idx (h : l[i]? = some x) : idx l (i : Int) = some x := by rw [idx_nat]; exact h
theorem at_suc (h : l[i]? = some x) (hl : l.length < 4294967296) : w64 ((i : Int) + 1) = ((i + 1 : Nat) : Int) := w64_succ i (by have := at_lt h; omega)
theorem take_suc (h : l[i]? = some x) : l.take (i + 1) = l.take i ++ [x] := by rw [List.take_add_one, h]; rfl
theorem mem_at (h : l[i]? = some x) : x ∈ l := List.mem_of_getElem? h
end
section
variable {α σ ρ : Type}
/-- is there one? the answer at the first -/
theorem loop_find {B : Int → Option (Int ⊕ ρ)} (l : List α) (p : α → Bool) (yes no : ρ)
    (hB : ∀ (i : Nat) x, l[i]? = some x → B (i : Int) = some (if p x then .inr yes else .inl ((i + 1 : Nat) : Int))) (he : B (l.length : Int) = some (.inr no)) :
    loop B 0 = some (if l.any p then yes else no) := by
  have key : ∀ (n i : Nat), i + n = l.length → loop B (i : Int) = some (if (l.drop i).any p then yes else no) := by
    intro n
    induction n with
    | zero =>
      intro i h
      rw [Nat.add_zero] at h
      subst h
      rw [loop_eq, he, List.drop_length]
      rfl
    | succ n ih =>
      intro i h
      have hx : l[i]? = some l[i] := List.getElem?_eq_getElem (by omega)
      rw [loop_eq, hB i _ hx, List.drop_eq_getElem_cons (by omega)]
      cases hp : p l[i] with
      | true => simp only [if_true, List.any_cons, hp, Bool.true_or]
      | false =>
        simp only [Bool.false_eq_true, if_false, List.any_cons, hp, Bool.false_or]
        exact ih (i + 1) (by omega)
  have := key l.length 0 (by omega)
  simpa using this
theorem loop_any {B : Int → Option (Int ⊕ Bool)} (l : List α) (p : α → Bool) (hB : ∀ (i : Nat) x, l[i]? = some x → B (i : Int) = some (if p x then .inr true else .inl ((i + 1 : Nat) : Int))) (he : B (l.length : Int) = some (.inr false)) :
    loop B 0 = some (l.any p) := by
  rw [loop_find l p true false hB he]
  cases l.any p <;> rfl
end
end
section
/-- 0, 1, .. n-1 -/
def rng (n : Nat) : List Int := (List.range n).map Int.ofNat
theorem rng_len (n : Nat) : (rng n).length = n := by simp [rng]
theorem rng_mem {n : Nat} {x : Int} : x ∈ rng n ↔ 0 ≤ x ∧ x < n := by
  simp only [rng, List.mem_map, List.mem_range]
  exact ⟨fun ⟨a, h1, h2⟩ => by subst h2; simp; omega, fun h => ⟨x.toNat, by omega, by simp; omega⟩⟩
theorem flat_le {α β : Type} (g : α → List β) (c : Nat) : ∀ (l : List α), (∀ x ∈ l, (g x).length ≤ c) → (l.flatMap g).length ≤ l.length * c
  | [], _ => by simp
  | x :: l, h => by
    have h1 := flat_le g c l fun y hy => h y (List.mem_cons_of_mem _ hy)
    have h2 := h x List.mem_cons_self
    simp only [List.flatMap_cons, List.length_append, List.length_cons, Nat.add_mul, Nat.one_mul]
    omega
section
variable {α : Type}
end
end
section
theorem cmp_int (x y : Int) : m_cmp_Compare_int x y = some (cmpI x y) := by
  unfold m_cmp_Compare_int cmpI
  by_cases h1 : x < y
  · simp [m_cmp_isNaN_int, h1]
  · by_cases h2 : y < x <;> simp [m_cmp_isNaN_int, h1, h2]
theorem or_int (l : List Int) (hb : l.length < 9223372036854775807) : m_cmp_Or_int l = some (orF l) := orL_spec l hb
abbrev lt2 : T_Pair → T_Pair → Bool := lexLt ltI ltI
theorem ord2 : Ord1 lt2 := ord_lex ord_ltI ord_ltI
theorem orF_lt {x y : Int} {r : List Int} {b : Bool} (h : decide (orF r < 0) = b) : decide (orF (cmpI x y :: r) < 0) = (ltI x y || (x == y && b)) := by
  unfold orF cmpI
  by_cases h1 : x < y
  · simp [h1]
  · by_cases h2 : y < x
    · have h3 : (x == y) = false := by simp; omega
      simp [h1, h2, h3]
    · have h3 : x = y := by omega
      subst h3
      simp [h]
end
section
/-- the other one -/
def compl (x : T_Literal) : T_Literal := (!x.1, x.2)
end
section
variable {b : T_Base} {l : List T_Argument}
/-- does the argument i attack at c, with a kind? -/
def hits (b : T_Base) (l : List T_Argument) (i c kd : Int) : Bool := match idx l i, idx l c with
  | some x, some a =>
    if decide (a.2.1 < 0) then kd == 1 && x.2.2.2 == compl a.2.2.2 && (match idx b.1 a.1 with | some p => p.2.1 != 1 | none => false)
    else match idx b.2.1 a.2.1 with
      | some r => !r.2.1 && ((kd == 2 && x.2.2.2 == compl a.2.2.2) || (kd == 3 && x.2.2.2 == (true, r.1)))
      | none => false
  | _, _ => false
end
section
theorem keep_PickI {s : T_keep_Src} {l : List Int} (h : SrcOk s) (h0 : l ≠ []) (h1 : l.length ≤ 1000) : ∃ x k, m_keep_Src_Pick s l = some (x, k) ∧ x ∈ l ∧ SrcOk (s.1, k) := by
  have hp := List.length_pos_iff.2 h0
  obtain ⟨v, k, hr, h2, h3, hk⟩ := keep_N (n := len l) h (by simp [len]; omega) (by simp [len]; omega)
  obtain ⟨x, hx, hx2⟩ := idx_some h2 h3
  exact ⟨x, k, by simp [m_keep_Src_Pick, hr, hx], List.mem_of_getElem? hx2, hk⟩
end
section
/-- there is an answer, and it is so -/
def Ok {α : Type} (x : Option α) (Q : α → Prop) : Prop := ∃ a, x = some a ∧ Q a
section
variable {α β : Type}
theorem Ok.ret {a : α} {Q : α → Prop} (h : Q a) : Ok (some a) Q := ⟨a, rfl, h⟩
theorem Ok.bind {x : Option α} {f : α → Option β} {I : α → Prop} {Q : β → Prop} (h : Ok x I) (k : ∀ a, I a → Ok (f a) Q) : Ok (x.bind f) Q := by
  obtain ⟨a, rfl, ha⟩ := h; exact k a ha
theorem Ok.ite {c : Bool} {x y : Option α} {Q : α → Prop} (hx : c = true → Ok x Q) (hy : c = false → Ok y Q) : Ok (if c = true then x else y) Q := by
  cases c with
  | true => exact hx rfl
  | false => exact hy rfl
theorem Ok.imp {x : Option α} {I Q : α → Prop} (h : Ok x I) (k : ∀ a, I a → Q a) : Ok x Q := by
  obtain ⟨a, h1, h2⟩ := h; exact ⟨a, h1, k a h2⟩
theorem Ok.idx {l : List α} {i : Int} (h0 : 0 ≤ i) (h1 : i < l.length) : Ok (idx l i) fun x => x ∈ l ∧ l[i.toNat]? = some x := by
  obtain ⟨x, h2, h3⟩ := idx_some h0 h1
  exact ⟨x, h2, List.mem_of_getElem? h3, h3⟩
theorem Ok.app {l m : List α} (h : l.length + m.length < 4294967296) : Ok (app l m) fun z => z = l ++ m := ⟨_, app_ok h, rfl⟩
end
section
variable {s : T_keep_Src}
theorem Ok.N {n : Int} (h : SrcOk s) (h0 : 0 ≤ n) (h1 : n ≤ 4611686018427387904) : Ok (m_keep_Src_N s n) fun r => 0 ≤ r.1 ∧ (1 ≤ n → r.1 < n) ∧ SrcOk (s.1, r.2) := by
  by_cases hn : 1 ≤ n
  · obtain ⟨v, k, e, a, b, c⟩ := keep_N h hn h1
    exact ⟨_, e, a, fun _ => b, c⟩
  · obtain ⟨v, k, hr, hk⟩ := keep_Raw h
    have hn1 : n < 1 := by omega
    refine ⟨(0, k), ?_, Int.le_refl _, fun h => absurd h hn, hk⟩
    simp [m_keep_Src_N, hr, m_keep_Mod, hn1]
theorem Ok.Pick {l : List Int} (h : SrcOk s) (h0 : l ≠ []) (h1 : l.length ≤ 1000) : Ok (m_keep_Src_Pick s l) fun r => r.1 ∈ l ∧ SrcOk (s.1, r.2) := by
  obtain ⟨x, k, e, a, b⟩ := keep_PickI h h0 h1; exact ⟨_, e, a, b⟩
end
section
variable {α β σ τ ρ : Type}
/-- one round more, or an end -/
def Nx (mk : Nat → σ → τ) (I : Nat → σ → Prop) (Q : ρ → Prop) (i : Nat) : τ ⊕ ρ → Prop
  | .inl t => ∃ s, t = mk i s ∧ I i s
  | .inr r => Q r
def Fin (Q : ρ → Prop) : τ ⊕ ρ → Prop
  | .inl _ => False
  | .inr r => Q r
theorem Ok.forI {B : τ → Option (τ ⊕ ρ)} (mk : Nat → σ → τ) (l : List α) (I : Nat → σ → Prop) (Q : ρ → Prop) (hB : ∀ i x s, l[i]? = some x → I i s → Ok (B (mk i s)) (Nx mk I Q (i + 1)))
    (he : ∀ s, I l.length s → Ok (B (mk l.length s)) (Fin Q)) (s : σ) (h : I 0 s) : Ok (loop B (mk 0 s)) Q := by
  refine loop_forI mk l I Q (fun i x s hx hI => ?_) (fun s hI => ?_) s h
  · obtain ⟨o, h1, h2⟩ := hB i x s hx hI
    cases o with
    | inl t => obtain ⟨s', rfl, h3⟩ := h2; exact .inl ⟨s', h1, h3⟩
    | inr r => exact .inr ⟨r, h1, h2⟩
  · obtain ⟨o, h1, h2⟩ := he s hI
    cases o with
    | inl t => exact h2.elim
    | inr r => exact ⟨r, h1, h2⟩
theorem Ok.seqE {x : Option (σ ⊕ α)} {f : σ → Option α} {I : σ ⊕ α → Prop} {Q : α → Prop} (h : Ok x I) (k : ∀ a, I (.inl a) → Ok (f a) Q) (k2 : ∀ r, I (.inr r) → Q r) : Ok (seqE x f) Q := by
  obtain ⟨a, rfl, ha⟩ := h
  cases a with
  | inl a => exact k a ha
  | inr r => exact ⟨r, rfl, k2 r ha⟩
end
theorem dec_lt {α : Type} {l : List α} {i : Nat} {x : α} (h : l[i]? = some x) : decide ((i : Int) < len l) = true := decide_eq_true (show (i : Int) < (l.length : Int) by have := (List.getElem?_eq_some_iff.1 h).1; omega)
theorem dec_end {α : Type} {l : List α} : decide ((l.length : Int) < len l) = false := decide_eq_false (show ¬ (l.length : Int) < (l.length : Int) by omega)
theorem set_same {α : Type} {l : List α} {i : Nat} {x : α} (h : l[i]? = some x) : l.set i x = l := by
  apply List.ext_getElem?
  intro j
  by_cases hj : i = j
  · subst hj; rw [List.getElem?_set_self (List.getElem?_eq_some_iff.1 h).1, h]
  · rw [List.getElem?_set_ne hj]
theorem app_nil_ok {α : Type} {l : List α} (h : l.length < 4294967296) : app ([] : List α) l = some l := by rw [app_ok (by simpa using h), List.nil_append]
end
section
theorem wrapU {x : Int} (h0 : 0 ≤ x) (h1 : x < 18446744073709551616) : IntKind.u64.wrap x = x := by
  unfold IntKind.wrap
  simp only [IntKind.bits, IntKind.signed, Bool.false_and, Bool.false_eq_true, if_false]
  omega
theorem wrapU_nat {n : Nat} (h : n < 18446744073709551616) : IntKind.u64.wrap (n : Int) = (n : Int) := wrapU (by omega) (by omega)
end
section
/-- is there the attack? -/
def ed (L : List T_Pair) (a b : Int) : Bool := L.any fun p => p.1 == a && p.2 == b
theorem ed_mem {L : List T_Pair} {a b : Int} : ed L a b = true ↔ (a, b) ∈ L := by
  unfold ed
  rw [List.any_eq_true]
  constructor
  · rintro ⟨⟨x, y⟩, h1, h2⟩
    simp at h2
    obtain ⟨rfl, rfl⟩ := h2
    exact h1
  · intro h; exact ⟨_, h, by simp⟩
theorem net_Has (n : Int) (L : List T_Pair) (hb : L.length < 4294967296) (a b : Int) : m_net_Has (n, L) a b = some (ed L a b) := by
  unfold m_net_Has ed
  apply loop_any
  · intro i x hx
    unfold m_net_Has_L1
    simp only [at_dec hx, if_true, at_idx hx, Option.bind_some, at_suc hx hb]
    cases h1 : x.1 == a <;> cases h2 : x.2 == b <;> simp
  · unfold m_net_Has_L1
    simp [len]
theorem net_In (l : List Int) (hb : l.length < 4294967296) (x : Int) : m_net_In l x = some (decide (x ∈ l)) := by
  have h : m_net_In l x = some (l.any (· == x)) := by
    unfold m_net_In
    apply loop_any
    · intro i y hy
      unfold m_net_In_L1
      simp only [at_dec hy, if_true, at_idx hy, Option.bind_some, at_suc hy hb]
      cases y == x <;> rfl
    · unfold m_net_In_L1
      simp [len]
  rw [h]
  congr 1
  rw [Bool.eq_iff_iff, List.any_eq_true, decide_eq_true_eq]
  constructor
  · rintro ⟨y, h1, h2⟩; rw [← eq_of_beq h2]; exact h1
  · intro h; exact ⟨x, h, by simp⟩
theorem loop_all {α : Type} {B : Int → Option (Int ⊕ Bool)} (l : List α) (p : α → Bool) (hB : ∀ (i : Nat) x, l[i]? = some x → B (i : Int) = some (if p x then .inl ((i + 1 : Nat) : Int) else .inr false)) (he : B (l.length : Int) = some (.inr true)) :
    loop B 0 = some (l.all p) := by
  have h := loop_find (B := B) l (fun x => !p x) false true (fun i x hx => by rw [hB i x hx]; cases p x <;> rfl) he
  rw [h]
  congr 1
  rw [List.all_eq_not_any_not]
  cases l.any fun x => !p x <;> rfl
end
section
set_option linter.unusedVariables false
def att (R : Nat → Nat → Prop) (S : Nat → Prop) (j : Nat) : Prop := ∃ m, S m ∧ R m j
section
variable {D : Nat → Prop} {R : Nat → Nat → Prop}
end
theorem loop_uptoS {σ τ ρ : Type} {B : τ → Option (τ ⊕ ρ)} (mk : σ → Nat → τ) (M : Nat) (I : Nat → σ → Prop) (Q : ρ → Prop)
    (hB : ∀ i s, i < M → I i s → (∃ s', B (mk s i) = some (.inl (mk s' (i + 1))) ∧ I (i + 1) s') ∨ ∃ r, B (mk s i) = some (.inr r) ∧ Q r)
    (he : ∀ s, I M s → ∃ r, B (mk s M) = some (.inr r) ∧ Q r) : ∀ s, I 0 s → ∃ r, loop B (mk s 0) = some r ∧ Q r := by
  have key : ∀ n i s, i + n = M → I i s → ∃ r, loop B (mk s i) = some r ∧ Q r := by
    intro n
    induction n with
    | zero =>
      intro i s h hi
      rw [Nat.add_zero] at h
      subst h
      obtain ⟨r, h1, h2⟩ := he s hi
      exact ⟨r, by rw [loop_eq, h1], h2⟩
    | succ n ih =>
      intro i s h hi
      rcases hB i s (by omega) hi with ⟨s', h1, h2⟩ | ⟨r, h1, h2⟩
      · obtain ⟨r, h3, h4⟩ := ih (i + 1) s' (by omega) h2
        exact ⟨r, by rw [loop_eq, h1]; exact h3, h4⟩
      · exact ⟨r, by rw [loop_eq, h1], h2⟩
  exact fun s hi => key M 0 s (by omega) hi
section
variable (N : Nat) (L : List T_Pair)
variable {N L} (hN : N ≤ 64) (hL : L.length < 4294967296) (hR : ∀ a b : Int, ed L a b = true → ∃ m, m < N ∧ a = (m : Int))
include hN hL
end
end
section
set_option linter.unusedVariables false
/-- all attacks lie within N nodes -/
def inN (N : Nat) (L : List T_Pair) : Prop := ∀ a b : Int, ed L a b = true → ∃ i j : Nat, i < N ∧ j < N ∧ a = (i : Int) ∧ b = (j : Int)
section
variable {N : Nat} {L : List T_Pair} (hV : inN N L) {X : Nat} (hX : X < 18446744073709551616)
include hV hX
end
section
variable {N : Nat} (hN : N ≤ 40) {L : List T_Pair} (hV : inN N L) (hL : L.length < 4294967296) {gone : List Int} (hg : ∀ x ∈ gone, 0 ≤ x ∧ x < N) (hgl : gone.length < 4294967296)
include hV
include hN hg
end
end
section
set_option linter.unusedVariables false
/-- two loops that do the same where they come -/
theorem iter_congr {σ ρ : Type} {B B' : σ → Option (σ ⊕ ρ)} (I : σ → Prop) (h : ∀ s, I s → B s = B' s) (hs : ∀ s s', I s → B s = some (.inl s') → I s') : ∀ n s, I s → iter B n s = iter B' n s := by
  intro n
  induction n with
  | zero => intro s _; rfl
  | succ n ih =>
    intro s hI
    simp only [iter]
    rw [← h s hI]
    cases hb : B s with
    | none => rfl
    | some o =>
      cases o with
      | inr r => rfl
      | inl s' => exact ih s' (hs s s' hI hb)
theorem loop_congr {σ ρ : Type} {B B' : σ → Option (σ ⊕ ρ)} (I : σ → Prop) (h : ∀ s, I s → B s = B' s) (hs : ∀ s s', I s → B s = some (.inl s') → I s') (s : σ) (hI : I s) : loop B s = loop B' s := by
  have hit := iter_congr I h hs
  cases h1 : loop B s with
  | some r =>
    obtain ⟨n, hn⟩ := iter_of_loop h1
    rw [hit n s hI] at hn
    exact (loop_of_iter hn).symm
  | none =>
    cases h2 : loop B' s with
    | none => rfl
    | some r =>
      obtain ⟨n, hn⟩ := iter_of_loop h2
      rw [← hit n s hI] at hn
      rw [loop_of_iter hn] at h1; cases h1
def badE (n : Int) (p : T_Pair) : Bool := decide (p.1 < 0) || decide (n ≤ p.1) || decide (p.2 < 0) || decide (n ≤ p.2)
theorem graph_compare (x y : T_Pair) : m_graph_compare x y = some (orF [cmpI x.1 y.1, cmpI x.2 y.2]) := by
  unfold m_graph_compare
  rw [cmp_int, cmp_int]
  simp only [Option.bind_some]
  rw [or_int _ (by simp)]
  rfl
theorem graph_cmp_le (x y : T_Pair) : decide (0 ≤ orF [cmpI x.1 y.1, cmpI x.2 y.2]) = !lt2 x y := by
  have h : decide (orF [cmpI x.1 y.1, cmpI x.2 y.2] < 0) = lt2 x y := orF_lt (by rw [orF_lt (r := []) (b := false) (by simp [orF])]; simp)
  rw [← h, Bool.eq_iff_iff]
  simp
/-- what both checks answer at a place -/
def vStep (n : Int) (L : List T_Pair) (i : Nat) : Option Int := match L[i]? with
  | none => some 0
  | some p => if badE n p then some 1 else if i = 0 then none else match L[i - 1]? with
    | none => none
    | some q => if !lt2 q p then some 8 else none
theorem valid_step1 (n : Int) (L : List T_Pair) (hL : L.length < 4294967296) (i : Nat) (hi : i ≤ L.length) : m_graph_Validate_L1 (n, L) (i : Int) = match vStep n L i with
    | some e => some (.inr e)
    | none => some (.inl ((i + 1 : Nat) : Int)) := by
  unfold m_graph_Validate_L1 vStep
  by_cases he : i = L.length
  · subst he
    simp [len]
  · have hx : L[i]? = some L[i] := List.getElem?_eq_getElem (by omega)
    generalize L[i] = x at hx
    simp only [at_dec hx, if_true, at_idx hx, Option.bind_some, hx, at_suc hx hL]
    have hb : (decide ((if x.2 < x.1 then x.2 else x.1) < 0) || decide (n ≤ (if x.2 > x.1 then x.2 else x.1))) = badE n x := by
      rw [Bool.eq_iff_iff]
      simp only [badE, Bool.or_eq_true, decide_eq_true_eq]
      split <;> split <;> omega
    rw [hb]
    cases badE n x with
    | true => simp
    | false =>
      simp only [Bool.false_eq_true, if_false]
      by_cases h0 : i = 0
      · subst h0; simp
      · obtain ⟨j, rfl⟩ : ∃ j, i = j + 1 := ⟨i - 1, by omega⟩
        have hy : L[j]? = some L[j] := List.getElem?_eq_getElem (by omega)
        generalize L[j] = y at hy
        have hd : decide (0 < ((j + 1 : Nat) : Int)) = true := by rw [decide_eq_true_eq]; omega
        have hw : w64 (((j + 1 : Nat) : Int) - 1) = (j : Int) := by rw [w64_id (by omega) (by omega)]; omega
        simp only [hd, if_true, hw, at_idx hy, Option.bind_some, graph_compare, graph_cmp_le, Nat.add_sub_cancel, hy, h0, if_false]
        cases lt2 y x <;> simp
theorem valid_step2 (n : Int) (L : List T_Pair) (hL : L.length < 4294967296) (i : Nat) (hi : i ≤ L.length) : m_ref10_Validate_L1 (n, L) (i : Int) = match vStep n L i with
    | some e => some (.inr e)
    | none => some (.inl ((i + 1 : Nat) : Int)) := by
  unfold m_ref10_Validate_L1 vStep
  by_cases he : i = L.length
  · subst he
    simp [len]
  · have hx : L[i]? = some L[i] := List.getElem?_eq_getElem (by omega)
    generalize L[i] = x at hx
    simp only [at_dec hx, if_true, at_idx hx, Option.bind_some, hx, at_suc hx hL]
    have hb : (decide (x.1 < 0) || (decide (n ≤ x.1) || (decide (x.2 < 0) || decide (n ≤ x.2)))) = badE n x := by simp [badE, Bool.or_assoc]
    rw [hb]
    cases badE n x with
    | true => simp
    | false =>
      simp only [Bool.false_eq_true, if_false]
      by_cases h0 : i = 0
      · subst h0; simp
      · obtain ⟨j, rfl⟩ : ∃ j, i = j + 1 := ⟨i - 1, by omega⟩
        have hy : L[j]? = some L[j] := List.getElem?_eq_getElem (by omega)
        generalize L[j] = y at hy
        have hd : decide (0 < ((j + 1 : Nat) : Int)) = true := by rw [decide_eq_true_eq]; omega
        have hw : w64 (((j + 1 : Nat) : Int) - 1) = (j : Int) := by rw [w64_id (by omega) (by omega)]; omega
        simp only [hd, if_true, hw, at_idx hy, Option.bind_some, Nat.add_sub_cancel, hy, h0, if_false]
        have hlt : lt2 y x = (ltI y.1 x.1 || (y.1 == x.1 && ltI y.2 x.2)) := rfl
        rw [hlt]
        simp only [ltI]
        by_cases h1 : x.1 < y.1
        · have h2 : ¬ y.1 < x.1 := by omega
          have h3 : (y.1 == x.1) = false := by simp; omega
          simp [h1, h2, h3]
        · by_cases h3 : y.1 = x.1
          · have h2 : ¬ y.1 < x.1 := by omega
            by_cases h4 : x.2 ≤ y.2
            · have h5 : ¬ y.2 < x.2 := by omega
              simp [h3, h4, h5]
            · have h5 : y.2 < x.2 := by omega
              simp [h3, h4, h5]
          · have h2 : y.1 < x.1 := by omega
            have h4 : (y.1 == x.1) = false := by simpa using h3
            simp [h1, h2, h4]
/-- a valid graph -/
def validG (g : T_Graph) : Prop := 0 ≤ g.1 ∧ g.1 ≤ 40 ∧ ∀ p ∈ g.2, badE g.1 p = false
theorem validates (g : T_Graph) (hL : g.2.length < 4294967296) : ∃ e, m_graph_Validate g = some e ∧ m_ref10_Validate g = some e ∧ (e = 0 → validG g) := by
  obtain ⟨n, L⟩ := g
  unfold m_graph_Validate m_ref10_Validate
  cases h0 : (decide (n < 0) || decide (40 < n)) with
  | true => exact ⟨1, by simp, by simp, by simp⟩
  | false =>
    simp only [Bool.or_eq_false_iff, decide_eq_false_iff_not] at h0
    simp only [Bool.false_eq_true, if_false]
    have hc : loop (m_ref10_Validate_L1 (n, L)) 0 = loop (m_graph_Validate_L1 (n, L)) 0 := by
      refine loop_congr (fun s => ∃ i : Nat, s = (i : Int) ∧ i ≤ L.length) ?_ ?_ 0 ⟨0, rfl, Nat.zero_le _⟩
      · rintro s ⟨i, rfl, hi⟩
        rw [valid_step1 n L hL i hi, valid_step2 n L hL i hi]
      · rintro s s' ⟨i, rfl, hi⟩ hb
        rw [valid_step2 n L hL i hi] at hb
        cases hv : vStep n L i with
        | some e => rw [hv] at hb; cases hb
        | none =>
          rw [hv] at hb
          simp only [Option.some.injEq, Sum.inl.injEq] at hb
          refine ⟨i + 1, hb.symm, ?_⟩
          by_cases he : i = L.length
          · subst he; simp [vStep] at hv
          · omega
    have h := loop_forI (B := m_graph_Validate_L1 (n, L)) (fun i (_ : Unit) => (i : Int)) L (fun i _ => ∀ p ∈ L.take i, badE n p = false) (fun e => e = 0 → ∀ p ∈ L, badE n p = false) ?_ ?_ () (by simp)
    · obtain ⟨e, h1, h2⟩ := h
      exact ⟨e, h1, by rw [hc]; exact h1, fun he => ⟨by omega, by omega, h2 he⟩⟩
    · intro i x _ hx hI
      have hi := at_lt hx
      rw [valid_step1 n L hL i (by omega)]
      cases hv : vStep n L i with
      | some e =>
        refine .inr ⟨e, rfl, fun he => ?_⟩
        subst he
        exfalso
        unfold vStep at hv
        rw [hx] at hv
        simp only at hv
        split at hv
        · cases hv
        · split at hv
          · cases hv
          · split at hv
            · cases hv
            · split at hv <;> cases hv
      | none =>
        refine .inl ⟨(), rfl, fun p hp => ?_⟩
        rw [take_suc hx, List.mem_append, List.mem_singleton] at hp
        rcases hp with hp | rfl
        · exact hI p hp
        · cases hb : badE n p with
          | false => rfl
          | true => unfold vStep at hv; rw [hx] at hv; simp [hb] at hv
    · intro _ hI
      rw [valid_step1 n L hL _ (Nat.le_refl _)]
      refine ⟨0, by simp [vStep], fun _ => ?_⟩
      rwa [List.take_length] at hI
theorem validG.inN {N : Nat} {L : List T_Pair} (h : validG ((N : Int), L)) : inN N L := fun a b he => by
  have := h.2.2 _ (ed_mem.1 he)
  simp only [badE, Bool.or_eq_false_iff, decide_eq_false_iff_not] at this
  exact ⟨a.toNat, b.toNat, by omega, by omega, by omega, by omega⟩
end
section
set_option linter.unusedVariables false
/-- what both checks ask of a graph -/
structure GoodG (N : Nat) (L : List T_Pair) : Prop where
  hN : N ≤ 40
  inr : ∀ p ∈ L, badE (N : Int) p = false
  asc : Asc lt2 L
theorem badE_nat {N : Nat} {p : T_Pair} (h : badE (N : Int) p = false) : ∃ i j : Nat, i < N ∧ j < N ∧ p = ((i : Int), (j : Int)) := by
  obtain ⟨a, b⟩ := p
  simp only [badE, Bool.or_eq_false_iff, decide_eq_false_iff_not] at h
  exact ⟨a.toNat, b.toNat, by omega, by omega, by simp only [Prod.mk.injEq]; omega⟩
section
variable {N : Nat} {L : List T_Pair}
theorem GoodG.nodup (h : GoodG N L) : L.Nodup := h.asc.imp fun {x y} hh e => by subst e; rw [ord2.irrefl] at hh; cases hh
theorem GoodG.inN (h : GoodG N L) : inN N L := fun a b he => by
  obtain ⟨i, j, h1, h2, h3⟩ := badE_nat (h.inr _ (ed_mem.1 he))
  simp only [Prod.mk.injEq] at h3
  exact ⟨i, j, h1, h2, h3.1, h3.2⟩
theorem nodup_len {α : Type} [DecidableEq α] : ∀ {l m : List α}, l.Nodup → (∀ x ∈ l, x ∈ m) → l.length ≤ m.length
  | [], _, _, _ => Nat.zero_le _
  | x :: l, m, hn, hs => by
    obtain ⟨h1, h2⟩ := List.nodup_cons.1 hn
    have hx : x ∈ m := hs x List.mem_cons_self
    have h3 := nodup_len (m := m.erase x) h2 fun y hy => (List.mem_erase_of_ne (fun e => by subst e; exact h1 hy)).2 (hs y (List.mem_cons_of_mem _ hy))
    rw [List.length_erase_of_mem hx] at h3
    have : 0 < m.length := List.length_pos_of_mem hx
    simp only [List.length_cons]
    omega
theorem GoodG.len (h : GoodG N L) : L.length ≤ 1600 := by
  have h1 := nodup_len (m := (rng N).flatMap fun i => (rng N).map fun j => (i, j)) h.nodup fun p hp => by
    obtain ⟨i, j, hi, hj, rfl⟩ := badE_nat (h.inr p hp)
    exact List.mem_flatMap.2 ⟨(i : Int), rng_mem.2 ⟨by omega, by omega⟩, List.mem_map.2 ⟨(j : Int), rng_mem.2 ⟨by omega, by omega⟩, rfl⟩⟩
  have h2 := flat_le (fun i : Int => (rng N).map fun j : Int => (i, j)) N (rng N) fun x _ => by simp [rng_len]
  rw [rng_len] at h2
  have h3 : N * N ≤ 40 * 40 := Nat.mul_le_mul h.hN h.hN
  omega
theorem vStep_none {n : Int} {i : Nat} {p : T_Pair} (hp : L[i]? = some p) : vStep n L i = none ↔ badE n p = false ∧ (i = 0 ∨ ∃ q, L[i - 1]? = some q ∧ lt2 q p = true) := by
  unfold vStep
  rw [hp]
  cases hb : badE n p with
  | true => simp [hb]
  | false =>
    by_cases h0 : i = 0
    · subst h0; simp [hb]
    · have hi := at_lt hp
      obtain ⟨q, hq⟩ : ∃ q, L[i - 1]? = some q := ⟨L[i - 1], List.getElem?_eq_getElem (by omega)⟩
      simp only [hb, h0, if_false, hq, false_or, Bool.false_eq_true, Option.some.injEq, exists_eq_left', true_and]
      cases lt2 q p <;> simp
theorem vLoop (n : Int) (hL : L.length < 4294967296) : ∃ e, loop (m_graph_Validate_L1 (n, L)) 0 = some e ∧ (e = 0 ↔ ∀ i, i < L.length → vStep n L i = none) := by
  have h := loop_forI (B := m_graph_Validate_L1 (n, L)) (fun i (_ : Unit) => (i : Int)) L (fun i _ => ∀ j, j < i → vStep n L j = none) (fun e => e = 0 ↔ ∀ i, i < L.length → vStep n L i = none) ?_ ?_ () (fun j hj => absurd hj (Nat.not_lt_zero _))
  · obtain ⟨e, h1, h2⟩ := h
    exact ⟨e, h1, h2⟩
  · intro i x _ hx hI
    have hi := at_lt hx
    rw [valid_step1 n L hL i (by omega)]
    cases hv : vStep n L i with
    | some e =>
      refine .inr ⟨e, rfl, ?_⟩
      constructor
      · intro he
        subst he
        exfalso
        unfold vStep at hv
        rw [hx] at hv
        simp only at hv
        split at hv
        · cases hv
        · split at hv
          · cases hv
          · split at hv
            · cases hv
            · split at hv <;> cases hv
      · intro h
        rw [h i hi] at hv; cases hv
    | none =>
      refine .inl ⟨(), rfl, fun j hj => ?_⟩
      by_cases he : j = i
      · subst he; exact hv
      · exact hI j (by omega)
  · intro _ hI
    rw [valid_step1 n L hL _ (Nat.le_refl _)]
    exact ⟨0, by simp [vStep], by simp; exact hI⟩
theorem pair_asc {α : Type} {lt : α → α → Bool} (O : Ord1 lt) : ∀ {l : List α}, (∀ i x y, l[i]? = some x → l[i + 1]? = some y → lt x y = true) → Asc lt l
  | [], _ => List.Pairwise.nil
  | [x], _ => List.pairwise_singleton _ _
  | x :: y :: l, h => by
    have h1 := pair_asc O (l := y :: l) fun i a b ha hb => h (i + 1) a b (by simpa using ha) (by simpa using hb)
    have h2 : lt x y = true := h 0 x y rfl rfl
    refine List.pairwise_cons.2 ⟨fun z hz => ?_, h1⟩
    rcases List.mem_cons.1 hz with rfl | hz
    · exact h2
    · exact O.trans _ _ _ h2 ((List.pairwise_cons.1 h1).1 z hz)
theorem asc_pair {α : Type} {lt : α → α → Bool} {l : List α} (h : Asc lt l) {i : Nat} {x y : α} (hx : l[i]? = some x) (hy : l[i + 1]? = some y) : lt x y = true := by
  obtain ⟨h1, rfl⟩ := List.getElem?_eq_some_iff.1 hx
  obtain ⟨h2, rfl⟩ := List.getElem?_eq_some_iff.1 hy
  exact List.pairwise_iff_getElem.1 h i (i + 1) h1 h2 (Nat.lt_succ_self i)
theorem vSteps_iff {n : Int} : (∀ i, i < L.length → vStep n L i = none) ↔ (∀ p ∈ L, badE n p = false) ∧ Asc lt2 L := by
  constructor
  · intro h
    have h1 : ∀ (i : Nat) p, L[i]? = some p → badE n p = false ∧ (i = 0 ∨ ∃ q, L[i - 1]? = some q ∧ lt2 q p = true) := fun i p hp => (vStep_none hp).1 (h i (at_lt hp))
    refine ⟨fun p hp => ?_, pair_asc ord2 fun i x y hx hy => ?_⟩
    · obtain ⟨i, hi⟩ := List.getElem?_of_mem hp
      exact (h1 i p hi).1
    · rcases (h1 (i + 1) y hy).2 with h2 | ⟨q, h2, h3⟩
      · omega
      · rw [Nat.add_sub_cancel, hx] at h2
        cases h2; exact h3
  · rintro ⟨h1, h2⟩ i hi
    have hp : L[i]? = some L[i] := List.getElem?_eq_getElem hi
    refine (vStep_none hp).2 ⟨h1 _ (List.getElem_mem hi), ?_⟩
    by_cases h0 : i = 0
    · exact .inl h0
    · have hq : L[i - 1]? = some L[i - 1] := List.getElem?_eq_getElem (by omega)
      exact .inr ⟨_, hq, asc_pair h2 hq (by rw [show i - 1 + 1 = i by omega]; exact hp)⟩
theorem graph_Validate_iff (n : Int) (hL : L.length < 4294967296) : ∃ e, m_graph_Validate (n, L) = some e ∧ m_ref10_Validate (n, L) = some e ∧ (e = 0 ↔ ∃ N : Nat, n = (N : Int) ∧ GoodG N L) := by
  obtain ⟨e, h1, h2, h3⟩ := validates (n, L) hL
  refine ⟨e, h1, h2, ?_⟩
  constructor
  · intro he
    obtain ⟨k1, k2, k3⟩ := h3 he
    obtain ⟨N, rfl⟩ := Int.eq_ofNat_of_zero_le k1
    refine ⟨N, rfl, by have : (N : Int) ≤ 40 := k2; omega, k3, ?_⟩
    subst he
    unfold m_graph_Validate at h1
    have hc : (decide ((N : Int) < 0) || decide (40 < (N : Int))) = false := by
      have : (N : Int) ≤ 40 := k2
      simp; omega
    simp only [hc, Bool.false_eq_true, if_false] at h1
    obtain ⟨e', h4, h5⟩ := vLoop (L := L) (N : Int) hL
    rw [h4] at h1
    exact (vSteps_iff.1 (h5.1 (Option.some.inj h1))).2
  · rintro ⟨N, rfl, hG⟩
    unfold m_graph_Validate at h1
    have hc : (decide ((N : Int) < 0) || decide (40 < (N : Int))) = false := by
      have := hG.hN
      simp; omega
    simp only [hc, Bool.false_eq_true, if_false] at h1
    obtain ⟨e', h4, h5⟩ := vLoop (L := L) (N : Int) hL
    rw [h4] at h1
    rw [← Option.some.inj h1]
    exact h5.2 (vSteps_iff.2 ⟨hG.inr, hG.asc⟩)
end
end
section
set_option linter.unusedVariables false
theorem range_ok {s : T_keep_Src} {lo hi : Int} (h : SrcOk s) (h0 : -1000 ≤ lo) (h1 : lo ≤ hi) (h2 : hi ≤ 1000) : ∃ v k, m_keep_Src_Range s lo hi = some (v, k) ∧ lo ≤ v ∧ v ≤ hi ∧ SrcOk (s.1, k) := by
  have e1 : w64 (hi - lo) = hi - lo := w64_id (by omega) (by omega)
  have e2 : w64 (hi - lo + 1) = hi - lo + 1 := w64_id (by omega) (by omega)
  obtain ⟨v, k, h3, h4, h5, h6⟩ := keep_N h (n := hi - lo + 1) (by omega) (by omega)
  exact ⟨lo + v, k, by unfold m_keep_Src_Range; rw [e1, e2, h3]; simp [w64_id (show -9223372036854775808 ≤ lo + v by omega) (by omega)], by omega, by omega, h6⟩
/-- a graph as the reader makes it -/
structure DrG (g : T_Graph) (n : Int) : Prop where
  lo : 1 ≤ g.1
  hi : g.1 ≤ n
  asc : Asc lt2 g.2
  inn : ∀ p ∈ g.2, 0 ≤ p.1 ∧ p.1 < g.1 ∧ 0 ≤ p.2 ∧ p.2 < g.1
  len : g.2.length ≤ 1000
/-- rows up to a, in row a up to b -/
structure RowsI (N a b : Nat) (l : List T_Pair) : Prop where
  asc : Asc lt2 l
  inn : ∀ p ∈ l, 0 ≤ p.1 ∧ p.1 < N ∧ 0 ≤ p.2 ∧ p.2 < N
  done : ∀ p ∈ l, p.1 < a ∨ (p.1 = a ∧ p.2 < b)
  len : l.length ≤ a * N + b
theorem net_Graph_ok {s : T_keep_Src} {n : Int} (h : SrcOk s) (h0 : 1 ≤ n) (h1 : n ≤ 10) : ∃ g k, m_net_Graph s n = some (g, k) ∧ DrG g n ∧ SrcOk (s.1, k) := by
  obtain ⟨N0, k1, h2, h3, h4, h5⟩ := range_ok h (show -1000 ≤ (1 : Int) by omega) h0 (by omega)
  obtain ⟨N, rfl⟩ := Int.eq_ofNat_of_zero_le (show 0 ≤ N0 by omega)
  obtain ⟨d, k2, h6, h7, h8, h9⟩ := range_ok h5 (show -1000 ≤ (2 : Int) by omega) (show (2 : Int) ≤ 5 by omega) (by omega)
  have hN : N ≤ 10 := by omega
  -- a row
  have row : ∀ (a : Nat) (k : Int) (l : List T_Pair), a < N → SrcOk (s.1, k) → RowsI N a 0 l → ∃ k' l', loop (m_net_Graph_L2 ((N : Int), k1) ((a : Int), k, l) (d, k2) s) (0, k, l) = some (.inl (((a + 1 : Nat) : Int), k', l')) ∧ SrcOk (s.1, k') ∧ RowsI N (a + 1) 0 l' := by
    intro a k l ha hk hl
    have h := loop_uptoS (B := m_net_Graph_L2 ((N : Int), k1) ((a : Int), k, l) (d, k2) s) (fun (z : Int × List T_Pair) b => ((b : Int), z.1, z.2)) N (fun b z => SrcOk (s.1, z.1) ∧ RowsI N a b z.2)
      (fun r => ∃ k' l', r = .inl (((a + 1 : Nat) : Int), k', l') ∧ SrcOk (s.1, k') ∧ RowsI N (a + 1) 0 l') ?_ ?_ (k, l) ⟨hk, hl⟩
    · obtain ⟨r, h10, k', l', rfl, h11⟩ := h
      exact ⟨k', l', h10, h11⟩
    · rintro b ⟨kb, lb⟩ hb ⟨hs, hI⟩
      replace hI : RowsI N a b lb := hI
      replace hs : SrcOk (s.1, kb) := hs
      have hd : decide ((b : Int) < (N : Int)) = true := by simp; omega
      have hm : ∃ m, (1 ≤ m ∧ m ≤ 1000) ∧ (if ((a : Int) == (b : Int)) = true then some 9 else some d) = some m := by
        by_cases he : ((a : Int) == (b : Int)) = true
        · exact ⟨9, by omega, by rw [if_pos he]⟩
        · exact ⟨d, by omega, by rw [if_neg he]⟩
      obtain ⟨m, hm1, hm2⟩ := hm
      obtain ⟨v, k3, h10, h11, h12, h13⟩ := keep_N hs (n := m) hm1.1 (by omega)
      have hll : lb.length ≤ 110 := by
        have h14 := hI.len
        have h15 : a * N ≤ 10 * 10 := Nat.mul_le_mul (by omega) hN
        omega
      have hstep : m_net_Graph_L2 ((N : Int), k1) ((a : Int), k, l) (d, k2) s ((b : Int), kb, lb) = if (v == 1) = true then some (.inl (((b + 1 : Nat) : Int), k3, lb ++ [((a : Int), (b : Int))])) else some (.inl (((b + 1 : Nat) : Int), k3, lb)) := by
        unfold m_net_Graph_L2
        simp only [hd, if_true]
        rw [hm2]
        simp only [Option.bind_some]
        have h10' : m_keep_Src_N (s.1, kb) m = some (v, k3) := h10
        rw [h10']
        simp only [Option.bind_some, w64_succ b (by omega)]
        rw [app_ok (by simp; omega)]
        rfl
      by_cases hv : (v == 1) = true
      · rw [if_pos hv] at hstep
        refine .inl ⟨(k3, lb ++ [((a : Int), (b : Int))]), hstep, h13, ?_, ?_, ?_, ?_⟩
        · refine List.pairwise_append.2 ⟨hI.asc, by simp, fun p hp r hr => ?_⟩
          simp only [List.mem_singleton] at hr
          subst hr
          rcases hI.done p hp with h14 | ⟨h14, h15⟩
          · simp [lt2, lexLt, ltI, h14]
          · simp [lt2, lexLt, ltI, h14, h15]
        · intro p hp
          rw [List.mem_append, List.mem_singleton] at hp
          rcases hp with hp | rfl
          · exact hI.inn p hp
          · exact ⟨by simp, by simp; omega, by simp, by simp; omega⟩
        · intro p hp
          rw [List.mem_append, List.mem_singleton] at hp
          rcases hp with hp | rfl
          · rcases hI.done p hp with h14 | ⟨h14, h15⟩
            · exact .inl h14
            · exact .inr ⟨h14, by omega⟩
          · exact .inr ⟨rfl, by simp; omega⟩
        · have := hI.len; simp; omega
      · rw [if_neg hv] at hstep
        refine .inl ⟨(k3, lb), hstep, h13, hI.asc, hI.inn, fun p hp => ?_, by have := hI.len; simp only; omega⟩
        rcases hI.done p hp with h14 | ⟨h14, h15⟩
        · exact .inl h14
        · exact .inr ⟨h14, by omega⟩
    · rintro ⟨kb, lb⟩ ⟨hs, hI⟩
      replace hI : RowsI N a N lb := hI
      refine ⟨_, ?_, kb, lb, rfl, hs, hI.asc, hI.inn, fun p hp => ?_, ?_⟩
      · unfold m_net_Graph_L2
        simp [w64_succ a (by omega)]
      · rcases hI.done p hp with h14 | ⟨h14, h15⟩
        · exact .inl (by omega)
        · exact .inl (by omega)
      · have := hI.len
        rw [Nat.add_mul]; omega
  have h := loop_uptoS (B := m_net_Graph_L1 ((N : Int), k1) (d, k2) s) (fun (z : Int × List T_Pair) a => ((a : Int), z.1, z.2)) N (fun a z => SrcOk (s.1, z.1) ∧ RowsI N a 0 z.2)
    (fun r => SrcOk (s.1, r.1) ∧ RowsI N N 0 r.2) ?_ ?_ (k2, []) ⟨h9, by simp, by simp, by simp, by simp⟩
  · obtain ⟨⟨k', l'⟩, h10, h11, h12⟩ := h
    refine ⟨((N : Int), l'), k', ?_, ⟨h3, h4, h12.asc, h12.inn, ?_⟩, h11⟩
    · unfold m_net_Graph
      rw [h2]
      simp only [Option.bind_some, h6]
      have h10' : loop (m_net_Graph_L1 ((N : Int), k1) (d, k2) s) (0, k2, []) = some (k', l') := h10
      rw [h10']
      rfl
    · have h13 : l'.length ≤ N * N + 0 := h12.len
      have h14 : N * N ≤ 10 * 10 := Nat.mul_le_mul hN hN
      simp only; omega
  · rintro a ⟨ka, la⟩ ha ⟨hs, hI⟩
    obtain ⟨k', l', h10, h11, h12⟩ := row a ka la ha hs hI
    have hd : decide ((a : Int) < (N : Int)) = true := by simp; omega
    refine .inl ⟨(k', l'), ?_, h11, h12⟩
    show m_net_Graph_L1 ((N : Int), k1) (d, k2) s ((a : Int), ka, la) = _
    rw [m_net_Graph_L1]
    simp only [hd, if_true]
    exact h10
  · rintro ⟨ka, la⟩ ⟨hs, hI⟩
    refine ⟨(ka, la), ?_, hs, hI⟩
    show m_net_Graph_L1 ((N : Int), k1) (d, k2) s ((N : Int), ka, la) = _
    rw [m_net_Graph_L1]
    simp
/-- nodes, strictly ascending -/
theorem net_Set_ok (g : T_Graph) {s : List Int} (hs : s.length < 4294967296) (ha : Asc ltI s) (hb : ∀ x ∈ s, 0 ≤ x ∧ x < g.1) : m_net_Set g s = some true := by
  unfold m_net_Set
  refine loop_for (l := s) (fun i x hx => ?_) (by unfold m_net_Set_L1; simp [len])
  have hi := at_lt hx
  obtain ⟨h0, h1⟩ := hb x (mem_at hx)
  unfold m_net_Set_L1
  have d1 : decide (x < 0) = false := by simp; omega
  have d2 : decide (g.1 ≤ x) = false := by simp; omega
  simp only [at_dec hx, if_true, at_idx hx, Option.bind_some, d1, d2, Bool.false_eq_true, if_false, at_suc hx hs]
  by_cases hz : i = 0
  · subst hz; simp
  · obtain ⟨j, rfl⟩ : ∃ j, i = j + 1 := ⟨i - 1, by omega⟩
    have hy : s[j]? = some s[j] := List.getElem?_eq_getElem (by omega)
    have hlt : s[j] < x := by
      have h3 := List.pairwise_iff_getElem.1 ha j (j + 1) (by omega) hi (by omega)
      rw [List.getElem?_eq_getElem hi] at hx
      rw [Option.some.inj hx] at h3
      simpa [ltI] using h3
    have hd : decide (0 < ((j + 1 : Nat) : Int)) = true := by rw [decide_eq_true_eq]; omega
    have hw : w64 (((j + 1 : Nat) : Int) - 1) = (j : Int) := by rw [w64_id (by omega) (by omega)]; omega
    have d3 : decide (x ≤ s[j]) = false := by simp; omega
    simp only [hd, if_true, hw, at_idx hy, Option.bind_some, d3, Bool.false_eq_true, if_false]
end
section
/-- a dialogue's moves as the rules make them: (player, kind, node, target) -/
structure WfL (l : List T_Move) : Prop where
  big : l.length ≤ 400
  first : ∃ r, l[0]? = some (1, 1, r, 0)
  rest : ∀ (i : Nat) m, l[i]? = some m → i ≠ 0 → (m.1 = 1 ∨ m.1 = 2) ∧
    ((m.2.1 = 2 ∧ ∃ (t : Nat) (x : T_Move), m.2.2.2 = (t : Int) ∧ t < i ∧ l[t]? = some x ∧ x.1 + m.1 = 3) ∨
     (m.2.1 = 3 ∧ ∃ (t : Nat) (x : T_Move), m.2.2.2 = (t : Int) ∧ t < i ∧ l[t]? = some x ∧ x.2.1 = 2) ∨ (m.2.1 = 4 ∧ m.2.2.2 = 0))
variable {l : List T_Move}
theorem WfL.pos (h : WfL l) : 0 < l.length := by obtain ⟨r, h⟩ := h.first; exact (List.getElem?_eq_some_iff.1 h).1
theorem WfL.by12 (h : WfL l) {i : Nat} {m : T_Move} (hm : l[i]? = some m) : m.1 = 1 ∨ m.1 = 2 := by
  by_cases hi : i = 0
  · subst hi
    obtain ⟨r, h⟩ := h.first
    rw [h] at hm
    cases hm
    exact .inl rfl
  · exact (h.rest i m hm hi).1
theorem WfL.att (h : WfL l) {i : Nat} {m : T_Move} (hm : l[i]? = some m) (hk : m.2.1 = 2) : ∃ (t : Nat) (x : T_Move), m.2.2.2 = (t : Int) ∧ t < i ∧ l[t]? = some x ∧ x.1 + m.1 = 3 := by
  by_cases hi : i = 0
  · subst hi
    obtain ⟨r, h⟩ := h.first
    rw [h] at hm
    cases hm
    cases hk
  · rcases (h.rest i m hm hi).2 with h1 | h1 | h1
    · exact h1.2
    · have := h1.1; omega
    · have := h1.1; omega
theorem WfL.ret (h : WfL l) {i : Nat} {m : T_Move} (hm : l[i]? = some m) (hk : m.2.1 = 3) : ∃ (t : Nat) (x : T_Move), m.2.2.2 = (t : Int) ∧ t < i ∧ l[t]? = some x ∧ x.2.1 = 2 := by
  by_cases hi : i = 0
  · subst hi
    obtain ⟨r, h⟩ := h.first
    rw [h] at hm
    cases hm
    cases hk
  · rcases (h.rest i m hm hi).2 with h1 | h1 | h1
    · have := h1.1; omega
    · exact h1.2
    · have := h1.1; omega
/-- the target of a move lies before it -/
theorem WfL.tgt (h : WfL l) {i : Nat} {m : T_Move} (hm : l[i]? = some m) (hi : i ≠ 0) : ∃ (t : Nat) (x : T_Move), m.2.2.2 = (t : Int) ∧ t < i ∧ l[t]? = some x := by
  rcases (h.rest i m hm hi).2 with ⟨_, t, x, h1, h2, h3, _⟩ | ⟨_, t, x, h1, h2, h3, _⟩ | ⟨_, h1⟩
  · exact ⟨t, x, h1, h2, h3⟩
  · exact ⟨t, x, h1, h2, h3⟩
  · have hp := h.pos
    exact ⟨0, l[0], h1, by omega, List.getElem?_eq_getElem hp⟩
def retd (l : List T_Move) (j : Nat) : Bool := l.any fun m => m.2.1 == 3 && m.2.2.2 == (j : Int)
/-- which moves are gone -/
structure IsGo (l : List T_Move) (G : List Bool) : Prop where
  len : G.length = l.length
  at_ : ∀ (j : Nat) m, l[j]? = some m → G[j]? = some (m.2.1 == 3 || m.2.1 == 4 || retd l j || (m.2.1 == 2 && (G[m.2.2.2.toNat]?).getD false))
theorem IsGo.uniq (h : WfL l) {G G' : List Bool} (hG : IsGo l G) (hG' : IsGo l G') : G = G' := by
  have key : ∀ (n j : Nat), j < n → G[j]? = G'[j]? := by
    intro n
    induction n with
    | zero => intro j hj; omega
    | succ n ih =>
      intro j hj
      by_cases hjn : j < n
      · exact ih j hjn
      · obtain rfl : j = n := by omega
        cases hm : l[j]? with
        | none =>
          have h1 : l.length ≤ j := List.getElem?_eq_none_iff.1 hm
          rw [List.getElem?_eq_none (by rw [hG.len]; exact h1), List.getElem?_eq_none (by rw [hG'.len]; exact h1)]
        | some m =>
          rw [hG.at_ j m hm, hG'.at_ j m hm]
          by_cases hk : m.2.1 = 2
          · obtain ⟨t, x, h1, h2, _, _⟩ := h.att hm hk
            rw [h1, Int.toNat_natCast, ih t h2]
          · have : (m.2.1 == 2) = false := by simpa using hk
            rw [this]
            simp
  exact List.ext_getElem? fun j => key (j + 1) j (by omega)
theorem retd_iff {j : Nat} : retd l j = true ↔ ∃ (k : Nat) (m : T_Move), l[k]? = some m ∧ m.2.1 = 3 ∧ m.2.2.2 = (j : Int) := by
  unfold retd
  rw [List.any_eq_true]
  constructor
  · rintro ⟨m, hm, hc⟩
    obtain ⟨k, hk⟩ := List.mem_iff_getElem?.1 hm
    simp only [Bool.and_eq_true, beq_iff_eq] at hc
    exact ⟨k, m, hk, hc.1, hc.2⟩
  · rintro ⟨k, m, hk, h1, h2⟩
    exact ⟨m, List.mem_of_getElem? hk, by simp [h1, h2]⟩
theorem retd_zero (h : WfL l) : retd l 0 = false := by
  cases hr : retd l 0 with
  | false => rfl
  | true =>
    obtain ⟨k, m, hk, h1, h2⟩ := retd_iff.1 hr
    obtain ⟨t, x, h3, _, h5, h6⟩ := h.ret hk h1
    obtain ⟨r, h7⟩ := h.first
    obtain rfl : t = 0 := by omega
    rw [h7] at h5
    cases h5
    cases h6
theorem mkR_ok {α : Type} {n : Nat} (z : α) (h : n < 4294967296) : mkS (n : Int) (n : Int) z = some (List.replicate n z) := by
  unfold mkS
  simp
  omega
/-- the reference finds what is gone -/
theorem ref_gone {d : T_Dialogue} (h : WfL d.2.2.2) : Ok (m_ref27_gone d) (IsGo d.2.2.2) := by
  have hbig := h.big
  unfold m_ref27_gone
  have e0 : len d.2.2.2 = (d.2.2.2.length : Int) := rfl
  rw [e0, mkR_ok false (by omega), Option.bind_some]
  generalize hl : d.2.2.2 = l at *
  -- the first i are found
  refine Ok.forI (fun i (s : List Bool) => (s, (i : Int))) l (fun i s => s.length = l.length ∧ ∀ (j : Nat) m, j < i → l[j]? = some m → s[j]? = some (m.2.1 == 3 || m.2.1 == 4 || retd l j || (m.2.1 == 2 && (s[m.2.2.2.toNat]?).getD false))) _ (fun i m s hm hs => ?_) (fun s hs => ?_) _ ⟨by simp, by intro j m hj; omega⟩
  · obtain ⟨hs1, hs2⟩ := hs
    have hi := (List.getElem?_eq_some_iff.1 hm).1
    have hsi : ∃ x, s[i]? = some x := ⟨s[i], List.getElem?_eq_getElem (by omega)⟩
    obtain ⟨x0, hx0⟩ := hsi
    unfold m_ref27_gone_L1
    rw [hl]
    simp only [dec_lt hm, if_true, idx_nat, hm, Option.bind_some]
    refine .bind (I := fun o => o = s.set i (m.2.1 == 3 || m.2.1 == 4)) ?_ fun s2 hs2' => ?_
    · simp only [hx0, Option.bind_some, Int.toNat_natCast]
      by_cases h3 : m.2.1 = 3
      · simp only [h3, beq_self_eq_true, if_true, Bool.true_or]; exact .ret rfl
      · have : (m.2.1 == 3) = false := by simpa using h3
        simp only [this, Bool.false_eq_true, if_false, Bool.false_or]; exact .ret rfl
    subst hs2'
    -- the moves behind it
    refine .bind (I := fun o => o = s.set i (m.2.1 == 3 || m.2.1 == 4 || retd l i)) ?_ fun s3 hs3 => ?_
    · have hmk : ∀ (k : Nat), i + 1 ≤ k → Ok (loop (m_ref27_gone_L2 d (s, (i : Int))) (s.set i (m.2.1 == 3 || m.2.1 == 4 || (l.take k).any fun m' => m'.2.1 == 3 && m'.2.2.2 == (i : Int)), (k : Int))) fun o => o = s.set i (m.2.1 == 3 || m.2.1 == 4 || retd l i) := by
        intro k
        induction hn : l.length - k generalizing k with
        | zero =>
          intro _
          refine ⟨_, ?_, rfl⟩
          rw [loop_eq]
          unfold m_ref27_gone_L2
          rw [hl]
          have : decide ((k : Int) < len l) = false := decide_eq_false (show ¬ (k : Int) < (l.length : Int) by omega)
          simp only [this, Bool.false_eq_true, if_false]
          rw [List.take_of_length_le (by omega)]
          rfl
        | succ n ih =>
          intro hk
          have hkl : k < l.length := by omega
          have hy : l[k]? = some l[k] := List.getElem?_eq_getElem hkl
          have := ih (k + 1) (by omega) (by omega)
          rw [loop_eq]
          have hstep : m_ref27_gone_L2 d (s, (i : Int)) (s.set i (m.2.1 == 3 || m.2.1 == 4 || (l.take k).any fun m' => m'.2.1 == 3 && m'.2.2.2 == (i : Int)), (k : Int)) = some (.inl (s.set i (m.2.1 == 3 || m.2.1 == 4 || (l.take (k + 1)).any fun m' => m'.2.1 == 3 && m'.2.2.2 == (i : Int)), ((k + 1 : Nat) : Int))) := by
            unfold m_ref27_gone_L2
            rw [hl]
            simp only [dec_lt hy, if_true, idx_nat, hy, Option.bind_some, Int.toNat_natCast, List.getElem?_set_self (show i < s.length by omega), w64_succ k (by omega), List.set_set]
            rw [List.take_add_one, hy, List.any_append]
            simp only [Option.toList, List.any_cons, List.any_nil, Bool.or_false]
            cases hq : (m.2.1 == 3 || m.2.1 == 4 || (l.take k).any fun m' => m'.2.1 == 3 && m'.2.2.2 == (i : Int)) with
            | true =>
              simp only [if_true]
              rw [← Bool.or_assoc, hq, Bool.true_or]
              rfl
            | false =>
              simp only [Bool.false_eq_true, if_false]
              simp only [Bool.or_eq_false_iff] at hq
              rw [hq.1.1, hq.1.2, hq.2]
              by_cases h3 : l[k].2.1 = 3
              · simp [h3]
              · have : (l[k].2.1 == 3) = false := by simpa using h3
                simp [this]
          rw [hstep]
          exact this
      have h0 := hmk (i + 1) (Nat.le_refl _)
      have hnone : ((l.take (i + 1)).any fun m' => m'.2.1 == 3 && m'.2.2.2 == (i : Int)) = false := by
        rw [List.any_eq_false]
        intro m' hm'
        obtain ⟨k, hk⟩ := List.mem_iff_getElem?.1 hm'
        rw [List.getElem?_take] at hk
        split at hk
        · rename_i hki
          simp only [Bool.and_eq_true, beq_iff_eq, not_and]
          intro h3 h4
          obtain ⟨t, x, h5, h6, _⟩ := h.ret hk h3
          omega
        · cases hk
      rw [hnone, Bool.or_false] at h0
      rw [w64_succ i (by omega)]
      exact h0
    subst hs3
    -- what it attacks
    have hfin : ∀ (e : Bool), e = (m.2.1 == 3 || m.2.1 == 4 || retd l i || (m.2.1 == 2 && (s[m.2.2.2.toNat]?).getD false)) → (s.set i e).length = l.length ∧ ∀ (j : Nat) m', j < i + 1 → l[j]? = some m' → (s.set i e)[j]? = some (m'.2.1 == 3 || m'.2.1 == 4 || retd l j || (m'.2.1 == 2 && ((s.set i e)[m'.2.2.2.toNat]?).getD false)) := by
      intro e he
      refine ⟨by simp [hs1], fun j m' hj hm' => ?_⟩
      have htg : (m'.2.1 == 2 && ((s.set i e)[m'.2.2.2.toNat]?).getD false) = (m'.2.1 == 2 && (s[m'.2.2.2.toNat]?).getD false) := by
        by_cases hk : m'.2.1 = 2
        · obtain ⟨t, x, h1, h2, _, _⟩ := h.att hm' hk
          rw [h1, Int.toNat_natCast, List.getElem?_set_ne (by omega)]
        · have : (m'.2.1 == 2) = false := by simpa using hk
          simp [this]
      rw [htg]
      by_cases hji : j = i
      · subst hji
        rw [hm] at hm'
        cases hm'
        rw [List.getElem?_set_self (by omega), he]
      · rw [List.getElem?_set_ne (fun e => hji e.symm)]
        exact hs2 j m' (by omega) hm'
    by_cases h2 : m.2.1 = 2
    · obtain ⟨t, x, g1, g2, g3, g4⟩ := h.att hm h2
      have hst : ∃ y, s[t]? = some y := ⟨s[t], List.getElem?_eq_getElem (by omega)⟩
      obtain ⟨y, hy⟩ := hst
      have hty : (s.set i (m.2.1 == 3 || m.2.1 == 4 || retd l i))[t]? = some y := by rw [List.getElem?_set_ne (by omega)]; exact hy
      simp only [h2, beq_self_eq_true, if_true, g1, idx_nat, List.getElem?_set_self (show i < s.length by omega), Option.bind_some, Int.toNat_natCast, List.set_set]
      have h23 : ((2 : Int) == 3) = false := by decide
      have h24 : ((2 : Int) == 4) = false := by decide
      simp only [h2, h23, h24, Bool.false_or] at hty ⊢
      refine .bind (I := fun o => o = s.set i (retd l i || y)) ?_ fun s6 hs6 => ?_
      · cases hr : retd l i with
        | true => simp only [if_true, Bool.true_or]; exact .ret rfl
        | false =>
          rw [hr] at hty
          simp only [Bool.false_eq_true, if_false, hty, Option.bind_some, Bool.false_or]
          exact .ret rfl
      · subst hs6
        refine .ret ⟨_, by rw [w64_succ i (by omega)], hfin _ ?_⟩
        rw [g1, Int.toNat_natCast, hy, h2]
        simp
    · have : (m.2.1 == 2) = false := by simpa using h2
      simp only [this, Bool.false_eq_true, if_false]
      refine .ret ⟨_, by rw [w64_succ i (by omega)], hfin _ ?_⟩
      simp [this]
  · obtain ⟨hs1, hs2⟩ := hs
    unfold m_ref27_gone_L1
    rw [hl]
    simp only [dec_end, Bool.false_eq_true, if_false]
    exact .ret ⟨hs1, fun j m hm => hs2 j m (List.getElem?_eq_some_iff.1 hm).1 hm⟩
end
section
variable {l : List T_Move}
/-- an attack on j that stands -/
def hitBy (l : List T_Move) (S : List Int) (lo j : Nat) : Prop := ∃ (k : Nat) (m : T_Move), lo < k ∧ l[k]? = some m ∧ m.2.1 = 2 ∧ m.2.2.2 = (j : Int) ∧ S[k]? = some 1
open Classical in
/-- the moves' status: 0 gone, 1 in, 2 out -/
structure IsSt (l : List T_Move) (G : List Bool) (S : List Int) : Prop where
  len : S.length = l.length
  at_ : ∀ (j : Nat) (g : Bool), G[j]? = some g → S[j]? = some (if g = true then 0 else if hitBy l S j j then 2 else 1)
theorem hitBy_congr (h : WfL l) {S S' : List Int} {j lo : Nat} (hj : j ≤ lo) (he : ∀ k, lo < k → S[k]? = S'[k]?) : hitBy l S lo j ↔ hitBy l S' lo j :=
  have _ := h
  have _ := hj
  ⟨fun ⟨k, m, h1, h2, h3, h4, h5⟩ => ⟨k, m, h1, h2, h3, h4, by rw [← he k h1]; exact h5⟩, fun ⟨k, m, h1, h2, h3, h4, h5⟩ => ⟨k, m, h1, h2, h3, h4, by rw [he k h1]; exact h5⟩⟩
theorem IsSt.uniq (h : WfL l) {G : List Bool} (hG : G.length = l.length) {S S' : List Int} (hS : IsSt l G S) (hS' : IsSt l G S') : S = S' := by
  have key : ∀ (n j : Nat), l.length ≤ j + n → S[j]? = S'[j]? := by
    intro n
    induction n with
    | zero =>
      intro j hj
      rw [List.getElem?_eq_none (by rw [hS.len]; omega), List.getElem?_eq_none (by rw [hS'.len]; omega)]
    | succ n ih =>
      intro j hj
      by_cases hjl : j < l.length
      · have hg : G[j]? = some G[j] := List.getElem?_eq_getElem (by omega)
        rw [hS.at_ j _ hg, hS'.at_ j _ hg]
        have := hitBy_congr h (S := S) (S' := S') (Nat.le_refl j) fun k hk => ih k (by omega)
        by_cases hh : hitBy l S j j
        · rw [if_pos hh, if_pos (this.1 hh)]
        · rw [if_neg hh, if_neg (fun h => hh (this.2 h))]
      · rw [List.getElem?_eq_none (by rw [hS.len]; omega), List.getElem?_eq_none (by rw [hS'.len]; omega)]
  exact List.ext_getElem? fun j => key l.length j (by omega)
/-- an attack on j behind lo, in what is found so far -/
def hitB (l : List T_Move) (S : List Int) (j lo : Nat) (hi : Nat) : Bool := (List.range hi).any fun k => decide (lo < k) && match l[k]? with
  | some m => m.2.1 == 2 && m.2.2.2 == (j : Int) && S[k]? == some 1
  | none => false
theorem hitB_iff {S : List Int} {j lo : Nat} : hitB l S j lo l.length = true ↔ hitBy l S lo j := by
  unfold hitB hitBy
  rw [List.any_eq_true]
  constructor
  · rintro ⟨k, hk, hc⟩
    simp only [Bool.and_eq_true, decide_eq_true_eq] at hc
    obtain ⟨h1, h2⟩ := hc
    split at h2
    · rename_i m hm
      simp only [Bool.and_eq_true, beq_iff_eq] at h2
      exact ⟨k, m, h1, hm, h2.1.1, h2.1.2, h2.2⟩
    · cases h2
  · rintro ⟨k, m, h1, h2, h3, h4, h5⟩
    refine ⟨k, List.mem_range.2 (List.getElem?_eq_some_iff.1 h2).1, ?_⟩
    simp [h1, h2, h3, h4, h5]
theorem hitB_suc {S : List Int} {j lo hi : Nat} : hitB l S j lo (hi + 1) = (hitB l S j lo hi || (decide (lo < hi) && match l[hi]? with | some m => m.2.1 == 2 && m.2.2.2 == (j : Int) && S[hi]? == some 1 | none => false)) := by
  unfold hitB
  rw [List.range_succ, List.any_append]
  simp
theorem hitB_none {S : List Int} {j lo hi : Nat} (h : hi ≤ lo + 1) : hitB l S j lo hi = false := by
  unfold hitB
  rw [List.any_eq_false]
  intro k hk
  have := List.mem_range.1 hk
  have : decide (lo < k) = false := decide_eq_false (by omega)
  simp [this]
theorem hitB_set {S : List Int} {j lo hi : Nat} {x : Int} : hitB l (S.set lo x) j lo hi = hitB l S j lo hi := by
  unfold hitB
  congr 1
  funext k
  by_cases hk : lo < k
  · rw [List.getElem?_set_ne (by omega)]
  · have : decide (lo < k) = false := decide_eq_false hk
    simp [this]
/-- the reference finds the status -/
theorem ref_Status_of {d : T_Dialogue} {G : List Bool} (h : WfL d.2.2.2) (hg : m_ref27_gone d = some G) (hG : IsGo d.2.2.2 G) : Ok (m_ref27_Status d) (IsSt d.2.2.2 G) := by
  have hbig := h.big
  have hpos := h.pos
  unfold m_ref27_Status
  rw [hg, Option.bind_some]
  have e0 : len d.2.2.2 = (d.2.2.2.length : Int) := rfl
  rw [e0, mkR_ok (0 : Int) (by omega), Option.bind_some]
  have hGl := hG.len
  generalize hl : d.2.2.2 = l at *
  rw [w64_id (by omega) (by omega)]
  -- i moves are left
  have key : ∀ (i : Nat) (s : List Int), i ≤ l.length → s.length = l.length → (∀ j, j < i → s[j]? = some 0) → (∀ (j : Nat) (g : Bool), i ≤ j → G[j]? = some g → s[j]? = some (if g = true then 0 else if hitB l s j j l.length = true then 2 else 1)) → Ok (loop (m_ref27_Status_L1 G d) (s, (i : Int) - 1)) (IsSt l G) := by
    intro i
    induction i with
    | zero =>
      intro s _ hs1 _ hs3
      refine ⟨s, ?_, hs1, fun j g hj => ?_⟩
      · rw [loop_eq]
        unfold m_ref27_Status_L1
        simp
      · rw [hs3 j g (by omega) hj]
        by_cases hh : hitBy l s j j
        · rw [if_pos hh, if_pos (hitB_iff.2 hh)]
        · rw [if_neg hh, if_neg (fun h => hh (hitB_iff.1 h))]
    | succ i ih =>
      intro s hi hs1 hs2 hs3
      have hgi : G[i]? = some G[i] := List.getElem?_eq_getElem (by omega)
      have hsi := hs2 i (by omega)
      rw [loop_eq]
      have hstep : m_ref27_Status_L1 G d (s, ((i + 1 : Nat) : Int) - 1) = some (.inl (if G[i] = true then s else s.set i (if hitB l s i i l.length = true then 2 else 1), (i : Int) - 1)) := by
        unfold m_ref27_Status_L1
        rw [show ((i + 1 : Nat) : Int) - 1 = (i : Int) by omega]
        have hd : decide ((0 : Int) ≤ (i : Int)) = true := decide_eq_true (by omega)
        simp only [hd, if_true, idx_nat, hgi, Option.bind_some]
        rw [w64_id (x := (i : Int) - 1) (by omega) (by omega)]
        cases hgv : G[i] with
        | true => simp
        | false =>
          simp only [Bool.false_eq_true, if_false, hsi, Option.bind_some, Int.toNat_natCast]
          -- the inner loop
          have hin : ∀ (n k : Nat), l.length = k + n → i + 1 ≤ k → loop (m_ref27_Status_L2 d (s, (i : Int))) (s.set i (if hitB l s i i k = true then 2 else 1), (k : Int)) = some (.inl (s.set i (if hitB l s i i l.length = true then 2 else 1), (i : Int) - 1)) := by
            intro n
            induction n with
            | zero =>
              intro k hk _
              rw [loop_eq]
              unfold m_ref27_Status_L2
              rw [hl]
              have : decide ((k : Int) < len l) = false := decide_eq_false (show ¬ (k : Int) < (l.length : Int) by omega)
              simp only [this, Bool.false_eq_true, if_false, w64_id (x := (i : Int) - 1) (by omega) (by omega)]
              rw [show k = l.length by omega]
            | succ n ihn =>
              intro k hk hik
              have hkl : k < l.length := by omega
              have hy : l[k]? = some l[k] := List.getElem?_eq_getElem hkl
              have hsk : ∃ v, s[k]? = some v := ⟨s[k], List.getElem?_eq_getElem (by omega)⟩
              obtain ⟨v, hv⟩ := hsk
              have := ihn (k + 1) (by omega) (by omega)
              rw [loop_eq]
              have hst2 : m_ref27_Status_L2 d (s, (i : Int)) (s.set i (if hitB l s i i k = true then 2 else 1), (k : Int)) = some (.inl (s.set i (if hitB l s i i (k + 1) = true then 2 else 1), ((k + 1 : Nat) : Int))) := by
                unfold m_ref27_Status_L2
                rw [hl]
                have hdk : decide (i < k) = true := decide_eq_true (by omega)
                simp only [dec_lt hy, if_true, idx_nat, hy, Option.bind_some, List.getElem?_set_ne (show i ≠ k by omega), hv, Int.toNat_natCast, List.getElem?_set_self (show i < s.length by omega), w64_succ k (by omega), List.set_set]
                rw [hitB_suc, hy, hdk, hv]
                simp only [Bool.true_and]
                by_cases h2 : l[k].2.1 = 2
                · by_cases ht : l[k].2.2.2 = (i : Int)
                  · by_cases hv1 : v = 1
                    · simp [h2, ht, hv1]
                    · simp [h2, ht, hv1]
                  · simp [h2, ht]
                · simp [h2]
              rw [hst2]
              exact this
          rw [w64_succ i (by omega)]
          have h0 := hin (l.length - (i + 1)) (i + 1) (by omega) (Nat.le_refl _)
          rw [hitB_none (Nat.le_refl _)] at h0
          exact h0
      rw [hstep]
      refine ih _ (by omega) (by split <;> simp [hs1]) (fun j hj => ?_) (fun j g hj hgj => ?_)
      · split
        · exact hs2 j (by omega)
        · rw [List.getElem?_set_ne (by omega)]
          exact hs2 j (by omega)
      · by_cases hji : j = i
        · subst hji
          rw [hgi] at hgj
          cases hgj
          split
          · exact hsi
          · rw [List.getElem?_set_self (by omega), hitB_set]
        · have h1 := hs3 j g (by omega) hgj
          split
          · exact h1
          · rw [List.getElem?_set_ne (by omega), h1]
            have : hitB l (s.set i (if hitB l s i i l.length = true then 2 else 1)) j j l.length = hitB l s j j l.length := by
              unfold hitB
              congr 1
              funext k
              by_cases hk : j < k
              · rw [List.getElem?_set_ne (by omega)]
              · have : decide (j < k) = false := decide_eq_false hk
                simp [this]
            rw [this]
  exact key l.length _ (Nat.le_refl _) (by simp) (fun j hj => by rw [List.getElem?_replicate]; simp [hj]) (fun j g hj hgj => by
    have := (List.getElem?_eq_some_iff.1 hgj).1
    omega)
end
section
variable {l : List T_Move}
theorem prot_attacks (h : WfL l) {i : Nat} {m : T_Move} (hm : l[i]? = some m) : m_protocol_attacks l (i : Int) = some (m.2.1 == 2) := by
  unfold m_protocol_attacks
  simp only [idx_nat, hm, Option.bind_some]
  by_cases hk : m.2.1 = 2
  · obtain ⟨t, x, h1, h2, _, _⟩ := h.att hm hk
    simp [hk, h1, h2]
  · have : (m.2.1 == 2) = false := by simpa using hk
    simp [this]
theorem prot_Status_L1 {d : T_Dialogue} (h : WfL d.2.2.2) : Ok (loop (m_protocol_Status_L1 d (List.replicate d.2.2.2.length false)) (List.replicate d.2.2.2.length false, 0)) fun R => R.length = d.2.2.2.length ∧ ∀ j, j < d.2.2.2.length → R[j]? = some (retd d.2.2.2 j) := by
  have hbig := h.big
  generalize hl : d.2.2.2 = l at *
  refine Ok.forI (fun i (s : List Bool) => (s, (i : Int))) l (fun i s => s.length = l.length ∧ ∀ j, j < l.length → s[j]? = some (retd (l.take i) j)) _ (fun i m s hm hs => ?_) (fun s hs => ?_) _ ⟨by simp, fun j hj => by rw [List.getElem?_replicate]; simp [hj, retd]⟩
  · obtain ⟨hs1, hs2⟩ := hs
    have hi := (List.getElem?_eq_some_iff.1 hm).1
    have hsuc : ∀ j, retd (l.take (i + 1)) j = (retd (l.take i) j || (m.2.1 == 3 && m.2.2.2 == (j : Int))) := by
      intro j
      unfold retd
      rw [List.take_add_one, hm, List.any_append]
      simp
    unfold m_protocol_Status_L1
    rw [hl]
    simp only [dec_lt hm, if_true, idx_nat, hm, Option.bind_some]
    by_cases h3 : m.2.1 = 3
    · obtain ⟨t, x, g1, g2, g3, _⟩ := h.ret hm h3
      have hst : (List.replicate l.length false).length = l.length := by simp
      have e1 : decide ((0 : Int) ≤ (t : Int)) = true := decide_eq_true (by omega)
      have e2 : decide ((t : Int) < len (List.replicate l.length false)) = true := decide_eq_true (show (t : Int) < ((List.replicate l.length false).length : Int) by omega)
      simp only [h3, g1, e1, e2, beq_self_eq_true, Bool.and_self, if_true, idx_nat, hs2 t (by omega), Option.bind_some, Int.toNat_natCast]
      refine .ret ⟨_, by rw [w64_succ i (by omega)], by simp [hs1], fun j hj => ?_⟩
      rw [hsuc]
      by_cases hjt : j = t
      · subst hjt
        rw [List.getElem?_set_self (by omega)]
        simp [h3, g1]
      · rw [List.getElem?_set_ne (fun e => hjt e.symm), hs2 j hj, g1]
        have : ((t : Int) == (j : Int)) = false := beq_eq_false_iff_ne.2 (fun e => hjt (by omega))
        simp [this]
    · have e3 : (m.2.1 == 3) = false := by simpa using h3
      simp only [e3, Bool.false_and, Bool.false_eq_true, if_false]
      refine .ret ⟨_, by rw [w64_succ i (by omega)], hs1, fun j hj => ?_⟩
      rw [hsuc, e3, hs2 j hj]
      simp
  · obtain ⟨hs1, hs2⟩ := hs
    unfold m_protocol_Status_L1
    rw [hl]
    simp only [dec_end, Bool.false_eq_true, if_false]
    rw [List.take_of_length_le (Nat.le_refl _)] at hs2
    exact .ret ⟨hs1, hs2⟩
theorem prot_Status_L2 {d : T_Dialogue} (h : WfL d.2.2.2) {G R : List Bool} (hG : IsGo d.2.2.2 G) (hR : R.length = d.2.2.2.length ∧ ∀ j, j < d.2.2.2.length → R[j]? = some (retd d.2.2.2 j)) :
    Ok (loop (m_protocol_Status_L2 d R) (List.replicate d.2.2.2.length 0, 0)) fun S => S.length = d.2.2.2.length ∧ ∀ (j : Nat) (g : Bool), G[j]? = some g → S[j]? = some (if g = true then 0 else 1) := by
  have hbig := h.big
  have hGl := hG.len
  generalize hl : d.2.2.2 = l at *
  obtain ⟨hR1, hR2⟩ := hR
  refine Ok.forI (fun i (s : List Int) => (s, (i : Int))) l (fun i s => s.length = l.length ∧ (∀ (j : Nat) (g : Bool), j < i → G[j]? = some g → s[j]? = some (if g = true then 0 else 1)) ∧ ∀ j, i ≤ j → j < l.length → s[j]? = some 0) _ (fun i m s hm hs => ?_) (fun s hs => ?_) _ ⟨by simp, fun j g hj => by omega, fun j _ hj => by rw [List.getElem?_replicate]; simp [hj]⟩
  · obtain ⟨hs1, hs2, hs3⟩ := hs
    have hi := (List.getElem?_eq_some_iff.1 hm).1
    have hsi := hs3 i (Nat.le_refl _) hi
    have hgi := hG.at_ i m hm
    unfold m_protocol_Status_L2
    rw [hl]
    simp only [dec_lt hm, if_true]
    refine .bind (I := fun o => G[i]? = some (!o)) ?_ fun o ho => ?_
    · by_cases hi0 : i = 0
      · subst hi0
        simp only [show (((0 : Nat) : Int) == 0) = true by decide, if_true]
        refine .ret ?_
        obtain ⟨r, hr⟩ := h.first
        rw [hr] at hm
        cases hm
        rw [hgi, retd_zero h]
        rfl
      · have e0 : ((i : Int) == 0) = false := by simpa using hi0
        simp only [e0, Bool.false_eq_true, if_false, prot_attacks h hm, Option.bind_some]
        by_cases h2 : m.2.1 = 2
        · obtain ⟨t, x, g1, g2, g3, _⟩ := h.att hm h2
          have hgt : G[t]? = some G[t] := List.getElem?_eq_getElem (by omega)
          have hst := hs2 t _ g2 hgt
          simp only [h2, beq_self_eq_true, if_true, idx_nat, hR2 i hi, Option.bind_some, hm, g1, hst]
          rw [hgi, g1, Int.toNat_natCast, hgt, h2]
          have h23 : ((2 : Int) == 3) = false := by decide
          have h24 : ((2 : Int) == 4) = false := by decide
          simp only [h23, h24, Bool.false_or, beq_self_eq_true, Bool.true_and, Option.getD_some]
          cases retd l i with
          | true => simp only [Bool.not_true, Bool.false_eq_true, if_false]; exact .ret rfl
          | false =>
            simp only [Bool.not_false, if_true]
            refine .ret ?_
            cases G[t] <;> rfl
        · have e2 : (m.2.1 == 2) = false := by simpa using h2
          simp only [e2, Bool.false_eq_true, if_false]
          refine .ret ?_
          rw [hgi, e2]
          rcases (h.rest i m hm hi0).2 with h1 | h1 | h1
          · exact absurd h1.1 h2
          · simp [h1.1]
          · simp [h1.1]
    · refine .ite (fun hc => ?_) fun hc => ?_
      · subst hc
        simp only [idx_nat, hsi, Option.bind_some, Int.toNat_natCast]
        refine .ret ⟨_, by rw [w64_succ i (by omega)], by simp [hs1], fun j g hj hg => ?_, fun j hj hjl => ?_⟩
        · by_cases hji : j = i
          · subst hji
            rw [ho] at hg
            cases hg
            rw [List.getElem?_set_self (by omega)]
            rfl
          · rw [List.getElem?_set_ne (fun e => hji e.symm)]
            exact hs2 j g (by omega) hg
        · rw [List.getElem?_set_ne (by omega)]
          exact hs3 j (by omega) hjl
      · subst hc
        refine .ret ⟨_, by rw [w64_succ i (by omega)], hs1, fun j g hj hg => ?_, fun j hj hjl => hs3 j (by omega) hjl⟩
        by_cases hji : j = i
        · subst hji
          rw [ho] at hg
          cases hg
          rw [hsi]
          rfl
        · exact hs2 j g (by omega) hg
  · obtain ⟨hs1, hs2, hs3⟩ := hs
    unfold m_protocol_Status_L2
    rw [hl]
    simp only [dec_end, Bool.false_eq_true, if_false]
    exact .ret ⟨hs1, fun j g hg => hs2 j g (by rw [← hGl]; exact (List.getElem?_eq_some_iff.1 hg).1) hg⟩
theorem hitB_from {S : List Int} {j lo : Nat} : ∀ (hi : Nat), lo < hi → hitB l S j lo hi = (hitB l S j (lo + 1) hi || match l[lo + 1]? with | some m => decide (lo + 1 < hi) && m.2.1 == 2 && m.2.2.2 == (j : Int) && S[lo + 1]? == some 1 | none => false) := by
  intro hi
  induction hi with
  | zero => intro h; omega
  | succ n ih =>
    intro h
    rw [hitB_suc, hitB_suc]
    by_cases hn : lo < n
    · rw [ih hn]
      have e1 : decide (lo < n) = true := decide_eq_true hn
      by_cases hn2 : lo + 1 = n
      · subst hn2
        have e2 : decide (lo + 1 < lo + 1) = false := by simp
        have e3 : decide (lo + 1 < lo + 1 + 1) = true := by simp
        rw [e1, e2, e3]
        cases l[lo + 1]? <;> simp
      · have e2 : decide (lo + 1 < n) = true := decide_eq_true (by omega)
        have e3 : decide (lo + 1 < n + 1) = true := decide_eq_true (by omega)
        rw [e1, e2, e3]
        cases l[lo + 1]? with
        | none => simp
        | some m =>
          simp only [Bool.true_and]
          exact Bool.or_right_comm _ _ _
    · have hn' : n = lo := by omega
      subst hn'
      rw [hitB_none (Nat.le_succ _), hitB_none (by omega)]
      have e1 : decide (n < n) = false := by simp
      have e2 : decide (n + 1 < n) = false := by simp
      have e3 : decide (n + 1 < n + 1) = false := by simp
      rw [e1, e2, e3]
      cases l[n + 1]? <;> simp
theorem prot_Status_L3 {d : T_Dialogue} (h : WfL d.2.2.2) {G : List Bool} (hG : IsGo d.2.2.2 G) {S0 : List Int} (hS : S0.length = d.2.2.2.length ∧ ∀ (j : Nat) (g : Bool), G[j]? = some g → S0[j]? = some (if g = true then 0 else 1)) :
    Ok (loop (m_protocol_Status_L3 d) (S0, (d.2.2.2.length : Int) - 1)) (IsSt d.2.2.2 G) := by
  have hbig := h.big
  have hpos := h.pos
  have hGl := hG.len
  generalize hl : d.2.2.2 = l at *
  have key : ∀ (i : Nat) (s : List Int), i < l.length → s.length = l.length → (∀ (j : Nat) (g : Bool), G[j]? = some g → s[j]? = some (if g = true then 0 else if hitB l s j i l.length = true then 2 else 1)) → Ok (loop (m_protocol_Status_L3 d) (s, (i : Int))) (IsSt l G) := by
    intro i
    induction i with
    | zero =>
      intro s _ hs1 hs2
      refine ⟨s, ?_, hs1, fun j g hj => ?_⟩
      · rw [loop_eq]
        unfold m_protocol_Status_L3
        simp
      · rw [hs2 j g hj]
        have hiff : hitB l s j 0 l.length = true ↔ hitBy l s j j := by
          rw [hitB_iff]
          constructor
          · rintro ⟨k, m, h1, h2, h3, h4, h5⟩
            obtain ⟨t, x, g1, g2, _, _⟩ := h.att h2 h3
            exact ⟨k, m, by omega, h2, h3, h4, h5⟩
          · rintro ⟨k, m, h1, h2, h3, h4, h5⟩
            exact ⟨k, m, by omega, h2, h3, h4, h5⟩
        by_cases hh : hitBy l s j j
        · rw [if_pos hh, if_pos (hiff.2 hh)]
        · rw [if_neg hh, if_neg (fun h => hh (hiff.1 h))]
    | succ i ih =>
      intro s hi hs1 hs2
      have hgi : G[i + 1]? = some G[i + 1] := List.getElem?_eq_getElem (by omega)
      have hm : l[i + 1]? = some l[i + 1] := List.getElem?_eq_getElem hi
      have hsi := hs2 (i + 1) _ hgi
      have hGat := hG.at_ (i + 1) _ hm
      generalize hv : (if G[i + 1] = true then (0 : Int) else if hitB l s (i + 1) (i + 1) l.length = true then 2 else 1) = v at hsi ⊢
      have hstep : m_protocol_Status_L3 d (s, ((i + 1 : Nat) : Int)) = if (v == 1) = true then (some l[i + 1]).bind fun x10 => (idx s x10.2.2.2).bind fun _ => some (.inl (s.set x10.2.2.2.toNat 2, (i : Int))) else some (.inl (s, (i : Int))) := by
        unfold m_protocol_Status_L3
        have hd : decide ((0 : Int) < ((i + 1 : Nat) : Int)) = true := decide_eq_true (by omega)
        simp only [hd, if_true, idx_nat, hsi, Option.bind_some]
        rw [hl, w64_id (x := ((i + 1 : Nat) : Int) - 1) (by omega) (by omega), show ((i + 1 : Nat) : Int) - 1 = (i : Int) by omega]
        simp only [hm, Option.bind_some]
      rw [loop_eq, hstep]
      -- what the hits are with one move more
      have hmore : ∀ (s' : List Int) (j : Nat), (∀ k, i < k → s'[k]? = s[k]?) → hitB l s' j i l.length = (hitB l s j (i + 1) l.length || (l[i + 1].2.1 == 2 && l[i + 1].2.2.2 == (j : Int) && v == 1)) := by
        intro s' j he
        rw [hitB_from l.length (by omega), hm]
        have e1 : decide (i + 1 < l.length) = true := decide_eq_true hi
        have e2 : hitB l s' j (i + 1) l.length = hitB l s j (i + 1) l.length := by
          unfold hitB
          congr 1
          funext k
          by_cases hk : i + 1 < k
          · rw [he k (by omega)]
          · have : decide (i + 1 < k) = false := decide_eq_false hk
            simp [this]
        rw [e2, he (i + 1) (by omega), hsi, e1]
        simp
      by_cases hv1 : v = 1
      · -- it stands: its target is out
        have hgf : G[i + 1] = false := by
          cases hq : G[i + 1] with
          | false => rfl
          | true => rw [hq] at hv; simp at hv; omega
        rw [hgi, hgf] at hGat
        have hGat := (Option.some.inj hGat).symm
        simp only [Bool.or_eq_false_iff] at hGat
        obtain ⟨⟨⟨q1, q2⟩, q3⟩, q4⟩ := hGat
        have hk2 : l[i + 1].2.1 = 2 := by
          rcases (h.rest (i + 1) _ hm (by omega)).2 with h1 | h1 | h1
          · exact h1.1
          · rw [h1.1] at q1; cases q1
          · rw [h1.1] at q2; cases q2
        obtain ⟨t, x, g1, g2, g3, _⟩ := h.att hm hk2
        have hgt : G[t]? = some G[t] := List.getElem?_eq_getElem (by omega)
        have hgt0 : G[t] = false := by
          rw [hk2, g1, Int.toNat_natCast, hgt] at q4
          simpa using q4
        have hst := hs2 t _ hgt
        simp only [hv1, beq_self_eq_true, if_true, Option.bind_some, g1, idx_nat, hst, Int.toNat_natCast]
        refine ih _ (by omega) (by simp [hs1]) fun j g hj => ?_
        rw [hmore (s.set t 2) j (fun k hk => by rw [List.getElem?_set_ne (by omega)]), hk2, g1, hv1]
        by_cases hjt : j = t
        · subst hjt
          rw [List.getElem?_set_self (by omega)]
          rw [hgt, hgt0] at hj
          cases hj
          simp
        · have : ((t : Int) == (j : Int)) = false := beq_eq_false_iff_ne.2 (fun e => hjt (by omega))
          rw [List.getElem?_set_ne (fun e => hjt e.symm), hs2 j g hj, this]
          simp
      · have e1 : (v == 1) = false := by simpa using hv1
        simp only [e1, Bool.false_eq_true, if_false]
        refine ih _ (by omega) hs1 fun j g hj => ?_
        rw [hmore s j (fun _ _ => rfl), e1, hs2 j g hj]
        simp
  have := key (l.length - 1) S0 (by omega) hS.1 (fun j g hj => by rw [hitB_none (by omega), hS.2 j g hj]; simp)
  rw [show ((l.length - 1 : Nat) : Int) = (l.length : Int) - 1 by omega] at this
  exact this
theorem prot_Status_of {d : T_Dialogue} {G : List Bool} (h : WfL d.2.2.2) (hG : IsGo d.2.2.2 G) : Ok (m_protocol_Status d) (IsSt d.2.2.2 G) := by
  have hbig := h.big
  have hpos := h.pos
  unfold m_protocol_Status
  have e0 : len d.2.2.2 = (d.2.2.2.length : Int) := rfl
  rw [e0, mkR_ok (0 : Int) (by omega), Option.bind_some, mkR_ok false (by omega), Option.bind_some]
  refine .bind (prot_Status_L1 h) fun R hR => .bind (prot_Status_L2 h hG hR) fun S hS => ?_
  have e1 : len (List.replicate d.2.2.2.length (0 : Int)) = (d.2.2.2.length : Int) := by simp [len]
  rw [e1, w64_id (by omega) (by omega)]
  exact prot_Status_L3 h hG hS
/-- both answer the same status -/
structure St (l : List T_Move) (S : List Int) : Prop where
  go : ∃ G, IsGo l G ∧ IsSt l G S
theorem status_both {d : T_Dialogue} (h : WfL d.2.2.2) : ∃ S, m_protocol_Status d = some S ∧ m_ref27_Status d = some S ∧ St d.2.2.2 S := by
  obtain ⟨G, hg, hG⟩ := ref_gone h
  obtain ⟨S, h1, h2⟩ := ref_Status_of h hg hG
  obtain ⟨S', h3, h4⟩ := prot_Status_of h hG
  obtain rfl := IsSt.uniq h hG.len h2 h4
  exact ⟨S, h3, h1, G, hG, h2⟩
end
section
variable {l : List T_Move}
/-- the player in whose favour the root is -/
def leadS (S : List Int) : Int := if S[0]? = some 1 then 1 else 2
theorem St.len {S : List Int} (h : St l S) : S.length = l.length := by obtain ⟨G, hG, hS⟩ := h.go; exact hS.len
/-- what is not gone, but for the claim, is an attack -/
theorem St.att {S : List Int} (hw : WfL l) (h : St l S) {i : Nat} {m : T_Move} (hm : l[i]? = some m) {x : Int} (hx : S[i]? = some x) (h0 : x ≠ 0) (hi : i ≠ 0) : m.2.1 = 2 := by
  obtain ⟨G, hG, hS⟩ := h.go
  have hil := (List.getElem?_eq_some_iff.1 hm).1
  have hiG : i < G.length := by rw [hG.len]; exact hil
  have hg : G[i]? = some G[i] := List.getElem?_eq_getElem hiG
  have h1 := hS.at_ i _ hg
  rw [hx] at h1
  have hgf : G[i] = false := by
    cases hq : G[i] with
    | false => rfl
    | true => rw [hq] at h1; simp at h1; exact absurd h1 h0
  have h2 := hG.at_ i m hm
  rw [hg, hgf] at h2
  have h2 := (Option.some.inj h2).symm
  simp only [Bool.or_eq_false_iff] at h2
  rcases (hw.rest i m hm hi).2 with q | q | q
  · exact q.1
  · have := h2.1.1.1; rw [q.1] at this; cases this
  · have := h2.1.1.2; rw [q.1] at this; cases this
theorem St.root {S : List Int} (hw : WfL l) (h : St l S) : S[0]? = some 1 ∨ S[0]? = some 2 := by
  obtain ⟨G, hG, hS⟩ := h.go
  obtain ⟨r, hr⟩ := hw.first
  have h2 := hG.at_ 0 _ hr
  rw [retd_zero hw] at h2
  have h2 : G[0]? = some false := by rw [h2]; rfl
  have h1 := hS.at_ 0 _ h2
  rw [h1]
  by_cases hh : hitBy l S 0 0
  · rw [if_pos hh]; exact .inr rfl
  · rw [if_neg hh]; exact .inl rfl
theorem leadS_12 (S : List Int) : leadS S = 1 ∨ leadS S = 2 := by unfold leadS; split <;> simp
theorem ref_leader {S : List Int} (hw : WfL l) (h : St l S) : m_ref27_leader S = some (leadS S) := by
  unfold m_ref27_leader leadS
  rcases h.root hw with h0 | h0
  · rw [show idx S 0 = some 1 from by rw [show (0 : Int) = ((0 : Nat) : Int) from rfl, idx_nat]; exact h0, h0]
    rfl
  · rw [show idx S 0 = some 2 from by rw [show (0 : Int) = ((0 : Nat) : Int) from rfl, idx_nat]; exact h0, h0]
    rfl
/-- the leading part -/
structure IsLd (l : List T_Move) (S : List Int) (L : List Bool) : Prop where
  len : L.length = l.length
  root : L[0]? = some true
  at_ : ∀ (i : Nat) m x, i ≠ 0 → l[i]? = some m → S[i]? = some x → L[i]? = some (x != 0 && ((L[m.2.2.2.toNat]?).getD false && (((l[m.2.2.2.toNat]?).getD (0, 0, 0, 0)).1 == leadS S || x == 1)))
theorem prot_of {d : T_Dialogue} {S : List Int} (h : WfL d.2.2.2) (hS : St d.2.2.2 S) (hp : m_protocol_Status d = some S) : ∃ L, m_protocol_of d = some (d, S, leadS S, L) ∧ IsLd d.2.2.2 S L := by
  have hbig := h.big
  have hpos := h.pos
  have hSl := hS.len
  suffices hh : Ok (m_protocol_of d) fun o => ∃ L, o = (d, S, leadS S, L) ∧ IsLd d.2.2.2 S L by
    obtain ⟨o, h1, L, rfl, h2⟩ := hh
    exact ⟨L, h1, h2⟩
  unfold m_protocol_of
  rw [hp]
  have e0 : len d.2.2.2 = (d.2.2.2.length : Int) := rfl
  rw [e0, Option.bind_some, mkR_ok false (by omega), Option.bind_some, Option.bind_some]
  refine .bind (I := fun o => o = leadS S) ?_ fun s2 hs2 => ?_
  · have hl2 := hS.root h
    dsimp only
    rcases hl2 with h0 | h0
    · rw [show idx S 0 = some 1 from by rw [show (0 : Int) = ((0 : Nat) : Int) from rfl, idx_nat]; exact h0, Option.bind_some]
      exact .ret (by unfold leadS; rw [if_pos h0])
    · rw [show idx S 0 = some 2 from by rw [show (0 : Int) = ((0 : Nat) : Int) from rfl, idx_nat]; exact h0, Option.bind_some]
      exact .ret (by unfold leadS; rw [if_neg (by rw [h0]; simp)])
  subst hs2
  dsimp only
  have hr0 : idx (List.replicate d.2.2.2.length false) 0 = some false := by
    rw [show (0 : Int) = ((0 : Nat) : Int) from rfl, idx_nat, List.getElem?_replicate, if_pos hpos]
  rw [hr0, Option.bind_some]
  refine .bind (I := fun L => IsLd d.2.2.2 S L) ?_ fun L hL => .ret ⟨L, rfl, hL⟩
  generalize hl : d.2.2.2 = l at *
  -- the first i are found
  have key : ∀ (n i : Nat) (s : List Bool), l.length = i + n → 1 ≤ i → (s.length = l.length ∧ s[0]? = some true ∧ (∀ j, i ≤ j → j < l.length → s[j]? = some false) ∧ ∀ (j : Nat) m x, j ≠ 0 → j < i → l[j]? = some m → S[j]? = some x → s[j]? = some (x != 0 && ((s[m.2.2.2.toNat]?).getD false && (((l[m.2.2.2.toNat]?).getD (0, 0, 0, 0)).1 == leadS S || x == 1)))) →
      Ok (loop (m_protocol_of_L1 d (d, S, 1, List.replicate l.length false) (leadS S)) ((i : Int), s)) (IsLd l S) := by
    intro n
    induction n with
    | zero =>
      rintro i s hi h1 ⟨hs1, hs2, hs3, hs4⟩
      refine ⟨s, ?_, hs1, hs2, fun j m x hj hm hx => hs4 j m x hj (by have := (List.getElem?_eq_some_iff.1 hm).1; omega) hm hx⟩
      rw [loop_eq]
      unfold m_protocol_of_L1
      rw [hl]
      have : decide ((i : Int) < len l) = false := decide_eq_false (show ¬ (i : Int) < (l.length : Int) by omega)
      simp only [this, Bool.false_eq_true, if_false]
    | succ n ih =>
      rintro i s hi h1 ⟨hs1, hs2, hs3, hs4⟩
      have hil : i < l.length := by omega
      have hm : l[i]? = some l[i] := List.getElem?_eq_getElem hil
      have hx : S[i]? = some S[i] := List.getElem?_eq_getElem (by omega)
      have hsi := hs3 i (Nat.le_refl _) hil
      obtain ⟨t, z, g1, g2, g3⟩ := h.tgt hm (by omega)
      have hst : s[t]? = some s[t] := List.getElem?_eq_getElem (by omega)
      have hstep : m_protocol_of_L1 d (d, S, 1, List.replicate l.length false) (leadS S) ((i : Int), s) = some (.inl (((i + 1 : Nat) : Int), s.set i (S[i] != 0 && (s[t] && (z.1 == leadS S || S[i] == 1))))) := by
        unfold m_protocol_of_L1
        rw [hl]
        simp only [dec_lt hm, if_true, idx_nat, hx, hm, Option.bind_some, g1, hst, g3, hsi, Int.toNat_natCast, w64_succ i (by omega)]
        have hsf : s.set i false = s := set_same hsi
        by_cases hx0 : S[i] = 0
        · simp [hx0, hsf]
        · have e1 : (S[i] == 0) = false := by simpa using hx0
          have e2 : (S[i] != 0) = true := by simpa using hx0
          simp only [e1, e2, Bool.false_eq_true, if_false, Option.bind_some, Bool.true_and]
          cases hq : s[t] with
          | false => simp [hsf]
          | true =>
            by_cases hz : z.1 = leadS S
            · simp [hz]
            · have : (z.1 == leadS S) = false := by simpa using hz
              simp [this]
      rw [loop_eq, hstep]
      refine ih (i + 1) _ (by omega) (by omega) ⟨by simp [hs1], by rw [List.getElem?_set_ne (by omega)]; exact hs2, fun j hj hjl => by rw [List.getElem?_set_ne (by omega)]; exact hs3 j (by omega) hjl, fun j m x hj hji hmj hxj => ?_⟩
      obtain ⟨t', z', k1, k2, k3⟩ := h.tgt hmj hj
      rw [k1, Int.toNat_natCast, List.getElem?_set_ne (show i ≠ t' by omega)]
      by_cases hjeq : j = i
      · subst hjeq
        rw [hm] at hmj
        cases hmj
        rw [hx] at hxj
        cases hxj
        rw [g1] at k1
        obtain rfl : t = t' := by omega
        rw [List.getElem?_set_self (by omega), hst, g3]
        rfl
      · rw [List.getElem?_set_ne (fun e => hjeq e.symm), hs4 j m x hj (by omega) hmj hxj, k1, Int.toNat_natCast]
  refine key (l.length - 1) 1 _ (by omega) (Nat.le_refl _) ⟨by simp, by rw [show Int.toNat 0 = 0 from rfl, List.getElem?_set_self (by simpa using hpos)], fun j hj hjl => ?_, fun j m x h0 h1 => by omega⟩
  rw [show Int.toNat 0 = 0 from rfl, List.getElem?_set_ne (by omega), List.getElem?_replicate, if_pos hjl]
/-- the indices of the leading part -/
def idxs (L : List Bool) (i : Nat) : List Int := ((List.range i).filter fun k => L[k]? == some true).map Int.ofNat
theorem idxs_suc (L : List Bool) (i : Nat) : idxs L (i + 1) = idxs L i ++ (if L[i]? = some true then [(i : Int)] else []) := by
  unfold idxs
  rw [List.range_succ, List.filter_append, List.map_append]
  congr 1
  by_cases h : L[i]? = some true <;> simp [h]
theorem idxs_mem {L : List Bool} {i : Nat} {t : Nat} : (t : Int) ∈ idxs L i ↔ t < i ∧ L[t]? = some true := by
  unfold idxs
  simp only [List.mem_map, List.mem_filter, List.mem_range, beq_iff_eq]
  constructor
  · rintro ⟨k, ⟨h1, h2⟩, h3⟩
    have : k = t := by have : (k : Int) = (t : Int) := h3; omega
    subst this
    exact ⟨h1, h2⟩
  · rintro ⟨h1, h2⟩
    exact ⟨t, ⟨h1, h2⟩, rfl⟩
theorem idxs_len (L : List Bool) (i : Nat) : (idxs L i).length ≤ i := by
  unfold idxs
  rw [List.length_map]
  exact Nat.le_trans (List.length_filter_le _ _) (by simp)
theorem ref_Leading {d : T_Dialogue} {S : List Int} {L : List Bool} (h : WfL d.2.2.2) (hS : St d.2.2.2 S) (hr : m_ref27_Status d = some S) (hL : IsLd d.2.2.2 S L) : m_ref27_Leading d = some (idxs L d.2.2.2.length) := by
  have hbig := h.big
  have hpos := h.pos
  have hSl := hS.len
  have hLl := hL.len
  unfold m_ref27_Leading
  rw [hr, Option.bind_some]
  have hld := ref_leader h hS
  generalize hl : d.2.2.2 = l at *
  have key : ∀ (n i : Nat), l.length = i + n → 1 ≤ i → loop (m_ref27_Leading_L1 d S) (idxs L i, (i : Int)) = some (idxs L l.length) := by
    intro n
    induction n with
    | zero =>
      intro i hi h1
      rw [loop_eq]
      unfold m_ref27_Leading_L1
      rw [hl]
      have : decide ((i : Int) < len l) = false := decide_eq_false (show ¬ (i : Int) < (l.length : Int) by omega)
      simp only [this, Bool.false_eq_true, if_false]
      rw [show i = l.length by omega]
    | succ n ih =>
      intro i hi h1
      have hil : i < l.length := by omega
      have hm : l[i]? = some l[i] := List.getElem?_eq_getElem hil
      have hx : S[i]? = some S[i] := List.getElem?_eq_getElem (by omega)
      obtain ⟨t, z, g1, g2, g3⟩ := h.tgt hm (by omega)
      have hLt : L[t]? = some L[t] := List.getElem?_eq_getElem (by omega)
      have hat := hL.at_ i _ _ (by omega) hm hx
      rw [g1, Int.toNat_natCast, hLt, g3] at hat
      have hlen := idxs_len L i
      have hstep : m_ref27_Leading_L1 d S (idxs L i, (i : Int)) = some (.inl (idxs L (i + 1), ((i + 1 : Nat) : Int))) := by
        unfold m_ref27_Leading_L1
        rw [hl]
        have hin : m_net_In (idxs L i) (t : Int) = some L[t] := by
          rw [net_In _ (by omega)]
          congr 1
          cases hq : L[t] with
          | true => exact decide_eq_true (idxs_mem.2 ⟨g2, by rw [hLt, hq]⟩)
          | false => exact decide_eq_false fun hc => by have := (idxs_mem.1 hc).2; rw [hLt, hq] at this; cases this
        have happ : app (idxs L i) ([(i : Int)] : List Int) = some (idxs L i ++ [(i : Int)]) := app_ok (by simp; omega)
        simp only [dec_lt hm, if_true, idx_nat, hx, hm, Option.bind_some, g1, hin, g3, hld, happ, w64_succ i (by omega)]
        rw [idxs_suc, hat]
        simp only [Option.getD_some]
        by_cases hx0 : S[i] = 0
        · simp [hx0]
        · have e1 : (S[i] == 0) = false := by simpa using hx0
          have e2 : (S[i] != 0) = true := by simpa using hx0
          simp only [e1, e2, Bool.false_eq_true, if_false, Option.bind_some, Bool.true_and]
          cases hq : L[t] with
          | false => simp
          | true =>
            by_cases hz : z.1 = leadS S
            · simp [hz]
            · have e3 : (z.1 == leadS S) = false := by simpa using hz
              by_cases hx1 : S[i] = 1
              · simp [e3, hx1]
              · have e4 : (S[i] == 1) = false := by simpa using hx1
                simp [e3, e4]
      rw [loop_eq, hstep]
      exact ih (i + 1) (by omega) (by omega)
  have h1 : ([0] : List Int) = idxs L 1 := by
    rw [idxs_suc, hL.root]
    rfl
  rw [h1]
  exact key (l.length - 1) 1 (by omega) (Nat.le_refl _)
inductive Mv (l : List T_Move) (a : Int) : Nat → Prop
  | here {i : Nat} {m : T_Move} : l[i]? = some m → m.1 = 1 → m.2.2.1 = a → Mv l a i
  | up {i t : Nat} {m : T_Move} : l[i]? = some m → i ≠ 0 → m.2.2.2 = (t : Int) → Mv l a t → Mv l a i
theorem prot_moved {d : T_Dialogue} {S : List Int} {ld : Int} {L : List Bool} (h : WfL d.2.2.2) (a : Int) (i : Nat) (hi : i < d.2.2.2.length) : Ok (m_protocol_table_moved (d, S, ld, L) (i : Int) a) fun b => b = true ↔ Mv d.2.2.2 a i := by
  unfold m_protocol_table_moved
  generalize hl : d.2.2.2 = l at *
  induction i using Nat.strongRecOn with
  | _ i ih =>
    have hm : l[i]? = some l[i] := List.getElem?_eq_getElem hi
    rw [loop_eq]
    by_cases hc : l[i].1 = 1 ∧ l[i].2.2.1 = a
    · refine ⟨true, ?_, fun _ => .here hm hc.1 hc.2, fun _ => rfl⟩
      unfold m_protocol_table_moved_L1
      rw [hl]
      simp [idx_nat, hm, hc.1, hc.2]
    · have hcb : (l[i].1 == 1 && l[i].2.2.1 == a) = false := by
        rw [Bool.and_eq_false_iff]
        by_cases h1 : l[i].1 = 1
        · exact .inr (by simpa using fun h2 => hc ⟨h1, h2⟩)
        · exact .inl (by simpa using h1)
      have hno : ¬ (∃ m, l[i]? = some m ∧ m.1 = 1 ∧ m.2.2.1 = a) := by
        rintro ⟨m, h1, h2⟩
        rw [hm] at h1
        cases h1
        exact hc h2
      by_cases hi0 : i = 0
      · subst hi0
        refine ⟨false, ?_, nofun, fun hv => ?_⟩
        · unfold m_protocol_table_moved_L1
          rw [hl]
          simp only [idx_nat, hm, Option.bind_some, hcb, Bool.false_eq_true, if_false, show (((0 : Nat) : Int) == 0) = true from rfl, if_true]
        · cases hv with
          | here h1 h2 h3 => exact absurd ⟨_, h1, h2, h3⟩ hno
          | up _ h2 => exact absurd rfl h2
      · obtain ⟨t, z, g1, g2, g3⟩ := h.tgt hm hi0
        have hstep : m_protocol_table_moved_L1 (d, S, ld, L) a (i : Int) = some (.inl (t : Int)) := by
          unfold m_protocol_table_moved_L1
          rw [hl]
          have e0 : ((i : Int) == 0) = false := by simpa using hi0
          simp only [idx_nat, hm, Option.bind_some, hcb, Bool.false_eq_true, if_false, e0, g1]
        rw [hstep]
        refine (ih t g2 (by omega)).imp fun b hb => hb.trans ⟨fun hv => .up hm hi0 g1 hv, fun hv => ?_⟩
        cases hv with
        | here h1 h2 h3 => exact absurd ⟨_, h1, h2, h3⟩ hno
        | up h1 _ h3 h4 =>
          rw [hm] at h1
          cases h1
          rw [g1] at h3
          have := Int.ofNat.inj h3
          subst this
          exact h4
theorem ref_repeated {d : T_Dialogue} (h : WfL d.2.2.2) (a : Int) (i : Nat) (hi : i < d.2.2.2.length) : Ok (m_ref27_repeated d (i : Int) a) fun b => b = true ↔ Mv d.2.2.2 a i := by
  unfold m_ref27_repeated
  generalize hl : d.2.2.2 = l at *
  refine .seqE (I := fun o => match o with | .inl _ => (Mv l a 0 ↔ Mv l a i) | .inr b => b = true ∧ Mv l a i) ?_ (fun _ hv => ?_) (fun b hb => ⟨fun _ => hb.2, fun _ => hb.1⟩)
  · induction i using Nat.strongRecOn with
    | _ i ih =>
      have hm : l[i]? = some l[i] := List.getElem?_eq_getElem hi
      rw [loop_eq]
      by_cases hi0 : i = 0
      · subst hi0
        refine ⟨.inl (), ?_, Iff.rfl⟩
        unfold m_ref27_repeated_L1
        simp
      · have hd : decide ((0 : Int) < (i : Int)) = true := decide_eq_true (by omega)
        by_cases hc : l[i].1 = 1 ∧ l[i].2.2.1 = a
        · refine ⟨.inr true, ?_, rfl, .here hm hc.1 hc.2⟩
          unfold m_ref27_repeated_L1
          rw [hl]
          simp only [hd, if_true, idx_nat, hm, Option.bind_some, hc.1, hc.2, beq_self_eq_true]
        · have hno : ¬ (∃ m, l[i]? = some m ∧ m.1 = 1 ∧ m.2.2.1 = a) := by
            rintro ⟨m, h1, h2⟩
            rw [hm] at h1
            cases h1
            exact hc h2
          obtain ⟨t, z, g1, g2, g3⟩ := h.tgt hm hi0
          have hstep : m_ref27_repeated_L1 d a (i : Int) = some (.inl (t : Int)) := by
            unfold m_ref27_repeated_L1
            rw [hl]
            simp only [hd, if_true, idx_nat, hm, Option.bind_some, g1]
            by_cases h1 : l[i].1 = 1
            · have h2 : (l[i].2.2.1 == a) = false := by simpa using fun h2 => hc ⟨h1, h2⟩
              simp [h1, h2]
            · have h2 : (l[i].1 == 1) = false := by simpa using h1
              simp [h2]
          rw [hstep]
          have hup : Mv l a t ↔ Mv l a i := ⟨fun hv => .up hm hi0 g1 hv, fun hv => by
            cases hv with
            | here h1 h2 h3 => exact absurd ⟨_, h1, h2, h3⟩ hno
            | up h1 _ h3 h4 =>
              rw [hm] at h1
              cases h1
              rw [g1] at h3
              have := Int.ofNat.inj h3
              subst this
              exact h4⟩
          refine (ih t g2 (by omega)).imp fun o ho => ?_
          cases o with
          | inl u => exact ho.trans hup
          | inr b => exact ⟨ho.1, hup.1 ho.2⟩
  · obtain ⟨r, hr⟩ := h.first
    rw [show (0 : Int) = ((0 : Nat) : Int) from rfl, idx_nat, hr, Option.bind_some]
    have hv : Mv l a 0 ↔ Mv l a i := hv
    refine .ret ?_
    rw [← hv, beq_iff_eq]
    constructor
    · intro e
      exact .here hr rfl e
    · intro hv0
      cases hv0 with
      | here h1 h2 h3 => rw [hr] at h1; cases h1; exact h3
      | up _ h2 => exact absurd rfl h2
end
section
variable {l : List T_Move}
/-- a dialogue's graph as it must be -/
structure WfG (g : T_Graph) : Prop where
  n : 0 ≤ g.1 ∧ g.1 ≤ 1000
  len : g.2.length ≤ 10000
  at_ : ∀ p ∈ g.2, 0 ≤ p.1 ∧ p.1 < g.1 ∧ 0 ≤ p.2 ∧ p.2 < g.1
/-- an attack of the player behind that is legal -/
def LegA (E : List T_Pair) (l : List T_Move) (ld : Int) (i : Nat) (x : T_Move) : Prop := ∃ m p, l[i]? = some m ∧ m.1 = ld ∧ p ∈ E ∧ p.2 = m.2.2.1 ∧ x = (3 - ld, 2, p.1, (i : Int)) ∧ x ∉ l ∧ ¬ (3 - ld = 1 ∧ Mv l p.1 i)
def Leg (d : T_Dialogue) (S : List Int) (L : List Bool) (x : T_Move) : Prop := ∃ i : Nat, L[i]? = some true ∧ LegA d.1.2 d.2.2.2 (leadS S) i x
theorem contains_move {l : List T_Move} (x : T_Move) (h : l.length < 4294967296) : m_slices_Contains_Move l x = some (decide (x ∈ l)) := by
  obtain ⟨r, h1, h2⟩ := indexM_spec l x (by omega)
  unfold m_slices_Contains_Move m_slices_Index_Move
  rw [show loop (m_slices_Index_Move_L1 l x) 0 = some r from h1]
  simp only [Option.bind_some]
  congr 1
  rw [decide_eq_decide, h2]
  simp
theorem prot_legal {d : T_Dialogue} {S : List Int} {L : List Bool} (h : WfL d.2.2.2) (hg : WfG d.1) (hL : L.length = d.2.2.2.length) : Ok (m_protocol_table_legal (d, S, leadS S, L)) fun P => P.length ≤ 4000000 ∧ ∀ x, x ∈ P ↔ Leg d S L x := by
  have hbig := h.big
  have hgl := hg.len
  have hld := leadS_12 S
  unfold m_protocol_table_legal
  have ho : m_protocol_other (leadS S) = some (3 - leadS S) := by
    unfold m_protocol_other
    rw [w64_id (by omega) (by omega)]
  rw [ho, Option.bind_some]
  generalize hl : d.2.2.2 = l at *
  generalize hE : d.1.2 = E at *
  have hLeg : ∀ x, Leg d S L x ↔ ∃ i : Nat, L[i]? = some true ∧ LegA E l (leadS S) i x := by
    intro x
    unfold Leg
    rw [hl, hE]
  simp only [hLeg]
  refine Ok.forI (fun i (P : List T_Move) => (P, (i : Int))) l (fun i P => P.length ≤ i * E.length ∧ ∀ x, x ∈ P ↔ ∃ j : Nat, j < i ∧ L[j]? = some true ∧ LegA E l (leadS S) j x) _ (fun i m P hm hP => ?_) (fun P hP => ?_) _ ⟨by simp, by simp⟩
  · obtain ⟨hP1, hP2⟩ := hP
    have hil := (List.getElem?_eq_some_iff.1 hm).1
    have hLi : L[i]? = some L[i] := List.getElem?_eq_getElem (by omega)
    have hm1 : i * E.length ≤ 400 * 10000 := Nat.mul_le_mul (by omega) hgl
    unfold m_protocol_table_legal_L1
    rw [hl]
    simp only [dec_lt hm, if_true, idx_nat, hm, hLi, Option.bind_some]
    refine .bind (I := fun o => o = !(L[i] && decide (m.1 = leadS S))) ?_ fun o ho => ?_
    · cases L[i] with
      | false => exact .ret rfl
      | true =>
        simp only [Bool.not_true, Bool.false_eq_true, if_false, Bool.true_and]
        refine .ret ?_
        by_cases hq : m.1 = leadS S <;> simp [hq]
    subst ho
    by_cases hc : L[i] = true ∧ m.1 = leadS S
    · rw [hc.1, decide_eq_true hc.2]
      simp only [Bool.and_self, Bool.not_true, Bool.false_eq_true, if_false]
      refine Ok.forI (fun k (P' : List T_Move) => (P', (k : Int))) E (fun k P' => P'.length ≤ i * E.length + k ∧ ∀ x, x ∈ P' ↔ (∃ j : Nat, j < i ∧ L[j]? = some true ∧ LegA E l (leadS S) j x) ∨ LegA (E.take k) l (leadS S) i x) _ (fun k p P' hp hP' => ?_) (fun P' hP' => ?_) P ⟨by omega, fun x => by
        rw [hP2]
        have : LegA (E.take 0) l (leadS S) i x ↔ False := ⟨by rintro ⟨m, p, _, _, h3, _⟩; simp at h3, False.elim⟩
        rw [this, or_false]⟩
      · obtain ⟨hQ1, hQ2⟩ := hP'
        have hkl := (List.getElem?_eq_some_iff.1 hp).1
        unfold m_protocol_table_legal_L2
        rw [hE, hl]
        simp only [dec_lt hp, if_true, idx_nat, hp, Option.bind_some, contains_move _ (show l.length < 4294967296 by omega)]
        -- whether it is taken
        refine .bind (I := fun o => o = false ↔ (p.2 = m.2.2.1 ∧ (3 - leadS S, 2, p.1, (i : Int)) ∉ l ∧ ¬ (3 - leadS S = 1 ∧ Mv l p.1 i))) ?_ fun o ho => ?_
        · by_cases h1 : p.2 = m.2.2.1
          · have e1 : (p.2 != m.2.2.1) = false := by simp [h1]
            simp only [e1, Bool.false_eq_true, if_false]
            by_cases h2 : (3 - leadS S, 2, p.1, (i : Int)) ∈ l
            · rw [decide_eq_true h2]
              simp only [if_true]
              exact .ret ⟨nofun, fun hh => absurd h2 hh.2.1⟩
            · rw [decide_eq_false h2]
              simp only [Bool.false_eq_true, if_false]
              by_cases h3 : 3 - leadS S = 1
              · have e3 : ((3 - leadS S) == 1) = true := by simpa using h3
                simp only [e3, if_true]
                refine .bind (prot_moved (S := S) (ld := leadS S) (L := L) (show WfL d.2.2.2 by rw [hl]; exact h) p.1 i (by rw [hl]; exact hil)) fun b hb => ?_
                rw [hl] at hb
                refine .ret ⟨fun hf => ⟨h1, h2, fun hh => ?_⟩, fun hh => ?_⟩
                · rw [hb.2 hh.2] at hf; cases hf
                · cases hbv : b with
                  | false => rfl
                  | true => exact absurd ⟨h3, hb.1 hbv⟩ hh.2.2
              · have e3 : ((3 - leadS S) == 1) = false := by simpa using h3
                simp only [e3, Bool.false_eq_true, if_false]
                exact .ret ⟨fun _ => ⟨h1, h2, fun hh => h3 hh.1⟩, fun _ => rfl⟩
          · have e1 : (p.2 != m.2.2.1) = true := by simpa using h1
            simp only [e1, if_true]
            exact .ret ⟨nofun, fun hh => absurd hh.1 h1⟩
        have hsplit : ∀ x, LegA (E.take (k + 1)) l (leadS S) i x ↔ LegA (E.take k) l (leadS S) i x ∨ (o = false ∧ x = (3 - leadS S, 2, p.1, (i : Int))) := by
          intro x
          rw [ho]
          constructor
          · rintro ⟨m', p', q1, q2, q3, q4, q5, q6, q7⟩
            rw [List.take_add_one, hp] at q3
            rcases List.mem_append.1 q3 with q3 | q3
            · exact .inl ⟨m', p', q1, q2, q3, q4, q5, q6, q7⟩
            · simp at q3
              subst q3
              rw [hm] at q1
              cases q1
              subst q5
              exact .inr ⟨⟨q4, q6, q7⟩, rfl⟩
          · rintro (⟨m', p', q1, q2, q3, q4, q5, q6, q7⟩ | ⟨⟨q4, q6, q7⟩, rfl⟩)
            · exact ⟨m', p', q1, q2, by rw [List.take_add_one]; exact List.mem_append.2 (.inl q3), q4, q5, q6, q7⟩
            · exact ⟨m, p, hm, hc.2, by rw [List.take_add_one, hp]; simp, q4, rfl, q6, q7⟩
        refine .ite (fun hot => ?_) fun hof => ?_
        · refine .ret ⟨_, by rw [w64_succ k (by omega)], by omega, fun x => ?_⟩
          rw [hQ2, hsplit]
          rw [hot]
          simp
        · rw [app_ok (by simp; omega), Option.bind_some]
          refine .ret ⟨_, by rw [w64_succ k (by omega)], by simp; omega, fun x => ?_⟩
          rw [List.mem_append, hQ2, hsplit, List.mem_singleton, or_assoc]
          simp [hof]
      · obtain ⟨hQ1, hQ2⟩ := hP'
        unfold m_protocol_table_legal_L2
        rw [hE]
        simp only [dec_end, Bool.false_eq_true, if_false]
        refine .ret ⟨_, by rw [w64_succ i (by omega)], by rw [Nat.add_mul, Nat.one_mul]; exact hQ1, fun x => ?_⟩
        rw [hQ2, List.take_of_length_le (Nat.le_refl _)]
        constructor
        · rintro (⟨j, q1, q2, q3⟩ | q)
          · exact ⟨j, by omega, q2, q3⟩
          · exact ⟨i, by omega, by rw [hLi, hc.1], q⟩
        · rintro ⟨j, q1, q2, q3⟩
          by_cases hji : j = i
          · subst hji; exact .inr q3
          · exact .inl ⟨j, by omega, q2, q3⟩
    · have : (L[i] && decide (m.1 = leadS S)) = false := by
        rw [Bool.and_eq_false_iff]
        by_cases h1 : L[i] = true
        · exact .inr (decide_eq_false fun h2 => hc ⟨h1, h2⟩)
        · exact .inl (by simpa using h1)
      rw [this]
      simp only [Bool.not_false, if_true]
      refine .ret ⟨_, by rw [w64_succ i (by omega)], by rw [Nat.add_mul]; omega, fun x => ?_⟩
      rw [hP2]
      constructor
      · rintro ⟨j, q1, q2, q3⟩; exact ⟨j, by omega, q2, q3⟩
      · rintro ⟨j, q1, q2, q3⟩
        by_cases hji : j = i
        · subst hji
          obtain ⟨m', p, q4, q5, _⟩ := q3
          rw [hm] at q4
          cases q4
          rw [hLi] at q2
          exact absurd ⟨Option.some.inj q2, q5⟩ hc
        · exact ⟨j, by omega, q2, q3⟩
  · obtain ⟨hP1, hP2⟩ := hP
    have hm1 : l.length * E.length ≤ 400 * 10000 := Nat.mul_le_mul (by omega) hgl
    unfold m_protocol_table_legal_L1
    rw [hl]
    simp only [dec_end, Bool.false_eq_true, if_false]
    refine .ret ⟨by omega, fun x => ?_⟩
    rw [hP2]
    constructor
    · rintro ⟨j, _, q2, q3⟩; exact ⟨j, q2, q3⟩
    · rintro ⟨j, q2, q3⟩
      exact ⟨j, by rw [← hL]; exact (List.getElem?_eq_some_iff.1 q2).1, q2, q3⟩
/-- has the move i been attacked by the node a already? -/
def doneA (l : List T_Move) (i : Nat) (a : Int) : Bool := l.any fun m => m.2.1 == 2 && m.2.2.2 == (i : Int) && m.2.2.1 == a
theorem doneA_iff (h : WfL l) {i : Nat} {m : T_Move} {ld a : Int} (hm : l[i]? = some m) (hld : m.1 = ld) : doneA l i a = true ↔ (3 - ld, 2, a, (i : Int)) ∈ l := by
  unfold doneA
  rw [List.any_eq_true]
  constructor
  · rintro ⟨x, hx, hc⟩
    obtain ⟨k, hk⟩ := List.mem_iff_getElem?.1 hx
    simp only [Bool.and_eq_true, beq_iff_eq] at hc
    obtain ⟨t, z, g1, g2, g3, g4⟩ := h.att hk hc.1.1
    rw [hc.1.2] at g1
    have := Int.ofNat.inj g1
    subst this
    rw [hm] at g3
    cases g3
    have : x = (3 - ld, 2, a, (i : Int)) := by
      obtain ⟨x1, x2, x3, x4⟩ := x
      simp only at hc g4
      obtain ⟨⟨rfl, rfl⟩, rfl⟩ := hc
      have : x1 = 3 - ld := by omega
      rw [this]
    rw [← this]
    exact hx
  · intro hx
    exact ⟨_, hx, by simp⟩
theorem ref_attacks_L3 {d : T_Dialogue} (h : WfL d.2.2.2) (i : Nat) (r : Bool) (s : List T_Move) (a : Int) : loop (m_ref27_attacks_L3 d (i : Int) (s, a)) (r, 0) = some (r && !doneA d.2.2.2 i a) := by
  have hbig := h.big
  generalize hl : d.2.2.2 = l at *
  have hh : Ok (loop (m_ref27_attacks_L3 d (i : Int) (s, a)) (r, 0)) fun o => o = (r && !doneA l i a) := by
    refine Ok.forI (fun k (b : Bool) => (b, (k : Int))) l (fun k b => b = (r && !doneA (l.take k) i a)) _ (fun k m b hm hb => ?_) (fun b hb => ?_) r (by simp [doneA])
    · have hk := (List.getElem?_eq_some_iff.1 hm).1
      subst hb
      unfold m_ref27_attacks_L3
      rw [hl]
      simp only [dec_lt hm, if_true, idx_nat, hm, Option.bind_some]
      have hs : doneA (l.take (k + 1)) i a = (doneA (l.take k) i a || (m.2.1 == 2 && m.2.2.2 == (i : Int) && m.2.2.1 == a)) := by
        unfold doneA
        rw [List.take_add_one, hm, List.any_append]
        simp
      refine .bind (I := fun o => o = (r && !doneA (l.take (k + 1)) i a)) ?_ fun o ho => .ret ⟨_, by rw [w64_succ k (by omega)], ho⟩
      rw [hs]
      cases hq : (r && !doneA (l.take k) i a) with
      | false =>
        simp only [Bool.false_eq_true, if_false]
        refine .ret ?_
        cases r <;> simp_all
      | true =>
        simp only [Bool.and_eq_true, Bool.not_eq_true'] at hq
        rw [hq.1, hq.2]
        simp only [if_true, Bool.true_and, Bool.false_or]
        by_cases h2 : m.2.1 = 2
        · by_cases h3 : m.2.2.2 = (i : Int)
          · simp only [h2, h3, beq_self_eq_true, if_true, Bool.true_and]; exact .ret rfl
          · have e3 : (m.2.2.2 == (i : Int)) = false := by simpa using h3
            simp only [h2, e3, beq_self_eq_true, if_true, Bool.false_eq_true, if_false]; exact .ret rfl
        · have e2 : (m.2.1 == 2) = false := by simpa using h2
          simp only [e2, Bool.false_eq_true, if_false]; exact .ret rfl
    · subst hb
      unfold m_ref27_attacks_L3
      rw [hl]
      simp only [dec_end, Bool.false_eq_true, if_false]
      rw [List.take_of_length_le (Nat.le_refl _)]
      exact .ret rfl
  obtain ⟨o, h1, rfl⟩ := hh
  exact h1
/-- what the reference takes -/
def LegB (d : T_Dialogue) (ld : Int) (hi : Int) (i : Nat) (x : T_Move) : Prop := ∃ m a, d.2.2.2[i]? = some m ∧ m.1 = ld ∧ 0 ≤ a ∧ a < hi ∧ (a, m.2.2.1) ∈ d.1.2 ∧ x = (3 - ld, 2, a, (i : Int)) ∧ x ∉ d.2.2.2 ∧ ¬ (3 - ld = 1 ∧ Mv d.2.2.2 a i)
theorem legB_iff {d : T_Dialogue} {ld : Int} (hg : WfG d.1) {i : Nat} {x : T_Move} : LegB d ld d.1.1 i x ↔ LegA d.1.2 d.2.2.2 ld i x := by
  constructor
  · rintro ⟨m, a, h1, h2, _, _, h5, h6, h7, h8⟩
    exact ⟨m, (a, m.2.2.1), h1, h2, h5, rfl, h6, h7, h8⟩
  · rintro ⟨m, p, h1, h2, h3, h4, h5, h6, h7⟩
    have := hg.at_ p h3
    refine ⟨m, p.1, h1, h2, this.1, this.2.1, ?_, h5, h6, h7⟩
    rw [← h4]
    exact h3
theorem ref27_attacks {d : T_Dialogue} {S : List Int} {L : List Bool} (h : WfL d.2.2.2) (hg : WfG d.1) (hS : St d.2.2.2 S) (hr : m_ref27_Status d = some S) (hL : IsLd d.2.2.2 S L) : Ok (m_ref27_attacks d) fun P => P.length ≤ 4000000 ∧ ∀ x, x ∈ P ↔ Leg d S L x := by
  have hbig := h.big
  have hgl := hg.len
  have hgn := hg.n
  have hld := leadS_12 S
  have hLl := hL.len
  have hlead := ref_leader h hS
  have hLeadg := ref_Leading h hS hr hL
  unfold m_ref27_attacks
  rw [hr, Option.bind_some, hlead, Option.bind_some, hLeadg, Option.bind_some]
  have hNat : ∃ N : Nat, d.1.1 = (N : Int) := ⟨d.1.1.toNat, by omega⟩
  obtain ⟨N, hN⟩ := hNat
  have hil := idxs_len L d.2.2.2.length
  -- the leading moves before the q-th
  refine Ok.imp (I := fun P => P.length ≤ 400 * 1000 ∧ ∀ x, x ∈ P ↔ ∃ (i : Nat), (i : Int) ∈ idxs L d.2.2.2.length ∧ LegB d (leadS S) d.1.1 i x) ?_ fun P hP => ⟨by omega, fun x => ?_⟩
  · refine Ok.forI (fun q (P : List T_Move) => (P, (q : Int))) (idxs L d.2.2.2.length) (fun q P => P.length ≤ q * N ∧ ∀ x, x ∈ P ↔ ∃ (i : Nat), (i : Int) ∈ (idxs L d.2.2.2.length).take q ∧ LegB d (leadS S) d.1.1 i x) _ (fun q y P hy hP => ?_) (fun P hP => ?_) _ ⟨by simp, by simp⟩
    · obtain ⟨hP1, hP2⟩ := hP
      have hq := (List.getElem?_eq_some_iff.1 hy).1
      obtain ⟨i, rfl, hiL⟩ : ∃ i : Nat, y = (i : Int) ∧ i < d.2.2.2.length := by
        have hmem := List.mem_of_getElem? hy
        unfold idxs at hmem
        obtain ⟨k, hk, rfl⟩ := List.mem_map.1 hmem
        exact ⟨k, rfl, by have := List.mem_range.1 (List.mem_filter.1 hk).1; exact this⟩
      have hm : d.2.2.2[i]? = some d.2.2.2[i] := List.getElem?_eq_getElem hiL
      have hqN : q * N ≤ 400 * 1000 := Nat.mul_le_mul (by omega) (by omega)
      have htake : ∀ (i' : Nat), (i' : Int) ∈ (idxs L d.2.2.2.length).take (q + 1) ↔ (i' : Int) ∈ (idxs L d.2.2.2.length).take q ∨ i' = i := by
        intro i'
        rw [List.take_add_one, hy, List.mem_append]
        exact or_congr Iff.rfl ⟨fun h => by simp at h; omega, fun h => by subst h; simp⟩
      unfold m_ref27_attacks_L1
      simp only [dec_lt hy, if_true, idx_nat, hy, hm, Option.bind_some]
      rw [w64_id (x := 3 - leadS S) (by omega) (by omega)]
      have hby := h.by12 hm
      by_cases hb : d.2.2.2[i].1 = leadS S
      · have e1 : (d.2.2.2[i].1 == 3 - leadS S) = false := by rw [beq_eq_false_iff_ne]; omega
        simp only [e1, Bool.false_eq_true, if_false]
        refine Ok.forI (fun k (P' : List T_Move) => (P', (k : Int))) (List.range N) (fun k P' => P'.length ≤ q * N + k ∧ ∀ x, x ∈ P' ↔ (∃ (i : Nat), (i : Int) ∈ (idxs L d.2.2.2.length).take q ∧ LegB d (leadS S) d.1.1 i x) ∨ LegB d (leadS S) (k : Int) i x) _ (fun k z P' hz hP' => ?_) (fun P' hP' => ?_) P ⟨by omega, fun x => by
          rw [hP2]
          have : LegB d (leadS S) ((0 : Nat) : Int) i x ↔ False := ⟨by rintro ⟨m, a, _, _, h3, h4, _⟩; omega, False.elim⟩
          rw [this, or_false]⟩
        · obtain ⟨hQ1, hQ2⟩ := hP'
          have hkN : k < N := by simpa using (List.getElem?_eq_some_iff.1 hz).1
          unfold m_ref27_attacks_L2
          have hdk : decide ((k : Int) < d.1.1) = true := decide_eq_true (by omega)
          have hhas : m_net_Has d.1 (k : Int) d.2.2.2[i].2.2.1 = some (ed d.1.2 (k : Int) d.2.2.2[i].2.2.1) := net_Has d.1.1 d.1.2 (by omega) _ _
          simp only [hdk, if_true, idx_nat, hm, Option.bind_some, hhas]
          rw [ref_attacks_L3 h, Option.bind_some, w64_id (x := 3 - leadS S) (by omega) (by omega)]
          refine .bind (I := fun o => o = true ↔ ((((k : Int)), d.2.2.2[i].2.2.1) ∈ d.1.2 ∧ (3 - leadS S, 2, (k : Int), (i : Int)) ∉ d.2.2.2 ∧ ¬ (3 - leadS S = 1 ∧ Mv d.2.2.2 (k : Int) i))) ?_ fun o ho => ?_
          · have hdone := doneA_iff h (a := (k : Int)) hm hb
            cases hq2 : (ed d.1.2 (k : Int) d.2.2.2[i].2.2.1 && !doneA d.2.2.2 i (k : Int)) with
            | false =>
              simp only [Bool.false_eq_true, if_false]
              refine .ret ⟨nofun, fun hh => ?_⟩
              have e2 := ed_mem.2 hh.1
              rw [e2, Bool.true_and, Bool.not_eq_false'] at hq2
              exact absurd (hdone.1 hq2) hh.2.1
            | true =>
              simp only [Bool.and_eq_true, Bool.not_eq_true'] at hq2
              have e2 := ed_mem.1 hq2.1
              have e3 : (3 - leadS S, 2, (k : Int), (i : Int)) ∉ d.2.2.2 := fun hh => by rw [hdone.2 hh] at hq2; cases hq2.2
              simp only [if_true]
              by_cases h2 : 3 - leadS S = 2
              · have e4 : ((3 - leadS S) == 2) = true := by simpa using h2
                simp only [e4, if_true]
                exact .ret ⟨fun _ => ⟨e2, e3, fun hh => by omega⟩, fun _ => rfl⟩
              · have e4 : ((3 - leadS S) == 2) = false := by simpa using h2
                simp only [e4, Bool.false_eq_true, if_false]
                refine .bind (ref_repeated h (k : Int) i hiL) fun b hb2 => .ret ⟨fun hh => ⟨e2, e3, fun h3 => ?_⟩, fun hh => ?_⟩
                · rw [hb2.2 h3.2] at hh; cases hh
                · cases hbv : b with
                  | false => rfl
                  | true => exact absurd ⟨by omega, hb2.1 hbv⟩ hh.2.2
          have hsplit : ∀ x, LegB d (leadS S) ((k + 1 : Nat) : Int) i x ↔ LegB d (leadS S) (k : Int) i x ∨ (o = true ∧ x = (3 - leadS S, 2, (k : Int), (i : Int))) := by
            intro x
            rw [ho]
            constructor
            · rintro ⟨m, a, q1, q2, q3, q4, q5, q6, q7, q8⟩
              by_cases hak : a = (k : Int)
              · subst hak
                rw [hm] at q1
                cases q1
                subst q6
                exact .inr ⟨⟨q5, q7, q8⟩, rfl⟩
              · exact .inl ⟨m, a, q1, q2, q3, by omega, q5, q6, q7, q8⟩
            · rintro (⟨m, a, q1, q2, q3, q4, q5, q6, q7, q8⟩ | ⟨⟨q5, q7, q8⟩, rfl⟩)
              · exact ⟨m, a, q1, q2, q3, by omega, q5, q6, q7, q8⟩
              · exact ⟨_, (k : Int), hm, hb, by omega, by omega, q5, rfl, q7, q8⟩
          refine .ite (fun hot => ?_) fun hof => ?_
          · rw [app_ok (by simp; omega), Option.bind_some]
            refine .ret ⟨_, by rw [w64_succ k (by omega)], by simp; omega, fun x => ?_⟩
            rw [List.mem_append, hQ2, hsplit, List.mem_singleton, or_assoc]
            simp [hot]
          · refine .ret ⟨_, by rw [w64_succ k (by omega)], by omega, fun x => ?_⟩
            rw [hQ2, hsplit]
            simp [hof]
        · obtain ⟨hQ1, hQ2⟩ := hP'
          unfold m_ref27_attacks_L2
          have hdk : decide (((List.range N).length : Int) < d.1.1) = false := decide_eq_false (by rw [List.length_range]; omega)
          simp only [hdk, Bool.false_eq_true, if_false]
          refine .ret ⟨_, by rw [w64_succ q (by omega)], by rw [Nat.add_mul, Nat.one_mul]; simpa using hQ1, fun x => ?_⟩
          rw [hQ2, List.length_range, ← hN]
          constructor
          · rintro (⟨j, q1, q2⟩ | q1)
            · exact ⟨j, (htake j).2 (.inl q1), q2⟩
            · exact ⟨i, (htake i).2 (.inr rfl), q1⟩
          · rintro ⟨j, q1, q2⟩
            rcases (htake j).1 q1 with q1 | rfl
            · exact .inl ⟨j, q1, q2⟩
            · exact .inr q2
      · have e1 : (d.2.2.2[i].1 == 3 - leadS S) = true := by rw [beq_iff_eq]; omega
        simp only [e1, if_true]
        refine .ret ⟨_, by rw [w64_succ q (by omega)], by rw [Nat.add_mul]; omega, fun x => ?_⟩
        rw [hP2]
        constructor
        · rintro ⟨j, q1, q2⟩; exact ⟨j, (htake j).2 (.inl q1), q2⟩
        · rintro ⟨j, q1, q2⟩
          rcases (htake j).1 q1 with q1 | rfl
          · exact ⟨j, q1, q2⟩
          · obtain ⟨m, a, q3, q4, _⟩ := q2
            rw [hm] at q3
            cases q3
            exact absurd q4 hb
    · obtain ⟨hP1, hP2⟩ := hP
      have hqN : (idxs L d.2.2.2.length).length * N ≤ 400 * 1000 := Nat.mul_le_mul (by omega) (by omega)
      unfold m_ref27_attacks_L1
      simp only [dec_end, Bool.false_eq_true, if_false]
      rw [List.take_of_length_le (Nat.le_refl _)] at hP2
      exact .ret ⟨by omega, hP2⟩
  · rw [hP.2]
    unfold Leg
    constructor
    · rintro ⟨i, h1, h2⟩
      exact ⟨i, (idxs_mem.1 h1).2, (legB_iff hg).1 h2⟩
    · rintro ⟨i, h1, h2⟩
      exact ⟨i, idxs_mem.2 ⟨by rw [← hLl]; exact (List.getElem?_eq_some_iff.1 h1).1, h1⟩, (legB_iff hg).2 h2⟩
end
section
variable {l : List T_Move}
/-- a dialogue as the rules make it -/
structure WfD (d : T_Dialogue) : Prop where
  l : WfL d.2.2.2
  g : WfG d.1
/-- the moves that the player behind may make -/
def limS (d : T_Dialogue) (S : List Int) : Int := if leadS S = 1 then d.2.2.1.2 else d.2.2.1.1
/-- what an end is like -/
def endS (d : T_Dialogue) (S : List Int) (none_ : Bool) : T_Outcome :=
  let last := (d.2.2.2[d.2.2.2.length - 1]?).getD (0, 0, 0, 0)
  if last.2.1 = 4 then (3 - last.1, 3)
  else if 200 ≤ d.2.2.2.length then (leadS S, 4)
  else if limS d S ≤ ((d.2.2.2.filter fun m => decide (m.1 ≠ leadS S)).length : Int) then (leadS S, 2)
  else if none_ then (leadS S, 1) else (0, 0)
theorem cnt_loop (h : l.length ≤ 400) {B : Int × Int → Option ((Int × Int) ⊕ Int)} (q : T_Move → Bool) (hB : ∀ (i : Nat) m (c : Int), l[i]? = some m → 0 ≤ c → c ≤ 400 → B (c, (i : Int)) = some (.inl ((if q m = true then c + 1 else c), ((i + 1 : Nat) : Int))))
    (he : ∀ c, B (c, (l.length : Int)) = some (.inr c)) : loop B (0, 0) = some ((l.filter q).length : Int) := by
  have hh : Ok (loop B (0, 0)) fun o => o = ((l.filter q).length : Int) := by
    refine Ok.forI (fun i (c : Int) => (c, (i : Int))) l (fun i c => c = (((l.take i).filter q).length : Int)) _ (fun i m c hm hc => ?_) (fun c hc => ?_) 0 (by simp)
    · have hi := (List.getElem?_eq_some_iff.1 hm).1
      have hle : ((l.take i).filter q).length ≤ i := Nat.le_trans (List.length_filter_le _ _) (by rw [List.length_take]; exact Nat.min_le_left _ _)
      refine ⟨_, hB i m c hm (by omega) (by omega), _, rfl, ?_⟩
      show (if q m = true then c + 1 else c) = (((l.take (i + 1)).filter q).length : Int)
      rw [List.take_add_one, hm, List.filter_append, List.length_append, hc]
      cases hq : q m <;> simp [hq]
    · refine ⟨_, he c, ?_⟩
      rw [List.take_of_length_le (Nat.le_refl _)] at hc
      exact hc
  obtain ⟨o, h1, rfl⟩ := hh
  exact h1
theorem WfL.last (h : WfL l) : ∃ m, l[l.length - 1]? = some m := ⟨_, List.getElem?_eq_getElem (by have := h.pos; omega)⟩
theorem prot_End {d : T_Dialogue} {S : List Int} {L : List Bool} (h : WfD d) (hS : St d.2.2.2 S) (hof : m_protocol_of d = some (d, S, leadS S, L)) (hL : L.length = d.2.2.2.length) : ∃ P, m_protocol_table_legal (d, S, leadS S, L) = some P ∧ (P.length ≤ 4000000 ∧ ∀ x, x ∈ P ↔ Leg d S L x) ∧ m_protocol_End d = some (endS d S (decide (P.length = 0))) := by
  have _ := hS
  obtain ⟨P, hP1, hP2⟩ := prot_legal h.l h.g hL
  refine ⟨P, hP1, hP2, ?_⟩
  have hpos := h.l.pos
  have hbig := h.l.big
  have hld := leadS_12 S
  obtain ⟨m, hm⟩ := h.l.last
  have hm12 := h.l.by12 hm
  unfold m_protocol_End
  have e0 : ((len d.2.2.2) == 0) = false := by
    rw [beq_eq_false_iff_ne]
    exact (show (d.2.2.2.length : Int) ≠ 0 by omega)
  rw [e0, hof]
  simp only [Bool.false_eq_true, if_false, Option.bind_some]
  unfold m_protocol_table_end
  have hother : ∀ x : Int, x = 1 ∨ x = 2 → m_protocol_other x = some (3 - x) := fun x hx => by
    unfold m_protocol_other
    rw [w64_id (by omega) (by omega)]
  have hc := cnt_loop (B := m_protocol_table_end_L1 (d, S, leadS S, L)) hbig (fun m => decide (m.1 ≠ leadS S)) (fun i m c hm hc0 hc1 => by
    have hby := h.l.by12 hm
    have hi := (List.getElem?_eq_some_iff.1 hm).1
    unfold m_protocol_table_end_L1
    simp only [dec_lt hm, if_true, idx_nat, hm, Option.bind_some, hother _ hld, w64_succ i (by omega)]
    by_cases hq : m.1 = leadS S
    · have e1 : (m.1 == 3 - leadS S) = false := by rw [beq_eq_false_iff_ne]; omega
      have e2 : decide (m.1 ≠ leadS S) = false := by simp [hq]
      rw [e1, e2]
      simp only [Bool.false_eq_true, if_false]
    · have e1 : (m.1 == 3 - leadS S) = true := by rw [beq_iff_eq]; omega
      simp only [e1, if_true]
      rw [w64_id (x := c + 1) (by omega) (by omega)]
      simp [hq]) (fun c => by
    unfold m_protocol_table_end_L1
    simp only [dec_end, Bool.false_eq_true, if_false])
  rw [hc]
  have e1 : w64 (len d.2.2.2 - 1) = ((d.2.2.2.length - 1 : Nat) : Int) := by
    have : len d.2.2.2 = (d.2.2.2.length : Int) := rfl
    rw [this, w64_id (by omega) (by omega)]
    omega
  have hlen : len d.2.2.2 = (d.2.2.2.length : Int) := rfl
  simp only [Option.bind_some, e1, idx_nat, hm, hother _ hld, hother _ hm12, hP1]
  unfold endS
  rw [hm]
  simp only [Option.getD_some]
  by_cases h4 : m.2.1 = 4
  · simp [h4]
  · have e4 : (m.2.1 == 4) = false := by simpa using h4
    rw [e4, if_neg h4]
    simp only [Bool.false_eq_true, if_false]
    by_cases h5 : 200 ≤ d.2.2.2.length
    · have : decide ((200 : Int) ≤ len d.2.2.2) = true := decide_eq_true (by omega)
      simp [this, h5]
    · have : decide ((200 : Int) ≤ len d.2.2.2) = false := decide_eq_false (by omega)
      rw [this, if_neg h5]
      simp only [Bool.false_eq_true, if_false]
      have hi : idx ([d.2.2.1.1, d.2.2.1.2] : List Int) (w64 (3 - leadS S - 1)) = some (limS d S) := by
        unfold limS
        rcases hld with h1 | h1 <;> rw [h1] <;> rfl
      rw [hi, Option.bind_some]
      by_cases h6 : limS d S ≤ ((d.2.2.2.filter fun m => decide (m.1 ≠ leadS S)).length : Int)
      · rw [decide_eq_true h6, if_pos h6]
        simp
      · rw [decide_eq_false h6, if_neg h6]
        simp only [Bool.false_eq_true, if_false]
        by_cases h7 : P.length = 0
        · have : ((len P) == 0) = true := by rw [beq_iff_eq]; exact (show (P.length : Int) = 0 by omega)
          simp [this, h7]
        · have : ((len P) == 0) = false := by rw [beq_eq_false_iff_ne]; exact (show (P.length : Int) ≠ 0 by omega)
          simp [this, h7]
theorem ref_End {d : T_Dialogue} {S : List Int} {L : List Bool} (h : WfD d) (hS : St d.2.2.2 S) (hr : m_ref27_Status d = some S) (hL : IsLd d.2.2.2 S L) : ∃ P, m_ref27_attacks d = some P ∧ (P.length ≤ 4000000 ∧ ∀ x, x ∈ P ↔ Leg d S L x) ∧ m_ref27_End d = some (endS d S (decide (P.length = 0))) := by
  obtain ⟨P, hP1, hP2⟩ := ref27_attacks h.l h.g hS hr hL
  refine ⟨P, hP1, hP2, ?_⟩
  have hpos := h.l.pos
  have hbig := h.l.big
  have hld := leadS_12 S
  obtain ⟨m, hm⟩ := h.l.last
  have hm12 := h.l.by12 hm
  unfold m_ref27_End
  have e1 : w64 (len d.2.2.2 - 1) = ((d.2.2.2.length - 1 : Nat) : Int) := by
    have : len d.2.2.2 = (d.2.2.2.length : Int) := rfl
    rw [this, w64_id (by omega) (by omega)]
    omega
  have hlen : len d.2.2.2 = (d.2.2.2.length : Int) := rfl
  have hc := cnt_loop (B := m_ref27_End_L1 d (leadS S)) hbig (fun m => decide (m.1 ≠ leadS S)) (fun i m c hm hc0 hc1 => by
    have hi := (List.getElem?_eq_some_iff.1 hm).1
    unfold m_ref27_End_L1
    simp only [dec_lt hm, if_true, idx_nat, hm, Option.bind_some, w64_succ i (by omega)]
    by_cases hq : m.1 = leadS S
    · simp [hq]
    · have e1 : (m.1 != leadS S) = true := by simpa using hq
      simp only [e1, if_true]
      rw [w64_id (x := c + 1) (by omega) (by omega)]
      simp [hq]) (fun c => by
    unfold m_ref27_End_L1
    simp only [dec_end, Bool.false_eq_true, if_false])
  rw [e1, idx_nat, hm, Option.bind_some, hr]
  simp only [Option.bind_some, ref_leader h.l hS, hc, hP1]
  unfold endS
  rw [hm]
  simp only [Option.getD_some]
  by_cases h4 : m.2.1 = 4
  · have : w64 (3 - m.1) = 3 - m.1 := w64_id (by omega) (by omega)
    simp [h4, this]
  · have e4 : (m.2.1 == 4) = false := by simpa using h4
    rw [e4, if_neg h4]
    simp only [Bool.false_eq_true, if_false]
    by_cases h5 : 200 ≤ d.2.2.2.length
    · have : decide ((200 : Int) ≤ len d.2.2.2) = true := decide_eq_true (by omega)
      simp [this, h5]
    · have : decide ((200 : Int) ≤ len d.2.2.2) = false := decide_eq_false (by omega)
      rw [this, if_neg h5]
      simp only [Bool.false_eq_true, if_false]
      have hi : idx ([d.2.2.1.1, d.2.2.1.2] : List Int) (w64 (2 - leadS S)) = some (limS d S) := by
        unfold limS
        rcases hld with h1 | h1 <;> rw [h1] <;> rfl
      rw [hi, Option.bind_some]
      by_cases h6 : limS d S ≤ ((d.2.2.2.filter fun m => decide (m.1 ≠ leadS S)).length : Int)
      · rw [decide_eq_true h6, if_pos h6]
        simp
      · rw [decide_eq_false h6, if_neg h6]
        simp only [Bool.false_eq_true, if_false]
        by_cases h7 : P.length = 0
        · have : ((len P) == 0) = true := by rw [beq_iff_eq]; exact (show (P.length : Int) = 0 by omega)
          simp [this, h7]
        · have : ((len P) == 0) = false := by rw [beq_eq_false_iff_ne]; exact (show (P.length : Int) ≠ 0 by omega)
          simp [this, h7]
/-- all that both find in a dialogue -/
structure Found (d : T_Dialogue) (S : List Int) (L : List Bool) (P R : List T_Move) (e : T_Outcome) : Prop where
  st : St d.2.2.2 S
  ld : IsLd d.2.2.2 S L
  ps : m_protocol_Status d = some S
  rs : m_ref27_Status d = some S
  po : m_protocol_of d = some (d, S, leadS S, L)
  pl : m_protocol_table_legal (d, S, leadS S, L) = some P
  rl : m_ref27_attacks d = some R
  pm : ∀ x, x ∈ P ↔ Leg d S L x
  rm : ∀ x, x ∈ R ↔ Leg d S L x
  pn : P.length ≤ 4000000
  rn : R.length ≤ 4000000
  pe : m_protocol_End d = some e
  re : m_ref27_End d = some e
  es : e = endS d S (decide (R.length = 0))
theorem found {d : T_Dialogue} (h : WfD d) : ∃ S L P R e, Found d S L P R e := by
  obtain ⟨S, h1, h2, hS⟩ := status_both h.l
  obtain ⟨L, h3, hL⟩ := prot_of h.l hS h1
  obtain ⟨P, p1, ⟨p2, p3⟩, p4⟩ := prot_End h hS h3 hL.len
  obtain ⟨R, r1, ⟨r2, r3⟩, r4⟩ := ref_End h hS h2 hL
  have he : decide (P.length = 0) = decide (R.length = 0) := by
    rw [decide_eq_decide, List.length_eq_zero_iff, List.length_eq_zero_iff, List.eq_nil_iff_forall_not_mem, List.eq_nil_iff_forall_not_mem]
    exact forall_congr' fun x => not_congr ((p3 x).trans (r3 x).symm)
  rw [he] at p4
  exact ⟨S, L, P, R, _, hS, hL, h1, h2, h3, p1, r1, p3, r3, p2, r2, p4, r4, rfl⟩
theorem endS_cases (d : T_Dialogue) (S : List Int) (b : Bool) : endS d S b = (0, 0) ∨ ((endS d S b).2 ≠ 0 ∧ 1 ≤ (endS d S b).2 ∧ (endS d S b).2 ≤ 4) := by
  unfold endS
  dsimp only
  split
  · exact .inr ⟨by simp, by simp, by simp⟩
  · split
    · exact .inr ⟨by simp, by simp, by simp⟩
    · split
      · exact .inr ⟨by simp, by simp, by simp⟩
      · split
        · exact .inr ⟨by simp, by simp, by simp⟩
        · exact .inl rfl
theorem endS_open {d : T_Dialogue} {S : List Int} {b : Bool} (h : endS d S b = (0, 0)) : d.2.2.2.length < 200 ∧ b = false := by
  unfold endS at h
  dsimp only at h
  split at h
  · simp at h
  · split at h
    · simp at h
    · rename_i h5
      split at h
      · simp at h
      · split at h
        · simp at h
        · rename_i h7
          exact ⟨by omega, by simpa using h7⟩
/-- whose turn it is -/
def turnS (S : List Int) (e : T_Outcome) : Int := if e.2 = 0 then 3 - leadS S else 0
theorem turn_both {d : T_Dialogue} {S : List Int} {L : List Bool} {P R : List T_Move} {e : T_Outcome} (h : WfD d) (f : Found d S L P R e) : m_protocol_Turn d = some (turnS S e) ∧ m_ref27_Turn d = some (turnS S e) := by
  have hpos := h.l.pos
  have hld := leadS_12 S
  have hw : w64 (3 - leadS S) = 3 - leadS S := w64_id (by omega) (by omega)
  have hec := endS_cases d S (decide (R.length = 0))
  rw [← f.es] at hec
  unfold m_protocol_Turn m_ref27_Turn turnS
  have e0 : ((len d.2.2.2) == 0) = false := by
    rw [beq_eq_false_iff_ne]
    exact (show (d.2.2.2.length : Int) ≠ 0 by omega)
  simp only [e0, Bool.false_eq_true, if_false, f.pe, f.re, Option.bind_some]
  rcases hec with rfl | ⟨h1, h2, h3⟩
  · simp only [f.po, f.rs, ref_leader h.l f.st, Option.bind_some]
    refine ⟨?_, ?_⟩
    · simp [m_protocol_other, hw]
    · simp [hw]
  · have e1 : (e.2 != 0) = true := by simpa using h1
    have e2 : (e == (0, 0)) = false := by
      rw [beq_eq_false_iff_ne]
      intro hh
      rw [hh] at h1
      exact h1 rfl
    simp [e1, e2, h1]
/-- a move that is made: the move as it is stored, or the error -/
def judgeS (d : T_Dialogue) (S : List Int) (R : List T_Move) (e : T_Outcome) (m : T_Move) : T_Move × Int :=
  if turnS S e = 0 then (m, 7)
  else if ¬ (m.2.1 = 2 ∨ m.2.1 = 3 ∨ m.2.1 = 4) then (m, 4)
  else if m.1 ≠ 3 - leadS S then (m, 8)
  else if m.2.1 = 4 then ((m.1, m.2.1, 0, 0), 0)
  else if m.2.2.2 < 0 ∨ (d.2.2.2.length : Int) ≤ m.2.2.2 ∨ (m.2.1 = 2 ∧ (m.2.2.1 < 0 ∨ d.1.1 ≤ m.2.2.1)) then (m, 1)
  else if m.2.1 = 2 then (if m ∈ R then (m, 0) else (m, 9))
  else
    let x := (d.2.2.2[m.2.2.2.toNat]?).getD (0, 0, 0, 0)
    if x.1 ≠ m.1 ∨ x.2.1 ≠ 2 ∨ (S[m.2.2.2.toNat]?).getD 0 = 0 then (m, 6) else ((m.1, m.2.1, 0, m.2.2.2), 0)
def applyS (d : T_Dialogue) (j : T_Move × Int) : T_Dialogue × Int :=
  if j.2 = 0 then ((d.1, d.2.1, d.2.2.1, d.2.2.2 ++ [j.1]), 0) else (((0, []), 0, (0, 0), []), j.2)
theorem prot_Apply {d : T_Dialogue} {S : List Int} {L : List Bool} {P R : List T_Move} {e : T_Outcome} (h : WfD d) (f : Found d S L P R e) (m : T_Move) : m_protocol_Apply d m = some (applyS d (judgeS d S R e m)) := by
  have hpos := h.l.pos
  have hbig := h.l.big
  have hld := leadS_12 S
  have hlen : len d.2.2.2 = (d.2.2.2.length : Int) := rfl
  have hgl := h.g.len
  obtain ⟨ht, _⟩ := turn_both h f
  unfold m_protocol_Apply
  rw [ht, Option.bind_some]
  unfold judgeS
  by_cases ht0 : turnS S e = 0
  · rw [if_pos ht0]
    have : (turnS S e == 0) = true := by simpa using ht0
    simp [this, applyS]
  · rw [if_neg ht0]
    have e0 : (turnS S e == 0) = false := by simpa using ht0
    simp only [e0, Bool.false_eq_true, if_false, f.po, Option.bind_some]
    -- the judgement
    have hj : m_protocol_table_judged (d, S, leadS S, L) m = some (if ¬ (m.2.1 = 2 ∨ m.2.1 = 3 ∨ m.2.1 = 4) then (m, 4)
        else if m.1 ≠ 3 - leadS S then (m, 8)
        else if m.2.1 = 4 then ((m.1, m.2.1, 0, 0), 0)
        else if m.2.2.2 < 0 ∨ (d.2.2.2.length : Int) ≤ m.2.2.2 ∨ (m.2.1 = 2 ∧ (m.2.2.1 < 0 ∨ d.1.1 ≤ m.2.2.1)) then (m, 1)
        else if m.2.1 = 2 then (if m ∈ R then (m, 0) else (m, 9))
        else
          let x := (d.2.2.2[m.2.2.2.toNat]?).getD (0, 0, 0, 0)
          if x.1 ≠ m.1 ∨ x.2.1 ≠ 2 ∨ (S[m.2.2.2.toNat]?).getD 0 = 0 then (m, 6) else ((m.1, m.2.1, 0, m.2.2.2), 0)) := by
      unfold m_protocol_table_judged
      have hk : (if (m.2.1 == 2) = true then some (m.2.1 == 2) else if (m.2.1 == 3) = true then some (m.2.1 == 3) else some (m.2.1 == 4) : Option Bool) = some (decide (m.2.1 = 2 ∨ m.2.1 = 3 ∨ m.2.1 = 4)) := by
        by_cases h2 : m.2.1 = 2
        · simp [h2]
        · have e2 : (m.2.1 == 2) = false := by simpa using h2
          by_cases h3 : m.2.1 = 3
          · simp [h3]
          · have e3 : (m.2.1 == 3) = false := by simpa using h3
            by_cases h4 : m.2.1 = 4
            · simp [h4]
            · have e4 : (m.2.1 == 4) = false := by simpa using h4
              simp [e2, e3, e4, h2, h3, h4]
      rw [hk, Option.bind_some]
      by_cases hkk : m.2.1 = 2 ∨ m.2.1 = 3 ∨ m.2.1 = 4
      · rw [decide_eq_true hkk, if_neg (not_not_intro hkk)]
        have ho : m_protocol_other (leadS S) = some (3 - leadS S) := by
          unfold m_protocol_other
          rw [w64_id (by omega) (by omega)]
        simp only [if_true, ho, Option.bind_some]
        by_cases h8 : m.1 = 3 - leadS S
        · have e8 : (m.1 != 3 - leadS S) = false := by simp [h8]
          rw [e8, if_neg (not_not_intro h8)]
          simp only [Bool.false_eq_true, if_false]
          by_cases h4 : m.2.1 = 4
          · simp [h4]
          · have e4 : (m.2.1 == 4) = false := by simpa using h4
            rw [e4, if_neg h4]
            simp only [Bool.false_eq_true, if_false]
            by_cases hr : m.2.2.2 < 0 ∨ (d.2.2.2.length : Int) ≤ m.2.2.2 ∨ (m.2.1 = 2 ∧ (m.2.2.1 < 0 ∨ d.1.1 ≤ m.2.2.1))
            · have : ((decide (m.2.2.2 < 0)) || ((decide ((len d.2.2.2) ≤ m.2.2.2)) || ((m.2.1 == 2) && ((decide (m.2.2.1 < 0)) || (decide (d.1.1 ≤ m.2.2.1)))))) = true := by
                rw [hlen]
                simpa using hr
              rw [this, if_pos hr]
              rfl
            · have : ((decide (m.2.2.2 < 0)) || ((decide ((len d.2.2.2) ≤ m.2.2.2)) || ((m.2.1 == 2) && ((decide (m.2.2.1 < 0)) || (decide (d.1.1 ≤ m.2.2.1)))))) = false := by
                rw [hlen]
                rw [Bool.eq_false_iff]
                intro hc
                exact hr (by simpa using hc)
              rw [this, if_neg hr]
              simp only [Bool.false_eq_true, if_false]
              by_cases h2 : m.2.1 = 2
              · have e2 : (m.2.1 == 2) = true := by simpa using h2
                have hcon : m_slices_Contains_Move P m = some (decide (m ∈ P)) := contains_move m (by have := f.pn; omega)
                rw [e2, if_pos h2]
                simp only [if_true, f.pl, Option.bind_some, hcon]
                have hPR : m ∈ P ↔ m ∈ R := (f.pm m).trans (f.rm m).symm
                by_cases hmR : m ∈ R
                · rw [decide_eq_true (hPR.2 hmR), if_pos hmR]; rfl
                · rw [decide_eq_false (fun hh => hmR (hPR.1 hh)), if_neg hmR]; rfl
              · have e2 : (m.2.1 == 2) = false := by simpa using h2
                have hb : 0 ≤ m.2.2.2 ∧ m.2.2.2 < (d.2.2.2.length : Int) := ⟨by omega, by omega⟩
                have hlt : m.2.2.2.toNat < d.2.2.2.length := by omega
                have hx : idx d.2.2.2 m.2.2.2 = some d.2.2.2[m.2.2.2.toNat] := by
                  unfold idx
                  rw [if_pos hb.1]
                  exact List.getElem?_eq_getElem hlt
                have hlt2 : m.2.2.2.toNat < S.length := by rw [f.st.len]; exact hlt
                have hs : idx S m.2.2.2 = some S[m.2.2.2.toNat] := by
                  unfold idx
                  rw [if_pos hb.1]
                  exact List.getElem?_eq_getElem hlt2
                rw [e2, if_neg h2, List.getElem?_eq_getElem hlt, List.getElem?_eq_getElem hlt2]
                simp only [Bool.false_eq_true, if_false, hx, hs, Option.bind_some, Option.getD_some]
                generalize d.2.2.2[m.2.2.2.toNat] = x
                generalize S[m.2.2.2.toNat] = y
                by_cases q1 : x.1 = m.1
                · have e5 : (x.1 != m.1) = false := by simp [q1]
                  by_cases q2 : x.2.1 = 2
                  · have e6 : (x.2.1 != 2) = false := by simp [q2]
                    by_cases q3 : y = 0
                    · simp [q1, q2, q3]
                    · have e7 : (y == 0) = false := by simpa using q3
                      simp [e7, q1, q2, q3]
                  · have e6 : (x.2.1 != 2) = true := by simpa using q2
                    simp [e6, q1, q2]
                · have e5 : (x.1 != m.1) = true := by simpa using q1
                  simp [e5, q1]
        · have e8 : (m.1 != 3 - leadS S) = true := by simpa using h8
          rw [e8, if_pos h8]
          rfl
      · rw [decide_eq_false hkk, if_pos hkk]
        rfl
    rw [hj]
    simp only [Option.bind_some]
    generalize (if ¬ (m.2.1 = 2 ∨ m.2.1 = 3 ∨ m.2.1 = 4) then (m, (4 : Int)) else _ : T_Move × Int) = j
    unfold applyS
    by_cases hj0 : j.2 = 0
    · have e9 : (j.2 != 0) = false := by simp [hj0]
      rw [e9, if_pos hj0]
      have c1 : m_slices_Clone_Pair d.1.2 = some d.1.2 := by simp [m_slices_Clone_Pair, app_nil_ok (show d.1.2.length < 4294967296 by omega)]
      have c2 : m_slices_Clone_Move d.2.2.2 = some d.2.2.2 := by simp [m_slices_Clone_Move, app_nil_ok (show d.2.2.2.length < 4294967296 by omega)]
      simp only [Bool.false_eq_true, if_false, c1, c2, Option.bind_some]
      rw [app_ok (by simp; omega)]
      rfl
    · have e9 : (j.2 != 0) = true := by simpa using hj0
      rw [e9, if_neg hj0]
      rfl
theorem ref_Apply {d : T_Dialogue} {S : List Int} {L : List Bool} {P R : List T_Move} {e : T_Outcome} (h : WfD d) (f : Found d S L P R e) (m : T_Move) : m_ref27_Apply d m = some (applyS d (judgeS d S R e m)) := by
  have hpos := h.l.pos
  have hbig := h.l.big
  have hld := leadS_12 S
  have hlen : len d.2.2.2 = (d.2.2.2.length : Int) := rfl
  obtain ⟨_, ht⟩ := turn_both h f
  unfold m_ref27_Apply
  rw [ht, Option.bind_some]
  unfold judgeS
  by_cases ht0 : turnS S e = 0
  · rw [if_pos ht0]
    have : (turnS S e == 0) = true := by simpa using ht0
    simp [this, applyS]
  · rw [if_neg ht0]
    have e0 : (turnS S e == 0) = false := by simpa using ht0
    have hte : turnS S e = 3 - leadS S := by
      unfold turnS at ht0 ⊢
      split
      · rfl
      · rename_i hn; rw [if_neg hn] at ht0; exact absurd rfl ht0
    rw [e0]
    simp only [Bool.false_eq_true, if_false, hte, Option.bind_some]
    have hfin : ∀ (b k n t : Int), ((app ([] : List T_Move) d.2.2.2).bind fun x4 => (app x4 ([(b, k, n, t)] : List T_Move)).bind fun x5 => some x5) = some (d.2.2.2 ++ [(b, k, n, t)]) := by
      intro b k n t
      rw [app_nil_ok (by omega), Option.bind_some, app_ok (by simp; omega)]
      rfl
    by_cases hkk : m.2.1 = 2 ∨ m.2.1 = 3 ∨ m.2.1 = 4
    · have hkb : ((m.2.1 != 2) && ((m.2.1 != 3) && (m.2.1 != 4))) = false := by
        rcases hkk with h | h | h <;> rw [h] <;> rfl
      rw [hkb, if_neg (not_not_intro hkk)]
      simp only [Bool.false_eq_true, if_false]
      by_cases h8 : m.1 = 3 - leadS S
      · have e8 : (m.1 != 3 - leadS S) = false := by simp [h8]
        rw [e8, if_neg (not_not_intro h8)]
        simp only [Bool.false_eq_true, if_false]
        by_cases h4 : m.2.1 = 4
        · rw [if_pos h4]
          have e2 : (m.2.1 == 2) = false := by rw [h4]; rfl
          have e3 : (m.2.1 == 3) = false := by rw [h4]; rfl
          simp only [e2, e3, Bool.false_eq_true, if_false, seqE, Option.bind_some, hfin]
          rfl
        · rw [if_neg h4]
          by_cases h2 : m.2.1 = 2
          · have e2 : (m.2.1 == 2) = true := by simpa using h2
            simp only [e2, if_true]
            by_cases hr : m.2.2.2 < 0 ∨ (d.2.2.2.length : Int) ≤ m.2.2.2 ∨ (m.2.1 = 2 ∧ (m.2.2.1 < 0 ∨ d.1.1 ≤ m.2.2.1))
            · have : ((!((decide (0 ≤ m.2.2.2)) && (decide (m.2.2.2 < (len d.2.2.2))))) || ((decide (m.2.2.1 < 0)) || (decide (d.1.1 ≤ m.2.2.1)))) = true := by
                rw [hlen]
                rcases hr with hr | hr | hr
                · have : decide (0 ≤ m.2.2.2) = false := decide_eq_false (by omega)
                  simp [this]
                · have : decide (m.2.2.2 < (d.2.2.2.length : Int)) = false := decide_eq_false (by omega)
                  simp [this]
                · simpa using Or.inr hr.2
              rw [this, if_pos hr]
              rfl
            · have : ((!((decide (0 ≤ m.2.2.2)) && (decide (m.2.2.2 < (len d.2.2.2))))) || ((decide (m.2.2.1 < 0)) || (decide (d.1.1 ≤ m.2.2.1)))) = false := by
                rw [hlen, decide_eq_true (show 0 ≤ m.2.2.2 by omega), decide_eq_true (show m.2.2.2 < (d.2.2.2.length : Int) by omega), decide_eq_false (show ¬ m.2.2.1 < 0 from fun hh => hr (.inr (.inr ⟨h2, .inl hh⟩))), decide_eq_false (show ¬ d.1.1 ≤ m.2.2.1 from fun hh => hr (.inr (.inr ⟨h2, .inr hh⟩)))]
                rfl
              rw [this, if_neg hr, if_pos h2]
              simp only [Bool.false_eq_true, if_false, f.rl, Option.bind_some]
              have hany : loop (m_ref27_Apply_L1 R m) (false, 0) = some (decide (m ∈ R)) := by
                have hh : Ok (loop (m_ref27_Apply_L1 R m) (false, 0)) fun o => o = decide (m ∈ R) := by
                  refine Ok.forI (fun i (b : Bool) => (b, (i : Int))) R (fun i b => b = decide (m ∈ R.take i)) _ (fun i x b hx hb => ?_) (fun b hb => ?_) false (by simp)
                  · have hi := (List.getElem?_eq_some_iff.1 hx).1
                    have := f.rn
                    unfold m_ref27_Apply_L1
                    simp only [dec_lt hx, if_true, idx_nat, hx, Option.bind_some, w64_succ i (by omega)]
                    refine .ret ⟨_, rfl, ?_⟩
                    show (b || x == m) = decide (m ∈ R.take (i + 1))
                    rw [hb, List.take_add_one, hx]
                    by_cases q : x = m
                    · subst q; simp
                    · have e1 : (x == m) = false := by simpa using q
                      have q' : ¬ m = x := fun e => q e.symm
                      simp [e1, q']
                  · unfold m_ref27_Apply_L1
                    simp only [dec_end, Bool.false_eq_true, if_false]
                    rw [List.take_of_length_le (Nat.le_refl _)] at hb
                    exact .ret hb
                obtain ⟨o, h1, rfl⟩ := hh
                exact h1
              rw [hany]
              by_cases hmR : m ∈ R
              · rw [decide_eq_true hmR, if_pos hmR]
                simp only [Option.bind_some, Bool.not_true, Bool.false_eq_true, if_false, seqE, hfin]
                rfl
              · rw [decide_eq_false hmR, if_neg hmR]
                rfl
          · have h3 : m.2.1 = 3 := by omega
            have e2 : (m.2.1 == 2) = false := by simpa using h2
            have e3 : (m.2.1 == 3) = true := by simpa using h3
            simp only [e2, e3, if_true, Bool.false_eq_true, if_false]
            by_cases hb : 0 ≤ m.2.2.2 ∧ m.2.2.2 < (d.2.2.2.length : Int)
            · have hr : ¬ (m.2.2.2 < 0 ∨ (d.2.2.2.length : Int) ≤ m.2.2.2 ∨ (m.2.1 = 2 ∧ (m.2.2.1 < 0 ∨ d.1.1 ≤ m.2.2.1))) := by
                rintro (q | q | q)
                · omega
                · omega
                · exact h2 q.1
              have : (!((decide (0 ≤ m.2.2.2)) && (decide (m.2.2.2 < (len d.2.2.2))))) = false := by
                rw [hlen, decide_eq_true hb.1, decide_eq_true hb.2]; rfl
              have hlt : m.2.2.2.toNat < d.2.2.2.length := by omega
              have hx : idx d.2.2.2 m.2.2.2 = some d.2.2.2[m.2.2.2.toNat] := by
                unfold idx
                rw [if_pos hb.1]
                exact List.getElem?_eq_getElem hlt
              have hlt2 : m.2.2.2.toNat < S.length := by rw [f.st.len]; exact hlt
              have hs : idx S m.2.2.2 = some S[m.2.2.2.toNat] := by
                unfold idx
                rw [if_pos hb.1]
                exact List.getElem?_eq_getElem hlt2
              rw [this, if_neg hr, if_neg h2, List.getElem?_eq_getElem hlt, List.getElem?_eq_getElem hlt2]
              simp only [Bool.false_eq_true, if_false, hx, hs, f.rs, Option.bind_some, Option.getD_some]
              generalize d.2.2.2[m.2.2.2.toNat] = x
              generalize S[m.2.2.2.toNat] = y
              by_cases q2 : x.2.1 = 2
              · have e6 : (x.2.1 != 2) = false := by simp [q2]
                by_cases q1 : x.1 = m.1
                · have e5 : (x.1 != m.1) = false := by simp [q1]
                  by_cases q3 : y = 0
                  · simp [q1, q2, q3, seqE, applyS]
                  · have e7 : (y == 0) = false := by simpa using q3
                    have hno : ¬ (x.1 ≠ m.1 ∨ x.2.1 ≠ 2 ∨ y = 0) := by
                      rintro (q | q | q)
                      · exact q q1
                      · exact q q2
                      · exact q3 q
                    rw [e6, e5, e7, if_neg hno]
                    simp only [Bool.false_eq_true, if_false, Option.bind_some, seqE, hfin]
                    rfl
                · have e5 : (x.1 != m.1) = true := by simpa using q1
                  simp [e5, e6, q1, seqE, applyS]
              · have e6 : (x.2.1 != 2) = true := by simpa using q2
                simp [e6, q2, seqE, applyS]
            · have hr : (m.2.2.2 < 0 ∨ (d.2.2.2.length : Int) ≤ m.2.2.2 ∨ (m.2.1 = 2 ∧ (m.2.2.1 < 0 ∨ d.1.1 ≤ m.2.2.1))) := by
                by_cases q : m.2.2.2 < 0
                · exact .inl q
                · exact .inr (.inl (by omega))
              have : (!((decide (0 ≤ m.2.2.2)) && (decide (m.2.2.2 < (len d.2.2.2))))) = true := by
                rw [hlen, Bool.not_eq_true', Bool.and_eq_false_iff]
                by_cases q : m.2.2.2 < 0
                · exact .inl (decide_eq_false (by omega))
                · exact .inr (decide_eq_false (by omega))
              rw [this, if_pos hr]
              rfl
      · have e8 : (m.1 != 3 - leadS S) = true := by simpa using h8
        rw [e8, if_pos h8]
        rfl
    · have hkb : ((m.2.1 != 2) && ((m.2.1 != 3) && (m.2.1 != 4))) = true := by
        have h2 : (m.2.1 != 2) = true := by rw [bne_iff_ne]; exact fun q => hkk (.inl q)
        have h3 : (m.2.1 != 3) = true := by rw [bne_iff_ne]; exact fun q => hkk (.inr (.inl q))
        have h4 : (m.2.1 != 4) = true := by rw [bne_iff_ne]; exact fun q => hkk (.inr (.inr q))
        rw [h2, h3, h4]; rfl
      rw [hkb, if_pos hkk]
      rfl
/-- a move that is made leaves a dialogue as the rules make it -/
theorem WfD.apply {d : T_Dialogue} {S : List Int} {L : List Bool} {P R : List T_Move} {e : T_Outcome} (h : WfD d) (f : Found d S L P R e) {m : T_Move} (hj : (judgeS d S R e m).2 = 0) : WfD (applyS d (judgeS d S R e m)).1 ∧ d.2.2.2.length < 200 := by
  have hpos := h.l.pos
  have hld := leadS_12 S
  have hopen : d.2.2.2.length < 200 := by
    by_cases ht0 : turnS S e = 0
    · unfold judgeS at hj
      rw [if_pos ht0] at hj
      cases hj
    · have he := endS_cases d S (decide (R.length = 0))
      rw [← f.es] at he
      rcases he with he | he
      · exact (endS_open (f.es ▸ he)).1
      · unfold turnS at ht0
        rw [if_neg he.1] at ht0
        exact absurd rfl ht0
  refine ⟨?_, hopen⟩
  have key : ∀ y : T_Move, (y.1 = 1 ∨ y.1 = 2) → ((y.2.1 = 2 ∧ ∃ (t : Nat) (x : T_Move), y.2.2.2 = (t : Int) ∧ d.2.2.2[t]? = some x ∧ x.1 + y.1 = 3) ∨ (y.2.1 = 3 ∧ ∃ (t : Nat) (x : T_Move), y.2.2.2 = (t : Int) ∧ d.2.2.2[t]? = some x ∧ x.2.1 = 2) ∨ (y.2.1 = 4 ∧ y.2.2.2 = 0)) → WfL (d.2.2.2 ++ [y]) := by
    intro y hy hk
    refine ⟨by simp; omega, ?_, fun i m' hm' hi => ?_⟩
    · obtain ⟨r, hr⟩ := h.l.first
      exact ⟨r, by rw [List.getElem?_append_left hpos]; exact hr⟩
    · have hold : ∀ (t : Nat) (x : T_Move), d.2.2.2[t]? = some x → (d.2.2.2 ++ [y])[t]? = some x := fun t x hx => by
        rw [List.getElem?_append_left (List.getElem?_eq_some_iff.1 hx).1]; exact hx
      by_cases hil : i < d.2.2.2.length
      · rw [List.getElem?_append_left hil] at hm'
        obtain ⟨h1, h2⟩ := h.l.rest i m' hm' hi
        refine ⟨h1, ?_⟩
        rcases h2 with ⟨a, t, x, b, c, dd, ee⟩ | ⟨a, t, x, b, c, dd, ee⟩ | q
        · exact .inl ⟨a, t, x, b, c, hold t x dd, ee⟩
        · exact .inr (.inl ⟨a, t, x, b, c, hold t x dd, ee⟩)
        · exact .inr (.inr q)
      · have hil2 : i = d.2.2.2.length := by
          have := (List.getElem?_eq_some_iff.1 hm').1
          simp at this
          omega
        subst hil2
        rw [List.getElem?_append_right (Nat.le_refl _), Nat.sub_self] at hm'
        cases hm'
        refine ⟨hy, ?_⟩
        rcases hk with ⟨a, t, x, b, dd, ee⟩ | ⟨a, t, x, b, dd, ee⟩ | q
        · exact .inl ⟨a, t, x, b, (List.getElem?_eq_some_iff.1 dd).1, hold t x dd, ee⟩
        · exact .inr (.inl ⟨a, t, x, b, (List.getElem?_eq_some_iff.1 dd).1, hold t x dd, ee⟩)
        · exact .inr (.inr q)
  have hfin : ∀ j : T_Move × Int, j.2 = 0 → WfL (d.2.2.2 ++ [j.1]) → WfD (applyS d j).1 := by
    intro j hj0 hw
    unfold applyS
    rw [if_pos hj0]
    exact ⟨hw, h.g⟩
  refine hfin _ hj ?_
  unfold judgeS at hj ⊢
  split at hj
  · cases hj
  · rename_i h1
    rw [if_neg h1]
    split at hj
    · cases hj
    · rename_i h2
      rw [if_neg h2]
      split at hj
      · cases hj
      · rename_i h3
        rw [if_neg h3]
        have h3 : m.1 = 3 - leadS S := Classical.not_not.1 h3
        have hby : m.1 = 1 ∨ m.1 = 2 := by omega
        split at hj
        · rename_i h4
          rw [if_pos h4]
          exact key _ hby (.inr (.inr ⟨h4, rfl⟩))
        · rename_i h4
          rw [if_neg h4]
          split at hj
          · cases hj
          · rename_i h5
            rw [if_neg h5]
            split at hj
            · rename_i h6
              rw [if_pos h6]
              split at hj
              · rename_i h7
                rw [if_pos h7]
                obtain ⟨i, _, m', p, q1, q2, _, _, q5, _⟩ := (f.rm m).1 h7
                refine key _ hby (.inl ⟨h6, i, m', ?_, q1, ?_⟩)
                · rw [q5]
                · rw [q5, q2]
                  show leadS S + (3 - leadS S) = 3
                  omega
              · cases hj
            · rename_i h6
              rw [if_neg h6]
              have h3k : m.2.1 = 3 := by omega
              dsimp only at hj ⊢
              split at hj
              · cases hj
              · rename_i h7
                rw [if_neg h7]
                have hlt : m.2.2.2.toNat < d.2.2.2.length := by omega
                have hx : d.2.2.2[m.2.2.2.toNat]? = some d.2.2.2[m.2.2.2.toNat] := List.getElem?_eq_getElem hlt
                refine key _ hby (.inr (.inl ⟨h3k, m.2.2.2.toNat, _, ?_, hx, ?_⟩))
                · show m.2.2.2 = _
                  omega
                · rw [hx] at h7
                  simp only [Option.getD_some] at h7
                  by_cases q : d.2.2.2[m.2.2.2.toNat].2.1 = 2
                  · exact q
                  · exact absurd (.inr (.inl q)) h7
end
section
theorem DrG.wf {g : T_Graph} {n : Int} (h : DrG g n) (hn : n ≤ 1000) : WfG g := ⟨⟨by have := h.lo; omega, by have := h.hi; omega⟩, by have := h.len; omega, h.inn⟩
end
section
theorem Ok.Range {s : T_keep_Src} {lo hi : Int} (h : SrcOk s) (h0 : -1000 ≤ lo) (h1 : lo ≤ hi) (h2 : hi ≤ 1000) : Ok (m_keep_Src_Range s lo hi) fun r => lo ≤ r.1 ∧ r.1 ≤ hi ∧ SrcOk (s.1, r.2) := by
  have e1 : w64 (hi - lo) = hi - lo := w64_id (by omega) (by omega)
  have e2 : w64 (hi - lo + 1) = hi - lo + 1 := w64_id (by omega) (by omega)
  obtain ⟨v, k, h3, h4, h5, h6⟩ := keep_N h (n := hi - lo + 1) (by omega) (by omega)
  exact ⟨(lo + v, k), by unfold m_keep_Src_Range; rw [e1, e2, h3]; simp [w64_id (show -9223372036854775808 ≤ lo + v by omega) (by omega)], by show lo ≤ lo + v; omega, by show lo + v ≤ hi; omega, h6⟩
/-- a dialogue that is played here -/
structure Played (d : T_Dialogue) (i : Nat) : Prop where
  wf : WfD d
  n : d.1.1 ≤ 90
  len : d.2.2.2.length ≤ i + 1
  at_ : ∀ m ∈ d.2.2.2, 0 ≤ m.2.2.1 ∧ m.2.2.1 < 100 ∧ 0 ≤ m.2.2.2 ∧ m.2.2.2 < 100
theorem judge_nums {d : T_Dialogue} {S : List Int} {L : List Bool} {P R : List T_Move} {e : T_Outcome} (h : WfD d) (f : Found d S L P R e) {i : Nat} (hp : Played d i) (hi : i ≤ 90) {m : T_Move} (hj : (judgeS d S R e m).2 = 0) :
    0 ≤ (judgeS d S R e m).1.2.2.1 ∧ (judgeS d S R e m).1.2.2.1 < 100 ∧ 0 ≤ (judgeS d S R e m).1.2.2.2 ∧ (judgeS d S R e m).1.2.2.2 < 100 := by
  have _ := h
  have _ := f
  have hlen := hp.len
  have hn := hp.n
  have hg := hp.wf.g.n
  unfold judgeS at hj ⊢
  split at hj
  · cases hj
  · rename_i h1
    rw [if_neg h1]
    split at hj
    · cases hj
    · rename_i h2
      rw [if_neg h2]
      split at hj
      · cases hj
      · rename_i h3
        rw [if_neg h3]
        split at hj
        · rename_i h4
          rw [if_pos h4]
          exact ⟨by simp, by simp, by simp, by simp⟩
        · rename_i h4
          rw [if_neg h4]
          split at hj
          · cases hj
          · rename_i h5
            rw [if_neg h5]
            have hb : 0 ≤ m.2.2.2 ∧ m.2.2.2 < 100 := ⟨by omega, by omega⟩
            split at hj
            · rename_i h6
              rw [if_pos h6]
              split at hj
              · rename_i h7
                rw [if_pos h7]
                have : ¬ m.2.2.1 < 0 := fun q => h5 (.inr (.inr ⟨h6, .inl q⟩))
                have : ¬ d.1.1 ≤ m.2.2.1 := fun q => h5 (.inr (.inr ⟨h6, .inr q⟩))
                exact ⟨by show 0 ≤ m.2.2.1; omega, by show m.2.2.1 < 100; omega, hb⟩
              · cases hj
            · rename_i h6
              rw [if_neg h6]
              dsimp only at hj ⊢
              split at hj
              · cases hj
              · rename_i h7
                rw [if_neg h7]
                exact ⟨by simp, by simp, hb⟩
theorem Played.next {d : T_Dialogue} {S : List Int} {L : List Bool} {P R : List T_Move} {e : T_Outcome} {i : Nat} (hp : Played d i) (hi : i ≤ 90) (f : Found d S L P R e) {m : T_Move} (hj : (judgeS d S R e m).2 = 0) : Played (applyS d (judgeS d S R e m)).1 (i + 1) := by
  have h1 := hp.wf.apply f hj
  have h2 := judge_nums hp.wf f hp hi hj
  have e1 : (applyS d (judgeS d S R e m)).1 = (d.1, d.2.1, d.2.2.1, d.2.2.2 ++ [(judgeS d S R e m).1]) := by unfold applyS; rw [if_pos hj]
  refine ⟨h1.1, ?_, ?_, fun x hx => ?_⟩
  · rw [e1]; exact hp.n
  · rw [e1]
    have := hp.len
    simp only [List.length_append, List.length_singleton]
    omega
  · rw [e1] at hx
    rcases List.mem_append.1 hx with hx | hx
    · exact hp.at_ x hx
    · simp only [List.mem_singleton] at hx
      rw [hx]
      exact h2
theorem DrG.valid10 {g : T_Graph} {n : Int} (h : DrG g n) (hn : n ≤ 40) : m_ref10_Validate g = some 0 := by
  obtain ⟨N, L⟩ := g
  have hlo := h.lo
  have hhi := h.hi
  have hl := h.len
  simp only at hlo hhi hl
  have hbad : ∀ p ∈ L, badE N p = false := fun p hp => by
    have := h.inn p hp
    simp only at this
    simp [badE]; omega
  unfold m_ref10_Validate
  have h0 : (decide (N < 0) || decide (40 < N)) = false := by simp; omega
  rw [h0]
  simp only [Bool.false_eq_true, if_false]
  refine loop_for (l := L) (fun i x hx => ?_) ?_
  · have hi := at_lt hx
    rw [valid_step2 N L (by omega) i (by omega)]
    have hv : vStep N L i = none := by
      unfold vStep
      rw [hx]
      simp only [hbad x (mem_at hx), Bool.false_eq_true, if_false]
      by_cases h0 : i = 0
      · simp [h0]
      · rw [if_neg h0]
        have hp : L[i - 1]? = some L[i - 1] := List.getElem?_eq_getElem (by omega)
        rw [hp]
        have hlt : lt2 L[i - 1] x = true := by
          have h3 := List.pairwise_iff_getElem.1 h.asc (i - 1) i (by simp only; omega) hi (by omega)
          rw [List.getElem?_eq_getElem hi] at hx
          rw [← Option.some.inj hx]; exact h3
        simp [hlt]
    rw [hv]
  · rw [valid_step2 N L (by omega) _ (Nat.le_refl _)]
    simp [vStep]
/-- a dialogue that has just begun -/
theorem played_new {g : T_Graph} {n : Int} (hg : DrG g n) (hn : n ≤ 40) {r a b : Int} (hr : 0 ≤ r ∧ r < g.1) (ha : 1 ≤ a ∧ a ≤ 200) (hb : 0 ≤ b ∧ b ≤ 200) : m_ref27_New g r (a, b) = some ((g, r, (a, b), [(1, 1, r, 0)]), 0) ∧ Played (g, r, (a, b), [(1, 1, r, 0)]) 0 := by
  have h1 := hg.valid10 hn
  refine ⟨?_, ⟨⟨by simp, ⟨r, rfl⟩, fun i m hm hi => ?_⟩, hg.wf (by omega)⟩, by have := hg.hi; show g.1 ≤ 90; omega, by simp, fun m hm => ?_⟩
  · unfold m_ref27_New
    rw [h1]
    have e1 : (decide (r < 0) || (decide (g.1 ≤ r) || (decide (a < 1) || (decide (200 < a) || (decide (b < 0) || decide (200 < b)))))) = false := by
      rw [decide_eq_false (show ¬ r < 0 by omega), decide_eq_false (show ¬ g.1 ≤ r by omega), decide_eq_false (show ¬ a < 1 by omega), decide_eq_false (show ¬ 200 < a by omega), decide_eq_false (show ¬ b < 0 by omega), decide_eq_false (show ¬ 200 < b by omega)]
      rfl
    simp only [Option.bind_some, bne_self_eq_false, Bool.false_eq_true, if_false, e1]
  · have : i = 0 := by
      have := (List.getElem?_eq_some_iff.1 hm).1
      simp at this
      exact this
    exact absurd this hi
  · simp only [List.mem_singleton] at hm
    subst hm
    have := hg.hi
    exact ⟨hr.1, by show r < 100; omega, by simp, by simp⟩
end
section
set_option linter.unusedVariables false
theorem judge_again {d : T_Dialogue} {S : List Int} {R : List T_Move} {e : T_Outcome} {m m' : T_Move} (h : judgeS d S R e m = (m', 0)) : judgeS d S R e m' = (m', 0) := by
  have h0 := h
  unfold judgeS at h
  split at h
  · cases h
  · rename_i h1
    split at h
    · cases h
    · rename_i h2
      split at h
      · cases h
      · rename_i h3
        split at h
        · rename_i h4
          obtain rfl : (m.1, m.2.1, (0 : Int), (0 : Int)) = m' := (Prod.mk.inj h).1
          unfold judgeS
          rw [if_neg h1, if_neg h2, if_neg h3, if_pos h4]
        · rename_i h4
          split at h
          · cases h
          · rename_i h5
            split at h
            · rename_i h6
              split at h
              · obtain rfl : m = m' := (Prod.mk.inj h).1
                exact h0
              · cases h
            · rename_i h6
              dsimp only at h
              split at h
              · cases h
              · rename_i h7
                obtain rfl : (m.1, m.2.1, (0 : Int), m.2.2.2) = m' := (Prod.mk.inj h).1
                unfold judgeS
                rw [if_neg h1, if_neg h2, if_neg h3, if_neg h4]
                have h5' : ¬ (m.2.2.2 < 0 ∨ (d.2.2.2.length : Int) ≤ m.2.2.2 ∨ (m.2.1 = 2 ∧ ((0 : Int) < 0 ∨ d.1.1 ≤ 0))) := by
                  rintro (q | q | q)
                  · exact h5 (.inl q)
                  · exact h5 (.inr (.inl q))
                  · exact h6 q.1
                rw [if_neg h5', if_neg h6]
                dsimp only
                rw [if_neg h7]
/-- what both answer to a move -/
noncomputable def apS (d : T_Dialogue) (m : T_Move) : T_Dialogue × Int := (m_ref27_Apply d m).getD (((0, []), 0, (0, 0), []), 0)
theorem ap_both {d : T_Dialogue} (h : WfD d) (m : T_Move) : m_protocol_Apply d m = some (apS d m) ∧ m_ref27_Apply d m = some (apS d m) ∧
    ((apS d m).2 = 0 → ∃ m', (apS d m).1 = (d.1, d.2.1, d.2.2.1, d.2.2.2 ++ [m']) ∧ WfD (apS d m).1 ∧ d.2.2.2.length < 200 ∧ apS d m' = apS d m) := by
  obtain ⟨S, L, P, R, e, f⟩ := found h
  have h1 := prot_Apply h f m
  have h2 := ref_Apply h f m
  have h3 : apS d m = applyS d (judgeS d S R e m) := by unfold apS; rw [h2]; rfl
  rw [h3]
  refine ⟨h1, h2, fun h0 => ?_⟩
  by_cases hj : (judgeS d S R e m).2 = 0
  · obtain ⟨h4, h5⟩ := h.apply f hj
    refine ⟨(judgeS d S R e m).1, by unfold applyS; rw [if_pos hj], h4, h5, ?_⟩
    have h6 : apS d (judgeS d S R e m).1 = applyS d (judgeS d S R e (judgeS d S R e m).1) := by unfold apS; rw [ref_Apply h f]; rfl
    rw [h6, judge_again (m := m) (m' := (judgeS d S R e m).1) (Prod.ext rfl hj)]
    rw [show judgeS d S R e m = ((judgeS d S R e m).1, 0) from Prod.ext rfl hj]
  · exfalso
    unfold applyS at h0
    rw [if_neg hj] at h0
    exact hj h0
theorem GoodG.wf {N : Nat} {L : List T_Pair} (h : GoodG N L) : WfG ((N : Int), L) := ⟨⟨by simp, by have := h.hN; show (N : Int) ≤ 1000; omega⟩, by have := h.len; show L.length ≤ 10000; omega, fun p hp => by
  have := h.inr p hp
  unfold badE at this
  simp only [Bool.or_eq_false_iff, decide_eq_false_iff_not] at this
  show 0 ≤ p.1 ∧ p.1 < (N : Int) ∧ 0 ≤ p.2 ∧ p.2 < (N : Int)
  omega⟩
theorem begin_wf {g : T_Graph} (hg : WfG g) (r : Int) (q : Int × Int) : WfD (g, r, q, [(1, 1, r, 0)]) :=
  ⟨⟨by simp, ⟨r, rfl⟩, fun i m hm hi => by
    have := (List.getElem?_eq_some_iff.1 hm).1
    simp at this
    exact absurd this hi⟩, hg⟩
noncomputable def newS (g : T_Graph) (r : Int) (q : Int × Int) : T_Dialogue × Int := (m_ref27_New g r q).getD (((0, []), 0, (0, 0), []), 0)
theorem new_both (g : T_Graph) (hL : g.2.length < 4294967296) (r : Int) (q : Int × Int) : m_protocol_New g r q = some (newS g r q) ∧ m_ref27_New g r q = some (newS g r q) ∧
    ((newS g r q).2 = 0 → (newS g r q).1 = (g, r, q, [(1, 1, r, 0)]) ∧ WfD (g, r, q, [(1, 1, r, 0)])) ∧ ((newS g r q).2 ≠ 0 → (newS g r q).1 = ((0, []), 0, (0, 0), [])) := by
  obtain ⟨n, L⟩ := g
  obtain ⟨e, h1, h2, h3⟩ := graph_Validate_iff n hL
  by_cases he : e = 0
  · obtain ⟨N, rfl, hG⟩ := h3.1 he
    subst he
    generalize hc : (decide (r < 0) || (decide ((N : Int) ≤ r) || (decide (q.1 < 1) || (decide (200 < q.1) || (decide (q.2 < 0) || decide (200 < q.2)))))) = c
    have hr : m_ref27_New ((N : Int), L) r q = if c = true then some (((0, []), 0, (0, 0), []), 1) else some ((((N : Int), L), r, q, [(1, 1, r, 0)]), 0) := by
      unfold m_ref27_New
      rw [h2]
      simp only [Option.bind_some, bne_self_eq_false, Bool.false_eq_true, if_false, hc]
    have hp : m_protocol_New ((N : Int), L) r q = if c = true then some (((0, []), 0, (0, 0), []), 1) else some ((((N : Int), L), r, q, [(1, 1, r, 0)]), 0) := by
      unfold m_protocol_New
      rw [h1]
      have hcl : m_slices_Clone_Pair L = some L := by simp [m_slices_Clone_Pair, app_nil_ok hL]
      simp only [Option.bind_some, bne_self_eq_false, Bool.false_eq_true, if_false, hc, hcl]
    cases c with
    | true =>
      simp only [if_true] at hr hp
      have : newS ((N : Int), L) r q = (((0, []), 0, (0, 0), []), 1) := by unfold newS; rw [hr]; rfl
      rw [this, hr, hp]
      exact ⟨rfl, rfl, fun h => by simp at h, fun _ => rfl⟩
    | false =>
      simp only [Bool.false_eq_true, if_false] at hr hp
      have : newS ((N : Int), L) r q = ((((N : Int), L), r, q, [(1, 1, r, 0)]), 0) := by unfold newS; rw [hr]; rfl
      rw [this, hr, hp]
      exact ⟨rfl, rfl, fun _ => ⟨rfl, begin_wf hG.wf r q⟩, fun h => absurd rfl h⟩
  · have hne : (e != 0) = true := by simpa using he
    have hr : m_ref27_New (n, L) r q = some (((0, []), 0, (0, 0), []), e) := by
      unfold m_ref27_New
      rw [h2]
      simp only [Option.bind_some, hne, if_true]
    have hp : m_protocol_New (n, L) r q = some (((0, []), 0, (0, 0), []), e) := by
      unfold m_protocol_New
      rw [h1]
      simp only [Option.bind_some, hne, if_true]
    have : newS (n, L) r q = (((0, []), 0, (0, 0), []), e) := by unfold newS; rw [hr]; rfl
    rw [this, hr, hp]
    exact ⟨rfl, rfl, fun h => absurd h he, fun _ => rfl⟩
noncomputable def rpS : List T_Move → Nat → T_Dialogue → T_Dialogue × Int × Int
  | [], i, d => (d, (i : Int), 0)
  | m :: r, i, d => if (apS d m).2 ≠ 0 then (d, (i : Int), (apS d m).2) else if (apS d m).1.2.2.2[i]? ≠ some m then (d, (i : Int), 7) else rpS r (i + 1) (apS d m).1
/-- how a loop of moves ends -/
noncomputable def rpO (o : T_Dialogue × Int × Int) : (Int × List T_Pair × Int × Int × Int × List T_Move) ⊕ (T_Dialogue × Int × Int) :=
  if o.2.2 = 0 then .inl (o.1.1.1, o.1.1.2, o.1.2.1, o.1.2.2.1.1, o.1.2.2.1.2, o.1.2.2.2) else .inr o
theorem rpS_ok : ∀ (r : List T_Move) (i : Nat) (d : T_Dialogue), WfD d → d.2.2.2.length = i → WfD (rpS r i d).1 ∧ ((rpS r i d).1.2.2.2.length : Int) = (rpS r i d).2.1 ∧ (i : Int) ≤ (rpS r i d).2.1 ∧ ((rpS r i d).2.2 = 0 → (rpS r i d).2.1 = ((i + r.length : Nat) : Int)) ∧ (rpS r i d).2.1 ≤ ((i + r.length : Nat) : Int)
  | [], i, d, h, hl => ⟨h, by simp [rpS, hl], by simp [rpS], fun _ => by simp [rpS], by simp [rpS]⟩
  | m :: r, i, d, h, hl => by
    unfold rpS
    by_cases h1 : (apS d m).2 = 0
    · rw [if_neg (by simpa using h1)]
      obtain ⟨m', e1, e2, e3, _⟩ := (ap_both h m).2.2 h1
      by_cases h2 : (apS d m).1.2.2.2[i]? = some m
      · rw [if_neg (by simpa using h2)]
        have hl2 : (apS d m).1.2.2.2.length = i + 1 := by rw [e1]; simp [hl]
        obtain ⟨q1, q2, q3, q4, q5⟩ := rpS_ok r (i + 1) (apS d m).1 e2 hl2
        refine ⟨q1, q2, by omega, fun h => ?_, ?_⟩
        · rw [q4 h, List.length_cons]; omega
        · rw [List.length_cons]; omega
      · rw [if_pos (by simpa using h2)]
        exact ⟨h, by simp [hl], by simp, fun h => by simp at h, by simp; omega⟩
    · rw [if_pos (by simpa using h1)]
      exact ⟨h, by simp [hl], by simp, fun h => absurd h h1, by simp; omega⟩
theorem prog_replay (x3 : List T_Move) (hb : x3.length < 1000000) : ∀ (r : List T_Move) (j : Nat) (d : T_Dialogue), x3.drop j = r → j ≤ x3.length → WfD d → d.2.2.2.length = j + 1 →
    loop (m_referee_Replay_L1 x3) ((j : Int), d.1.1, d.1.2, d.2.1, d.2.2.1.1, d.2.2.1.2, d.2.2.2) = some (rpO (rpS r (j + 1) d))
  | [], j, d, hd, hj, h, hl => by
    have hjl : j = x3.length := by
      have := congrArg List.length hd
      simp at this; omega
    rw [loop_eq]
    unfold m_referee_Replay_L1
    have hdd : decide ((j : Int) < len x3) = false := by rw [hjl]; exact end_dec x3
    simp only [hdd, Bool.false_eq_true, if_false]
    simp [rpO, rpS]
  | m :: r, j, d, hd, hj, h, hl => by
    have hm : x3[j]? = some m := by
      have := congrArg (fun l => l[0]?) hd
      simpa using this
    have hlt := at_lt hm
    have hd2 : x3.drop (j + 1) = r := by rw [← List.drop_drop, hd]; rfl
    rw [loop_eq]
    have hdd : (((d.1.1, d.1.2), d.2.1, (d.2.2.1.1, d.2.2.1.2), d.2.2.2) : T_Dialogue) = d := rfl
    obtain ⟨a1, _, a3⟩ := ap_both h m
    have hw : w64 ((j : Int) + 1) = ((j + 1 : Nat) : Int) := w64_succ j (by omega)
    by_cases h1 : (apS d m).2 = 0
    · obtain ⟨m', e1, e2, e3, _⟩ := a3 h1
      have hl2 : (apS d m).1.2.2.2.length = j + 1 + 1 := by rw [e1]; simp [hl]
      have hx : ∃ y, (apS d m).1.2.2.2[j + 1]? = some y := ⟨_, List.getElem?_eq_getElem (by omega)⟩
      obtain ⟨y, hy⟩ := hx
      have hi : idx (apS d m).1.2.2.2 ((j + 1 : Nat) : Int) = some y := at_idx hy
      have e0 : ((apS d m).2 == 0) = true := by simpa using h1
      by_cases h2 : y = m
      · subst h2
        have hstep : m_referee_Replay_L1 x3 ((j : Int), d.1.1, d.1.2, d.2.1, d.2.2.1.1, d.2.2.1.2, d.2.2.2) = some (.inl (((j + 1 : Nat) : Int), (apS d y).1.1.1, (apS d y).1.1.2, (apS d y).1.2.1, (apS d y).1.2.2.1.1, (apS d y).1.2.2.1.2, (apS d y).1.2.2.2)) := by
          unfold m_referee_Replay_L1
          simp only [at_dec hm, if_true, at_idx hm, Option.bind_some, hdd, a1, hw, hi, beq_self_eq_true, Bool.not_true, Bool.false_eq_true, if_false, h1, bne_self_eq_false]
        rw [hstep]
        dsimp only
        rw [prog_replay x3 hb r (j + 1) (apS d y).1 hd2 (by omega) e2 hl2]
        have : rpS (y :: r) (j + 1) d = rpS r (j + 1 + 1) (apS d y).1 := by
          rw [rpS, if_neg (by simpa using h1), if_neg (by simpa using hy)]
        rw [this]
      · have hne : (y == m) = false := by simpa using h2
        have hstep : m_referee_Replay_L1 x3 ((j : Int), d.1.1, d.1.2, d.2.1, d.2.2.1.1, d.2.2.1.2, d.2.2.2) = some (.inr (.inr (d, ((j + 1 : Nat) : Int), 7))) := by
          unfold m_referee_Replay_L1
          simp only [at_dec hm, if_true, at_idx hm, Option.bind_some, hdd, a1, e0, hw, hi, hne, Bool.not_false]
          rfl
        rw [hstep]
        have : rpS (m :: r) (j + 1) d = (d, ((j + 1 : Nat) : Int), 7) := by
          rw [rpS, if_neg (by simpa using h1), if_pos (by rw [hy]; simpa using h2)]
        rw [this]
        rfl
    · have e0 : ((apS d m).2 == 0) = false := by simpa using h1
      have e1 : ((apS d m).2 != 0) = true := by simpa using h1
      have hstep : m_referee_Replay_L1 x3 ((j : Int), d.1.1, d.1.2, d.2.1, d.2.2.1.1, d.2.2.1.2, d.2.2.2) = some (.inr (.inr (d, ((j + 1 : Nat) : Int), (apS d m).2))) := by
        unfold m_referee_Replay_L1
        simp only [at_dec hm, if_true, at_idx hm, Option.bind_some, hdd, a1, e0, e1, Bool.false_eq_true, if_false, hw]
      rw [hstep]
      have : rpS (m :: r) (j + 1) d = (d, ((j + 1 : Nat) : Int), (apS d m).2) := by rw [rpS, if_pos (by simpa using h1)]
      rw [this]
      unfold rpO
      rw [if_neg h1]
theorem ref_replay (t : T_Transcript) (hb : t.2.2.2.length < 1000000) : ∀ (r : List T_Move) (j : Nat) (d : T_Dialogue), t.2.2.2.drop j = r → j ≤ t.2.2.2.length → WfD d → d.2.2.2.length = j →
    loop (m_ref30_Replay_L1 t) ((j : Int), d.1.1, d.1.2, d.2.1, d.2.2.1.1, d.2.2.1.2, d.2.2.2) = some (rpO (rpS r j d))
  | [], j, d, hd, hj, h, hl => by
    have hjl : j = t.2.2.2.length := by
      have := congrArg List.length hd
      simp at this; omega
    rw [loop_eq]
    unfold m_ref30_Replay_L1
    have hdd : decide ((j : Int) < len t.2.2.2) = false := by rw [hjl]; exact end_dec _
    simp only [hdd, Bool.false_eq_true, if_false]
    simp [rpO, rpS]
  | m :: r, j, d, hd, hj, h, hl => by
    have hm : t.2.2.2[j]? = some m := by
      have := congrArg (fun l => l[0]?) hd
      simpa using this
    have hlt := at_lt hm
    have hd2 : t.2.2.2.drop (j + 1) = r := by rw [← List.drop_drop, hd]; rfl
    rw [loop_eq]
    have hdd : (((d.1.1, d.1.2), d.2.1, (d.2.2.1.1, d.2.2.1.2), d.2.2.2) : T_Dialogue) = d := rfl
    obtain ⟨_, a1, a3⟩ := ap_both h m
    have hw : w64 ((j : Int) + 1) = ((j + 1 : Nat) : Int) := w64_succ j (by omega)
    by_cases h1 : (apS d m).2 = 0
    · obtain ⟨m', e1, e2, e3, _⟩ := a3 h1
      have hl2 : (apS d m).1.2.2.2.length = j + 1 := by rw [e1]; simp [hl]
      have hx : ∃ y, (apS d m).1.2.2.2[j]? = some y := ⟨_, List.getElem?_eq_getElem (by omega)⟩
      obtain ⟨y, hy⟩ := hx
      have hi : idx (apS d m).1.2.2.2 (j : Int) = some y := at_idx hy
      have e0 : ((apS d m).2 != 0) = false := by simpa using h1
      by_cases h2 : y = m
      · subst h2
        have hstep : m_ref30_Replay_L1 t ((j : Int), d.1.1, d.1.2, d.2.1, d.2.2.1.1, d.2.2.1.2, d.2.2.2) = some (.inl (((j + 1 : Nat) : Int), (apS d y).1.1.1, (apS d y).1.1.2, (apS d y).1.2.1, (apS d y).1.2.2.1.1, (apS d y).1.2.2.1.2, (apS d y).1.2.2.2)) := by
          unfold m_ref30_Replay_L1
          simp only [at_dec hm, if_true, at_idx hm, Option.bind_some, hdd, a1, e0, hw, hi, beq_self_eq_true, Bool.not_true, Bool.false_eq_true, if_false]
        rw [hstep]
        dsimp only
        rw [ref_replay t hb r (j + 1) (apS d y).1 hd2 (by omega) e2 hl2]
        have : rpS (y :: r) j d = rpS r (j + 1) (apS d y).1 := by
          rw [rpS, if_neg (by simpa using h1), if_neg (by simpa using hy)]
        rw [this]
      · have hne : (y == m) = false := by simpa using h2
        have hstep : m_ref30_Replay_L1 t ((j : Int), d.1.1, d.1.2, d.2.1, d.2.2.1.1, d.2.2.1.2, d.2.2.2) = some (.inr (.inr (d, (j : Int), 7))) := by
          unfold m_ref30_Replay_L1
          simp only [at_dec hm, if_true, at_idx hm, Option.bind_some, hdd, a1, e0, hi, hne, Bool.not_false, Bool.false_eq_true, if_false]
        rw [hstep]
        have : rpS (m :: r) j d = (d, (j : Int), 7) := by
          rw [rpS, if_neg (by simpa using h1), if_pos (by rw [hy]; simpa using h2)]
        rw [this]
        rfl
    · have e1 : ((apS d m).2 != 0) = true := by simpa using h1
      have hstep : m_ref30_Replay_L1 t ((j : Int), d.1.1, d.1.2, d.2.1, d.2.2.1.1, d.2.2.1.2, d.2.2.2) = some (.inr (.inr (d, (j : Int), (apS d m).2))) := by
        unfold m_ref30_Replay_L1
        simp only [at_dec hm, if_true, at_idx hm, Option.bind_some, hdd, a1, e1]
      rw [hstep]
      have : rpS (m :: r) j d = (d, (j : Int), (apS d m).2) := by rw [rpS, if_pos (by simpa using h1)]
      rw [this]
      unfold rpO
      rw [if_neg h1]
/-- what both answer -/
noncomputable def replayS (t : T_Transcript) : T_Dialogue × Int × Int :=
  if (newS t.1 t.2.1 t.2.2.1).2 ≠ 0 then (((0, []), 0, (0, 0), []), 0, (newS t.1 t.2.1 t.2.2.1).2)
  else if t.2.2.2[0]? ≠ some (1, 1, t.2.1, 0) then ((t.1, t.2.1, t.2.2.1, [(1, 1, t.2.1, 0)]), 0, 7)
  else rpS (t.2.2.2.drop 1) 1 (t.1, t.2.1, t.2.2.1, [(1, 1, t.2.1, 0)])
theorem rpO_fin (o : T_Dialogue × Int × Int) (n : Int) (h : o.2.2 = 0 → o.2.1 = n) : (seqE (some (rpO o)) fun s2 => some (((s2.1, s2.2.1), s2.2.2.1, (s2.2.2.2.1, s2.2.2.2.2.1), s2.2.2.2.2.2), n, (0 : Int))) = some o := by
  unfold rpO
  by_cases h0 : o.2.2 = 0
  · rw [if_pos h0]
    show some ((_, n, 0) : T_Dialogue × Int × Int) = some o
    rw [← h h0, ← h0]
  · rw [if_neg h0]; rfl
theorem replay_both (t : T_Transcript) (hL : t.1.2.length < 4294967296) (hb : t.2.2.2.length < 1000000) : m_referee_Replay t = some (replayS t) ∧ m_ref30_Replay t = some (replayS t) := by
  obtain ⟨n1, n2, n3, n4⟩ := new_both t.1 hL t.2.1 t.2.2.1
  unfold m_referee_Replay m_ref30_Replay replayS
  rw [n1, n2]
  simp only [Option.bind_some]
  by_cases h0 : (newS t.1 t.2.1 t.2.2.1).2 = 0
  · obtain ⟨e1, hw⟩ := n3 h0
    have e0 : ((newS t.1 t.2.1 t.2.2.1).2 != 0) = false := by simpa using h0
    have hne : ¬ (newS t.1 t.2.1 t.2.2.1).2 ≠ 0 := by simpa using h0
    rw [if_neg hne]
    simp only [e0, Bool.false_eq_true, if_false, e1]
    have hi0 : idx [(((1 : Int), (1 : Int), t.2.1, (0 : Int)) : T_Move)] 0 = some (1, 1, t.2.1, 0) := rfl
    cases hm : t.2.2.2 with
    | nil =>
      simp [len]
    | cons m r =>
      have hl0 : (len (m :: r) == 0) = false := by simp [len]; omega
      have hi1 : idx (m :: r) 0 = some m := by simp [idx]
      simp only [hl0, Bool.false_eq_true, if_false, hi0, hi1, Option.bind_some]
      by_cases h1 : m = (1, 1, t.2.1, 0)
      · have hbq : (m == (1, 1, t.2.1, 0)) = true := by simpa using h1
        have hsub : sub (m :: r) 1 (len (m :: r)) = some r := by
          unfold sub
          rw [if_pos ⟨by omega, by simp [len]; omega, by simp [len]⟩]
          simp [len]
        have hne1 : ¬ (m :: r)[0]? ≠ some (1, 1, t.2.1, 0) := by simp [h1]
        rw [if_neg hne1]
        simp only [hbq, Bool.not_true, Bool.false_eq_true, if_false, hsub, Option.bind_some]
        have hlr : r.length < 1000000 := by rw [hm] at hb; simp at hb; omega
        have hok := rpS_ok r 1 (t.1, t.2.1, t.2.2.1, [(1, 1, t.2.1, 0)]) hw rfl
        have hfin : (rpS r 1 (t.1, t.2.1, t.2.2.1, [(1, 1, t.2.1, 0)])).2.2 = 0 → (rpS r 1 (t.1, t.2.1, t.2.2.1, [(1, 1, t.2.1, 0)])).2.1 = len (m :: r) := fun h => by rw [hok.2.2.2.1 h]; simp [len]; omega
        constructor
        · have := prog_replay r hlr r 0 (t.1, t.2.1, t.2.2.1, [(1, 1, t.2.1, 0)]) rfl (by omega) hw rfl
          rw [show loop (m_referee_Replay_L1 r) (0, t.1.1, t.1.2, t.2.1, t.2.2.1.1, t.2.2.1.2, [(1, 1, t.2.1, 0)]) = _ from this]
          exact rpO_fin _ _ hfin
        · have := ref_replay t hb r 1 (t.1, t.2.1, t.2.2.1, [(1, 1, t.2.1, 0)]) (by rw [hm]; rfl) (by rw [hm]; simp) hw rfl
          rw [show loop (m_ref30_Replay_L1 t) (1, t.1.1, t.1.2, t.2.1, t.2.2.1.1, t.2.2.1.2, [(1, 1, t.2.1, 0)]) = _ from this]
          exact rpO_fin _ _ hfin
      · have hbq : (m == (1, 1, t.2.1, 0)) = false := by simpa using h1
        have hne1 : (m :: r)[0]? ≠ some (1, 1, t.2.1, 0) := by simpa using h1
        rw [if_pos hne1]
        simp [hbq]
  · have e0 : ((newS t.1 t.2.1 t.2.2.1).2 != 0) = true := by simpa using h0
    rw [if_pos h0]
    simp only [e0, if_true]
    exact ⟨trivial, trivial⟩
end
section
set_option linter.unusedVariables false
section
variable {α : Type} [DecidableEq α] [BEq α] [LawfulBEq α]
theorem loop_eqL {B : Int → Option (Int ⊕ Bool)} (x y : List α) (h : x.length = y.length) (hb : x.length < 4294967296)
    (hB : ∀ (i : Nat) u v, x[i]? = some u → y[i]? = some v → B (i : Int) = if (!(u == v)) = true then some (.inr false) else some (.inl (w64 ((i : Int) + 1)))) (he : B (x.length : Int) = some (.inr true)) : loop B 0 = some (decide (x = y)) := by
  have h1 := loop_all (B := B) (x.zip y) (fun p => p.1 == p.2) (fun i p hp => by
    obtain ⟨u, v⟩ := p
    obtain ⟨h2, h3⟩ := List.getElem?_zip_eq_some.1 hp
    rw [hB i u v h2 h3, w64_succ i (by have := at_lt h2; omega)]
    cases u == v <;> simp) (by rw [List.length_zip, ← h, Nat.min_self]; exact he)
  rw [h1]
  congr 1
  rw [Bool.eq_iff_iff, List.all_eq_true, decide_eq_true_eq]
  constructor
  · intro h2
    apply List.ext_getElem? 
    intro i
    by_cases hi : i < x.length
    · have hx := List.getElem?_eq_getElem hi
      have hy := List.getElem?_eq_getElem (show i < y.length by omega)
      have := h2 (x[i], y[i]) (List.mem_iff_getElem?.2 ⟨i, List.getElem?_zip_eq_some.2 ⟨hx, hy⟩⟩)
      rw [hx, hy]
      simpa using this
    · rw [List.getElem?_eq_none (by omega), List.getElem?_eq_none (by omega)]
  · rintro rfl p hp
    obtain ⟨i, hi⟩ := List.getElem?_of_mem hp
    obtain ⟨u, v⟩ := p
    obtain ⟨h2, h3⟩ := List.getElem?_zip_eq_some.1 hi
    rw [h2] at h3
    simpa using Option.some.inj h3
end
theorem eq_Pair (x y : List T_Pair) (hx : x.length < 4294967296) : m_slices_Equal_Pair x y = some (decide (x = y)) ∧ m_net_Pairs x y = some (decide (x = y)) := by
  unfold m_slices_Equal_Pair m_net_Pairs
  by_cases h : x.length = y.length
  · have hl : (len x != len y) = false := by simp [len, h]
    simp only [hl, Bool.false_eq_true, if_false]
    refine ⟨loop_eqL x y h hx (fun i u v hu hv => ?_) ?_, loop_eqL x y h hx (fun i u v hu hv => ?_) ?_⟩
    · unfold m_slices_Equal_Pair_L1
      simp only [at_dec hu, if_true, at_idx hu, at_idx hv, Option.bind_some]
    · unfold m_slices_Equal_Pair_L1
      simp only [end_dec, Bool.false_eq_true, if_false]
    · unfold m_net_Pairs_L1
      simp only [at_dec hu, if_true, at_idx hu, at_idx hv, Option.bind_some]
    · unfold m_net_Pairs_L1
      simp only [end_dec, Bool.false_eq_true, if_false]
  · have hl : (len x != len y) = true := by simp [len]; omega
    simp only [hl, if_true]
    have : x ≠ y := fun e => h (by rw [e])
    simp [this]
theorem eq_Move (x y : List T_Move) (hx : x.length < 4294967296) : m_slices_Equal_Move x y = some (decide (x = y)) ∧ m_ref27_SameMoves x y = some (decide (x = y)) := by
  unfold m_slices_Equal_Move m_ref27_SameMoves
  by_cases h : x.length = y.length
  · have hl : (len x != len y) = false := by simp [len, h]
    simp only [hl, Bool.false_eq_true, if_false]
    refine ⟨loop_eqL x y h hx (fun i u v hu hv => ?_) ?_, loop_eqL x y h hx (fun i u v hu hv => ?_) ?_⟩
    · unfold m_slices_Equal_Move_L1
      simp only [at_dec hu, if_true, at_idx hu, at_idx hv, Option.bind_some]
    · unfold m_slices_Equal_Move_L1
      simp only [end_dec, Bool.false_eq_true, if_false]
    · unfold m_ref27_SameMoves_L1
      simp only [at_dec hu, if_true, at_idx hu, at_idx hv, Option.bind_some]
    · unfold m_ref27_SameMoves_L1
      simp only [end_dec, Bool.false_eq_true, if_false]
  · have hl : (len x != len y) = true := by simp [len]; omega
    simp only [hl, if_true]
    have : x ≠ y := fun e => h (by rw [e])
    simp [this]
/-- lists of transcripts that are not too long -/
structure Lt (t : T_Transcript) : Prop where
  g : t.1.2.length < 4294967296
  m : t.2.2.2.length < 1000000
theorem net_SameS {a b : T_Graph} (ha : a.2.length < 4294967296) : m_net_Same a b = some (decide (a = b)) := by
  obtain ⟨n, L⟩ := a
  obtain ⟨n', L'⟩ := b
  unfold m_net_Same
  simp only [(eq_Pair L L' ha).2, Option.bind_some, Prod.mk.injEq]
  by_cases h1 : n = n'
  · subst h1; simp
  · have : (n == n') = false := by simpa using h1
    simp [h1, this]
theorem ref30_same_self {t : T_Transcript} (h : Lt t) : m_ref30_Same t t = some true := by
  have hm := h.m
  unfold m_ref30_Same
  rw [net_SameS h.g]
  simp [(eq_Move t.2.2.2 t.2.2.2 (by omega)).2]
theorem rpS_app : ∀ (a b : List T_Move) (i : Nat) (d : T_Dialogue), rpS (a ++ b) i d = if (rpS a i d).2.2 = 0 then rpS b (i + a.length) (rpS a i d).1 else rpS a i d
  | [], b, i, d => by simp [rpS]
  | m :: a, b, i, d => by
    rw [List.cons_append, rpS, rpS]
    by_cases h1 : (apS d m).2 = 0
    · have hn : ¬ (apS d m).2 ≠ 0 := by simpa using h1
      rw [if_neg hn, if_neg hn]
      by_cases h2 : (apS d m).1.2.2.2[i]? = some m
      · have hn2 : ¬ (apS d m).1.2.2.2[i]? ≠ some m := by simpa using h2
        rw [if_neg hn2, if_neg hn2, rpS_app a b (i + 1) (apS d m).1]
        rw [show i + (m :: a).length = i + 1 + a.length by simp; omega]
      · rw [if_pos h2, if_pos h2]
        simp
    · rw [if_pos h1, if_pos h1]
      dsimp only
      rw [if_neg h1]
/-- a dialogue whose record leads back to it -/
structure Rp (d : T_Dialogue) : Prop where
  wf : WfD d
  nw : (newS d.1 d.2.1 d.2.2.1).2 = 0
  at0 : d.2.2.2[0]? = some (1, 1, d.2.1, 0)
  rp : rpS (d.2.2.2.drop 1) 1 (d.1, d.2.1, d.2.2.1, [(1, 1, d.2.1, 0)]) = (d, (d.2.2.2.length : Int), 0)
  n5 : d.1.1 ≤ 5
  z : ∀ m ∈ d.2.2.2, m.2.1 = 3 ∨ m.2.1 = 4 → m.2.2.1 = 0
theorem judge_zero {d : T_Dialogue} {S : List Int} {R : List T_Move} {e : T_Outcome} {m : T_Move} (h : (judgeS d S R e m).2 = 0) : (judgeS d S R e m).1.2.1 = 3 ∨ (judgeS d S R e m).1.2.1 = 4 → (judgeS d S R e m).1.2.2.1 = 0 := by
  unfold judgeS at h ⊢
  by_cases h1 : turnS S e = 0
  · rw [if_pos h1] at h; cases h
  rw [if_neg h1] at h ⊢
  by_cases h2 : ¬ (m.2.1 = 2 ∨ m.2.1 = 3 ∨ m.2.1 = 4)
  · rw [if_pos h2] at h; cases h
  rw [if_neg h2] at h ⊢
  by_cases h3 : m.1 ≠ 3 - leadS S
  · rw [if_pos h3] at h; cases h
  rw [if_neg h3] at h ⊢
  by_cases h4 : m.2.1 = 4
  · rw [if_pos h4]; exact fun _ => rfl
  rw [if_neg h4] at h ⊢
  by_cases h5 : m.2.2.2 < 0 ∨ (d.2.2.2.length : Int) ≤ m.2.2.2 ∨ (m.2.1 = 2 ∧ (m.2.2.1 < 0 ∨ d.1.1 ≤ m.2.2.1))
  · rw [if_pos h5] at h; cases h
  rw [if_neg h5] at h ⊢
  by_cases h6 : m.2.1 = 2
  · rw [if_pos h6] at h ⊢
    by_cases h7 : m ∈ R
    · rw [if_pos h7]
      intro hk
      dsimp only at hk
      omega
    · rw [if_neg h7] at h; cases h
  rw [if_neg h6] at h ⊢
  dsimp only at h ⊢
  split at h
  · cases h
  · rename_i h7
    rw [if_neg h7]; exact fun _ => rfl
theorem Rp.next {d : T_Dialogue} (h : Rp d) {m : T_Move} (h0 : (apS d m).2 = 0) : Rp (apS d m).1 := by
  obtain ⟨m', e1, e2, e3, e4⟩ := (ap_both h.wf m).2.2 h0
  have hpos := h.wf.l.pos
  have hz : ∀ m1 ∈ (apS d m).1.2.2.2, m1.2.1 = 3 ∨ m1.2.1 = 4 → m1.2.2.1 = 0 := by
    obtain ⟨S, L, P, R, e, f⟩ := found h.wf
    have ha2 : apS d m = applyS d (judgeS d S R e m) := by unfold apS; rw [ref_Apply h.wf f]; rfl
    have hj : (judgeS d S R e m).2 = 0 := by
      apply Classical.byContradiction
      intro hj
      rw [ha2] at h0
      unfold applyS at h0
      rw [if_neg hj] at h0
      exact hj h0
    rw [ha2]
    unfold applyS
    rw [if_pos hj]
    intro m1 hm1
    rcases List.mem_append.1 hm1 with hm1 | hm1
    · exact h.z m1 hm1
    · obtain rfl : m1 = (judgeS d S R e m).1 := by simpa using hm1
      exact judge_zero hj
  refine ⟨e2, ?_, ?_, ?_, by rw [e1]; exact h.n5, hz⟩
  · rw [e1]; exact h.nw
  · rw [e1]
    show (d.2.2.2 ++ [m'])[0]? = _
    rw [List.getElem?_append_left hpos]
    exact h.at0
  · have hd : (apS d m).1.2.2.2.drop 1 = d.2.2.2.drop 1 ++ [m'] := by
      rw [e1]
      show (d.2.2.2 ++ [m']).drop 1 = _
      rw [List.drop_append_of_le_length (by omega)]
    have hb : ((apS d m).1.1, (apS d m).1.2.1, (apS d m).1.2.2.1, [(((1 : Int), (1 : Int), (apS d m).1.2.1, (0 : Int)) : T_Move)]) = (d.1, d.2.1, d.2.2.1, [(1, 1, d.2.1, 0)]) := by rw [e1]
    rw [hd, hb, rpS_app, h.rp]
    simp only [if_true]
    have hl1 : 1 + (d.2.2.2.drop 1).length = d.2.2.2.length := by simp; omega
    rw [hl1, rpS, e4]
    have hn : ¬ (apS d m).2 ≠ 0 := by simpa using h0
    have hn2 : ¬ (apS d m).1.2.2.2[d.2.2.2.length]? ≠ some m' := by
      rw [e1]
      simp
    rw [if_neg hn, if_neg hn2, rpS]
    rw [show (apS d m).1.2.2.2.length = d.2.2.2.length + 1 by rw [e1]; simp]
theorem Rp.replay {d : T_Dialogue} (h : Rp d) : replayS d = (d, (d.2.2.2.length : Int), 0) := by
  unfold replayS
  have hn : ¬ (newS d.1 d.2.1 d.2.2.1).2 ≠ 0 := by simpa using h.nw
  have hn2 : ¬ d.2.2.2[0]? ≠ some (1, 1, d.2.1, 0) := by simpa using h.at0
  rw [if_neg hn, if_neg hn2, h.rp]
theorem rp_new {g : T_Graph} {r : Int} {q : Int × Int} (hw : WfD (g, r, q, [(1, 1, r, 0)])) (h : m_ref27_New g r q = some ((g, r, q, [(1, 1, r, 0)]), 0)) (hn : g.1 ≤ 5) : Rp (g, r, q, [(1, 1, r, 0)]) :=
  ⟨hw, by
    have : newS g r q = ((g, r, q, [(1, 1, r, 0)]), 0) := by unfold newS; rw [h]; rfl
    show (newS g r q).2 = 0
    rw [this], rfl, by simp [rpS], hn, by simp⟩
end
section
set_option linter.unusedVariables false
theorem Played.lt {d : T_Dialogue} {i : Nat} (h : Played d i) (hi : i ≤ 100) : Lt d := ⟨by have := h.wf.g.len; omega, by have := h.len; omega⟩
end
section
theorem Ok.wh {σ ρ : Type} {B : σ → Option (σ ⊕ ρ)} (I : σ → Prop) (μ : σ → Nat) {Q : ρ → Prop} (h : ∀ s, I s → Ok (B s) fun o => match o with | .inl t => I t ∧ μ t < μ s | .inr r => Q r) {s : σ} (hs : I s) : Ok (loop B s) Q := by
  refine loop_spec I μ Q (fun s hI => ?_) s hs
  obtain ⟨o, h1, h2⟩ := h s hI
  cases o with
  | inl t => exact .inl ⟨t, h1, h2⟩
  | inr r => exact .inr ⟨r, h1, h2⟩
/-- packets that are held: their numbers ascend and are not below n -/
structure Hdl (it : List Int) (n : Nat) (l : List T_Packet) : Prop where
  s : l.Pairwise (fun a b => a.2.1 < b.2.1)
  a : ∀ p ∈ l, ∃ k : Nat, p.2.1 = (k : Int) ∧ n ≤ k ∧ it[k]? = some p.2.2
section
variable {it : List Int}
theorem Hdl.tail {n k : Nat} {p : T_Packet} {l : List T_Packet} (h : Hdl it n (p :: l)) (hk : p.2.1 = (k : Int)) : Hdl it (k + 1) l :=
  ⟨(List.pairwise_cons.1 h.s).2, fun q hq => by
    obtain ⟨j, j1, _, j3⟩ := h.a q (List.mem_cons_of_mem _ hq)
    have := (List.pairwise_cons.1 h.s).1 q hq
    exact ⟨j, j1, by omega, j3⟩⟩
theorem Hdl.len : ∀ {l : List T_Packet} {n : Nat}, Hdl it n l → l.length ≤ it.length - n
  | [], _, _ => by simp
  | p :: l, n, h => by
    obtain ⟨k, h1, h2, h3⟩ := h.a p (List.mem_cons_self)
    have hk := (List.getElem?_eq_some_iff.1 h3).1
    have := Hdl.len (h.tail h1)
    simp only [List.length_cons]
    omega
theorem Hdl.le {n m : Nat} {l : List T_Packet} (h : Hdl it n l) (hm : ∀ p ∈ l, (m : Int) ≤ p.2.1) : Hdl it m l :=
  ⟨h.s, fun p hp => by obtain ⟨k, h1, _, h3⟩ := h.a p hp; have := hm p hp; exact ⟨k, h1, by omega, h3⟩⟩
theorem Hdl.mono {n m : Nat} {l : List T_Packet} (h : Hdl it n l) (hm : m ≤ n) : Hdl it m l :=
  ⟨h.s, fun p hp => by obtain ⟨k, h1, h2, h3⟩ := h.a p hp; exact ⟨k, h1, by omega, h3⟩⟩
theorem shr_half (w : Nat) : shr .i64 (w : Int) 1 = ((w / 2 : Nat) : Int) := by
  unfold shr
  have h3 : min ((1 : Int).toNat) IntKind.i64.bits = 1 := rfl
  rw [h3, Int.fdiv_eq_ediv_of_nonneg _ (by decide)]
  omega
theorem mid_eq (a b : Nat) (h : a + b < 1000) : w64 (shr .u64 (IntKind.u64.wrap (w64 ((a : Int) + (b : Int)))) 1) = (((a + b) / 2 : Nat) : Int) := by
  rw [w64_id (x := (a : Int) + b) (by omega) (by omega), show (a : Int) + (b : Int) = ((a + b : Nat) : Int) by omega, wrapU_nat (by omega)]
  rw [show shr .u64 ((a + b : Nat) : Int) 1 = shr .i64 ((a + b : Nat) : Int) 1 from rfl, shr_half, w64_id (by omega) (by omega)]
theorem bs_ok {n : Nat} {l : List T_Packet} (h : Hdl it n l) (hb : it.length ≤ 60) {y : Int} (hy : 0 ≤ y ∧ y ≤ 1000) :
    Ok (m_slices_BinarySearchFunc_int__channel_line_receive_1 l y) fun r => ∃ i : Nat, r.1 = (i : Int) ∧ i ≤ l.length ∧ (∀ j p, l[j]? = some p → j < i → p.2.1 < y) ∧ (∀ j p, l[j]? = some p → i ≤ j → y ≤ p.2.1) ∧ (r.2 = true ↔ ∃ p, l[i]? = some p ∧ p.2.1 = y) := by
  have hlen := h.len
  have hnum : ∀ (j : Nat) p, l[j]? = some p → 0 ≤ p.2.1 ∧ p.2.1 < 60 := fun j p hp => by
    obtain ⟨k, h1, h2, h3⟩ := h.a p (List.mem_of_getElem? hp)
    have := (List.getElem?_eq_some_iff.1 h3).1
    omega
  have hcmp : ∀ p : T_Packet, 0 ≤ p.2.1 ∧ p.2.1 < 60 → m_channel_line_receive_1 p y = some (p.2.1 - y) := fun p hp => by
    unfold m_channel_line_receive_1
    rw [w64_id (by omega) (by omega)]
  have hlt : ∀ (j k : Nat) p q, l[j]? = some p → l[k]? = some q → j < k → p.2.1 < q.2.1 := fun j k p q hp hq hjk => by
    have := List.pairwise_iff_getElem.1 h.s j k (List.getElem?_eq_some_iff.1 hp).1 (List.getElem?_eq_some_iff.1 hq).1 hjk
    rwa [(List.getElem?_eq_some_iff.1 hp).2, (List.getElem?_eq_some_iff.1 hq).2] at this
  unfold m_slices_BinarySearchFunc_int__channel_line_receive_1
  refine .bind (I := fun s => ∃ i : Nat, s = (i : Int) ∧ i ≤ l.length ∧ (∀ j p, l[j]? = some p → j < i → p.2.1 < y) ∧ (∀ j p, l[j]? = some p → i ≤ j → y ≤ p.2.1)) ?_ fun s1 hs1 => ?_
  · refine Ok.wh (fun s : Int × Int => ∃ a b : Nat, s = ((a : Int), (b : Int)) ∧ a ≤ b ∧ b ≤ l.length ∧ (∀ j p, l[j]? = some p → j < a → p.2.1 < y) ∧ (∀ j p, l[j]? = some p → b ≤ j → y ≤ p.2.1)) (fun s => (s.2 - s.1).toNat) (fun s hs => ?_) ⟨0, l.length, rfl, by omega, Nat.le_refl _, fun j p _ hj => by omega, fun j p hp hj => by have := (List.getElem?_eq_some_iff.1 hp).1; omega⟩
    obtain ⟨a, b, rfl, hab, hbl, ha, hbb⟩ := hs
    unfold m_slices_BinarySearchFunc_int__channel_line_receive_1_L1
    refine .ite (fun hd => ?_) (fun hd => ?_)
    · have hd : (a : Int) < b := by simpa using hd
      simp only [mid_eq a b (by omega)]
      have hm1 : (a + b) / 2 < b := by omega
      have hm2 : a ≤ (a + b) / 2 := by omega
      generalize (a + b) / 2 = mm at hm1 hm2
      have hx : l[mm]? = some l[mm] := List.getElem?_eq_getElem (by omega)
      generalize l[mm] = x at hx
      rw [at_idx hx, Option.bind_some, hcmp x (hnum mm x hx), Option.bind_some]
      refine .ite (fun hc => .ret ?_) (fun hc => .ret ?_)
      · have hc : x.2.1 - y < 0 := by simpa using hc
        refine ⟨⟨mm + 1, b, by rw [w64_succ mm (by omega)], by omega, hbl, fun j p hp hj => ?_, hbb⟩, ?_⟩
        · by_cases hjm : j = mm
          · subst hjm; rw [hx] at hp; cases hp; omega
          · have := hlt j mm p x hp hx (by omega); omega
        · show ((b : Int) - w64 ((mm : Int) + 1)).toNat < ((b : Int) - a).toNat
          rw [w64_succ mm (by omega)]
          omega
      · have hc : ¬ x.2.1 - y < 0 := by simpa using hc
        refine ⟨⟨a, mm, rfl, hm2, by omega, ha, fun j p hp hj => ?_⟩, ?_⟩
        · by_cases hjm : j = mm
          · subst hjm; rw [hx] at hp; cases hp; omega
          · have := hlt mm j x p hx hp (by omega); omega
        · show ((mm : Int) - a).toNat < ((b : Int) - a).toNat
          omega
    · have hd : ¬ (a : Int) < b := by simpa using hd
      have : a = b := by omega
      subst this
      exact .ret ⟨a, rfl, hbl, ha, hbb⟩
  · obtain ⟨i, rfl, hi, h1, h2⟩ := hs1
    refine .bind (I := fun o => o.1 = (i : Int) ∧ (o.2 = true ↔ ∃ p, l[i]? = some p ∧ p.2.1 = y)) ?_ fun o ho => .ret ⟨i, ho.1, hi, h1, h2, ho.2⟩
    refine .ite (fun hd => ?_) (fun hd => .ret ⟨rfl, ?_⟩)
    · have hd : (i : Int) < len l := by simpa using hd
      have hd : i < l.length := by simp only [len] at hd; omega
      have hx : l[i]? = some l[i] := List.getElem?_eq_getElem hd
      generalize l[i] = x at hx
      rw [at_idx hx, Option.bind_some, hcmp x (hnum i x hx), Option.bind_some]
      refine .ret ⟨rfl, ?_⟩
      show ((x.2.1 - y == 0) = true) ↔ _
      rw [beq_iff_eq]
      exact ⟨fun e => ⟨x, hx, by omega⟩, fun ⟨p, hp, e⟩ => by rw [hx] at hp; cases hp; omega⟩
    · have hd : ¬ ((i : Int) < len l) := by simpa using hd
      have hd : ¬ (i < l.length) := by simp only [len] at hd; omega
      refine ⟨fun e => by simp at e, fun ⟨p, hp, _⟩ => ?_⟩
      exact absurd (List.getElem?_eq_some_iff.1 hp).1 hd
/-- a packet on its way: n items are received -/
def PkOk (it : List Int) (n : Nat) (p : T_Packet) : Prop := if p.1 = true then p.2.1 ≤ (n : Int) else ∃ k : Nat, p.2.1 = (k : Int) ∧ it[k]? = some p.2.2
structure Ch (it : List Int) (c : T_Channel) : Prop where
  items : c.1 = it
  big : it.length ≤ 60
  win : 1 ≤ c.2.1 ∧ c.2.1 ≤ 8
  base : 0 ≤ c.2.2.1 ∧ c.2.2.1 ≤ (c.2.2.2.1.length : Int)
  got : c.2.2.2.1 = it.take c.2.2.2.1.length ∧ c.2.2.2.1.length ≤ it.length
  held : Hdl it (c.2.2.2.1.length + 1) c.2.2.2.2.1
  fly : c.2.2.2.2.2.length ≤ 200 ∧ ∀ p ∈ c.2.2.2.2.2, PkOk it c.2.2.2.1.length p
theorem PkOk.mono {n m : Nat} {p : T_Packet} (h : PkOk it n p) (hm : n ≤ m) : PkOk it m p := by
  unfold PkOk at h ⊢
  split at h
  · rename_i e; rw [if_pos e]; omega
  · rename_i e; rw [if_neg e]; exact h
/-- the loop that takes what is held -/
theorem take_ok (hb : it.length ≤ 60) {n : Nat} {l : List T_Packet} (hn : n ≤ it.length) (h : Hdl it n l) :
    Ok (loop m_channel_line_receive_L1 (it.take n, l)) fun r => ∃ m : Nat, n ≤ m ∧ m ≤ it.length ∧ r.1 = it.take m ∧ Hdl it (m + 1) r.2 ∧ ((∃ p, l[0]? = some p ∧ p.2.1 = (n : Int)) → n < m) := by
  refine Ok.wh (fun s : List Int × List T_Packet => ∃ m : Nat, n ≤ m ∧ m ≤ it.length ∧ s.1 = it.take m ∧ Hdl it m s.2 ∧ (m = n → s.2 = l)) (fun s => s.2.length) (fun s hs => ?_) ⟨n, Nat.le_refl _, hn, rfl, h, fun _ => rfl⟩
  obtain ⟨rc, hl⟩ := s
  obtain ⟨m, h1, h2, rfl, h4, h5⟩ := hs
  dsimp only at h4 h5
  have hml : (it.take m).length = m := by rw [List.length_take]; omega
  have hh := h4.len
  unfold m_channel_line_receive_L1
  cases hl with
  | nil =>
    have : decide ((0 : Int) < len ([] : List T_Packet)) = false := by simp [len]
    simp only [this, Bool.false_eq_true, if_false, Option.bind_some]
    exact .ret ⟨m, h1, h2, rfl, ⟨List.Pairwise.nil, fun p hp => by cases hp⟩, fun ⟨p, hp, hpn⟩ => by
      by_cases hmn : m = n
      · rw [← h5 hmn] at hp; cases hp
      · omega⟩
  | cons p hl =>
    have : decide ((0 : Int) < len (p :: hl)) = true := by simp [len]
    have hi : idx (p :: hl) 0 = some p := rfl
    simp only [this, if_true, hi, Option.bind_some]
    obtain ⟨k, k1, k2, k3⟩ := h4.a p (List.mem_cons_self)
    have hkl := (List.getElem?_eq_some_iff.1 k3).1
    simp only [List.length_cons] at hh
    refine .ite (fun hc => ?_) (fun hc => .ret ?_)
    · have hc : p.2.1 = ((it.take m).length : Int) := by simpa [len] using hc
      have hkm : k = m := by omega
      subst hkm
      rw [app_ok (by rw [hml]; simp; omega), Option.bind_some, sub_ok (by omega) (by simp [len]; omega) (by simp [len]), Option.bind_some]
      refine .ret ⟨⟨k + 1, by omega, by omega, ?_, ?_, fun e => by omega⟩, ?_⟩
      · rw [List.take_add_one, k3]; rfl
      · have : ((p :: hl).take (Int.toNat (len (p :: hl)))).drop (Int.toNat 1) = hl := by simp [len]
        show Hdl it (k + 1) (List.drop (Int.toNat 1) (List.take (Int.toNat (len (p :: hl))) (p :: hl)))
        rw [this]
        exact h4.tail k1
      · show (List.drop (Int.toNat 1) (List.take (Int.toNat (len (p :: hl))) (p :: hl))).length < (p :: hl).length
        simp [len]
    · have hc : ¬ p.2.1 = ((it.take m).length : Int) := by simpa [len] using hc
      rw [hml] at hc
      refine ⟨m, h1, h2, rfl, h4.le fun q hq => ?_, fun ⟨q, hq, hqn⟩ => ?_⟩
      · rcases List.mem_cons.1 hq with rfl | hq
        · omega
        · have := (List.pairwise_cons.1 h4.s).1 q hq; omega
      · by_cases hmn : m = n
        · rw [← h5 hmn] at hq; cases hq; omega
        · omega
theorem hdl_ins {n : Nat} {l : List T_Packet} (h : Hdl it n l) {i : Nat} {p : T_Packet} (_hi : i ≤ l.length) (h1 : ∀ j q, l[j]? = some q → j < i → q.2.1 < p.2.1) (h2 : ∀ j q, l[j]? = some q → i ≤ j → p.2.1 < q.2.1)
    (hp : ∃ k : Nat, p.2.1 = (k : Int) ∧ n ≤ k ∧ it[k]? = some p.2.2) : Hdl it n (l.take i ++ [p] ++ l.drop i) := by
  have m1 : ∀ q ∈ l.take i, q.2.1 < p.2.1 := fun q hq => by
    obtain ⟨j, hj⟩ := List.mem_iff_getElem?.1 hq
    rw [List.getElem?_take] at hj
    split at hj
    · rename_i hji; exact h1 j q hj hji
    · cases hj
  have m2 : ∀ q ∈ l.drop i, p.2.1 < q.2.1 := fun q hq => by
    obtain ⟨j, hj⟩ := List.mem_iff_getElem?.1 hq
    rw [List.getElem?_drop] at hj
    exact h2 _ q hj (by omega)
  have hs := h.s
  rw [← List.take_append_drop i l] at hs
  obtain ⟨s1, s2, s3⟩ := List.pairwise_append.1 hs
  refine ⟨?_, fun q hq => ?_⟩
  · rw [List.append_assoc]
    refine List.pairwise_append.2 ⟨s1, List.pairwise_cons.2 ⟨m2, s2⟩, fun a ha b hb => ?_⟩
    rcases List.mem_cons.1 hb with rfl | hb
    · exact m1 a ha
    · exact s3 a ha b hb
  · rw [List.append_assoc] at hq
    rcases List.mem_append.1 hq with hq | hq
    · exact h.a q (List.mem_of_mem_take hq)
    · rcases List.mem_cons.1 hq with rfl | hq
      · exact hp
      · exact h.a q (List.mem_of_mem_drop hq)
/-- a data packet is received -/
theorem receive_ok {c : T_Channel} (h : Ch it c) {p : T_Packet} (hp : ∃ k : Nat, p.2.1 = (k : Int) ∧ it[k]? = some p.2.2) :
    Ok (m_channel_line_receive c p) fun r => Ch it (c.1, c.2.1, c.2.2.1, r.1, r.2.1, r.2.2) ∧ (c.2.2.2.1.length ≤ r.1.length ∧ (p.2.1 = (c.2.2.2.1.length : Int) → c.2.2.2.1.length < r.1.length)) ∧
      ((c.2.2.2.2.2.length < 200) → r.2.2 = c.2.2.2.2.2 ++ [(true, (r.1.length : Int), 0)]) := by
  obtain ⟨k, hk1, hk2⟩ := hp
  have hkl := (List.getElem?_eq_some_iff.1 hk2).1
  have hb := h.big
  have hw := h.win
  have hhl := h.held.len
  obtain ⟨hr1, hr2⟩ := h.got
  unfold m_channel_line_receive
  refine .bind (bs_ok h.held hb (y := p.2.1) (by omega)) fun r1 hr => ?_
  obtain ⟨i, i1, i2, i3, i4, i5⟩ := hr
  have hwn : w64 ((len c.2.2.2.1) + c.2.1) = (c.2.2.2.1.length : Int) + c.2.1 := w64_id (by simp only [len]; omega) (by simp only [len]; omega)
  refine .bind (I := fun l => Hdl it c.2.2.2.1.length l ∧ (p.2.1 = (c.2.2.2.1.length : Int) → ∃ q, l[0]? = some q ∧ q.2.1 = (c.2.2.2.1.length : Int))) ?_ fun l hl => ?_
  · refine .ite (fun hc => ?_) (fun hc => .ret ⟨h.held.mono (by omega), fun e => ?_⟩)
    · simp only [Bool.and_eq_true, decide_eq_true_eq, Bool.not_eq_true', hwn] at hc
      obtain ⟨c1, c2, c3⟩ := hc
      simp only [len] at c1
      unfold m_slices_Insert_Packet
      rw [i1, show insM c.2.2.2.2.1 (i : Int) [p] = some (c.2.2.2.2.1.take (i : Int).toNat ++ [p] ++ c.2.2.2.2.1.drop (i : Int).toNat) from if_pos ⟨rfl, by omega, by omega, by omega⟩, Option.bind_some]
      refine .ret ⟨?_, fun e => ?_⟩
      · refine hdl_ins (h.held.mono (by omega)) i2 i3 (fun j q hq hj => ?_) ⟨k, hk1, by omega, hk2⟩
        have h1 := i4 j q hq hj
        rcases Int.lt_or_eq_of_le h1 with h1 | h1
        · exact h1
        · exfalso
          by_cases hji : j = i
          · subst hji
            have : r1.2 = true := i5.2 ⟨q, hq, h1.symm⟩
            rw [this] at c3; cases c3
          · have hi : i < c.2.2.2.2.1.length := by have := (List.getElem?_eq_some_iff.1 hq).1; omega
            have h2 := i4 i _ (List.getElem?_eq_getElem hi) (Nat.le_refl _)
            have h3 := List.pairwise_iff_getElem.1 h.held.s i j hi (List.getElem?_eq_some_iff.1 hq).1 (by omega)
            rw [(List.getElem?_eq_some_iff.1 hq).2] at h3
            omega
      · have hi0 : i = 0 := by
          rcases Nat.eq_zero_or_pos i with h0 | h0
          · exact h0
          · exfalso
            have hi : 0 < c.2.2.2.2.1.length := by omega
            have h2 := i3 0 _ (List.getElem?_eq_getElem hi) h0
            obtain ⟨j, j1, j2, _⟩ := h.held.a _ (List.getElem_mem hi)
            omega
        subst hi0
        exact ⟨p, rfl, e⟩
    · exfalso
      have hn3 : r1.2 = false := by
        cases hr2 : r1.2 with
        | false => rfl
        | true =>
          obtain ⟨q, hq, hqe⟩ := i5.1 hr2
          obtain ⟨j, j1, j2, _⟩ := h.held.a q (List.mem_of_getElem? hq)
          omega
      have : (decide ((len c.2.2.2.1) ≤ p.2.1) && (decide (p.2.1 < w64 ((len c.2.2.2.1) + c.2.1)) && !r1.2)) = true := by
        rw [hwn, hn3]
        simp [len]
        omega
      rw [this] at hc; cases hc
  · obtain ⟨hl1, hl2⟩ := hl
    have e1 : loop m_channel_line_receive_L1 (c.2.2.2.1, l) = loop m_channel_line_receive_L1 (it.take c.2.2.2.1.length, l) := by rw [← hr1]
    rw [e1]
    refine .bind (take_ok hb hr2 hl1) fun s2 hs2 => ?_
    obtain ⟨m, m1, m2, m3, m4, m5⟩ := hs2
    have hml : s2.1.length = m := by rw [m3, List.length_take]; omega
    have hfl := h.fly
    have key : ∀ f : List T_Packet, f.length ≤ 200 → (∀ q ∈ f, PkOk it m q) → Ch it (c.1, c.2.1, c.2.2.1, s2.1, s2.2, f) := fun f f1 f2 =>
      ⟨h.items, hb, hw, ⟨h.base.1, by have := h.base.2; show c.2.2.1 ≤ (s2.1.length : Int); omega⟩, ⟨by show s2.1 = it.take s2.1.length; rw [hml]; exact m3, by show s2.1.length ≤ it.length; omega⟩, by show Hdl it (s2.1.length + 1) s2.2; rw [hml]; exact m4, ⟨f1, by show ∀ q ∈ f, PkOk it s2.1.length q; rw [hml]; exact f2⟩⟩
    have hold : ∀ q ∈ c.2.2.2.2.2, PkOk it m q := fun q hq => (hfl.2 q hq).mono m1
    have hfin : c.2.2.2.1.length ≤ s2.1.length ∧ (p.2.1 = (c.2.2.2.1.length : Int) → c.2.2.2.1.length < s2.1.length) := ⟨by omega, fun e => by
      rw [hml]; exact m5 (hl2 e)⟩
    unfold m_channel_line_full
    simp only [Option.bind_some]
    refine .ite (fun hc => ?_) (fun hc => .ret ⟨key _ hfl.1 hold, hfin, fun hlt => ?_⟩)
    · have hc : c.2.2.2.2.2.length < 200 := by simp [len] at hc; omega
      rw [app_ok (by simp; omega), Option.bind_some]
      refine .ret ⟨key _ (by simp; omega) fun q hq => ?_, hfin, fun _ => by simp [len]⟩
      rcases List.mem_append.1 hq with hq | hq
      · exact hold q hq
      · simp only [List.mem_singleton] at hq
        subst hq
        show PkOk it m (true, len s2.1, 0)
        unfold PkOk
        rw [if_pos rfl]
        show (s2.1.length : Int) ≤ m
        omega
    · simp [len] at hc; omega
end
end
section
variable {it : List Int}
theorem cloneI_ok {l : List Int} (h : l.length < 4294967296) : m_slices_Clone_int l = some l := by simp [m_slices_Clone_int, app_nil_ok h]
theorem cloneP_ok {l : List T_Packet} (h : l.length < 4294967296) : m_slices_Clone_Packet l = some l := by simp [m_slices_Clone_Packet, app_nil_ok h]
theorem copied_ok {c : T_Channel} (h : Ch it c) : m_channel_copied c = some c := by
  have hb := h.big
  have h1 := h.got.2
  have h2 := h.held.len
  have h3 := h.fly.1
  unfold m_channel_copied
  rw [cloneI_ok (by rw [h.items]; omega), cloneI_ok (by omega), cloneP_ok (by omega), cloneP_ok (by omega)]
  rfl
theorem Ch.fly_ {c : T_Channel} (h : Ch it c) {f : List T_Packet} (h1 : f.length ≤ 200) (h2 : ∀ q ∈ f, PkOk it c.2.2.2.1.length q) : Ch it (c.1, c.2.1, c.2.2.1, c.2.2.2.1, c.2.2.2.2.1, f) :=
  ⟨h.items, h.big, h.win, h.base, h.got, h.held, ⟨h1, h2⟩⟩
/-- a packet is sent -/
theorem send_ok {c : T_Channel} (h : Ch it c) {n : Int} (hn : -1000 ≤ n ∧ n ≤ 1000) : Ok (m_channel_line_send c n) fun r => Ch it (c.1, c.2.1, c.2.2.1, c.2.2.2.1, c.2.2.2.2.1, r.2) := by
  have hb := h.big
  have hw := h.win
  have h1 := h.got.2
  have h2 := h.base
  have h3 := h.fly
  have hk : w64 (c.2.2.1 + n) = c.2.2.1 + n := w64_id (by omega) (by omega)
  unfold m_channel_line_send
  rw [hk]
  refine .ite (fun _ => .ret (h.fly_ h3.1 h3.2)) fun hc => ?_
  simp only [Bool.or_eq_false_iff, decide_eq_false_iff_not] at hc
  obtain ⟨_, _, c3, c4⟩ := hc
  simp only [len] at c4
  unfold m_channel_line_full
  rw [Option.bind_some]
  refine .ite (fun _ => .ret (h.fly_ h3.1 h3.2)) fun hf => ?_
  have hf : c.2.2.2.2.2.length < 200 := by simp [len] at hf; omega
  refine .bind (.idx (by omega) (by omega)) fun x hx => ?_
  rw [app_ok (by simp; omega), Option.bind_some]
  refine .ret (h.fly_ (by simp; omega) fun q hq => ?_)
  rcases List.mem_append.1 hq with hq | hq
  · exact h3.2 q hq
  · simp only [List.mem_singleton] at hq
    subst hq
    unfold PkOk
    rw [if_neg (by simp)]
    exact ⟨(c.2.2.1 + n).toNat, by show c.2.2.1 + n = _; omega, by rw [← h.items]; exact hx.2⟩
theorem mem_del {α : Type} {l : List α} {i j : Nat} {x : α} (h : x ∈ l.take i ++ l.drop j) : x ∈ l := by
  rcases List.mem_append.1 h with h | h
  · exact List.mem_of_mem_take h
  · exact List.mem_of_mem_drop h
theorem del_ok {c : T_Channel} (h : Ch it c) {n : Int} (h0 : 0 ≤ n) (h1 : n < c.2.2.2.2.2.length) : ∃ f, m_slices_Delete_Packet c.2.2.2.2.2 n (w64 (n + 1)) = some f ∧ f = c.2.2.2.2.2.take n.toNat ++ c.2.2.2.2.2.drop (n + 1).toNat ∧ Ch it (c.1, c.2.1, c.2.2.1, c.2.2.2.1, c.2.2.2.2.1, f) := by
  have h3 := h.fly
  refine ⟨_, ?_, rfl, h.fly_ ?_ fun q hq => h3.2 q (mem_del hq)⟩
  · rw [w64_id (x := n + 1) (by omega) (by omega)]
    unfold m_slices_Delete_Packet
    exact if_pos ⟨h0, by omega, by omega⟩
  · simp only [List.length_append, List.length_take, List.length_drop]; omega
/-- a packet is delivered -/
theorem deliver_ok {c : T_Channel} (h : Ch it c) {n : Int} (h0 : 0 ≤ n) (h1 : n < c.2.2.2.2.2.length) : Ok (m_channel_line_deliver c n) fun r => Ch it (c.1, c.2.1, r.1, r.2.1, r.2.2.1, r.2.2.2) := by
  obtain ⟨f, f1, _, f3⟩ := del_ok h h0 h1
  unfold m_channel_line_deliver
  refine .bind (.idx h0 h1) fun x hx => ?_
  rw [f1, Option.bind_some]
  have hp := h.fly.2 x hx.1
  unfold PkOk at hp
  refine .ite (fun ha => .ret ?_) fun ha => ?_
  · rw [if_pos ha] at hp
    have hb := h.base
    exact ⟨h.items, h.big, h.win, ⟨by show 0 ≤ (if x.2.1 > c.2.2.1 then x.2.1 else c.2.2.1); split <;> omega, by show (if x.2.1 > c.2.2.1 then x.2.1 else c.2.2.1) ≤ (c.2.2.2.1.length : Int); split <;> omega⟩, h.got, h.held, f3.fly⟩
  · rw [if_neg (by rw [ha]; simp)] at hp
    refine .bind (receive_ok f3 hp) fun r hr => .ret hr.1
/-- an event -/
theorem step_ok {c : T_Channel} (h : Ch it c) {e : T_NetEvent} (he : e.2 ≤ 1000 ∧ -1000 ≤ e.2) : Ok (m_channel_Step c e) fun r => r.2 = 0 → Ch it r.1 := by
  have h3 := h.fly
  unfold m_channel_Step
  rw [copied_ok h, Option.bind_some]
  refine .ite (fun _ => ?_) fun _ => ?_
  · refine .bind (send_ok h (n := e.2) (by omega)) fun r hr => .ite (fun hc => .ret fun e => ?_) fun _ => .ret fun _ => hr
    have hc : r.1 ≠ 0 := by simpa using hc
    exact absurd e hc
  · refine .bind (I := fun _ => True) ?_ fun s1 _ => .ite (fun _ => ?_) fun _ => .ret fun e => by cases e
    · exact .ite (fun _ => .ret trivial) fun _ => .ite (fun _ => .ret trivial) fun _ => .ret trivial
    · refine .ite (fun _ => .ret fun e => by cases e) fun hc => ?_
      simp only [Bool.or_eq_false_iff, decide_eq_false_iff_not] at hc
      have c1 : 0 ≤ e.2 := by omega
      have c2 : e.2 < c.2.2.2.2.2.length := by have := hc.2; simp only [len] at this; omega
      refine .seqE (I := fun o => match o with | .inl s => Ch it (c.1, c.2.1, s.1, s.2.1, s.2.2.1, s.2.2.2) | .inr r => r.2 = 0 → Ch it r.1) ?_ (fun s hs => .ret fun _ => hs) (fun r hr => hr)
      refine .ite (fun _ => ?_) fun _ => .ite (fun _ => ?_) fun _ => ?_
      · exact .bind (deliver_ok h c1 c2) fun r hr => .ret hr
      · obtain ⟨f, f1, _, f3⟩ := del_ok h c1 c2
        rw [f1, Option.bind_some]
        exact .ret f3
      · unfold m_channel_line_full
        rw [Option.bind_some]
        refine .ite (fun _ => .ret fun e => by cases e) fun hf => ?_
        have hf : c.2.2.2.2.2.length < 200 := by simp [len] at hf; omega
        refine .bind (.idx c1 c2) fun x hx => ?_
        rw [app_ok (by simp; omega), Option.bind_some]
        refine .ret (h.fly_ (by simp; omega) fun q hq => ?_)
        rcases List.mem_append.1 hq with hq | hq
        · exact h3.2 q hq
        · simp only [List.mem_singleton] at hq
          subst hq
          exact h3.2 _ hx.1
/-- events without loss, until all is acknowledged -/
theorem finish_ok {c : T_Channel} (h : Ch it c) : Ok (m_channel_Finish c) fun r => r.1.2.2.2.1 = it := by
  unfold m_channel_Finish
  rw [copied_ok h, Option.bind_some]
  refine Ok.wh (fun s : Int × Int × List Int × List T_Packet × List T_Packet => Ch it (c.1, c.2.1, s.2.1, s.2.2.1, s.2.2.2.1, ([] : List T_Packet))) (fun s => (it.length - s.2.1.toNat)) (fun s hs => ?_) (s := (0, c.2.2.1, c.2.2.2.1, c.2.2.2.2.1, c.2.2.2.2.2)) (h.fly_ (by simp) (by simp))
  obtain ⟨rn, b, rc, hl, fl⟩ := s
  dsimp only at hs
  have hb := hs.base
  have hbig := hs.big
  have hw := hs.win
  obtain ⟨g1, g2⟩ := hs.got
  have hit := hs.items
  dsimp only at hb hbig hw g1 g2 hit
  unfold m_channel_Finish_L1 m_channel_Done
  simp only [Option.bind_some]
  by_cases hd : b = (c.1.length : Int)
  · have : (b == len c.1) = true := by simpa [len] using hd
    simp only [this, if_true, Option.bind_some]
    refine .ret ?_
    show rc = it
    rw [g1, List.take_of_length_le]
    rw [hit] at hd
    omega
  · have : (b == len c.1) = false := by simpa [len] using hd
    simp only [this, Bool.false_eq_true, if_false]
    have hlt : b < c.1.length := by rw [hit]; rw [hit] at hd; omega
    have hx : c.1[b.toNat]? = some c.1[b.toNat] := List.getElem?_eq_getElem (by omega)
    generalize c.1[b.toNat] = x at hx
    have hsend : m_channel_line_send_3 (c.1, c.2.1, b, rc, hl, ([] : List T_Packet)) 0 = some (0, [(false, b, x)]) := by
      unfold m_channel_line_send_3 m_channel_line_full
      have e1 : w64 b = b := w64_id (by omega) (by omega)
      have e2 : idx c.1 b = some x := by unfold idx; rw [if_pos hb.1]; exact hx
      have e3 : ¬ c.2.1 ≤ 0 := by omega
      have e4 : ¬ b < 0 := by omega
      have e5 : ¬ (c.1.length : Int) ≤ b := by omega
      simp [e1, e2, e3, e4, e5, len, app]
    rw [hsend, Option.bind_some]
    simp only [Option.bind_some, bne_self_eq_false, Bool.false_eq_true, if_false]
    have hxi : it[b.toNat]? = some x := by rw [← hit]; exact hx
    have hpk : ∃ k : Nat, ((false, b, x) : T_Packet).2.1 = (k : Int) ∧ it[k]? = some ((false, b, x) : T_Packet).2.2 := ⟨b.toNat, by show b = _; omega, hxi⟩
    -- the packet
    have hdel1 : m_slices_Delete_Packet [((false, b, x) : T_Packet)] 0 (w64 (0 + 1)) = some [] := by
      rw [w64_id (x := 0 + 1) (by omega) (by omega)]
      rfl
    unfold m_channel_line_deliver
    dsimp only
    have hi0 : ∀ p : T_Packet, idx [p] 0 = some p := fun _ => rfl
    rw [hi0, Option.bind_some, hdel1, Option.bind_some]
    simp only [Bool.false_eq_true, if_false]
    obtain ⟨r, r0, r1, ⟨r4, r2⟩, r3⟩ := receive_ok hs hpk
    dsimp only at r1 r2 r3 r4
    have hr3 := r3 (by simp)
    rw [List.nil_append] at hr3
    rw [r0, Option.bind_some, Option.bind_some, hr3, hi0, Option.bind_some]
    have hdel2 : m_slices_Delete_Packet [((true, (r.1.length : Int), 0) : T_Packet)] 0 (w64 (0 + 1)) = some [] := by
      rw [w64_id (x := 0 + 1) (by omega) (by omega)]
      rfl
    rw [hdel2, Option.bind_some]
    simp only [if_true, Option.bind_some]
    have hbig2 := r1.base
    have hgot2 := r1.got
    dsimp only at hbig2 hgot2
    have hgt : b < (r.1.length : Int) := by
      by_cases e : b = (rc.length : Int)
      · have := r2 e; omega
      · omega
    have hmax : (if (r.1.length : Int) > b then (r.1.length : Int) else b) = (r.1.length : Int) := if_pos hgt
    rw [hmax]
    have hne : ((r.1.length : Int) == b) = false := by rw [beq_eq_false_iff_ne]; omega
    simp only [hne, Bool.false_eq_true, if_false]
    refine .ret ⟨⟨r1.items, r1.big, r1.win, ⟨by show (0 : Int) ≤ (r.1.length : Int); omega, Int.le_refl _⟩, r1.got, r1.held, ⟨by simp, by simp⟩⟩, ?_⟩
    show it.length - (r.1.length : Int).toNat < it.length - b.toNat
    rw [hit] at hlt
    omega
/-- a new channel -/
theorem chan_new {l : List Int} {w : Int} (hl : l.length ≤ 60) (hw : 1 ≤ w ∧ w ≤ 8) : ∃ c, m_channel_New l w = some (c, 0) ∧ Ch l c := by
  unfold m_channel_New
  have e1 : decide (60 < len l) = false := decide_eq_false (by simp only [len]; omega)
  have e2 : (decide (w < 1) || decide (8 < w)) = false := by simp; omega
  rw [e1, e2]
  simp only [Bool.false_eq_true, if_false, cloneI_ok (show l.length < 4294967296 by omega), Option.bind_some]
  exact ⟨_, rfl, ⟨rfl, hl, hw, ⟨by simp, by simp⟩, ⟨by simp, by simp⟩, ⟨List.Pairwise.nil, fun p hp => by cases hp⟩, ⟨by simp, by simp⟩⟩⟩
end
section
/-- a player of these dialogues -/
structure Pl (g : T_Graph) (p : T_Player) : Prop where
  pool : p.1.length ≤ 100 ∧ Asc ltI p.1 ∧ ∀ x ∈ p.1, 0 ≤ x ∧ x < g.1
  held : p.2.1 = []
  script : p.2.2.1 = []
  style : p.2.2.2 = 1 ∨ p.2.2.2 = 2
theorem full_ok {g : T_Graph} {n : Int} (hg : DrG g n) (hn : n ≤ 40) {st : Int} (hs : st = 1 ∨ st = 2) : Ok (m_ref28_Full g st) fun p => Pl g p := by
  have h1 := hg.valid10 hn
  have hlo := hg.lo
  have hhi := hg.hi
  obtain ⟨N, hN⟩ := Int.eq_ofNat_of_zero_le (show 0 ≤ g.1 by omega)
  unfold m_ref28_Full
  rw [h1, Option.bind_some]
  simp only [bne_self_eq_false, Bool.false_eq_true, if_false]
  refine .bind (I := fun l => l = (List.range N).map Int.ofNat) ?_ fun l hl => .ret ?_
  · refine Ok.forI (fun i (z : List Int) => ((i : Int), z)) (List.range N) (fun i z => z = (List.range i).map Int.ofNat) _ (fun i x z hx hz => ?_) (fun z hz => ?_) ([] : List Int) rfl
    · have hi : i < N := by simpa using (List.getElem?_eq_some_iff.1 hx).1
      unfold m_ref28_Full_L1
      have : decide ((i : Int) < g.1) = true := decide_eq_true (by omega)
      simp only [this, if_true]
      subst hz
      rw [app_ok (by simp; omega), Option.bind_some]
      exact .ret ⟨_, by rw [w64_succ i (by omega)], by show _ = List.map Int.ofNat (List.range (i + 1)); rw [List.range_succ, List.map_append]; rfl⟩
    · unfold m_ref28_Full_L1
      have : decide (((List.range N).length : Int) < g.1) = false := decide_eq_false (by simp; omega)
      simp only [this, Bool.false_eq_true, if_false]
      exact .ret (by show z = _; rw [hz, List.length_range])
  · subst hl
    refine ⟨⟨by simp; omega, ?_, fun x hx => ?_⟩, rfl, rfl, hs⟩
    · show Asc ltI ((List.range N).map Int.ofNat)
      refine List.pairwise_map.2 (List.Pairwise.imp ?_ List.pairwise_lt_range)
      intro a b hab
      simp [ltI]; omega
    · obtain ⟨k, hk, rfl⟩ := List.mem_map.1 hx
      have := List.mem_range.1 hk
      show (0 : Int) ≤ (k : Int) ∧ (k : Int) < g.1
      omega
theorem valid28_ok {g : T_Graph} {p : T_Player} (h : Pl g p) : m_ref28_valid g p = some 0 := by
  obtain ⟨h1, h2, h3⟩ := h.pool
  unfold m_ref28_valid
  rw [net_Set_ok g (by omega) h2 h3, Option.bind_some, h.held, net_Set_ok g (by simp) .nil (by simp)]
  rcases h.style with h | h <;> simp [h]
theorem judge_R {d : T_Dialogue} {S : List Int} {L : List Bool} {P R : List T_Move} {e : T_Outcome} (h : WfD d) (f : Found d S L P R e) (ht : turnS S e ≠ 0) {m : T_Move} (hm : m ∈ R) : judgeS d S R e m = (m, 0) ∧ m.1 = 3 - leadS S ∧ m.2.1 = 2 ∧ 0 ≤ m.2.2.1 ∧ m.2.2.1 < d.1.1 ∧ 0 ≤ m.2.2.2 ∧ m.2.2.2 < d.2.2.2.length := by
  obtain ⟨i, hi, m', p, q1, q2, q3, _, rfl, _⟩ := (f.rm m).1 hm
  have hg := h.g.at_ p q3
  have hi := (List.getElem?_eq_some_iff.1 q1).1
  refine ⟨?_, rfl, rfl, hg.1, hg.2.1, by show (0 : Int) ≤ (i : Int); omega, by show (i : Int) < _; omega⟩
  unfold judgeS
  rw [if_neg ht, if_neg (by simp), if_neg (by simp), if_neg (by simp), if_neg (by simp; omega), if_pos rfl, if_pos hm]
theorem judge_C {d : T_Dialogue} {S : List Int} {R : List T_Move} {e : T_Outcome} (ht : turnS S e ≠ 0) : judgeS d S R e (3 - leadS S, 4, 0, 0) = ((3 - leadS S, 4, 0, 0), 0) := by
  unfold judgeS
  rw [if_neg ht, if_neg (by simp), if_neg (by simp), if_pos rfl]
theorem turnS_ne {S : List Int} {e : T_Outcome} (ht : turnS S e ≠ 0) : turnS S e = 3 - leadS S := by
  unfold turnS at ht ⊢
  split at ht
  · rename_i h; rw [if_pos h]
  · exact absurd rfl ht
/-- what is chosen -/
theorem choose_ok {d : T_Dialogue} {S : List Int} {L : List Bool} {P R : List T_Move} {e : T_Outcome} (h : WfD d) (f : Found d S L P R e) (ht : turnS S e ≠ 0) {p : T_Player} (hp : Pl d.1 p) :
    Ok (m_ref28_Choose d p) fun r => r.1 ∈ R ∨ r.1 = (3 - leadS S, 4, 0, 0) := by
  have hbig := h.l.big
  have hrn := f.rn
  obtain ⟨_, u2⟩ := turn_both h f
  have ht0 : (turnS S e == 0) = false := by simpa using ht
  unfold m_ref28_Choose
  rw [u2, Option.bind_some]
  simp only [ht0, Bool.false_eq_true, if_false]
  rw [valid28_ok hp, Option.bind_some]
  simp only [bne_self_eq_false, Bool.false_eq_true, if_false]
  refine .bind (I := fun l => l.length ≤ 4000000 ∧ ∀ x ∈ l, x ∈ R) ?_ fun l hl => ?_
  · unfold m_ref28_Attacks m_ref27_Legal
    rw [u2, Option.bind_some]
    simp only [ht0, Bool.false_eq_true, if_false, f.rl, Option.bind_some]
    refine Ok.forI (fun i (z : List T_Move) => (z, (i : Int))) R (fun i z => z.length ≤ i ∧ ∀ x ∈ z, x ∈ R) _ (fun i x z hx hz => ?_) (fun z hz => ?_) ([] : List T_Move) ⟨by simp, by simp⟩
    · have hi := (List.getElem?_eq_some_iff.1 hx).1
      unfold m_ref28_Attacks_L1
      have : decide ((i : Int) < len R) = true := decide_eq_true (by simp only [len]; omega)
      simp only [this, if_true]
      rw [at_idx hx, Option.bind_some]
      refine .bind (I := fun _ => True) ?_ fun b _ => .ite (fun _ => ?_) fun _ => ?_
      · rw [net_In _ (by have := hp.pool.1; omega), Option.bind_some]
        refine .ite (fun _ => ?_) fun _ => .ret trivial
        rw [hp.held, net_In _ (by simp), Option.bind_some]
        exact .ret trivial
      · rw [app_ok (by simp; omega), Option.bind_some]
        refine .ret ⟨_, by rw [w64_succ i (by omega)], by simp; omega, fun y hy => ?_⟩
        rcases List.mem_append.1 hy with hy | hy
        · exact hz.2 y hy
        · simp only [List.mem_singleton] at hy
          subst hy
          exact List.mem_of_getElem? hx
      · exact .ret ⟨_, by rw [w64_succ i (by omega)], by omega, hz.2⟩
    · unfold m_ref28_Attacks_L1
      have : decide ((R.length : Int) < len R) = false := decide_eq_false (by simp only [len]; omega)
      simp only [this, Bool.false_eq_true, if_false]
      exact .ret ⟨by omega, hz.2⟩
  · -- no script
    have hsc : ∃ s, m_ref28_scripted d p l = some (s, false) := by
      unfold m_ref28_scripted
      rw [u2, Option.bind_some]
      have hc : Ok (loop (m_ref28_scripted_L1 d (turnS S e)) (0, 1)) fun r => 0 ≤ r := by
        refine Ok.wh (fun s : Int × Int => 0 ≤ s.1 ∧ s.1 ≤ s.2 ∧ 1 ≤ s.2 ∧ s.2 ≤ (d.2.2.2.length : Int)) (fun s => ((d.2.2.2.length : Int) - s.2).toNat) (fun s hs => ?_) ⟨by simp, by simp, by simp, by have := h.l.pos; show (1 : Int) ≤ _; omega⟩
        obtain ⟨a, b⟩ := s
        obtain ⟨h1, h2, h3, h4⟩ := hs
        dsimp only at h1 h2 h3 h4
        unfold m_ref28_scripted_L1
        refine .ite (fun hc => ?_) fun _ => .ret h1
        have hc : b < d.2.2.2.length := by simpa [len] using hc
        refine .bind (.idx (by omega) hc) fun x _ => ?_
        have e1 : w64 (a + 1) = a + 1 := w64_id (by omega) (by omega)
        have e2 : w64 (b + 1) = b + 1 := w64_id (by omega) (by omega)
        dsimp only
        rw [e1, e2]
        exact .ite (fun _ => .ret ⟨⟨by show 0 ≤ a + 1; omega, by show a + 1 ≤ b + 1; omega, by show 1 ≤ b + 1; omega, by show b + 1 ≤ _; omega⟩, by show ((d.2.2.2.length : Int) - (b + 1)).toNat < ((d.2.2.2.length : Int) - b).toNat; omega⟩)
          fun _ => .ret ⟨⟨h1, by show a ≤ b + 1; omega, by show 1 ≤ b + 1; omega, by show b + 1 ≤ _; omega⟩, by show ((d.2.2.2.length : Int) - (b + 1)).toNat < ((d.2.2.2.length : Int) - b).toNat; omega⟩
      obtain ⟨r, hr, hr0⟩ := hc
      rw [hr, Option.bind_some]
      have : decide (len p.2.2.1 ≤ r) = true := by rw [hp.script]; exact decide_eq_true hr0
      simp only [this, if_true]
      exact ⟨_, rfl⟩
    obtain ⟨s, hs⟩ := hsc
    rw [hs, Option.bind_some]
    simp only [Bool.false_eq_true, if_false]
    refine .ite (fun _ => ?_) fun h0 => ?_
    · rw [Option.bind_some]
      exact .ret (.inr (by rw [turnS_ne ht]))
    · have hpos : 0 < l.length := by
        have : ¬ len l = 0 := by simpa using h0
        simp only [len] at this
        omega
      have hx : l[0]? = some l[0] := List.getElem?_eq_getElem hpos
      have hi : idx l 0 = some l[0] := by have := at_idx hx; simpa using this
      rw [hi, Option.bind_some]
      have hm0 : l[0] ∈ l := List.getElem_mem hpos
      generalize l[0] = x at hm0
      refine .bind (I := fun z => ((z.1, z.2.1, z.2.2.1, z.2.2.2) : T_Move) ∈ l) ?_ fun z hz => .ret (.inl (hl.2 _ hz))
      refine Ok.forI (fun i (z : T_Move) => ((i : Int), z.1, z.2.1, z.2.2.1, z.2.2.2)) l (fun _ z => z ∈ l) _ (fun i y z hy hz => ?_) (fun z hz => ?_) x hm0
      · have hi := (List.getElem?_eq_some_iff.1 hy).1
        unfold m_ref28_Choose_L1
        have : decide ((i : Int) < len l) = true := decide_eq_true (by simp only [len]; omega)
        simp only [this, if_true]
        rw [at_idx hy, Option.bind_some]
        refine .bind (I := fun _ => True) ?_ fun b _ => .ite (fun _ => ?_) fun _ => ?_
        · rcases hp.style with hst | hst
          · simp only [hst, show ((1 : Int) == 2) = false from rfl, show ((1 : Int) == 3) = false from rfl, Bool.false_eq_true, if_false]
            exact .ret trivial
          · simp only [hst, show ((2 : Int) == 2) = true from rfl, show ((2 : Int) == 3) = false from rfl, Bool.false_eq_true, if_false, if_true]
            exact .ite (fun _ => .ret trivial) fun _ => .ret trivial
        · exact .ret ⟨y, by rw [w64_succ i (by omega)], List.mem_of_getElem? hy⟩
        · exact .ret ⟨z, by rw [w64_succ i (by omega)], hz⟩
      · unfold m_ref28_Choose_L1
        have : decide ((l.length : Int) < len l) = false := decide_eq_false (by simp only [len]; omega)
        simp only [this, Bool.false_eq_true, if_false]
        exact .ret hz
def cntP (l : List T_Move) (p : Int) : Nat := (l.filter fun m => decide (m.1 = p)).length
/-- a dialogue that is played by players -/
structure Pd (d : T_Dialogue) : Prop where
  rp : Rp d
  n4 : d.1.1 ≤ 4
  lim : d.2.2.1 = (20, 20)
  cnt : cntP d.2.2.2 1 ≤ 20 ∧ cntP d.2.2.2 2 ≤ 20
  at_ : ∀ m ∈ d.2.2.2, 1 ≤ m.2.1 ∧ m.2.1 ≤ 4 ∧ 0 ≤ m.2.2.1 ∧ m.2.2.1 < 4 ∧ 0 ≤ m.2.2.2 ∧ m.2.2.2 < 300
theorem cnt_sum : ∀ {l : List T_Move}, (∀ m ∈ l, m.1 = 1 ∨ m.1 = 2) → l.length = cntP l 1 + cntP l 2
  | [], _ => rfl
  | m :: l, h => by
    have ih := cnt_sum (l := l) fun x hx => h x (List.mem_cons_of_mem _ hx)
    unfold cntP at ih ⊢
    rcases h m (List.mem_cons_self) with e | e
    · rw [List.filter_cons_of_pos (by simp [e]), List.filter_cons_of_neg (by simp [e])]; simp; omega
    · rw [List.filter_cons_of_neg (by simp [e]), List.filter_cons_of_pos (by simp [e])]; simp; omega
theorem Pd.len {d : T_Dialogue} (h : Pd d) : d.2.2.2.length ≤ 40 := by
  have := cnt_sum (l := d.2.2.2) fun m hm => by
    obtain ⟨i, hi⟩ := List.mem_iff_getElem?.1 hm
    exact h.rp.wf.l.by12 hi
  have := h.cnt
  omega
/-- one move more -/
theorem Pd.next {d : T_Dialogue} {S : List Int} {L : List Bool} {P R : List T_Move} {e : T_Outcome} (h : Pd d) (f : Found d S L P R e) (ht : turnS S e ≠ 0) {m : T_Move} (hm : m ∈ R ∨ m = (3 - leadS S, 4, 0, 0)) :
    m_ref27_Apply d m = some ((d.1, d.2.1, d.2.2.1, d.2.2.2 ++ [m]), 0) ∧ Pd (d.1, d.2.1, d.2.2.1, d.2.2.2 ++ [m]) := by
  have hw := h.rp.wf
  have hlen := h.len
  have hld := leadS_12 S
  have hj : judgeS d S R e m = (m, 0) ∧ m.1 = 3 - leadS S ∧ (1 ≤ m.2.1 ∧ m.2.1 ≤ 4 ∧ 0 ≤ m.2.2.1 ∧ m.2.2.1 < 4 ∧ 0 ≤ m.2.2.2 ∧ m.2.2.2 < 300) := by
    rcases hm with hm | rfl
    · obtain ⟨j1, j2, j3, j4, j5, j6, j7⟩ := judge_R hw f ht hm
      have := h.n4
      exact ⟨j1, j2, by omega, by omega, j4, by omega, j6, by omega⟩
    · exact ⟨judge_C ht, rfl, (by decide : (1 : Int) ≤ 4), (by decide : (4 : Int) ≤ 4), (by decide : (0 : Int) ≤ 0), (by decide : (0 : Int) < 4), (by decide : (0 : Int) ≤ 0), (by decide : (0 : Int) < 300)⟩
  obtain ⟨hj, hby, hat⟩ := hj
  have ha := ref_Apply hw f m
  have hap : applyS d (judgeS d S R e m) = ((d.1, d.2.1, d.2.2.1, d.2.2.2 ++ [m]), 0) := by rw [hj]; rfl
  rw [hap] at ha
  have has : apS d m = ((d.1, d.2.1, d.2.2.1, d.2.2.2 ++ [m]), 0) := by unfold apS; rw [ha]; rfl
  have hnx := h.rp.next (m := m) (by rw [has])
  rw [has] at hnx
  refine ⟨ha, hnx, h.n4, h.lim, ?_, fun x hx => ?_⟩
  · -- the player behind has moves left
    have he := endS_cases d S (decide (R.length = 0))
    rw [← f.es] at he
    have he0 : endS d S (decide (R.length = 0)) = (0, 0) := by
      rcases he with he | he
      · rw [← f.es]; exact he
      · unfold turnS at ht
        rw [if_neg he.1] at ht
        exact absurd rfl ht
    unfold endS at he0
    dsimp only at he0
    split at he0
    · simp at he0
    · split at he0
      · simp at he0
      · split at he0
        · simp at he0
        · rename_i hl
          have hlim : limS d S = 20 := by unfold limS; rw [h.lim]; simp
          rw [hlim] at hl
          have hfl : (d.2.2.2.filter fun m => decide (m.1 ≠ leadS S)).length = cntP d.2.2.2 (3 - leadS S) := by
            unfold cntP
            congr 1
            apply List.filter_congr
            intro x hx
            obtain ⟨i, hi⟩ := List.mem_iff_getElem?.1 hx
            have := hw.l.by12 hi
            rw [decide_eq_decide]
            omega
          rw [hfl] at hl
          have hc := h.cnt
          have happ : ∀ q : Int, cntP (d.2.2.2 ++ [m]) q = cntP d.2.2.2 q + (if m.1 = q then 1 else 0) := fun q => by
            unfold cntP
            rw [List.filter_append, List.length_append]
            by_cases hq : m.1 = q <;> simp [hq]
          show cntP (d.2.2.2 ++ [m]) 1 ≤ 20 ∧ cntP (d.2.2.2 ++ [m]) 2 ≤ 20
          rw [happ, happ, hby]
          rcases hld with hld | hld <;> rw [hld] at hl ⊢ <;> simp at hl ⊢ <;> omega
  · rcases List.mem_append.1 hx with hx | hx
    · exact h.at_ x hx
    · simp only [List.mem_singleton] at hx
      subst hx
      exact hat
theorem run_ok {d : T_Dialogue} (h : Pd d) {p q : T_Player} (hp : Pl d.1 p) (hq : Pl d.1 q) : Ok (m_ref28_Run d p q) fun r => Pd r.1 ∧ r.1.1 = d.1 ∧ r.1.2.1 = d.2.1 := by
  unfold m_ref28_Run
  rw [valid28_ok hp, Option.bind_some, valid28_ok hq, Option.bind_some]
  simp only [bne_self_eq_false, Bool.false_eq_true, if_false]
  refine .bind (I := fun s => Pd ((s.1, s.2.1), s.2.2.1, (s.2.2.2.1, s.2.2.2.2.1), s.2.2.2.2.2) ∧ (s.1, s.2.1) = d.1 ∧ s.2.2.1 = d.2.1) ?_ fun s hs => .ret hs
  refine Ok.wh (fun s : Int × List T_Pair × Int × Int × Int × List T_Move => Pd ((s.1, s.2.1), s.2.2.1, (s.2.2.2.1, s.2.2.2.2.1), s.2.2.2.2.2) ∧ (s.1, s.2.1) = d.1 ∧ s.2.2.1 = d.2.1) (fun s => 100 - s.2.2.2.2.2.length) (fun s hs => ?_) (s := (d.1.1, d.1.2, d.2.1, d.2.2.1.1, d.2.2.1.2, d.2.2.2)) ⟨h, rfl, rfl⟩
  obtain ⟨hs1, hs2, hs3⟩ := hs
  generalize hD : (((s.1, s.2.1), s.2.2.1, (s.2.2.2.1, s.2.2.2.2.1), s.2.2.2.2.2) : T_Dialogue) = D at hs1
  have hlen := hs1.len
  have hl2 : s.2.2.2.2.2 = D.2.2.2 := by rw [← hD]
  have hg2 : D.1 = d.1 := by rw [← hD]; exact hs2
  have hr2 : D.2.1 = d.2.1 := by rw [← hD]; exact hs3
  obtain ⟨S, L, P, R, e, f⟩ := found hs1.rp.wf
  obtain ⟨_, u2⟩ := turn_both hs1.rp.wf f
  unfold m_ref28_Run_L1
  simp only [hD]
  rw [u2, Option.bind_some]
  refine .ite (fun hc => ?_) fun _ => ?_
  · have ht : turnS S e ≠ 0 := by simpa using hc
    rw [Option.bind_some]
    refine .bind (I := fun x => Pl D.1 (x.1, x.2.1, x.2.2.1, x.2.2.2)) (.ite (fun _ => .ret (by rw [hg2]; exact hq)) fun _ => .ret (by rw [hg2]; exact hp)) fun x hx => ?_
    refine .bind (choose_ok hs1.rp.wf f ht hx) fun r hr => ?_
    obtain ⟨a1, a2⟩ := hs1.next f ht hr
    rw [a1, Option.bind_some]
    refine .ret ⟨⟨a2, by exact hg2, by exact hr2⟩, ?_⟩
    show 100 - (D.2.2.2 ++ [r.1]).length < 100 - s.2.2.2.2.2.length
    rw [hl2]
    simp
    omega
  · exact .ret ⟨by show Pd ((s.1, s.2.1), s.2.2.1, (s.2.2.2.1, s.2.2.2.2.1), s.2.2.2.2.2); rw [hD]; exact hs1, hs2, hs3⟩
end
section
/-- a move as a number -/
def encM (m : T_Move) : Int := ((m.1 * 8 + m.2.1) * 64 + m.2.2.1) * 512 + m.2.2.2
theorem judge_rp {d : T_Dialogue} (h : Rp d) {S : List Int} {L : List Bool} {P R : List T_Move} {e : T_Outcome} (f : Found d S L P R e) (hl : Lt d) : m_referee_Judge d = some (e, 0) := by
  obtain ⟨h1, _⟩ := replay_both d hl.g hl.m
  unfold m_referee_Judge
  rw [h1, Option.bind_some, h.replay]
  simp only [bne_self_eq_false, Bool.false_eq_true, if_false, f.pe, Option.bind_some]
theorem enc_dec {m : T_Move} (h1 : m.1 = 1 ∨ m.1 = 2) (h : 1 ≤ m.2.1 ∧ m.2.1 ≤ 4 ∧ 0 ≤ m.2.2.1 ∧ m.2.2.1 < 4 ∧ 0 ≤ m.2.2.2 ∧ m.2.2.2 < 300) :
    w64 ((w64 ((w64 ((w64 ((w64 ((w64 (m.1 * 8)) + m.2.1)) * 64)) + m.2.2.1)) * 512)) + m.2.2.2) = encM m ∧ 0 ≤ encM m ∧ encM m < 1000000 ∧
    encM m / 512 / 64 / 8 = m.1 ∧ encM m / 512 / 64 % 8 = m.2.1 ∧ encM m / 512 % 64 = m.2.2.1 ∧ encM m % 512 = m.2.2.2 := by
  obtain ⟨a, b, c, d⟩ := m
  dsimp only at h1 h
  unfold encM
  dsimp only
  rw [w64_id (x := a * 8) (by omega) (by omega), w64_id (x := a * 8 + b) (by omega) (by omega), w64_id (x := (a * 8 + b) * 64) (by omega) (by omega), w64_id (x := (a * 8 + b) * 64 + c) (by omega) (by omega),
    w64_id (x := ((a * 8 + b) * 64 + c) * 512) (by omega) (by omega), w64_id (x := ((a * 8 + b) * 64 + c) * 512 + d) (by omega) (by omega)]
  refine ⟨rfl, by omega, by omega, by omega, by omega, by omega, by omega⟩
theorem quo_ok {x y : Int} (h0 : 0 ≤ x) (h1 : x < 1000000) (hy : 0 < y) : quoK .i64 x y = some (x / y) := by
  have hd : x.tdiv y = x / y := Int.tdiv_eq_ediv_of_nonneg h0
  have h2 : 0 ≤ x / y := Int.ediv_nonneg h0 (by omega)
  have h3 : x / y ≤ x := Int.ediv_le_self y h0
  unfold quoK
  rw [if_neg (by omega), hd, show IntKind.i64.wrap (x / y) = x / y from w64_id (by omega) (by omega)]
theorem rem_ok {x y : Int} (h0 : 0 ≤ x) (hy : 0 < y) : remK x y = some (x % y) := by
  unfold remK
  rw [if_neg (by omega), Int.tmod_eq_emod_of_nonneg h0]
theorem p_RefereeChannel (hw : m_law30_awake = some true) (y0 : List Int) : m_law30_RefereeChannel y0 = some true := by
  have hh : Ok (m_law30_RefereeChannel y0) fun r => r = true := by
    unfold m_law30_RefereeChannel
    rw [hw, keep_New, Option.bind_some]
    obtain ⟨g, k, e1, hg, hk⟩ := net_Graph_ok (srcOk_New y0) (n := 4) (by omega) (by omega)
    rw [e1, Option.bind_some]
    have hlo := hg.lo
    have hhi := hg.hi
    refine .bind (I := fun o => SrcOk (y0.take 2000, o.1) ∧ Pd o.2 ∧ o.2.1 = g) ?_ fun s1 hs1 => ?_
    · refine .bind (Ok.N hk (by show 0 ≤ g.1; omega) (by show g.1 ≤ _; omega)) fun r3 h3 => ?_
      obtain ⟨q1, q2⟩ := played_new hg (by omega) (r := r3.1) (a := 20) (b := 20) ⟨h3.1, h3.2.1 (by omega)⟩ (by omega) (by omega)
      rw [q1, Option.bind_some]
      refine .ret ⟨h3.2.2, ⟨rp_new q2.wf q1 (by omega), hhi, rfl, by show cntP [(1, 1, r3.1, 0)] 1 ≤ 20 ∧ cntP [(1, 1, r3.1, 0)] 2 ≤ 20; simp [cntP], fun m hm => ?_⟩, rfl⟩
      simp only [List.mem_singleton] at hm
      subst hm
      have : r3.1 < g.1 := h3.2.1 (by show 1 ≤ g.1; omega)
      exact ⟨by show (1 : Int) ≤ 1; omega, by show (1 : Int) ≤ 4; omega, h3.1, by show r3.1 < 4; omega, by show (0 : Int) ≤ 0; omega, by show (0 : Int) < 300; omega⟩
    obtain ⟨hk1, hpd, hgd⟩ := hs1
    refine .bind (full_ok hg (by omega) (.inr rfl)) fun p hp => .bind (full_ok hg (by omega) (.inl rfl)) fun q hq => ?_
    rw [← hgd] at hp hq
    refine .bind (run_ok hpd hp hq) fun r10 h10 => ?_
    obtain ⟨hP, hg10, hr10⟩ := h10
    generalize hD : r10.1 = D at hP hg10 hr10
    have hlen := hP.len
    have hby : ∀ m ∈ D.2.2.2, m.1 = 1 ∨ m.1 = 2 := fun m hm => by
      obtain ⟨i, hi⟩ := List.mem_iff_getElem?.1 hm
      exact hP.rp.wf.l.by12 hi
    -- the items
    refine .bind (I := fun l => l = D.2.2.2.map encM) ?_ fun its hits => ?_
    · refine Ok.forI (fun i (z : List Int) => (z, (i : Int))) D.2.2.2 (fun i z => z = (D.2.2.2.take i).map encM) _ (fun i x z hx hz => ?_) (fun z hz => ?_) ([] : List Int) rfl
      · have hi := (List.getElem?_eq_some_iff.1 hx).1
        unfold m_law30_RefereeChannel_L1
        rw [hD]
        have : decide ((i : Int) < len D.2.2.2) = true := decide_eq_true (by simp only [len]; omega)
        simp only [this, if_true]
        rw [at_idx hx, Option.bind_some, (enc_dec (hby x (List.mem_of_getElem? hx)) (hP.at_ x (List.mem_of_getElem? hx))).1]
        subst hz
        rw [app_ok (by simp; omega), Option.bind_some]
        refine .ret ⟨_, by rw [w64_succ i (by omega)], ?_⟩
        show _ = (D.2.2.2.take (i + 1)).map encM
        rw [List.take_add_one, hx, List.map_append]
        rfl
      · unfold m_law30_RefereeChannel_L1
        rw [hD]
        have : decide ((D.2.2.2.length : Int) < len D.2.2.2) = false := decide_eq_false (by simp only [len]; omega)
        simp only [this, Bool.false_eq_true, if_false]
        refine .ret ?_
        rw [List.take_length] at hz
        exact hz
    have hil : its.length = D.2.2.2.length := by rw [hits, List.length_map]
    refine .bind (Ok.Range hk1 (by omega) (by omega) (by omega)) fun r11 h11 => ?_
    obtain ⟨c, hc1, hc2⟩ := chan_new (l := its) (w := r11.1) (by omega) ⟨h11.1, by have := h11.2.1; omega⟩
    rw [hc1, Option.bind_some]
    simp only [bne_self_eq_false, Bool.false_eq_true, if_false]
    -- events
    refine .bind (I := fun s => Ch its s) ?_ fun s4 hs4 => ?_
    · refine Ok.wh (fun s : Int × Int × List Int × Int × Int × List Int × List T_Packet × List T_Packet => 0 ≤ s.1 ∧ s.1 ≤ 50 ∧ SrcOk (y0.take 2000, s.2.1) ∧ Ch its s.2.2) (fun s => (50 - s.1).toNat) (fun s hs => ?_) (s := (0, r11.2, c.1, c.2.1, c.2.2.1, c.2.2.2.1, c.2.2.2.2.1, c.2.2.2.2.2)) ⟨by simp, by simp, h11.2.2, hc2⟩
      obtain ⟨i, k, c⟩ := s
      obtain ⟨i0, i1, hsk, hch⟩ := hs
      dsimp only at i0 i1 hsk hch
      unfold m_law30_RefereeChannel_L2
      have ew : w64 (i + 1) = i + 1 := w64_id (by omega) (by omega)
      refine .bind (I := fun b => b = true → i < 50) ?_ fun b hb => .ite (fun hbt => ?_) fun _ => .ret hch
      · refine .ite (fun hc => ?_) fun _ => .ret fun e => by cases e
        have hc : i < 50 := by simpa using hc
        exact .bind (I := fun _ => True) ⟨_, rfl, trivial⟩ fun _ _ => .ret fun _ => hc
      · have hi := hb hbt
        refine .bind (Ok.Pick hsk (by simp) (by simp)) fun r14 h14 => .bind (Ok.N h14.2 (by omega) (by omega)) fun r15 h15 => ?_
        refine .bind (step_ok hch (e := (r14.1, r15.1)) ⟨by have := h15.2.1 (by omega); show r15.1 ≤ 1000; omega, by have := h15.1; show -1000 ≤ r15.1; omega⟩) fun r16 h16 => ?_
        dsimp only
        rw [ew]
        refine .ite (fun h0 => .ret ?_) fun _ => .ret ?_
        · have h0 : r16.2 = 0 := by simpa using h0
          exact ⟨⟨by show 0 ≤ i + 1; omega, by show i + 1 ≤ 50; omega, h15.2.2, h16 h0⟩, by show (50 - (i + 1)).toNat < (50 - i).toNat; omega⟩
        · exact ⟨⟨by show 0 ≤ i + 1; omega, by show i + 1 ≤ 50; omega, h15.2.2, hch⟩, by show (50 - (i + 1)).toNat < (50 - i).toNat; omega⟩
    refine .bind (finish_ok hs4) fun r17 h17 => ?_
    -- the moves
    refine .bind (I := fun l => l = D.2.2.2) ?_ fun s7 hs7 => ?_
    · refine Ok.forI (fun i (z : List T_Move) => ((i : Int), z)) D.2.2.2 (fun i z => z = D.2.2.2.take i) _ (fun i x z hx hz => ?_) (fun z hz => ?_) ([] : List T_Move) rfl
      · have hi := (List.getElem?_eq_some_iff.1 hx).1
        unfold m_law30_RefereeChannel_L3
        rw [h17]
        have : decide ((i : Int) < len its) = true := decide_eq_true (by simp only [len]; omega)
        simp only [this, if_true]
        have hxe : its[i]? = some (encM x) := by rw [hits, List.getElem?_map, hx]; rfl
        obtain ⟨_, b0, b1, b2, b3, b4, b5⟩ := enc_dec (hby x (List.mem_of_getElem? hx)) (hP.at_ x (List.mem_of_getElem? hx))
        generalize encM x = v at hxe b0 b1 b2 b3 b4 b5
        have q1 : quoK .i64 v 512 = some (v / 512) := quo_ok b0 b1 (by omega)
        have q2 : quoK .i64 (v / 512) 64 = some (v / 512 / 64) := quo_ok (by omega) (by omega) (by omega)
        have q3 : quoK .i64 (v / 512 / 64) 8 = some (v / 512 / 64 / 8) := quo_ok (by omega) (by omega) (by omega)
        have q4 : remK (v / 512 / 64) 8 = some (v / 512 / 64 % 8) := rem_ok (by omega) (by omega)
        have q5 : remK (v / 512) 64 = some (v / 512 % 64) := rem_ok (by omega) (by omega)
        have q6 : remK v 512 = some (v % 512) := rem_ok b0 (by omega)
        subst hz
        rw [at_idx hxe, Option.bind_some]
        simp only [q1, q2, q3, q4, q5, q6, Option.bind_some, b2, b3, b4, b5]
        rw [app_ok (by simp; omega), Option.bind_some]
        refine .ret ⟨_, by rw [w64_succ i (by omega)], ?_⟩
        show D.2.2.2.take i ++ [(x.1, x.2.1, x.2.2.1, x.2.2.2)] = D.2.2.2.take (i + 1)
        rw [List.take_add_one, hx]
        rfl
      · unfold m_law30_RefereeChannel_L3
        rw [h17]
        have : decide ((D.2.2.2.length : Int) < len its) = false := decide_eq_false (by simp only [len]; omega)
        simp only [this, Bool.false_eq_true, if_false]
        refine .ret ?_
        rw [List.take_length] at hz
        exact hz
    -- the end
    subst hs7
    have hgg : g = D.1 := by rw [hg10, hgd]
    rw [hgg]
    have hLt : Lt D := ⟨by have := hP.rp.wf.g.len; omega, by omega⟩
    obtain ⟨S, L, P, R, e, f⟩ := found hP.rp.wf
    have hj : m_referee_Judge (D.1, D.2.1, D.2.2.1, D.2.2.2) = some (e, 0) := judge_rp hP.rp f hLt
    have hsame : m_ref30_Same (D.1, D.2.1, D.2.2.1, D.2.2.2) (D.1, D.2.1, D.2.2.1, D.2.2.2) = some true := ref30_same_self hLt
    rw [hj, Option.bind_some]
    simp only [beq_self_eq_true, if_true, f.re, Option.bind_some, m_ref30_Record, hsame]
    exact .ret rfl
  obtain ⟨r, h1, rfl⟩ := hh
  exact h1
end

end Go.GD
