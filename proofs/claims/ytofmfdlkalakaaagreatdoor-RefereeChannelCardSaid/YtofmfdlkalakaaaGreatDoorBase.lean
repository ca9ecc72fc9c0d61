/- The words in which the models of the Go functions are written: plain Lean, no program in sight. Conditions: none. -/
import GoSem.Core.View
namespace Go.GD
set_option autoImplicit false

abbrev Str := List UInt8
abbrev w64 (n : Int) : Int := IntKind.i64.wrap n

/-- the number of a list as Go's int -/
abbrev len {α : Type} (l : List α) : Int := (l.length : Int)

/-- l[i] -/
def idx {α : Type} (l : List α) (i : Int) : Option α := if 0 ≤ i then l[i.toNat]? else none
/-- s[i] as a byte's number -/
def sidx (l : Str) (i : Int) : Option Int := if 0 ≤ i then (l[i.toNat]?).map (fun b => (b.toNat : Int)) else none
/-- l[i:j] within the length -/
def sub {α : Type} (l : List α) (i j : Int) : Option (List α) :=
  if 0 ≤ i ∧ i ≤ j ∧ j ≤ l.length then some ((l.take j.toNat).drop i.toNat) else none
/-- append(l, m...) while it stays small -/
def app {α : Type} (l m : List α) : Option (List α) := if l.length + m.length < 4294967296 then some (l ++ m) else none
/-- l[i] = x -/
def upd {α : Type} (l : List α) (i : Int) (x : α) : Option (List α) := if 0 ≤ i ∧ i < l.length then some (l.set i.toNat x) else none
/-- s + t -/
def cat (s t : Str) : Option Str := if s.length + t.length < 4294967296 then some (s ++ t) else none
/-- string(b) -/
def strOf (l : List Int) : Str := l.map (fun n => UInt8.ofNat n.toNat)
/-- s < t -/
def sless : Str → Str → Bool
  | _, [] => false
  | [], _ :: _ => true
  | a :: x, b :: y => a < b || (a == b && sless x y)
def quo (x y : Int) : Option Int := if y = 0 then none else some (w64 (x.tdiv y))
def rem (x y : Int) : Option Int := if y = 0 then none else some (x.tmod y)
/-- the bits of an int -/
def band (k : IntKind) (x y : Int) : Int := k.wrap ((BitVec.ofInt k.bits x &&& BitVec.ofInt k.bits y).toNat : Int)
def bor (k : IntKind) (x y : Int) : Int := k.wrap ((BitVec.ofInt k.bits x ||| BitVec.ofInt k.bits y).toNat : Int)
def bxor (k : IntKind) (x y : Int) : Int := k.wrap ((BitVec.ofInt k.bits x ^^^ BitVec.ofInt k.bits y).toNat : Int)
def bandNot (k : IntKind) (x y : Int) : Int := k.wrap ((BitVec.ofInt k.bits x &&& ~~~(BitVec.ofInt k.bits y)).toNat : Int)
def shl (k : IntKind) (x y : Int) : Int := k.wrap (x * 2 ^ (min y.toNat k.bits))
def shr (k : IntKind) (x y : Int) : Int := x.fdiv (2 ^ (min y.toNat k.bits))

/-- the same, of whatever kind -/
def quoK (k : IntKind) (x y : Int) : Option Int := if y = 0 then none else some (k.wrap (x.tdiv y))
def remK (x y : Int) : Option Int := if y = 0 then none else some (x.tmod y)
def shlK (k : IntKind) (x y : Int) : Option Int := if y < 0 then none else some (shl k x y)
def shrK (k : IntKind) (x y : Int) : Option Int := if y < 0 then none else some (shr k x y)

/-- a map as the list of its entries -/
def mget {κ ν : Type} [BEq κ] : List (κ × ν) → κ → Option ν
  | [], _ => none
  | x :: r, k => if k == x.1 then some x.2 else mget r k
def mput {κ ν : Type} [BEq κ] : List (κ × ν) → κ → ν → List (κ × ν)
  | [], k, v => [(k, v)]
  | x :: r, k, v => if k == x.1 then (k, v) :: r else x :: mput r k v

/-- a part that goes on with a state, or gives the answer of the whole -/
def seqE {σ α : Type} (m : Option (σ ⊕ α)) (k : σ → Option α) : Option α :=
  m.bind fun o => match o with
    | .inl s => k s
    | .inr r => some r

/-- n rounds of a loop at most -/
def iter {σ ρ : Type} (B : σ → Option (σ ⊕ ρ)) : Nat → σ → Option ρ
  | 0, _ => none
  | n + 1, s => match B s with
    | none => none
    | some (.inr r) => some r
    | some (.inl s') => iter B n s'

open Classical in
/-- a loop: what it comes to, if it comes to an end -/
noncomputable def loop {σ ρ : Type} (B : σ → Option (σ ⊕ ρ)) (s : σ) : Option ρ :=
  if h : ∃ r, ∃ n, iter B n s = some r then some h.choose else none

theorem iter_mono {σ ρ : Type} {B : σ → Option (σ ⊕ ρ)} : ∀ {n : Nat} {s : σ} {r : ρ}, iter B n s = some r → ∀ m, n ≤ m → iter B m s = some r := by
  intro n
  induction n with
  | zero => intro s r h; simp [iter] at h
  | succ n ih =>
    intro s r h m hm
    obtain ⟨k, rfl⟩ : ∃ k, m = k + 1 := ⟨m - 1, by omega⟩
    simp only [iter] at h ⊢
    split at h
    · cases h
    · exact h
    · exact ih h k (by omega)

theorem loop_of_iter {σ ρ : Type} {B : σ → Option (σ ⊕ ρ)} {n : Nat} {s : σ} {r : ρ} (h : iter B n s = some r) : loop B s = some r := by
  have hex : ∃ r, ∃ n, iter B n s = some r := ⟨r, n, h⟩
  unfold loop
  rw [dif_pos hex]
  obtain ⟨m, hm⟩ := hex.choose_spec
  have h1 := iter_mono h (max n m) (by omega)
  have h2 := iter_mono hm (max n m) (by omega)
  rw [← h2]; exact h1 ▸ rfl

theorem iter_of_loop {σ ρ : Type} {B : σ → Option (σ ⊕ ρ)} {s : σ} {r : ρ} (h : loop B s = some r) : ∃ n, iter B n s = some r := by
  unfold loop at h
  split at h
  · rename_i hex
    obtain ⟨n, hn⟩ := hex.choose_spec
    exact ⟨n, by rw [hn]; exact h⟩
  · cases h

open Classical in
/-- what a sequence comes to -/
noncomputable def limM {α : Type} (f : Nat → Option α) : Option α :=
  if h : ∃ r, ∃ n, ∀ m, n ≤ m → f m = some r then some h.choose else none
theorem limM_some {α : Type} {f : Nat → Option α} {r : α} (h : limM f = some r) : ∃ k, f k = some r := by
  unfold limM at h
  split at h
  · rename_i hex
    obtain ⟨n, hn⟩ := hex.choose_spec
    exact ⟨n, by rw [hn n (Nat.le_refl _)]; exact h⟩
  · cases h
theorem limM_of {α : Type} {f : Nat → Option α} {r : α} (n : Nat) (h : ∀ m, n ≤ m → f m = some r) : limM f = some r := by
  have hex : ∃ r, ∃ n, ∀ m, n ≤ m → f m = some r := ⟨r, n, h⟩
  unfold limM
  rw [dif_pos hex]
  obtain ⟨k, hk⟩ := hex.choose_spec
  rw [← hk (max n k) (by omega), h (max n k) (by omega)]

/-- the loop, one round on -/
theorem loop_eq {σ ρ : Type} (B : σ → Option (σ ⊕ ρ)) (s : σ) :
    loop B s = match B s with
      | none => none
      | some (.inr r) => some r
      | some (.inl s') => loop B s' := by
  cases hl : loop B s with
  | some r =>
    obtain ⟨n, hn⟩ := iter_of_loop hl
    cases n with
    | zero => simp [iter] at hn
    | succ n =>
      simp only [iter] at hn
      split at hn
      · cases hn
      · exact hn.symm
      · exact (loop_of_iter hn).symm
  | none =>
    have no : ∀ r n, iter B n s ≠ some r := fun r n hn => by rw [loop_of_iter hn] at hl; cases hl
    cases hb : B s with
    | none => rfl
    | some o =>
      cases o with
      | inr r => exact absurd (show iter B 1 s = some r by simp [iter, hb]) (no r 1)
      | inl s' =>
        show none = loop B s'
        cases hl' : loop B s' with
        | none => rfl
        | some r =>
          obtain ⟨n, hn⟩ := iter_of_loop hl'
          exact absurd (show iter B (n + 1) s = some r by simp [iter, hb, hn]) (no r (n + 1))

/-- a loop by a measure -/
theorem loop_spec {σ ρ : Type} {B : σ → Option (σ ⊕ ρ)} (I : σ → Prop) (μ : σ → Nat) (Q : ρ → Prop)
    (step : ∀ s, I s → (∃ s', B s = some (.inl s') ∧ I s' ∧ μ s' < μ s) ∨ (∃ r, B s = some (.inr r) ∧ Q r)) :
    ∀ s, I s → ∃ r, loop B s = some r ∧ Q r := by
  have key : ∀ n s, μ s = n → I s → ∃ r, loop B s = some r ∧ Q r := by
    intro n
    induction n using Nat.strongRecOn with
    | _ n ih =>
      intro s hn hI
      rcases step s hI with ⟨s', hb, hI', hlt⟩ | ⟨r, hb, hq⟩
      · obtain ⟨r, hr, hq⟩ := ih (μ s') (hn ▸ hlt) s' rfl hI'
        exact ⟨r, by rw [loop_eq, hb]; exact hr, hq⟩
      · exact ⟨r, by rw [loop_eq, hb], hq⟩
  exact fun s hI => key _ s rfl hI

/-- rounds numbered i, i+1, .. to n-1: each goes on with a state or leaves -/
def rounds {σ ρ : Type} (B : Int → σ → Option (σ ⊕ ρ)) : Nat → Int → σ → Option (σ ⊕ ρ)
  | 0, _, s => some (.inl s)
  | k + 1, i, s => match B i s with
    | none => none
    | some (.inr r) => some (.inr r)
    | some (.inl s') => rounds B k (i + 1) s'

/-- 'for i := range n' -/
def range {σ ρ : Type} (n : Int) (B : Int → σ → Option (σ ⊕ ρ)) (s : σ) : Option (σ ⊕ ρ) :=
  if n < 9223372036854775808 then rounds B n.toNat 0 s else none

end Go.GD
