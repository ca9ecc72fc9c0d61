/- Part of the proof. Conditions: none. -/
import GoSem.Core.View
namespace Go.GD
set_option autoImplicit false
theorem zob {α β : Type} (a : α) (f : α → Option β) : (some a).bind f = f a := rfl
theorem zbf : (false = true) = False := Bool.false_eq_true
abbrev vD := List UInt8
abbrev zQ (n : Int) : Int := IntKind.i64.wrap n
abbrev len {α : Type} (l : List α) : Int := (l.length : Int)
def zG {α : Type} (l : List α) (i : Int) : Option α := if 0 ≤ i then l[i.toNat]? else none
def zR3 (l : vD) (i : Int) : Option Int := if 0 ≤ i then (l[i.toNat]?).map (fun b => (b.toNat : Int)) else none
def sub {α : Type} (l : List α) (i j : Int) : Option (List α) :=
 if 0 ≤ i ∧ i ≤ j ∧ j ≤ l.length then some ((l.take j.toNat).drop i.toNat) else none
def wI {α : Type} (l m : List α) : Option (List α) := if l.length + m.length < 4294967296 then some (l ++ m) else none
def upd {α : Type} (l : List α) (i : Int) (x : α) : Option (List α) := if 0 ≤ i ∧ i < l.length then some (l.set i.toNat x) else none
def cat (s t : vD) : Option vD := if s.length + t.length < 4294967296 then some (s ++ t) else none
def zOY (l : List Int) : vD := l.map (fun n => UInt8.ofNat n.toNat)
def uB : vD → vD → Bool
 | _, [] => false
 | [], _ :: _ => true
 | a :: x, b :: y => a < b || (a == b && uB x y)
def quo (x y : Int) : Option Int := if y = 0 then none else some (zQ (x.tdiv y))
def rem (x y : Int) : Option Int := if y = 0 then none else some (x.tmod y)
def yF (k : IntKind) (x y : Int) : Int := k.wrap ((BitVec.ofInt k.bits x &&& BitVec.ofInt k.bits y).toNat : Int)
def bor (k : IntKind) (x y : Int) : Int := k.wrap ((BitVec.ofInt k.bits x ||| BitVec.ofInt k.bits y).toNat : Int)
def bxor (k : IntKind) (x y : Int) : Int := k.wrap ((BitVec.ofInt k.bits x ^^^ BitVec.ofInt k.bits y).toNat : Int)
def zGK (k : IntKind) (x y : Int) : Int := k.wrap ((BitVec.ofInt k.bits x &&& ~~~(BitVec.ofInt k.bits y)).toNat : Int)
def shl (k : IntKind) (x y : Int) : Int := k.wrap (x * 2 ^ (min y.toNat k.bits))
def xA (k : IntKind) (x y : Int) : Int := x.fdiv (2 ^ (min y.toNat k.bits))
def quoK (k : IntKind) (x y : Int) : Option Int := if y = 0 then none else some (k.wrap (x.tdiv y))
def remK (x y : Int) : Option Int := if y = 0 then none else some (x.tmod y)
def zVi (k : IntKind) (x y : Int) : Option Int := if y < 0 then none else some (shl k x y)
def zYZ (k : IntKind) (x y : Int) : Option Int := if y < 0 then none else some (xA k x y)
def yO {σ α : Type} (m : Option (σ ⊕ α)) (k : σ → Option α) : Option α :=
 m.bind fun o => match o with
  | .inl s => k s
  | .inr r => some r
def tF {σ ρ : Type} (B : σ → Option (σ ⊕ ρ)) : Nat → σ → Option ρ
 | 0, _ => none
 | n + 1, s => match B s with
  | none => none
  | some (.inr r) => some r
  | some (.inl s') => tF B n s'
open Classical in
noncomputable def zW {σ ρ : Type} (B : σ → Option (σ ⊕ ρ)) (s : σ) : Option ρ :=
 if h : ∃ r, ∃ n, tF B n s = some r then some h.choose else none
theorem zRd {σ ρ : Type} {B : σ → Option (σ ⊕ ρ)} : ∀ {n : Nat} {s : σ} {r : ρ}, tF B n s = some r → ∀ m, n ≤ m → tF B m s = some r := by
 intro n
 induction n with
 | zero => intro s r h; simp [tF] at h
 | succ n ih =>
  intro s r h m hm
  obtain ⟨k, rfl⟩ : ∃ k, m = k + 1 := ⟨m - 1, by omega⟩
  simp only [tF] at h ⊢
  split at h
  ·cases h
  ·exact h
  ·exact ih h k (by omega)
theorem zIY {σ ρ : Type} {B : σ → Option (σ ⊕ ρ)} {n : Nat} {s : σ} {r : ρ} (h : tF B n s = some r) : zW B s = some r := by
 have hex : ∃ r, ∃ n, tF B n s = some r := ⟨r, n, h⟩
 unfold zW
 rw [dif_pos hex]
 obtain ⟨m, hm⟩ := hex.choose_spec
 have h1 := zRd h (max n m) (by omega)
 have h2 := zRd hm (max n m) (by omega)
 rw [← h2]; exact h1 ▸ rfl
theorem zGn {σ ρ : Type} {B : σ → Option (σ ⊕ ρ)} {s : σ} {r : ρ} (h : zW B s = some r) : ∃ n, tF B n s = some r := by
 unfold zW at h
 split at h
 ·rename_i hex
  obtain ⟨n, hn⟩ := hex.choose_spec
  exact ⟨n, by rw [hn]; exact h⟩
 ·cases h
open Classical in
noncomputable def zUN {α : Type} (f : Nat → Option α) : Option α :=
 if h : ∃ r, ∃ n, ∀ m, n ≤ m → f m = some r then some h.choose else none
theorem zXI {α : Type} {f : Nat → Option α} {r : α} (h : zUN f = some r) : ∃ k, f k = some r := by
 unfold zUN at h
 split at h
 ·rename_i hex
  obtain ⟨n, hn⟩ := hex.choose_spec
  exact ⟨n, by rw [hn n (Nat.le_refl _)]; exact h⟩
 ·cases h
theorem zLV {α : Type} {f : Nat → Option α} {r : α} (n : Nat) (h : ∀ m, n ≤ m → f m = some r) : zUN f = some r := by
 have hex : ∃ r, ∃ n, ∀ m, n ≤ m → f m = some r := ⟨r, n, h⟩
 unfold zUN
 rw [dif_pos hex]
 obtain ⟨k, hk⟩ := hex.choose_spec
 rw [← hk (max n k) (by omega), h (max n k) (by omega)]
theorem yD {σ ρ : Type} (B : σ → Option (σ ⊕ ρ)) (s : σ) :
  zW B s = match B s with
   | none => none
   | some (.inr r) => some r
   | some (.inl s') => zW B s' := by
 cases hl : zW B s with
 | some r =>
  obtain ⟨n, hn⟩ := zGn hl
  cases n with
  | zero => simp [tF] at hn
  | succ n =>
   simp only [tF] at hn
   split at hn
   ·cases hn
   ·exact hn.symm
   ·exact (zIY hn).symm
 | none =>
  have no : ∀ r n, tF B n s ≠ some r := fun r n hn => by rw [zIY hn] at hl; cases hl
  cases hb : B s with
  | none => rfl
  | some o =>
   cases o with
   | inr r => exact absurd (show tF B 1 s = some r by simp [tF, hb]) (no r 1)
   | inl s' =>
    show none = zW B s'
    cases hl' : zW B s' with
    | none => rfl
    | some r =>
     obtain ⟨n, hn⟩ := zGn hl'
     exact absurd (show tF B (n + 1) s = some r by simp [tF, hb, hn]) (no r (n + 1))
theorem zLZ {σ ρ : Type} {B : σ → Option (σ ⊕ ρ)} (I : σ → Prop) (μ : σ → Nat) (Q : ρ → Prop)
  (step : ∀ s, I s → (∃ s', B s = some (.inl s') ∧ I s' ∧ μ s' < μ s) ∨ (∃ r, B s = some (.inr r) ∧ Q r)) :
  ∀ s, I s → ∃ r, zW B s = some r ∧ Q r := by
 have key : ∀ n s, μ s = n → I s → ∃ r, zW B s = some r ∧ Q r := by
  intro n
  induction n using Nat.strongRecOn with
  | _ n ih =>
   intro s hn hI
   rcases step s hI with ⟨s', hb, hI', hlt⟩ | ⟨r, hb, hq⟩
   ·obtain ⟨r, hr, hq⟩ := ih (μ s') (hn ▸ hlt) s' rfl hI'
    exact ⟨r, by rw [yD, hb]; exact hr, hq⟩
   ·exact ⟨r, by rw [yD, hb], hq⟩
 exact fun s hI => key _ s rfl hI
def zYf {σ ρ : Type} (B : Int → σ → Option (σ ⊕ ρ)) : Nat → Int → σ → Option (σ ⊕ ρ)
 | 0, _, s => some (.inl s)
 | k + 1, i, s => match B i s with
  | none => none
  | some (.inr r) => some (.inr r)
  | some (.inl s') => zYf B k (i + 1) s'
def zK5 {σ ρ : Type} (n : Int) (B : Int → σ → Option (σ ⊕ ρ)) (s : σ) : Option (σ ⊕ ρ) :=
 if n < 9223372036854775808 then zYf B n.toNat 0 s else none
end Go.GD
