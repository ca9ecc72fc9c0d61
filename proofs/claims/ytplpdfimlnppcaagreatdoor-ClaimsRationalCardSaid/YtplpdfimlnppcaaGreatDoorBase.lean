/- A part. Conditions: none. -/
import GoSem.Core.View
namespace Go.GD
set_option autoImplicit false
theorem zob {α β : Type} (a : α) (f : α → Option β) : (some a).bind f = f a := rfl
theorem zbf : (false = true) = False := Bool.false_eq_true
abbrev qD := List UInt8
abbrev zS (n : Int) : Int := IntKind.i64.wrap n
abbrev len {α : Type} (l : List α) : Int := (l.length : Int)
def zF {α : Type} (l : List α) (i : Int) : Option α := if 0 ≤ i then l[i.toNat]? else none
def tW (l : qD) (i : Int) : Option Int := if 0 ≤ i then (l[i.toNat]?).map (fun b => (b.toNat : Int)) else none
def sub {α : Type} (l : List α) (i j : Int) : Option (List α) :=
 if 0 ≤ i ∧ i ≤ j ∧ j ≤ l.length then some ((l.take j.toNat).drop i.toNat) else none
def wE {α : Type} (l m : List α) : Option (List α) := if l.length + m.length < 4294967296 then some (l ++ m) else none
def upd {α : Type} (l : List α) (i : Int) (x : α) : Option (List α) := if 0 ≤ i ∧ i < l.length then some (l.set i.toNat x) else none
def cat (s t : qD) : Option qD := if s.length + t.length < 4294967296 then some (s ++ t) else none
def zTJ (l : List Int) : qD := l.map (fun n => UInt8.ofNat n.toNat)
def uN : qD → qD → Bool
 | _, [] => false
 | [], _ :: _ => true
 | a :: x, b :: y => a < b || (a == b && uN x y)
def quo (x y : Int) : Option Int := if y = 0 then none else some (zS (x.tdiv y))
def rem (x y : Int) : Option Int := if y = 0 then none else some (x.tmod y)
def yE (k : IntKind) (x y : Int) : Int := k.wrap ((BitVec.ofInt k.bits x &&& BitVec.ofInt k.bits y).toNat : Int)
def bor (k : IntKind) (x y : Int) : Int := k.wrap ((BitVec.ofInt k.bits x ||| BitVec.ofInt k.bits y).toNat : Int)
def bxor (k : IntKind) (x y : Int) : Int := k.wrap ((BitVec.ofInt k.bits x ^^^ BitVec.ofInt k.bits y).toNat : Int)
def zMy (k : IntKind) (x y : Int) : Int := k.wrap ((BitVec.ofInt k.bits x &&& ~~~(BitVec.ofInt k.bits y)).toNat : Int)
def shl (k : IntKind) (x y : Int) : Int := k.wrap (x * 2 ^ (min y.toNat k.bits))
def xH (k : IntKind) (x y : Int) : Int := x.fdiv (2 ^ (min y.toNat k.bits))
def z5U (k : IntKind) (x y : Int) : Option Int := if y = 0 then none else some (k.wrap (x.tdiv y))
def z5L (x y : Int) : Option Int := if y = 0 then none else some (x.tmod y)
def z3b (k : IntKind) (x y : Int) : Option Int := if y < 0 then none else some (shl k x y)
def shrK (k : IntKind) (x y : Int) : Option Int := if y < 0 then none else some (xH k x y)
def yD {σ α : Type} (m : Option (σ ⊕ α)) (k : σ → Option α) : Option α :=
 m.bind fun o => match o with
  | .inl s => k s
  | .inr r => some r
def tR {σ ρ : Type} (B : σ → Option (σ ⊕ ρ)) : Nat → σ → Option ρ
 | 0, _ => none
 | n + 1, s => match B s with
  | none => none
  | some (.inr r) => some r
  | some (.inl s') => tR B n s'
open Classical in
noncomputable def zU {σ ρ : Type} (B : σ → Option (σ ⊕ ρ)) (s : σ) : Option ρ :=
 if h : ∃ r, ∃ n, tR B n s = some r then some h.choose else none
theorem zX6 {σ ρ : Type} {B : σ → Option (σ ⊕ ρ)} : ∀ {n : Nat} {s : σ} {r : ρ}, tR B n s = some r → ∀ m, n ≤ m → tR B m s = some r := by
 intro n
 induction n with
 | zero => intro s r h; simp [tR] at h
 | succ n ih =>
  intro s r h m hm
  obtain ⟨k, rfl⟩ : ∃ k, m = k + 1 := ⟨m - 1, by omega⟩
  simp only [tR] at h ⊢
  split at h
  ·cases h
  ·exact h
  ·exact ih h k (by omega)
theorem zKp {σ ρ : Type} {B : σ → Option (σ ⊕ ρ)} {n : Nat} {s : σ} {r : ρ} (h : tR B n s = some r) : zU B s = some r := by
 have hex : ∃ r, ∃ n, tR B n s = some r := ⟨r, n, h⟩
 unfold zU
 rw [dif_pos hex]
 obtain ⟨m, hm⟩ := hex.choose_spec
 have h1 := zX6 h (max n m) (by omega)
 have h2 := zX6 hm (max n m) (by omega)
 rw [← h2]; exact h1 ▸ rfl
theorem zJM {σ ρ : Type} {B : σ → Option (σ ⊕ ρ)} {s : σ} {r : ρ} (h : zU B s = some r) : ∃ n, tR B n s = some r := by
 unfold zU at h
 split at h
 ·rename_i hex
  obtain ⟨n, hn⟩ := hex.choose_spec
  exact ⟨n, by rw [hn]; exact h⟩
 ·cases h
open Classical in
noncomputable def zZV {α : Type} (f : Nat → Option α) : Option α :=
 if h : ∃ r, ∃ n, ∀ m, n ≤ m → f m = some r then some h.choose else none
theorem z3O {α : Type} {f : Nat → Option α} {r : α} (h : zZV f = some r) : ∃ k, f k = some r := by
 unfold zZV at h
 split at h
 ·rename_i hex
  obtain ⟨n, hn⟩ := hex.choose_spec
  exact ⟨n, by rw [hn n (Nat.le_refl _)]; exact h⟩
 ·cases h
theorem zNw {α : Type} {f : Nat → Option α} {r : α} (n : Nat) (h : ∀ m, n ≤ m → f m = some r) : zZV f = some r := by
 have hex : ∃ r, ∃ n, ∀ m, n ≤ m → f m = some r := ⟨r, n, h⟩
 unfold zZV
 rw [dif_pos hex]
 obtain ⟨k, hk⟩ := hex.choose_spec
 rw [← hk (max n k) (by omega), h (max n k) (by omega)]
theorem yF {σ ρ : Type} (B : σ → Option (σ ⊕ ρ)) (s : σ) :
  zU B s = match B s with
   | none => none
   | some (.inr r) => some r
   | some (.inl s') => zU B s' := by
 cases hl : zU B s with
 | some r =>
  obtain ⟨n, hn⟩ := zJM hl
  cases n with
  | zero => simp [tR] at hn
  | succ n =>
   simp only [tR] at hn
   split at hn
   ·cases hn
   ·exact hn.symm
   ·exact (zKp hn).symm
 | none =>
  have no : ∀ r n, tR B n s ≠ some r := fun r n hn => by rw [zKp hn] at hl; cases hl
  cases hb : B s with
  | none => rfl
  | some o =>
   cases o with
   | inr r => exact absurd (show tR B 1 s = some r by simp [tR, hb]) (no r 1)
   | inl s' =>
    show none = zU B s'
    cases hl' : zU B s' with
    | none => rfl
    | some r =>
     obtain ⟨n, hn⟩ := zJM hl'
     exact absurd (show tR B (n + 1) s = some r by simp [tR, hb, hn]) (no r (n + 1))
theorem zN2 {σ ρ : Type} {B : σ → Option (σ ⊕ ρ)} (I : σ → Prop) (μ : σ → Nat) (Q : ρ → Prop)
  (step : ∀ s, I s → (∃ s', B s = some (.inl s') ∧ I s' ∧ μ s' < μ s) ∨ (∃ r, B s = some (.inr r) ∧ Q r)) :
  ∀ s, I s → ∃ r, zU B s = some r ∧ Q r := by
 have key : ∀ n s, μ s = n → I s → ∃ r, zU B s = some r ∧ Q r := by
  intro n
  induction n using Nat.strongRecOn with
  | _ n ih =>
   intro s hn hI
   rcases step s hI with ⟨s', hb, hI', hlt⟩ | ⟨r, hb, hq⟩
   ·obtain ⟨r, hr, hq⟩ := ih (μ s') (hn ▸ hlt) s' rfl hI'
    exact ⟨r, by rw [yF, hb]; exact hr, hq⟩
   ·exact ⟨r, by rw [yF, hb], hq⟩
 exact fun s hI => key _ s rfl hI
def z58 {σ ρ : Type} (B : Int → σ → Option (σ ⊕ ρ)) : Nat → Int → σ → Option (σ ⊕ ρ)
 | 0, _, s => some (.inl s)
 | k + 1, i, s => match B i s with
  | none => none
  | some (.inr r) => some (.inr r)
  | some (.inl s') => z58 B k (i + 1) s'
def zO9 {σ ρ : Type} (n : Int) (B : Int → σ → Option (σ ⊕ ρ)) (s : σ) : Option (σ ⊕ ρ) :=
 if n < 9223372036854775808 then z58 B n.toNat 0 s else none
end Go.GD
