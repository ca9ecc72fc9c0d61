/- Models that can be computed: a copy with fuel answers what the model answers. Conditions: none. -/
import Derived.Test.YtofgcpbdgokpjaaGreatPlain
namespace Go.GD
set_option autoImplicit false

/-- whatever the one answers, the other answers -/
structure Le {α : Type} (a b : Option α) : Prop where
  el : ∀ r, a = some r → b = some r
theorem Le.refl {α : Type} (a : Option α) : Le a a := ⟨fun _ h => h⟩
theorem Le.bind {α β : Type} {a b : Option α} {f g : α → Option β} (h : Le a b) (k : ∀ x, Le (f x) (g x)) : Le (a.bind f) (b.bind g) := ⟨fun r hr => by
  cases a with
  | none => cases hr
  | some x => rw [h.el x rfl]; exact (k x).el r hr⟩
theorem Le.ite {α : Type} {c : Prop} [Decidable c] {a b a' b' : Option α} (h : Le a b) (k : Le a' b') : Le (if c then a else a') (if c then b else b') := by
  split
  · exact h
  · exact k
theorem Le.seqE {σ α : Type} {a b : Option (σ ⊕ α)} {f g : σ → Option α} (h : Le a b) (k : ∀ x, Le (f x) (g x)) : Le (seqE a f) (seqE b g) :=
  Le.bind h fun o => by
    cases o with
    | inl s => exact k s
    | inr r => exact Le.refl _
theorem Le.none {α : Type} (b : Option α) : Le none b := ⟨fun _ h => nomatch h⟩

abbrev lp {σ ρ : Type} (n : Nat) (B : σ → Option (σ ⊕ ρ)) (s : σ) : Option ρ := iter B n s
theorem Le.lp {σ ρ : Type} {B C : σ → Option (σ ⊕ ρ)} (h : ∀ s, Le (B s) (C s)) (n : Nat) (s : σ) : Le (lp n B s) (loop C s) := by
  refine ⟨fun r hr => ?_⟩
  refine loop_of_iter (n := n) ?_
  revert s
  induction n with
  | zero => intro s hr; cases hr
  | succ n ih =>
    intro s hr
    simp only [iter] at hr ⊢
    cases hb : B s with
    | none => rw [hb] at hr; cases hr
    | some o =>
      rw [hb] at hr
      rw [(h s).el o hb]
      cases o with
      | inl s' => exact ih s' hr
      | inr r' => exact hr
theorem Le.lim {α : Type} {a : Option α} {f : Nat → Option α} (n : Nat) (h : ∀ m, n ≤ m → Le a (f m)) : Le a (limM f) := ⟨fun r hr => limM_of n fun m hm => (h m hm).el r hr⟩

/-- sorting that can be computed -/
def ins {α : Type} (lt : α → α → Bool) (x : α) : List α → List α
  | [] => [x]
  | y :: r => if lt y x then y :: ins lt x r else x :: y :: r
def isort {α : Type} (lt : α → α → Bool) : List α → List α
  | [] => []
  | x :: r => ins lt x (isort lt r)

end Go.GD
