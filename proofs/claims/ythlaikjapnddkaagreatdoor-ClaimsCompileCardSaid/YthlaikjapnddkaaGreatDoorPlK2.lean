/- Part of the proof. Conditions: none. -/
import Derived.Test.YthlaikjapnddkaaGreatDoorPlK1
namespace Go.GD
set_option autoImplicit false
set_option linter.unusedVariables false
section
def Ok {α : Type} (x : Option α) (Q : α → Prop) : Prop := ∃ a, x = some a ∧ Q a
section
variable {α β : Type}
theorem Ok.ret {a : α} {Q : α → Prop} (h : Q a) : Ok (some a) Q := ⟨a, rfl, h⟩
theorem Ok.bind {x : Option α} {f : α → Option β} {I : α → Prop} {Q : β → Prop} (h : Ok x I) (k : ∀ a, I a → Ok (f a) Q) : Ok (x.bind f) Q := by
 obtain ⟨a, rfl, ha⟩ := h; exact k a ha
theorem Ok.ite {c : Bool} {x y : Option α} {Q : α → Prop} (hx : c = true → Ok x Q) (hy : c = false → Ok y Q) : Ok (if c = true then x else y) Q := by
 cases c with
 | true => exact hx rfl
 | false => exact hy rfl
theorem Ok.imp {x : Option α} {I Q : α → Prop} (h : Ok x I) (k : ∀ a, I a → Q a) : Ok x Q := by
 obtain ⟨a, h1, h2⟩ := h; exact ⟨a, h1, k a h2⟩
theorem Ok.of {x : Option α} {a : α} (h : x = some a) : Ok x fun b => b = a := ⟨a, h, rfl⟩
theorem Ok.idx {l : List α} {i : Int} (h0 : 0 ≤ i) (h1 : i < l.length) : Ok (zF l i) fun x => x ∈ l ∧ l[i.toNat]? = some x := by
 obtain ⟨x, h2, h3⟩ := zOQ h0 h1
 exact ⟨x, h2, List.mem_of_getElem? h3, h3⟩
theorem Ok.app {l m : List α} (h : l.length + m.length < 4294967296) : Ok (wI l m) fun z => z = l ++ m := ⟨_, yJ h, rfl⟩
end
section
variable {s : uD}
theorem Ok.N {n : Int} (h : yG s) (h0 : 0 ≤ n) (h1 : n ≤ 4611686018427387904) : Ok (uM s n) fun r => 0 ≤ r.1 ∧ (1 ≤ n → r.1 < n) ∧ yG (s.1, r.2) := by
 by_cases hn : 1 ≤ n
 ·obtain ⟨v, k, e, a, b, c⟩ := zIM h hn h1
  exact ⟨_, e, a, fun _ => b, c⟩
 ·obtain ⟨v, k, hr, hk⟩ := zUr h
  have hn1 : n < 1 := by omega
  refine ⟨(0, k), ?_, Int.le_refl _, fun h => absurd h hn, hk⟩
  simp [uM, hr, zIm, hn1]
theorem Ok.Text {l : List qC} (h : yG s) (h0 : l ≠ []) (h1 : l.length ≤ 1000) : Ok (zB8 s l) fun r => r.1 ∈ l ∧ yG (s.1, r.2) := by
 obtain ⟨x, k, e, a, b⟩ := zQ6 h h0 h1; exact ⟨_, e, a, b⟩
theorem Ok.Pick {l : List Int} (h : yG s) (h0 : l ≠ []) (h1 : l.length ≤ 1000) : Ok (zBy s l) fun r => r.1 ∈ l ∧ yG (s.1, r.2) := by
 obtain ⟨x, k, e, a, b⟩ := zR3 h h0 h1; exact ⟨_, e, a, b⟩
theorem Ok.Odd (h : yG s) : Ok (zFI s) fun r => r.1.2.length ≤ 13 ∧ yG (s.1, r.2) := by
 obtain ⟨g, x, k, e, a, b⟩ := zY0 h; exact ⟨_, e, a, b⟩
theorem Ok.Literal {n : Int} (h : yG s) (h0 : 1 ≤ n) (h1 : n ≤ 26) : Ok (zAf s n) fun r => (∃ j : Nat, (j : Int) < n ∧ r.1.2 = tW j) ∧ yG (s.1, r.2) := by
 obtain ⟨g, j, k, e, a, b⟩ := zII h h0 h1; exact ⟨_, e, ⟨j, a, rfl⟩, b⟩
theorem Ok.Literals {m n : Int} (h : yG s) (h0 : 0 ≤ m) (hm : m ≤ 1000000) (h1 : 1 ≤ n) (h2 : n ≤ 26) : Ok (zBn s m n) fun r => (r.1.length : Int) ≤ m ∧ (∀ x ∈ r.1, ∃ j : Nat, (j : Int) < n ∧ x.2 = tW j) ∧ yG (s.1, r.2) := by
 obtain ⟨l, k, e, a, b, c⟩ := zTA h h0 hm h1 h2; exact ⟨_, e, a, b, c⟩
end
section
variable {α β σ τ ρ : Type}
def Nx (mk : Nat → σ → τ) (I : Nat → σ → Prop) (Q : ρ → Prop) (i : Nat) : τ ⊕ ρ → Prop
 | .inl t => ∃ s, t = mk i s ∧ I i s
 | .inr r => Q r
def Fin (Q : ρ → Prop) : τ ⊕ ρ → Prop
 | .inl _ => False
 | .inr r => Q r
theorem Ok.forI {B : τ → Option (τ ⊕ ρ)} (mk : Nat → σ → τ) (l : List α) (I : Nat → σ → Prop) (Q : ρ → Prop) (hB : ∀ i x s, l[i]? = some x → I i s → Ok (B (mk i s)) (Nx mk I Q (i + 1)))
  (he : ∀ s, I l.length s → Ok (B (mk l.length s)) (Fin Q)) (s : σ) (h : I 0 s) : Ok (zZ B (mk 0 s)) Q := by
 refine yW mk l I Q (fun i x s hx hI => ?_) (fun s hI => ?_) s h
 ·obtain ⟨o, h1, h2⟩ := hB i x s hx hI
  cases o with
  | inl t => obtain ⟨s', rfl, h3⟩ := h2; exact .inl ⟨s', h1, h3⟩
  | inr r => exact .inr ⟨r, h1, h2⟩
 ·obtain ⟨o, h1, h2⟩ := he s hI
  cases o with
  | inl t => exact h2.elim
  | inr r => exact ⟨r, h1, h2⟩
theorem Ok.seqE {x : Option (σ ⊕ α)} {f : σ → Option α} {I : σ ⊕ α → Prop} {Q : α → Prop} (h : Ok x I) (k : ∀ a, I (.inl a) → Ok (f a) Q) (k2 : ∀ r, I (.inr r) → Q r) : Ok (yC x f) Q := by
 obtain ⟨a, rfl, ha⟩ := h
 cases a with
 | inl a => exact k a ha
 | inr r => exact ⟨r, rfl, k2 r ha⟩
end
theorem zLI {α : Type} {l : List α} {i : Nat} {x : α} (h : l[i]? = some x) : decide ((i : Int) < len l) = true := decide_eq_true (show (i : Int) < (l.length : Int) by have := (List.getElem?_eq_some_iff.1 h).1; omega)
theorem zJC {α : Type} {l : List α} : decide ((l.length : Int) < len l) = false := decide_eq_false (show ¬ (l.length : Int) < (l.length : Int) by omega)
structure zVH (b : zM) : Prop where
 np : b.1.length ≤ 30
 nr : b.2.1.length ≤ 30
 nt : b.2.2.length ≤ 20
 bd : ∀ x ∈ b.2.1, x.2.2.2.1.length ≤ 8
 pn : ∀ p ∈ b.1, p.1.2.length ≤ 50 ∧ p.2.2.2.length ≤ 50
 rn : ∀ x ∈ b.2.1, x.1.length ≤ 50 ∧ x.2.2.2.2.2.length ≤ 50 ∧ ∀ y ∈ x.2.2.2.1, y.2.length ≤ 50
 tn : ∀ p ∈ b.2.2, p.1.length ≤ 50 ∧ p.2.2.2.length ≤ 50
theorem Ok.SmallBase (b : zM) : Ok (zG2 b) fun r => r = true → zVH b := by
 unfold zG2
 refine .ite (fun _ => .ret nofun) fun h0 => ?_
 simp only [Bool.or_eq_false_iff] at h0
 obtain ⟨h1, h2, h3⟩ := h0
 have h1 : ¬ (30 : Int) < (b.1.length : Int) := of_decide_eq_false h1
 have h2 : ¬ (30 : Int) < (b.2.1.length : Int) := of_decide_eq_false h2
 have h3 : ¬ (20 : Int) < (b.2.2.length : Int) := of_decide_eq_false h3
 have hst : ∀ {α : Type} {l : List α} {i : Nat} {x : α} {P : α → Prop}, l[i]? = some x → (∀ y ∈ l.take i, P y) → P x → ∀ y ∈ l.take (i + 1), P y := by
  intro α l i x P hx h hp y hy
  rw [List.take_add_one, hx] at hy
  rcases List.mem_append.1 hy with hy | hy
  ·exact h y hy
  ·simp at hy; subst hy; exact hp
 have hle : ∀ {s : qC}, decide (50 < len s) = false → s.length ≤ 50 := fun {s} h => by have : ¬ (50 : Int) < (s.length : Int) := of_decide_eq_false h; omega
 refine .seqE (I := fun o => match o with | .inl _ => ∀ p ∈ b.1, p.1.2.length ≤ 50 ∧ p.2.2.2.length ≤ 50 | .inr r => r = false) (Ok.forI (fun i (_ : Unit) => (i : Int)) b.1 (fun i _ => ∀ p ∈ b.1.take i, p.1.2.length ≤ 50 ∧ p.2.2.2.length ≤ 50) _ (fun i x _ hx hI => ?_) (fun _ hI => ?_) () (by simp)) (fun _ hp => ?_) (fun r hr => by dsimp only at hr; subst hr; exact nofun)
 ·unfold zGd
  simp only [zLI hx, if_true, uC, hx, zob]
  refine .ite (fun _ => .ret rfl) fun hc => .ret ⟨(), yA i (by have := (List.getElem?_eq_some_iff.1 hx).1; omega), ?_⟩
  simp only [Bool.or_eq_false_iff] at hc
  exact hst hx hI ⟨hle hc.1, hle hc.2⟩
 ·unfold zGd
  simp only [zJC, zbf, if_false]
  exact .ret (by rw [List.take_of_length_le (Nat.le_refl _)] at hI; exact hI)
 refine .seqE (I := fun o => match o with | .inl _ => ∀ x ∈ b.2.1, x.2.2.2.1.length ≤ 8 ∧ x.1.length ≤ 50 ∧ x.2.2.2.2.2.length ≤ 50 ∧ ∀ y ∈ x.2.2.2.1, y.2.length ≤ 50 | .inr r => r = false)
  (Ok.forI (fun i (_ : Unit) => (i : Int)) b.2.1 (fun i _ => ∀ x ∈ b.2.1.take i, x.2.2.2.1.length ≤ 8 ∧ x.1.length ≤ 50 ∧ x.2.2.2.2.2.length ≤ 50 ∧ ∀ y ∈ x.2.2.2.1, y.2.length ≤ 50) _ (fun i x _ hx hI => ?_) (fun _ hI => ?_) () (by simp)) (fun _ hr => ?_) (fun r hr => by dsimp only at hr; subst hr; exact nofun)
 ·unfold zGb
  simp only [zLI hx, if_true, uC, hx, zob]
  refine .ite (fun _ => .ret rfl) fun hc => ?_
  simp only [Bool.or_eq_false_iff] at hc
  have h8 : ¬ (8 : Int) < (x.2.2.2.1.length : Int) := of_decide_eq_false hc.1
  refine Ok.forI (fun i (_ : Unit) => (i : Int)) x.2.2.2.1 (fun i _ => ∀ y ∈ x.2.2.2.1.take i, y.2.length ≤ 50) _ (fun k y _ hy hK => ?_) (fun _ hK => ?_) () (by simp)
  ·unfold zG6
   simp only [zLI hy, if_true, uC, hy, zob]
   exact .ite (fun _ => .ret rfl) fun hd => .ret ⟨(), yA k (by have := (List.getElem?_eq_some_iff.1 hy).1; omega), hst hy hK (hle hd)⟩
  ·unfold zG6
   simp only [zJC, zbf, if_false]
   rw [List.take_of_length_le (Nat.le_refl _)] at hK
   exact .ret ⟨(), yA i (by have := (List.getElem?_eq_some_iff.1 hx).1; omega), hst hx hI ⟨by omega, hle hc.2.1, hle hc.2.2, hK⟩⟩
 ·unfold zGb
  simp only [zJC, zbf, if_false]
  exact .ret (by rw [List.take_of_length_le (Nat.le_refl _)] at hI; exact hI)
 refine Ok.forI (fun i (_ : Unit) => (i : Int)) b.2.2 (fun i _ => ∀ p ∈ b.2.2.take i, p.1.length ≤ 50 ∧ p.2.2.2.length ≤ 50) _ (fun i x _ hx hI => ?_) (fun _ hI => ?_) () (by simp)
 ·unfold zG5
  simp only [zLI hx, if_true, uC, hx, zob]
  refine .ite (fun _ => .ret nofun) fun hc => .ret ⟨(), yA i (by have := (List.getElem?_eq_some_iff.1 hx).1; omega), ?_⟩
  simp only [Bool.or_eq_false_iff] at hc
  exact hst hx hI ⟨hle hc.1, hle hc.2⟩
 ·unfold zG5
  simp only [zJC, zbf, if_false]
  exact .ret fun _ => ⟨by omega, by omega, by omega, fun x hx => (hr x hx).1, hp, fun x hx => (hr x hx).2, by rw [List.take_of_length_le (Nat.le_refl _)] at hI; exact hI⟩
theorem zVH.cnt {b : zM} (h : zVH b) : Cnt b := ⟨by have := h.np; omega, by have := h.nr; omega, by have := h.nt; omega, fun r hr => by have := h.bd r hr; omega⟩
structure Bnd (B : qR → Prop) (b : zM) (p r t : Nat) : Prop where
 np : b.1.length ≤ p
 nr : b.2.1.length ≤ r
 nt : b.2.2.length ≤ t
 bd : ∀ x ∈ b.2.1, B x
theorem zVf {α : Type} {l : List α} {i : Nat} {y x : α} (h : x ∈ l.set i y) : x = y ∨ x ∈ l := by
 rcases List.mem_or_eq_of_mem_set h with h | h
 ·exact .inr h
 ·exact .inl h
theorem zYy {α : Type} {l : List α} {i : Nat} {x : α} (h : l[i]? = some x) : l.set i x = l := by
 apply List.ext_getElem?
 intro j
 by_cases hj : i = j
 ·subst hj; rw [List.getElem?_set_self (List.getElem?_eq_some_iff.1 h).1, h]
 ·rw [List.getElem?_set_ne hj]
theorem zFy {α : Type} {l : List α} (h : l.length < 4294967296) : wI ([] : List α) l = some l := by rw [yJ (by simpa using h), List.nil_append]
theorem zOi {α : Type} : ∀ (l m : List α), l.foldl (fun s x => s ++ [x]) m = m ++ l
 | [], m => by simp
 | x :: l, m => by rw [List.foldl_cons, zOi l]; simp
theorem zWl (b : zM) (hr : b.2.1.length ≤ 1000) (hb : ∀ x ∈ b.2.1, x.2.2.2.1.length ≤ 1000) : zZ (zB7 b) (0, ([] : List qR)) = some b.2.1 := by
 have h := zO5 (B := zB7 b) b.2.1 (fun s x => s ++ [x]) (fun s => s) (fun i s => s.length = i) [] rfl (fun i x s hx hI => ?_) (fun s _ => ?_)
 ·rw [h.1, zOi, List.nil_append]
 ·have hlt := (List.getElem?_eq_some_iff.1 hx).1
  have hd : decide ((i : Int) < len b.2.1) = true := decide_eq_true (show (i : Int) < (b.2.1.length : Int) by omega)
  refine ⟨?_, by simp [hI]⟩
  unfold zB7
  simp only [hd, if_true, uC, hx, zob]
  rw [zFy (by have := hb x (List.mem_of_getElem? hx); omega)]
  simp only [zob]
  rw [yJ (by simp; omega), yA i (by omega)]
  rfl
 ·unfold zB7
  have hd : decide ((b.2.1.length : Int) < len b.2.1) = false := decide_eq_false (show ¬ (b.2.1.length : Int) < (b.2.1.length : Int) by omega)
  simp only [hd, zbf, if_false]
structure Chg (B B' : qR → Prop) : Prop where
 up : ∀ x, B x → B' x
 nm : ∀ x n, B x → B' (n, x.2)
 rk : ∀ x k, B x → B' (x.1, x.2.1, k, x.2.2.2)
 st : ∀ x g, B x → B' (x.1, g, x.2.2)
 hd : ∀ x h, B x → B' (x.1, x.2.1, x.2.2.1, x.2.2.2.1, h)
 ap : ∀ x l, B x → B' (x.1, x.2.1, x.2.2.1, x.2.2.2.1 ++ [l], x.2.2.2.2)
 nw : ∀ x (m : List zN), m.length ≤ 6 → B x → B' (x.1, x.2.1, x.2.2.1, m, x.2.2.2.2)
theorem Ok.SpoiltBase {s : uD} {b : zM} {B B' : qR → Prop} {p r t : Nat} (h : yG s) (hb : Bnd B b p r t) (hB : Chg B B') (hl : ∀ x, B x → x.2.2.2.1.length ≤ 1000) (hp : p ≤ 1000) (hr : r ≤ 1000) (ht : t ≤ 1000) :
  Ok (zDR s b) fun o => yG (s.1, o.2) ∧ Bnd B' o.1 p (r + 1) (t + 1) := by
 have h1 := hb.np
 have h2 := hb.nr
 have h3 := hb.nt
 unfold zDR
 refine Ok.bind (I := fun o => o = (b.1, ([] : List qR), b.2.2)) ?_ fun s1 hs1 => ?_
 ·rw [zFy (by omega), zob, zFy (by omega)]
  exact .ret rfl
 subst hs1
 dsimp only
 rw [zWl b (by omega) fun x hx => hl x (hb.bd x hx), zob]
 refine Ok.bind (Ok.N h (show (0 : Int) ≤ (b.1.length : Int) by omega) (show (b.1.length : Int) ≤ _ by omega)) fun r1 hr1 => ?_
 obtain ⟨a1, a2, a3⟩ := hr1
 refine Ok.bind (I := fun o => (o.1 = true → 0 < b.1.length) ∧ yG (s.1, o.2)) (.ite (fun hc => ?_) fun _ => .ret ⟨nofun, a3⟩) fun s4 hs4 => ?_
 ·have hc : (0 : Int) < (b.1.length : Int) := of_decide_eq_true hc
  exact .bind (Ok.N a3 (by omega) (by omega)) fun r2 hr2 => .ret ⟨fun _ => by omega, hr2.2.2⟩
 obtain ⟨b1, b2⟩ := hs4
 refine .ite (fun hc => ?_) fun _ => ?_
 ·have hpos := b1 hc
  have a4 : r1.1 < (b.1.length : Int) := a2 (show (1 : Int) ≤ (b.1.length : Int) by omega)
  refine .bind (I := fun o => yG (s.1, o.1) ∧ o.2.1.length = b.1.length ∧ o.2.2 = b.2.1) ?_ fun o ho => .ret ⟨ho.1, by show o.2.1.length ≤ p; omega, by show o.2.2.length ≤ r + 1; rw [ho.2.2]; omega, by show b.2.2.length ≤ t + 1; omega, fun x hx => hB.up x (hb.bd x (by rw [← ho.2.2]; exact hx))⟩
  refine .bind (Ok.N b2 (by omega) (by omega)) fun r3 hr3 => ?_
  have hk := hr3.2.2
  refine .ite (fun _ => ?_) fun _ => .ite (fun _ => ?_) fun _ => .ite (fun _ => ?_) fun _ => .ite (fun _ => ?_) fun _ => ?_
  ·exact .bind (Ok.N hk (by omega) (by omega)) fun r4 hr4 => .bind (.idx a1 a4) fun x _ => .ret ⟨hr4.2.2, by simp, rfl⟩
  ·exact .bind (Ok.Pick hk (by simp) (by simp)) fun r4 hr4 => .bind (.idx a1 a4) fun x _ => .ret ⟨hr4.2, by simp, rfl⟩
  ·exact .bind (Ok.Odd hk) fun r4 hr4 => .bind (.idx a1 a4) fun x _ => .ret ⟨hr4.2, by simp, rfl⟩
  ·exact .bind (Ok.Text hk (by simp) (by simp)) fun r4 hr4 => .bind (.idx a1 a4) fun x _ => .ret ⟨hr4.2, by simp, rfl⟩
  ·exact .bind (.idx (Int.le_refl 0) (by omega)) fun y _ => .bind (.idx a1 a4) fun x _ => .ret ⟨hk, by simp, rfl⟩
 ·refine Ok.bind (Ok.N b2 (show (0 : Int) ≤ (b.2.1.length : Int) by omega) (show (b.2.1.length : Int) ≤ _ by omega)) fun r8 hr8 => ?_
  obtain ⟨a1, a2, a3⟩ := hr8
  refine Ok.bind (I := fun o => (o.1 = true → 0 < b.2.1.length) ∧ yG (s.1, o.2)) (.ite (fun hc => ?_) fun _ => .ret ⟨nofun, a3⟩) fun s6 hs6 => ?_
  ·have hc : (0 : Int) < (b.2.1.length : Int) := of_decide_eq_true hc
   exact .bind (Ok.N a3 (by omega) (by omega)) fun r2 hr2 => .ret ⟨fun _ => by omega, hr2.2.2⟩
  obtain ⟨b1, b2⟩ := hs6
  refine .ite (fun hc => ?_) fun _ => ?_
  ·have hpos := b1 hc
   have a4 : r8.1 < (b.2.1.length : Int) := a2 (show (1 : Int) ≤ (b.2.1.length : Int) by omega)
   refine .bind (I := fun o => yG (s.1, o.1) ∧ o.2.length ≤ r + 1 ∧ ∀ x ∈ o.2, B' x) ?_ fun o ho => .ret ⟨ho.1, by show b.1.length ≤ p; omega, ho.2.1, by show b.2.2.length ≤ t + 1; omega, ho.2.2⟩
   have hset : ∀ y, B' y → (b.2.1.set r8.1.toNat y).length ≤ r + 1 ∧ ∀ x ∈ b.2.1.set r8.1.toNat y, B' x := fun y hy => ⟨by simp; omega, fun x hx => by
    rcases zVf hx with rfl | hx
    ·exact hy
    ·exact hB.up x (hb.bd x hx)⟩
   refine .bind (Ok.N b2 (by omega) (by omega)) fun r3 hr3 => ?_
   have hk := hr3.2.2
   refine .ite (fun _ => ?_) fun _ => .ite (fun _ => ?_) fun _ => .ite (fun _ => ?_) fun _ => .ite (fun _ => ?_) fun _ => .ite (fun _ => ?_) fun _ => .ite (fun _ => ?_) fun _ => ?_
   ·exact .bind (Ok.Text hk (by simp) (by simp)) fun r4 hr4 => .bind (.idx a1 a4) fun x hx => .ret ⟨hr4.2, hset _ (hB.nm x r4.1 (hb.bd x hx.1))⟩
   ·exact .bind (Ok.Pick hk (by simp) (by simp)) fun r4 hr4 => .bind (.idx a1 a4) fun x hx => .ret ⟨hr4.2, hset _ (hB.rk x r4.1 (hb.bd x hx.1))⟩
   ·exact .bind (.idx a1 a4) fun y _ => .bind (.idx a1 a4) fun x hx => .ret ⟨hk, hset _ (hB.st x _ (hb.bd x hx.1))⟩
   ·exact .bind (Ok.Odd hk) fun r4 hr4 => .bind (.idx a1 a4) fun x hx => .ret ⟨hr4.2, hset _ (hB.hd x r4.1 (hb.bd x hx.1))⟩
   ·exact .bind (.idx a1 a4) fun y hy => .bind (.idx a1 a4) fun _ _ => .bind (Ok.Literal hk (by omega) (by omega)) fun r4 hr4 => .bind (.app (by have := hl y (hb.bd y hy.1); simp; omega)) fun z hz => .bind (.idx a1 a4) fun _ _ => .ret ⟨hr4.2, by subst hz; exact hset _ (hB.ap y r4.1 (hb.bd y hy.1))⟩
   ·exact .bind (Ok.Literals hk (by omega) (by omega) (by omega) (by omega)) fun r4 hr4 => .bind (.idx a1 a4) fun x hx => .ret ⟨hr4.2.2, hset _ (hB.nw x r4.1 (by have := hr4.1; omega) (hb.bd x hx.1))⟩
   ·exact .bind (.idx a1 a4) fun x hx => .bind (.app (by simp; omega)) fun z hz => .ret ⟨hk, by subst hz; simp; omega, fun y hy => by
     subst hz
     rcases List.mem_append.1 hy with hy | hy
     ·exact hB.up y (hb.bd y hy)
     ·simp at hy; subst hy; exact hB.up _ (hb.bd _ hx.1)⟩
  ·refine .bind (I := fun o => yG (s.1, o.1) ∧ o.2.length ≤ t + 1) ?_ fun o ho => .ret ⟨ho.1, by show b.1.length ≤ p; omega, by show b.2.1.length ≤ r + 1; omega, ho.2, fun x hx => hB.up x (hb.bd x hx)⟩
   exact .bind (Ok.Text b2 (by simp) (by simp)) fun r16 h16 => .bind (Ok.Pick h16.2 (by simp) (by simp)) fun r17 h17 => .bind (Ok.Literal h17.2 (by omega) (by omega)) fun r18 h18 => .bind (.app (by simp; omega)) fun z hz => .ret ⟨h18.2, by subst hz; simp; omega⟩
theorem zZe (k : Nat) (hk : 5 ≤ k) : Chg (fun x => x.2.2.2.1.length ≤ k) (fun x => x.2.2.2.1.length ≤ k + 1) :=
 ⟨fun _ h => Nat.le_succ_of_le h, fun _ _ h => Nat.le_succ_of_le h, fun _ _ h => Nat.le_succ_of_le h, fun _ _ h => Nat.le_succ_of_le h, fun _ _ h => Nat.le_succ_of_le h, fun _ _ h => by simpa using h, fun _ m hm _ => by show m.length ≤ k + 1; omega⟩
theorem Bnd.cnt {b : zM} {k p r t : Nat} (h : Bnd (fun x => x.2.2.2.1.length ≤ k) b p r t) (hk : k ≤ 1000) (hp : p ≤ 1000) (hr : r ≤ 1000) (ht : t ≤ 1000) : Cnt b :=
 ⟨by have := h.np; omega, by have := h.nr; omega, by have := h.nt; omega, fun r hr => by have := h.bd r hr; omega⟩
end
section
theorem wrapU {x : Int} (h0 : 0 ≤ x) (h1 : x < 18446744073709551616) : IntKind.u64.wrap x = x := by
 unfold IntKind.wrap
 simp only [IntKind.bits, IntKind.signed, Bool.false_and, zbf, if_false]
 omega
theorem zM1 {n : Nat} (h : n < 18446744073709551616) : IntKind.u64.wrap (n : Int) = (n : Int) := wrapU (by omega) (by omega)
theorem zX1 (n : Nat) : IntKind.u64.wrap (n : Int) = ((n % 18446744073709551616 : Nat) : Int) := by
 unfold IntKind.wrap
 simp only [IntKind.bits, IntKind.signed, Bool.false_and, zbf, if_false]
 omega
theorem zV8 (n : Nat) : BitVec.ofInt IntKind.u64.bits (n : Int) = BitVec.ofNat 64 n := by
 show BitVec.ofInt 64 (n : Int) = _
 exact BitVec.ofInt_natCast 64 n
theorem zZW {a b : Nat} (ha : a < 18446744073709551616) : a &&& b < 18446744073709551616 := Nat.lt_of_le_of_lt Nat.and_le_left ha
theorem or_lt {a b : Nat} (ha : a < 18446744073709551616) (hb : b < 18446744073709551616) : a ||| b < 18446744073709551616 := Nat.or_lt_two_pow (n := 64) ha hb
theorem zVX {a b : Nat} (ha : a < 18446744073709551616) (hb : b < 18446744073709551616) : xA .u64 (a : Int) (b : Int) = ((a &&& b : Nat) : Int) := by
 unfold xA
 rw [zV8, zV8]
 have h : (BitVec.ofNat 64 a &&& BitVec.ofNat 64 b).toNat = a &&& b := by
  rw [BitVec.toNat_and, BitVec.toNat_ofNat, BitVec.toNat_ofNat, Nat.mod_eq_of_lt ha, Nat.mod_eq_of_lt hb]
 exact (congrArg (fun z : Nat => IntKind.u64.wrap (z : Int)) h).trans (zM1 (zZW ha))
theorem zZi {a b : Nat} (ha : a < 18446744073709551616) (hb : b < 18446744073709551616) : bor .u64 (a : Int) (b : Int) = ((a ||| b : Nat) : Int) := by
 unfold bor
 rw [zV8, zV8]
 have h : (BitVec.ofNat 64 a ||| BitVec.ofNat 64 b).toNat = a ||| b := by
  rw [BitVec.toNat_or, BitVec.toNat_ofNat, BitVec.toNat_ofNat, Nat.mod_eq_of_lt ha, Nat.mod_eq_of_lt hb]
 exact (congrArg (fun z : Nat => IntKind.u64.wrap (z : Int)) h).trans (zM1 (or_lt ha hb))
theorem zZL {i : Nat} (h : i < 64) : z03 .u64 1 (IntKind.u64.wrap (i : Int)) = some ((2 ^ i : Nat) : Int) := by
 rw [zM1 (by omega)]
 unfold z03 shl
 have h2 : (2 : Nat) ^ i < 18446744073709551616 := Nat.pow_lt_pow_right (a := 2) (by decide) (show i < 64 from h)
 have h3 : min ((i : Int).toNat) IntKind.u64.bits = i := by simp [IntKind.bits]; omega
 have h4 : (1 : Int) * 2 ^ i = ((2 ^ i : Nat) : Int) := by rw [Int.one_mul]; norm_cast
 rw [if_neg (by omega), h3, h4, zM1 h2]
theorem zVL {i : Nat} (h : i < 64) : 2 ^ i < 18446744073709551616 := Nat.pow_lt_pow_right (a := 2) (by decide) (show i < 64 from h)
theorem zTB {m i : Nat} (hm : m < 18446744073709551616) (h : 64 ≤ i) : m.testBit i = false :=
 Nat.testBit_lt_two_pow (Nat.lt_of_lt_of_le hm (Nat.pow_le_pow_right (by decide) h : 2 ^ 64 ≤ 2 ^ i))
def zOf (m : Nat) : List Int := (vA 64).filter fun x => m.testBit x.toNat
theorem zK1 {m : Nat} {x : Int} : x ∈ zOf m ↔ ∃ i : Nat, x = (i : Int) ∧ i < 64 ∧ m.testBit i = true := by
 unfold zOf
 rw [List.mem_filter, xH]
 constructor
 ·rintro ⟨⟨h1, h2⟩, h3⟩
  exact ⟨x.toNat, by omega, by omega, h3⟩
 ·rintro ⟨i, rfl, h1, h2⟩
  exact ⟨⟨by omega, by omega⟩, by simpa using h2⟩
theorem zVc {m : Nat} (hm : m < 18446744073709551616) {i : Nat} : (i : Int) ∈ zOf m ↔ m.testBit i = true := by
 rw [zK1]
 constructor
 ·rintro ⟨j, h1, h2, h3⟩
  have : i = j := by omega
  rw [this]; exact h3
 ·intro h
  refine ⟨i, rfl, Nat.lt_of_not_le fun hge => ?_, h⟩
  rw [zTB hm hge] at h; cases h
theorem zQ2 (m : Nat) : yB yR (zOf m) := (zIV 64).filter _
theorem zWf (m : Nat) : (zOf m).length ≤ 64 := Nat.le_trans (List.length_filter_le _ _) (by rw [xF]; exact Nat.le_refl _)
theorem zPd (q k j : Nat) : (2 ^ k * (2 * q + 1)).testBit j = (decide (j = k) || (decide (k < j) && q.testBit (j - k - 1))) := by
 have e : 2 ^ k * (2 * q + 1) = 2 ^ (k + 1) * q + 2 ^ k := by rw [Nat.mul_add, Nat.mul_one, Nat.pow_succ, Nat.mul_assoc]
 rw [e, Nat.testBit_two_pow_mul_add _ (Nat.pow_lt_pow_right (by decide) (Nat.lt_succ_self k))]
 by_cases hj : j < k + 1
 ·rw [if_pos hj, Nat.testBit_two_pow]
  have h1 : decide (k < j) = false := by simp; omega
  rw [h1, Bool.false_and, Bool.or_false]
  by_cases h2 : j = k <;> simp [h2]
  exact fun h => h2 h.symm
 ·rw [if_neg hj]
  have h1 : decide (k < j) = true := by simp; omega
  have h2 : decide (j = k) = false := by simp; omega
  rw [h1, h2, Bool.true_and, Bool.false_or]
  congr 1
theorem zVr (q k : Nat) : (2 ^ k * (2 * q + 1)) &&& (2 ^ k * (2 * q + 1) - 1) = 2 ^ (k + 1) * q := by
 have hp : 0 < 2 ^ k := Nat.pow_pos (by decide)
 have e : 2 ^ k * (2 * q + 1) - 1 = 2 ^ (k + 1) * q + (2 ^ k - 1) := by rw [Nat.mul_add, Nat.mul_one, Nat.pow_succ, Nat.mul_assoc]; omega
 apply Nat.eq_of_testBit_eq
 intro j
 rw [Nat.testBit_and, zPd, e, Nat.testBit_two_pow_mul_add _ (by rw [Nat.pow_succ]; omega)]
 have e2 : 2 ^ (k + 1) * q = 2 ^ (k + 1) * q + 0 := rfl
 rw [e2, Nat.testBit_two_pow_mul_add _ (Nat.pow_pos (by decide))]
 by_cases hj : j < k + 1
 ·rw [if_pos hj, if_pos hj, Nat.testBit_two_pow_sub_one, Nat.zero_testBit]
  have h1 : decide (k < j) = false := by simp; omega
  rw [h1, Bool.false_and, Bool.or_false]
  by_cases h2 : j = k
  ·simp [h2]
  ·simp [h2]
 ·rw [if_neg hj, if_neg hj]
  have h1 : decide (k < j) = true := by simp; omega
  have h2 : decide (j = k) = false := by simp; omega
  rw [h1, h2, Bool.true_and, Bool.false_or]
  have h3 : j - (k + 1) = j - k - 1 := by omega
  rw [h3, Bool.and_self]
theorem tz_nat {m : Nat} (h0 : m ≠ 0) (h : m < 18446744073709551616) : ∃ k q : Nat, zB9 (m : Int) = some (k : Int) ∧ k < 64 ∧ m = 2 ^ k * (2 * q + 1) := by
 have hc : Lib.ctz 64 m = Lib.ctzFrom 64 m := by unfold Lib.ctz; rw [if_neg h0]
 obtain ⟨q, hq, hk⟩ := Lib.ctzFrom_spec 64 m (by omega) h
 obtain ⟨hl, _⟩ := Lib.lowest_bit 64 m h0 h
 rw [hc] at hl
 generalize Lib.ctzFrom 64 m = k at hq hk hl
 refine ⟨k, q, ?_, hk, hq⟩
 unfold zB9
 have hne : ((m : Int) == 0) = false := by simp; omega
 have hw : IntKind.u64.wrap (0 - (m : Int)) = ((2 ^ 64 - m : Nat) : Int) := by
  unfold IntKind.wrap
  simp only [IntKind.bits, IntKind.signed, Bool.false_and, zbf, if_false]
  omega
 rw [hne, hw, zVX h (by omega), hl]
 obtain ⟨d1, d2⟩ := Lib.deBruijn64_at k hk
 have hmul : IntKind.u64.wrap (((2 ^ k : Nat) : Int) * 285870213051353865) = ((2 ^ k * 285870213051353865 % 18446744073709551616 : Nat) : Int) := by
  have e : ((2 ^ k : Nat) : Int) * 285870213051353865 = ((2 ^ k * 285870213051353865 : Nat) : Int) := by rw [Int.natCast_mul]; rfl
  rw [e, zX1]
 have hs : xO .u64 ((2 ^ k * 285870213051353865 % 18446744073709551616 : Nat) : Int) 58 = ((2 ^ k * 285870213051353865 % 18446744073709551616 / 288230376151711744 : Nat) : Int) := by
  unfold xO
  have h3 : min ((58 : Int).toNat) IntKind.u64.bits = 58 := by decide
  rw [h3, Int.fdiv_eq_ediv_of_nonneg _ (by decide)]
  norm_cast
 simp only [zbf, if_false]
 rw [hmul, hs, uC]
 generalize 2 ^ k * 285870213051353865 % 18446744073709551616 / 288230376151711744 = z at d1 d2
 have ht : ∀ z, z < 64 → tJ[z]? = some ((Lib.deBruijn64tab.getD z 0 : Nat) : Int) := by decide +kernel
 rw [ht z d1, d2]
 simp only [zob]
 rw [xJ (by omega) (by omega)]
def zSz (l : List Int) : Nat := l.foldl (fun m x => m ||| 2 ^ x.toNat) 0
theorem zXn (l : List Int) : ∀ (m i : Nat), (l.foldl (fun m x => m ||| 2 ^ x.toNat) m).testBit i = (m.testBit i || l.any fun x => decide (x.toNat = i)) := by
 induction l with
 | nil => intro m i; simp
 | cons x l ih =>
  intro m i
  rw [List.foldl_cons, ih, Nat.testBit_or, Nat.testBit_two_pow, List.any_cons, Bool.or_assoc]
theorem zWq {l : List Int} (hl : ∀ x ∈ l, 0 ≤ x) (i : Nat) : (zSz l).testBit i = decide ((i : Int) ∈ l) := by
 unfold zSz
 rw [zXn, Nat.zero_testBit, Bool.false_or, Bool.eq_iff_iff, List.any_eq_true]
 simp only [decide_eq_true_eq]
 constructor
 ·rintro ⟨x, hx, h⟩
  have := hl x hx
  rw [show (i : Int) = x by omega]; exact hx
 ·intro h
  exact ⟨i, h, by simp⟩
theorem zYe (l : List Int) (hl : ∀ x ∈ l, x < 64) : ∀ m, m < 18446744073709551616 → (l.foldl (fun m x => m ||| 2 ^ x.toNat) m) < 18446744073709551616 := by
 induction l with
 | nil => intro m hm; exact hm
 | cons x l ih =>
  intro m hm
  have := hl x (by simp)
  exact ih (fun y hy => hl y (by simp [hy])) _ (or_lt hm (zVL (by omega)))
theorem zZJ {l : List Int} (hl : ∀ x ∈ l, x < 64) : zSz l < 18446744073709551616 := zYe l hl 0 (by decide)
end
section
def ed (L : List wQ) (a b : Int) : Bool := L.any fun p => p.1 == a && p.2 == b
theorem zTM {L : List wQ} {a b : Int} : ed L a b = true ↔ (a, b) ∈ L := by
 unfold ed
 rw [List.any_eq_true]
 constructor
 ·rintro ⟨⟨x, y⟩, h1, h2⟩
  simp at h2
  obtain ⟨rfl, rfl⟩ := h2
  exact h1
 ·intro h; exact ⟨_, h, by simp⟩
end
section
def tH (R : Nat → Nat → Prop) (S : Nat → Prop) (j : Nat) : Prop := ∃ m, S m ∧ R m j
def gr (D : Nat → Prop) (R : Nat → Nat → Prop) : Nat → Nat → Prop
 | 0, _ => False
 | k + 1, i => D i ∧ ∀ j, R j i → tH R (gr D R k) j
section
variable {D : Nat → Prop} {R : Nat → Nat → Prop}
theorem zQn {k i : Nat} (h : gr D R k i) : D i := by
 cases k with
 | zero => exact h.elim
 | succ k => exact h.1
theorem zNK : ∀ {k i : Nat}, gr D R k i → gr D R (k + 1) i
 | 0, _, h => h.elim
 | k + 1, i, h => ⟨h.1, fun j hj => by obtain ⟨m, h1, h2⟩ := h.2 j hj; exact ⟨m, zNK h1, h2⟩⟩
theorem z0W {k m i : Nat} (h : k ≤ m) (hk : gr D R k i) : gr D R m i := by
 induction m with
 | zero =>
      have : k = 0 := by omega
      subst this; exact hk
 | succ m ih =>
  by_cases he : k = m + 1
  ·subst he; exact hk
  ·exact zNK (ih (by omega))
theorem zXX : ∀ {k i j : Nat}, gr D R k i → gr D R k j → ¬ R i j
 | 0, _, _, h, _, _ => h.elim
 | k + 1, i, j, hi, hj, hr => by
  obtain ⟨m, hm, hmi⟩ := hj.2 i hr
  obtain ⟨m', hm', hmm⟩ := hi.2 m hmi
  exact zXX hm' hm hmm
theorem zWm {k : Nat} (h : ∀ i, gr D R (k + 1) i → gr D R k i) : ∀ m, k ≤ m → ∀ i, gr D R m i → gr D R k i := by
 intro m
 induction m with
 | zero => intro hk i hi; exact hi.elim
 | succ m ih =>
  intro hk i hi
  by_cases he : k = m + 1
  ·subst he; exact hi
  ·exact h i ⟨hi.1, fun j hj => by obtain ⟨q, h1, h2⟩ := hi.2 j hj; exact ⟨q, ih (by omega) q h1, h2⟩⟩
open Classical in
theorem zYt {N : Nat} (hD : ∀ i, D i → i < N) : ∃ k, k ≤ N ∧ ∀ i, gr D R (k + 1) i → gr D R k i := by
 apply Classical.byContradiction
 intro hno
 have hstep : ∀ k, k ≤ N → ∃ i, gr D R (k + 1) i ∧ ¬ gr D R k i := fun k hk => by
  apply Classical.byContradiction
  intro h
  exact hno ⟨k, hk, fun i hi => Classical.byContradiction fun hn => h ⟨i, hi, hn⟩⟩
 let c : Nat → Nat := fun k => ((List.range N).filter fun i => decide (gr D R k i)).length
 have hc : ∀ k, k ≤ N → c k < c (k + 1) := by
  intro k hk
  obtain ⟨i, h1, h2⟩ := hstep k hk
  have hi := hD i (zQn h1)
  have hsub : ∀ l : List Nat, (l.filter fun i => decide (gr D R k i)).length ≤ (l.filter fun i => decide (gr D R (k + 1) i)).length ∧ (i ∈ l → (l.filter fun i => decide (gr D R k i)).length < (l.filter fun i => decide (gr D R (k + 1) i)).length) := by
   intro l
   induction l with
   | nil => simp
   | cons x l ih =>
    obtain ⟨ih1, ih2⟩ := ih
    by_cases hx : gr D R k x
    ·have hx' := zNK hx
     simp only [List.filter_cons, hx, hx', decide_true, if_true, List.length_cons]
     refine ⟨by omega, fun hm => ?_⟩
     rcases List.mem_cons.1 hm with rfl | hm
     ·exact absurd hx h2
     ·have := ih2 hm; omega
    ·by_cases hx' : gr D R (k + 1) x
     ·simp only [List.filter_cons, hx, hx', decide_true, decide_false, if_true, zbf, if_false, List.length_cons]
      exact ⟨by omega, fun _ => by omega⟩
     ·simp only [List.filter_cons, hx, hx', decide_false, zbf, if_false]
      refine ⟨ih1, fun hm => ?_⟩
      rcases List.mem_cons.1 hm with rfl | hm
      ·exact absurd h1 hx'
      ·exact ih2 hm
  exact (hsub (List.range N)).2 (List.mem_range.2 hi)
 have hbig : ∀ k, k ≤ N + 1 → k ≤ c k := by
  intro k
  induction k with
  | zero => intro _; exact Nat.zero_le _
  | succ k ih => intro hk; have h1 := ih (by omega); have h2 := hc k (by omega); omega
 have h1 := hbig (N + 1) (Nat.le_refl _)
 have h2 : c (N + 1) ≤ N := Nat.le_trans (List.length_filter_le _ _) (by simp)
 omega
theorem zZx {N : Nat} (hD : ∀ i, D i → i < N) {m i : Nat} (h : gr D R m i) : gr D R N i := by
 obtain ⟨k, hk, hs⟩ := zYt (R := R) hD
 by_cases hm : m ≤ k
 ·exact z0W (by omega) h
 ·exact z0W hk (zWm hs m (by omega) i h)
end
def qK (N : Nat) (f : Nat → Int) : List Int := (List.range N).map f
theorem zDc (N : Nat) (f : Nat → Int) : (qK N f).length = N := by simp [qK]
theorem zHs {N i : Nat} (f : Nat → Int) (h : i < N) : zF (qK N f) (i : Int) = some (f i) := by
 rw [uC]
 simp [qK, h]
theorem zKm {N i : Nat} (f : Nat → Int) (v : Int) : List.set (qK N f) i v = qK N fun j => if j = i then v else f j := by
 unfold qK
 apply List.ext_getElem?
 intro j
 rw [List.getElem?_set, List.getElem?_map, List.getElem?_map]
 by_cases hj : j < N
 ·rw [List.getElem?_range hj]
  by_cases he : i = j
  ·subst he; simp [hj]
  ·have : ¬ j = i := fun h => he h.symm
   simp [he, this]
 ·have h0 : (List.range N)[j]? = none := List.getElem?_eq_none (by simp; omega)
  rw [h0]
  by_cases he : i = j
  ·subst he; simp; omega
  ·simp [he]
theorem xG {N : Nat} {f g : Nat → Int} (h : ∀ i, i < N → f i = g i) : qK N f = qK N g := by
 unfold qK
 exact List.map_congr_left fun i hi => h i (List.mem_range.1 hi)
theorem zX2 {N : Nat} (hN : N ≤ 4294967296) (v : Int) : mkS (N : Int) (N : Int) v = some (qK N fun _ => v) := by
 unfold mkS
 rw [if_pos ⟨by omega, by omega, by omega⟩]
 congr 1
 unfold qK
 rw [Int.toNat_natCast]
 apply List.ext_getElem?
 intro i
 by_cases h : i < N <;> simp [h]
theorem zR0 {σ τ ρ : Type} {B : τ → Option (τ ⊕ ρ)} (mk : σ → Nat → τ) (M : Nat) (I : Nat → σ → Prop) (Q : ρ → Prop)
  (hB : ∀ i s, i < M → I i s → (∃ s', B (mk s i) = some (.inl (mk s' (i + 1))) ∧ I (i + 1) s') ∨ ∃ r, B (mk s i) = some (.inr r) ∧ Q r)
  (he : ∀ s, I M s → ∃ r, B (mk s M) = some (.inr r) ∧ Q r) : ∀ s, I 0 s → ∃ r, zZ B (mk s 0) = some r ∧ Q r := by
 have key : ∀ n i s, i + n = M → I i s → ∃ r, zZ B (mk s i) = some r ∧ Q r := by
  intro n
  induction n with
  | zero =>
   intro i s h hi
   rw [Nat.add_zero] at h
   subst h
   obtain ⟨r, h1, h2⟩ := he s hi
   exact ⟨r, by rw [yM, h1], h2⟩
  | succ n ih =>
   intro i s h hi
   rcases hB i s (by omega) hi with ⟨s', h1, h2⟩ | ⟨r, h1, h2⟩
   ·obtain ⟨r, h3, h4⟩ := ih (i + 1) s' (by omega) h2
    exact ⟨r, by rw [yM, h1]; exact h3, h4⟩
   ·exact ⟨r, by rw [yM, h1], h2⟩
 exact fun s hi => key M 0 s (by omega) hi
section
variable (N : Nat) (L : List wQ)
abbrev uY (i j : Nat) : Prop := ed L (i : Int) (j : Int) = true
abbrev uK (k i : Nat) : Prop := gr (· < N) (uY L) k i
open Classical in
noncomputable def wV (k i : Nat) : Int := if uK N L k i then 1 else if tH (uY L) (uK N L k) i then 2 else 3
def yF (k i : Nat) : Prop := uK N L (k + 1) i ∧ ¬ uK N L k i
theorem z04 {k i : Nat} : wV N L k i = 3 ↔ ¬ uK N L k i ∧ ¬ tH (uY L) (uK N L k) i := by
 unfold wV
 by_cases h1 : uK N L k i
 ·simp [h1]
 ·by_cases h2 : tH (uY L) (uK N L k) i <;> simp [h1, h2]
theorem lab2 {k i : Nat} : wV N L k i = 2 ↔ ¬ uK N L k i ∧ tH (uY L) (uK N L k) i := by
 unfold wV
 by_cases h1 : uK N L k i
 ·simp [h1]
 ·by_cases h2 : tH (uY L) (uK N L k) i <;> simp [h1, h2]
theorem z06 {k i : Nat} : wV N L k i = 1 ↔ uK N L k i := by
 unfold wV
 by_cases h1 : uK N L k i
 ·simp [h1]
 ·by_cases h2 : tH (uY L) (uK N L k) i <;> simp [h1, h2]
theorem zOc {k i : Nat} (h : uK N L k i) : ¬ tH (uY L) (uK N L k) i := fun ⟨m, h1, h2⟩ => zXX h1 h h2
theorem zTI {k i : Nat} : wV N L k i = 2 ↔ tH (uY L) (uK N L k) i := by
 rw [lab2]
 exact ⟨fun h => h.2, fun h => ⟨fun hg => zOc N L hg h, h⟩⟩
theorem zXm {k i : Nat} (hi : i < N) (hR : ∀ a b : Int, ed L a b = true → ∃ m, m < N ∧ a = (m : Int)) : (wV N L k i = 3 ∧ ∀ b, b < N → uY L b i → wV N L k b = 2) ↔ yF N L k i := by
 constructor
 ·rintro ⟨h1, h2⟩
  rw [z04] at h1
  refine ⟨⟨hi, fun j hj => ?_⟩, h1.1⟩
  obtain ⟨m, hm, he⟩ := hR _ _ hj
  have : j = m := by omega
  subst this
  exact (zTI N L).1 (h2 j hm hj)
 ·rintro ⟨h1, h2⟩
  refine ⟨(z04 N L).2 ⟨h2, fun ⟨m, h3, h4⟩ => ?_⟩, fun b _ hb => (zTI N L).2 (h1.2 b hb)⟩
  exact zOc N L h3 (h1.2 m h4)
theorem zSR {k i : Nat} : wV N L (k + 1) i = (open Classical in if yF N L k i then 1 else if wV N L k i = 3 ∧ tH (uY L) (yF N L k) i then 2 else wV N L k i) := by
 by_cases hn : yF N L k i
 ·rw [if_pos hn]; exact (z06 N L).2 hn.1
 ·rw [if_neg hn]
  by_cases h1 : uK N L k i
  ·have h2 : uK N L (k + 1) i := zNK h1
   have h3 : wV N L k i = 1 := (z06 N L).2 h1
   rw [(z06 N L).2 h2, if_neg (by rw [h3]; simp), h3]
  ·have h2 : ¬ uK N L (k + 1) i := fun h => hn ⟨h, h1⟩
   by_cases h3 : tH (uY L) (uK N L k) i
   ·have h4 : wV N L k i = 2 := (zTI N L).2 h3
    have h5 : tH (uY L) (uK N L (k + 1)) i := by obtain ⟨m, h6, h7⟩ := h3; exact ⟨m, zNK h6, h7⟩
    rw [(zTI N L).2 h5, if_neg (by rw [h4]; simp), h4]
   ·have h4 : wV N L k i = 3 := (z04 N L).2 ⟨h1, h3⟩
    by_cases h5 : tH (uY L) (yF N L k) i
    ·rw [if_pos ⟨h4, h5⟩]
     obtain ⟨m, h6, h7⟩ := h5
     exact (zTI N L).2 ⟨m, h6.1, h7⟩
    ·rw [if_neg (fun h => h5 h.2), h4]
     refine (z04 N L).2 ⟨h2, fun ⟨m, h6, h7⟩ => ?_⟩
     by_cases h8 : uK N L k m
     ·exact h3 ⟨m, h8, h7⟩
     ·exact h5 ⟨m, ⟨h6, h8⟩, h7⟩
variable {N L} (hN : N ≤ 64) (hL : L.length < 4294967296) (hR : ∀ a b : Int, ed L a b = true → ∃ m, m < N ∧ a = (m : Int))
include hN hL
end
end
section
def inN (N : Nat) (L : List wQ) : Prop := ∀ a b : Int, ed L a b = true → ∃ i j : Nat, i < N ∧ j < N ∧ a = (i : Int) ∧ b = (j : Int)
section
variable {N : Nat} {L : List wQ} (hV : inN N L) {X : Nat} (hX : X < 18446744073709551616)
include hV hX
end
section
variable {N : Nat} (hN : N ≤ 40) {L : List wQ} (hV : inN N L) (hL : L.length < 4294967296) {gone : List Int} (hg : ∀ x ∈ gone, 0 ≤ x ∧ x < N) (hgl : gone.length < 4294967296)
include hV
include hN hg
end
end
section
theorem zVt {σ ρ : Type} {B B' : σ → Option (σ ⊕ ρ)} (I : σ → Prop) (h : ∀ s, I s → B s = B' s) (hs : ∀ s s', I s → B s = some (.inl s') → I s') : ∀ n s, I s → tA B n s = tA B' n s := by
 intro n
 induction n with
 | zero => intro s _; rfl
 | succ n ih =>
  intro s hI
  simp only [tA]
  rw [← h s hI]
  cases hb : B s with
  | none => rfl
  | some o =>
   cases o with
   | inr r => rfl
   | inl s' => exact ih s' (hs s s' hI hb)
theorem zWP {σ ρ : Type} {B B' : σ → Option (σ ⊕ ρ)} (I : σ → Prop) (h : ∀ s, I s → B s = B' s) (hs : ∀ s s', I s → B s = some (.inl s') → I s') (s : σ) (hI : I s) : zZ B s = zZ B' s := by
 have hit := zVt I h hs
 cases h1 : zZ B s with
 | some r =>
  obtain ⟨n, hn⟩ := zGo h1
  rw [hit n s hI] at hn
  exact (zIN hn).symm
 | none =>
  cases h2 : zZ B' s with
  | none => rfl
  | some r =>
   obtain ⟨n, hn⟩ := zGo h2
   rw [← hit n s hI] at hn
   rw [zIN hn] at h1; cases h1
def zRa (n : Int) (p : wQ) : Bool := decide (p.1 < 0) || decide (n ≤ p.1) || decide (p.2 < 0) || decide (n ≤ p.2)
theorem zS0 (x y : wQ) : zEB x y = some (orF [zTv x.1 y.1, zTv x.2 y.2]) := by
 unfold zEB
 rw [zMV, zMV]
 simp only [zob]
 rw [zWr _ (by simp)]
 rfl
theorem zSt (x y : wQ) : decide (0 ≤ orF [zTv x.1 y.1, zTv x.2 y.2]) = !xT x y := by
 have h : decide (orF [zTv x.1 y.1, zTv x.2 y.2] < 0) = xT x y := zOv (by rw [zOv (r := []) (b := false) (by simp [orF])]; simp)
 rw [← h, Bool.eq_iff_iff]
 simp
def zKj (n : Int) (L : List wQ) (i : Nat) : Option Int := match L[i]? with
 | none => some 0
 | some p => if zRa n p then some 1 else if i = 0 then none else match L[i - 1]? with
  | none => none
  | some q => if !xT q p then some 8 else none
theorem zJZ (n : Int) (L : List wQ) (hL : L.length < 4294967296) (i : Nat) (hi : i ≤ L.length) : zAk (n, L) (i : Int) = match zKj n L i with
  | some e => some (.inr e)
  | none => some (.inl ((i + 1 : Nat) : Int)) := by
 unfold zAk zKj
 by_cases he : i = L.length
 ·subst he
  simp [len]
 ·have hx : L[i]? = some L[i] := List.getElem?_eq_getElem (by omega)
  generalize L[i] = x at hx
  simp only [vK hx, if_true, vF hx, zob, hx, vG hx hL]
  have hb : (decide ((if x.2 < x.1 then x.2 else x.1) < 0) || decide (n ≤ (if x.2 > x.1 then x.2 else x.1))) = zRa n x := by
   rw [Bool.eq_iff_iff]
   simp only [zRa, Bool.or_eq_true, decide_eq_true_eq]
   split <;> split <;> omega
  rw [hb]
  cases zRa n x with
  | true => simp
  | false =>
   simp only [zbf, if_false]
   by_cases h0 : i = 0
   ·subst h0; simp
   ·obtain ⟨j, rfl⟩ : ∃ j, i = j + 1 := ⟨i - 1, by omega⟩
    have hy : L[j]? = some L[j] := List.getElem?_eq_getElem (by omega)
    generalize L[j] = y at hy
    have hd : decide (0 < ((j + 1 : Nat) : Int)) = true := by rw [decide_eq_true_eq]; omega
    have hw : zW (((j + 1 : Nat) : Int) - 1) = (j : Int) := by rw [xJ (by omega) (by omega)]; omega
    simp only [hd, if_true, hw, vF hy, zob, zS0, zSt, Nat.add_sub_cancel, hy, h0, if_false]
    cases xT y x <;> simp
theorem zQ0 (n : Int) (L : List wQ) (hL : L.length < 4294967296) (i : Nat) (hi : i ≤ L.length) : zEa (n, L) (i : Int) = match zKj n L i with
  | some e => some (.inr e)
  | none => some (.inl ((i + 1 : Nat) : Int)) := by
 unfold zEa zKj
 by_cases he : i = L.length
 ·subst he
  simp [len]
 ·have hx : L[i]? = some L[i] := List.getElem?_eq_getElem (by omega)
  generalize L[i] = x at hx
  simp only [vK hx, if_true, vF hx, zob, hx, vG hx hL]
  have hb : (decide (x.1 < 0) || (decide (n ≤ x.1) || (decide (x.2 < 0) || decide (n ≤ x.2)))) = zRa n x := by simp [zRa, Bool.or_assoc]
  rw [hb]
  cases zRa n x with
  | true => simp
  | false =>
   simp only [zbf, if_false]
   by_cases h0 : i = 0
   ·subst h0; simp
   ·obtain ⟨j, rfl⟩ : ∃ j, i = j + 1 := ⟨i - 1, by omega⟩
    have hy : L[j]? = some L[j] := List.getElem?_eq_getElem (by omega)
    generalize L[j] = y at hy
    have hd : decide (0 < ((j + 1 : Nat) : Int)) = true := by rw [decide_eq_true_eq]; omega
    have hw : zW (((j + 1 : Nat) : Int) - 1) = (j : Int) := by rw [xJ (by omega) (by omega)]; omega
    simp only [hd, if_true, hw, vF hy, zob, Nat.add_sub_cancel, hy, h0, if_false]
    have hlt : xT y x = (yR y.1 x.1 || (y.1 == x.1 && yR y.2 x.2)) := rfl
    rw [hlt]
    simp only [yR]
    by_cases h1 : x.1 < y.1
    ·have h2 : ¬ y.1 < x.1 := by omega
     have h3 : (y.1 == x.1) = false := by simp; omega
     simp [h1, h2, h3]
    ·by_cases h3 : y.1 = x.1
     ·have h2 : ¬ y.1 < x.1 := by omega
      by_cases h4 : x.2 ≤ y.2
      ·have h5 : ¬ y.2 < x.2 := by omega
       simp [h3, h4, h5]
      ·have h5 : y.2 < x.2 := by omega
       simp [h3, h4, h5]
     ·have h2 : y.1 < x.1 := by omega
      have h4 : (y.1 == x.1) = false := by simpa using h3
      simp [h1, h2, h4]
def zXs (g : wY) : Prop := 0 ≤ g.1 ∧ g.1 ≤ 40 ∧ ∀ p ∈ g.2, zRa g.1 p = false
theorem zXw (g : wY) (hL : g.2.length < 4294967296) : ∃ e, zAq g = some e ∧ zCw g = some e ∧ (e = 0 → zXs g) := by
 obtain ⟨n, L⟩ := g
 unfold zAq zCw
 cases h0 : (decide (n < 0) || decide (40 < n)) with
 | true => exact ⟨1, by simp, by simp, by simp⟩
 | false =>
  simp only [Bool.or_eq_false_iff, decide_eq_false_iff_not] at h0
  simp only [zbf, if_false]
  have hc : zZ (zEa (n, L)) 0 = zZ (zAk (n, L)) 0 := by
   refine zWP (fun s => ∃ i : Nat, s = (i : Int) ∧ i ≤ L.length) ?_ ?_ 0 ⟨0, rfl, Nat.zero_le _⟩
   ·rintro s ⟨i, rfl, hi⟩
    rw [zJZ n L hL i hi, zQ0 n L hL i hi]
   ·rintro s s' ⟨i, rfl, hi⟩ hb
    rw [zQ0 n L hL i hi] at hb
    cases hv : zKj n L i with
    | some e => rw [hv] at hb; cases hb
    | none =>
     rw [hv] at hb
     simp only [Option.some.injEq, Sum.inl.injEq] at hb
     refine ⟨i + 1, hb.symm, ?_⟩
     by_cases he : i = L.length
     ·subst he; simp [zKj] at hv
     ·omega
  have h := yW (B := zAk (n, L)) (fun i (_ : Unit) => (i : Int)) L (fun i _ => ∀ p ∈ L.take i, zRa n p = false) (fun e => e = 0 → ∀ p ∈ L, zRa n p = false) ?_ ?_ () (by simp)
  ·obtain ⟨e, h1, h2⟩ := h
   exact ⟨e, h1, by rw [hc]; exact h1, fun he => ⟨by omega, by omega, h2 he⟩⟩
  ·intro i x _ hx hI
   have hi := vT hx
   rw [zJZ n L hL i (by omega)]
   cases hv : zKj n L i with
   | some e =>
    refine .inr ⟨e, rfl, fun he => ?_⟩
    subst he
    exfalso
    unfold zKj at hv
    rw [hx] at hv
    simp only at hv
    split at hv
    ·cases hv
    ·split at hv
     ·cases hv
     ·split at hv
      ·cases hv
      ·split at hv <;> cases hv
   | none =>
    refine .inl ⟨(), rfl, fun p hp => ?_⟩
    rw [uX hx, List.mem_append, List.mem_singleton] at hp
    rcases hp with hp | rfl
    ·exact hI p hp
    ·cases hb : zRa n p with
     | false => rfl
     | true => unfold zKj at hv; rw [hx] at hv; simp [hb] at hv
  ·intro _ hI
   rw [zJZ n L hL _ (Nat.le_refl _)]
   refine ⟨0, by simp [zKj], fun _ => ?_⟩
   rwa [List.take_length] at hI
theorem zXs.inN {N : Nat} {L : List wQ} (h : zXs ((N : Int), L)) : inN N L := fun a b he => by
 have := h.2.2 _ (zTM.1 he)
 simp only [zRa, Bool.or_eq_false_iff, decide_eq_false_iff_not] at this
 exact ⟨a.toNat, b.toNat, by omega, by omega, by omega, by omega⟩
end
section
theorem zVz : ∀ (n m : Nat) (acc : List Int), m < 18446744073709551616 → (zOf m).length ≤ n → acc.length + n ≤ 64 → zZ zDv ((m : Int), acc) = some (acc ++ zOf m) := by
 intro n
 induction n with
 | zero =>
  intro m acc hm hn ha
  have h0 : zOf m = [] := List.eq_nil_of_length_eq_zero (by omega)
  have hz : m = 0 := by
   apply Nat.eq_of_testBit_eq
   intro i
   rw [Nat.zero_testBit]
   cases ht : m.testBit i with
   | false => rfl
   | true =>
    have := (zVc hm).2 ht
    rw [h0] at this; cases this
  subst hz
  rw [yM]
  simp [zDv, h0]
 | succ n ih =>
  intro m acc hm hn ha
  by_cases h0 : m = 0
  ·subst h0
   have hb : zOf 0 = [] := by
    apply List.eq_nil_iff_forall_not_mem.2
    intro x hx
    obtain ⟨i, _, _, h⟩ := zK1.1 hx
    rw [Nat.zero_testBit] at h; cases h
   rw [yM]
   simp [zDv, hb]
  ·obtain ⟨k, q, ht, hk, hmq⟩ := tz_nat h0 hm
   have hcons : zOf m = (k : Int) :: zOf (2 ^ (k + 1) * q) := by
    have hq2 : ∀ j, (2 ^ (k + 1) * q).testBit j = (decide (k < j) && q.testBit (j - k - 1)) := by
     intro j
     have e2 : 2 ^ (k + 1) * q = 2 ^ (k + 1) * q + 0 := rfl
     rw [e2, Nat.testBit_two_pow_mul_add _ (Nat.pow_pos (by decide))]
     by_cases hj : j < k + 1
     ·have h1 : decide (k < j) = false := by simp; omega
      rw [if_pos hj, Nat.zero_testBit, h1, Bool.false_and]
     ·have h1 : decide (k < j) = true := by simp; omega
      rw [if_neg hj, h1, Bool.true_and]
      congr 1
    apply yB.ext xI (zQ2 m)
    ·refine List.pairwise_cons.2 ⟨fun x hx => ?_, zQ2 _⟩
     obtain ⟨j, rfl, hj, hb⟩ := zK1.1 hx
     rw [hq2, Bool.and_eq_true, decide_eq_true_eq] at hb
     simp [yR]; omega
    ·intro x
     rw [List.mem_cons, zK1, zK1]
     constructor
     ·rintro ⟨i, rfl, h1, h2⟩
      rw [hmq, zPd, Bool.or_eq_true, decide_eq_true_eq] at h2
      rcases h2 with rfl | h2
      ·exact .inl rfl
      ·exact .inr ⟨i, rfl, h1, by rw [hq2]; exact h2⟩
     ·rintro (rfl | ⟨i, rfl, h1, h2⟩)
      ·exact ⟨k, rfl, hk, by rw [hmq, zPd]; simp⟩
      ·rw [hq2] at h2
       exact ⟨i, rfl, h1, by rw [hmq, zPd, h2, Bool.or_true]⟩
   have hw : IntKind.u64.wrap ((m : Int) - 1) = ((m - 1 : Nat) : Int) := by rw [wrapU (by omega) (by omega)]; omega
   have hand : m &&& (m - 1) = 2 ^ (k + 1) * q := by rw [hmq]; exact zVr q k
   have hlt : 2 ^ (k + 1) * q < 18446744073709551616 := by rw [← hand]; exact zZW hm
   have hne : ((m : Int) != 0) = true := by simp; omega
   have hstep : zDv ((m : Int), acc) = some (.inl (((2 ^ (k + 1) * q : Nat) : Int), acc ++ [(k : Int)])) := by
    unfold zDv
    simp only [hne, if_true, ht, zob]
    rw [yJ (by simp; omega)]
    simp only [zob]
    rw [hw, zVX hm (by omega), hand]
   rw [yM, hstep]
   have := ih (2 ^ (k + 1) * q) (acc ++ [(k : Int)]) hlt (by rw [hcons] at hn; simp at hn; omega) (by simp; omega)
   rw [hcons]
   simpa using this
theorem zZk {m : Nat} (hm : m < 18446744073709551616) : zGj (m : Int) = some (zOf m) := by
 have := zVz 64 m [] hm (zWf m) (by simp)
 simpa [zGj] using this
structure yO (N : Nat) (L : List wQ) : Prop where
 hN : N ≤ 40
 inr : ∀ p ∈ L, zRa (N : Int) p = false
 asc : yB xT L
theorem zJj {N : Nat} {p : wQ} (h : zRa (N : Int) p = false) : ∃ i j : Nat, i < N ∧ j < N ∧ p = ((i : Int), (j : Int)) := by
 obtain ⟨a, b⟩ := p
 simp only [zRa, Bool.or_eq_false_iff, decide_eq_false_iff_not] at h
 exact ⟨a.toNat, b.toNat, by omega, by omega, by simp only [Prod.mk.injEq]; omega⟩
section
variable {N : Nat} {L : List wQ}
theorem yO.nodup (h : yO N L) : L.Nodup := h.asc.imp fun {x y} hh e => by subst e; rw [zZq.irrefl] at hh; cases hh
theorem yO.inN (h : yO N L) : inN N L := fun a b he => by
 obtain ⟨i, j, h1, h2, h3⟩ := zJj (h.inr _ (zTM.1 he))
 simp only [Prod.mk.injEq] at h3
 exact ⟨i, j, h1, h2, h3.1, h3.2⟩
theorem zQl {α : Type} [DecidableEq α] : ∀ {l m : List α}, l.Nodup → (∀ x ∈ l, x ∈ m) → l.length ≤ m.length
 | [], _, _, _ => Nat.zero_le _
 | x :: l, m, hn, hs => by
  obtain ⟨h1, h2⟩ := List.nodup_cons.1 hn
  have hx : x ∈ m := hs x List.mem_cons_self
  have h3 := zQl (m := m.erase x) h2 fun y hy => (List.mem_erase_of_ne (fun e => by subst e; exact h1 hy)).2 (hs y (List.mem_cons_of_mem _ hy))
  rw [List.length_erase_of_mem hx] at h3
  have : 0 < m.length := List.length_pos_of_mem hx
  simp only [List.length_cons]
  omega
theorem yO.len (h : yO N L) : L.length ≤ 1600 := by
 have h1 := zQl (m := (vA N).flatMap fun i => (vA N).map fun j => (i, j)) h.nodup fun p hp => by
  obtain ⟨i, j, hi, hj, rfl⟩ := zJj (h.inr p hp)
  exact List.mem_flatMap.2 ⟨(i : Int), xH.2 ⟨by omega, by omega⟩, List.mem_map.2 ⟨(j : Int), xH.2 ⟨by omega, by omega⟩, rfl⟩⟩
 have h2 := zIv (fun i : Int => (vA N).map fun j : Int => (i, j)) N (vA N) fun x _ => by simp [xF]
 rw [xF] at h2
 have h3 : N * N ≤ 40 * 40 := Nat.mul_le_mul h.hN h.hN
 omega
theorem yO.len' (h : yO N L) : L.length < 4294967296 := by have := h.len; omega
theorem zRT {n : Int} {i : Nat} {p : wQ} (hp : L[i]? = some p) : zKj n L i = none ↔ zRa n p = false ∧ (i = 0 ∨ ∃ q, L[i - 1]? = some q ∧ xT q p = true) := by
 unfold zKj
 rw [hp]
 cases hb : zRa n p with
 | true => simp [hb]
 | false =>
  by_cases h0 : i = 0
  ·subst h0; simp [hb]
  ·have hi := vT hp
   obtain ⟨q, hq⟩ : ∃ q, L[i - 1]? = some q := ⟨L[i - 1], List.getElem?_eq_getElem (by omega)⟩
   simp only [hb, h0, if_false, hq, false_or, zbf, Option.some.injEq, exists_eq_left', true_and]
   cases xT q p <;> simp
theorem vLoop (n : Int) (hL : L.length < 4294967296) : ∃ e, zZ (zAk (n, L)) 0 = some e ∧ (e = 0 ↔ ∀ i, i < L.length → zKj n L i = none) := by
 have h := yW (B := zAk (n, L)) (fun i (_ : Unit) => (i : Int)) L (fun i _ => ∀ j, j < i → zKj n L j = none) (fun e => e = 0 ↔ ∀ i, i < L.length → zKj n L i = none) ?_ ?_ () (fun j hj => absurd hj (Nat.not_lt_zero _))
 ·obtain ⟨e, h1, h2⟩ := h
  exact ⟨e, h1, h2⟩
 ·intro i x _ hx hI
  have hi := vT hx
  rw [zJZ n L hL i (by omega)]
  cases hv : zKj n L i with
  | some e =>
   refine .inr ⟨e, rfl, ?_⟩
   constructor
   ·intro he
    subst he
    exfalso
    unfold zKj at hv
    rw [hx] at hv
    simp only at hv
    split at hv
    ·cases hv
    ·split at hv
     ·cases hv
     ·split at hv
      ·cases hv
      ·split at hv <;> cases hv
   ·intro h
    rw [h i hi] at hv; cases hv
  | none =>
   refine .inl ⟨(), rfl, fun j hj => ?_⟩
   by_cases he : j = i
   ·subst he; exact hv
   ·exact hI j (by omega)
 ·intro _ hI
  rw [zJZ n L hL _ (Nat.le_refl _)]
  exact ⟨0, by simp [zKj], by simp; exact hI⟩
theorem zVB {α : Type} {lt : α → α → Bool} (O : tV lt) : ∀ {l : List α}, (∀ i x y, l[i]? = some x → l[i + 1]? = some y → lt x y = true) → yB lt l
 | [], _ => List.Pairwise.nil
 | [x], _ => List.pairwise_singleton _ _
 | x :: y :: l, h => by
  have h1 := zVB O (l := y :: l) fun i a b ha hb => h (i + 1) a b (by simpa using ha) (by simpa using hb)
  have h2 : lt x y = true := h 0 x y rfl rfl
  refine List.pairwise_cons.2 ⟨fun z hz => ?_, h1⟩
  rcases List.mem_cons.1 hz with rfl | hz
  ·exact h2
  ·exact O.trans _ _ _ h2 ((List.pairwise_cons.1 h1).1 z hz)
theorem zY7 {α : Type} {lt : α → α → Bool} {l : List α} (h : yB lt l) {i : Nat} {x y : α} (hx : l[i]? = some x) (hy : l[i + 1]? = some y) : lt x y = true := by
 obtain ⟨h1, rfl⟩ := List.getElem?_eq_some_iff.1 hx
 obtain ⟨h2, rfl⟩ := List.getElem?_eq_some_iff.1 hy
 exact List.pairwise_iff_getElem.1 h i (i + 1) h1 h2 (Nat.lt_succ_self i)
theorem zRX {n : Int} : (∀ i, i < L.length → zKj n L i = none) ↔ (∀ p ∈ L, zRa n p = false) ∧ yB xT L := by
 constructor
 ·intro h
  have h1 : ∀ (i : Nat) p, L[i]? = some p → zRa n p = false ∧ (i = 0 ∨ ∃ q, L[i - 1]? = some q ∧ xT q p = true) := fun i p hp => (zRT hp).1 (h i (vT hp))
  refine ⟨fun p hp => ?_, zVB zZq fun i x y hx hy => ?_⟩
  ·obtain ⟨i, hi⟩ := List.getElem?_of_mem hp
   exact (h1 i p hi).1
  ·rcases (h1 (i + 1) y hy).2 with h2 | ⟨q, h2, h3⟩
   ·omega
   ·rw [Nat.add_sub_cancel, hx] at h2
    cases h2; exact h3
 ·rintro ⟨h1, h2⟩ i hi
  have hp : L[i]? = some L[i] := List.getElem?_eq_getElem hi
  refine (zRT hp).2 ⟨h1 _ (List.getElem_mem hi), ?_⟩
  by_cases h0 : i = 0
  ·exact .inl h0
  ·have hq : L[i - 1]? = some L[i - 1] := List.getElem?_eq_getElem (by omega)
   exact .inr ⟨_, hq, zY7 h2 hq (by rw [show i - 1 + 1 = i by omega]; exact hp)⟩
theorem zJn (n : Int) (hL : L.length < 4294967296) : ∃ e, zAq (n, L) = some e ∧ zCw (n, L) = some e ∧ (e = 0 ↔ ∃ N : Nat, n = (N : Int) ∧ yO N L) := by
 obtain ⟨e, h1, h2, h3⟩ := zXw (n, L) hL
 refine ⟨e, h1, h2, ?_⟩
 constructor
 ·intro he
  obtain ⟨k1, k2, k3⟩ := h3 he
  obtain ⟨N, rfl⟩ := Int.eq_ofNat_of_zero_le k1
  refine ⟨N, rfl, by have : (N : Int) ≤ 40 := k2; omega, k3, ?_⟩
  subst he
  unfold zAq at h1
  have hc : (decide ((N : Int) < 0) || decide (40 < (N : Int))) = false := by
   have : (N : Int) ≤ 40 := k2
   simp; omega
  simp only [hc, zbf, if_false] at h1
  obtain ⟨e', h4, h5⟩ := vLoop (L := L) (N : Int) hL
  rw [h4] at h1
  exact (zRX.1 (h5.1 (Option.some.inj h1))).2
 ·rintro ⟨N, rfl, hG⟩
  unfold zAq at h1
  have hc : (decide ((N : Int) < 0) || decide (40 < (N : Int))) = false := by
   have := hG.hN
   simp; omega
  simp only [hc, zbf, if_false] at h1
  obtain ⟨e', h4, h5⟩ := vLoop (L := L) (N : Int) hL
  rw [h4] at h1
  rw [← Option.some.inj h1]
  exact h5.2 (zRX.2 ⟨hG.inr, hG.asc⟩)
theorem yO.v1 (h : yO N L) : zAq ((N : Int), L) = some 0 := by
 obtain ⟨e, h1, _, h3⟩ := zJn (N : Int) h.len'
 rw [h1, h3.2 ⟨N, rfl, h⟩]
theorem yO.v2 (h : yO N L) : zCw ((N : Int), L) = some 0 := by
 obtain ⟨e, _, h1, h3⟩ := zJn (N : Int) h.len'
 rw [h1, h3.2 ⟨N, rfl, h⟩]
theorem yO.proper (h : yO N L) : zFF ((N : Int), L) = some ((N : Int), L) := by
 unfold zFF; rw [h.v1]; rfl
theorem yO.valid (h : yO N L) : zIe ((N : Int), L) = some ((N : Int), L) := by
 unfold zIe; rw [h.v2]; rfl
theorem zUm {n : Int} {l : List qU} {g : wY} (h : zOV n l = (g, 0)) : ∃ N : Nat, n = (N : Int) ∧ g.1 = (N : Int) ∧ yO N g.2 ∧ g.2 = tL xT (zF6 l) := by
 unfold zOV at h
 cases h0 : (decide (n < 0) || decide (40 < n)) with
 | true => simp [h0] at h
 | false =>
  cases h1 : l.any (xV n) with
  | true => simp [h0, h1] at h
  | false =>
   simp only [h0, h1, zbf, if_false, Prod.mk.injEq, and_true] at h
   subst h
   simp only [Bool.or_eq_false_iff, decide_eq_false_iff_not] at h0
   refine ⟨n.toNat, by omega, by show n = _; omega, ⟨by omega, fun p hp => ?_, (zO0 zZq _).1⟩, rfl⟩
   have hp : p ∈ zF6 l := ((zO0 zZq _).2 p).1 hp
   obtain ⟨a, ha, rfl⟩ := List.mem_map.1 hp
   have := List.any_eq_false.1 h1 a ha
   simp only [xV, Bool.or_eq_true, decide_eq_true_eq, not_or] at this
   simp only [zRa, Bool.or_eq_false_iff, decide_eq_false_iff_not]
   omega
def zYR (L : List wQ) (i : Nat) : Nat := zSz ((L.filter fun p => p.1 == (i : Int)).map (·.2))
theorem zWb (h : yO N L) (i : Nat) : zYR L i < 18446744073709551616 := zZJ fun x hx => by
 obtain ⟨p, hp, rfl⟩ := List.mem_map.1 hx
 obtain ⟨a, b, h1, h2, rfl⟩ := zJj (h.inr p (List.mem_filter.1 hp).1)
 have := h.hN
 show (b : Int) < 64
 omega
theorem zVR (h : yO N L) (i j : Nat) : (zYR L i).testBit j = ed L (i : Int) (j : Int) := by
 unfold zYR
 rw [zWq (fun x hx => ?_), Bool.eq_iff_iff, decide_eq_true_eq, zTM]
 ·constructor
  ·intro hx
   obtain ⟨p, hp, h2⟩ := List.mem_map.1 hx
   obtain ⟨h3, h4⟩ := List.mem_filter.1 hp
   have h5 : p.1 = (i : Int) := by simpa using h4
   have : p = ((i : Int), (j : Int)) := by rw [← h5, ← h2]
   rw [← this]; exact h3
  ·intro hx
   exact List.mem_map.2 ⟨_, List.mem_filter.2 ⟨hx, by simp⟩, rfl⟩
 ·obtain ⟨p, hp, rfl⟩ := List.mem_map.1 hx
  obtain ⟨a, b, h1, h2, rfl⟩ := zJj (h.inr p (List.mem_filter.1 hp).1)
  show (0 : Int) ≤ (b : Int)
  omega
theorem zWX (l : List Int) (x : Int) : zSz (l ++ [x]) = zSz l ||| 2 ^ x.toNat := by simp [zSz]
theorem z0A {i : Nat} (h : i < 64) : z03 .u64 1 (i : Int) = some ((2 ^ i : Nat) : Int) := by
 have := zZL h
 rwa [zM1 (by omega)] at this
theorem zUH (h : yO N L) : zFm ((N : Int), L) = some (qK N fun i => ((zYR L i : Nat) : Int)) := by
 unfold zFm
 have hN := h.hN
 rw [zX2 (by omega)]
 simp only [zob]
 have hlp := yW (B := zGS ((N : Int), L)) (fun i (s : List Int) => (s, (i : Int))) L (fun i s => s = qK N fun a => ((zYR (L.take i) a : Nat) : Int)) (fun r => r = qK N fun i => ((zYR L i : Nat) : Int)) ?_ ?_ (qK N fun _ => 0) (by
   apply xG; intro i _; simp [zYR, zSz])
 ·obtain ⟨r, h1, rfl⟩ := hlp
  exact h1
 ·rintro i p s hp rfl
  refine .inl ⟨_, ?_, rfl⟩
  obtain ⟨a, b, h1, h2, rfl⟩ := zJj (h.inr p (yT hp))
  have hg : ∀ q ∈ L.take i, q ∈ L := fun q hq => List.mem_of_mem_take hq
  have hgood : yO N (L.take i) := ⟨hN, fun q hq => h.inr q (hg q hq), h.asc.sublist (List.take_sublist _ _)⟩
  unfold zGS
  simp only [vK hp, if_true, vF hp, zob, zHs _ h1, z0A (i := b) (by omega), vG hp h.len', Int.toNat_natCast, zKm]
  rw [zZi (zWb hgood a) (zVL (by omega))]
  congr 3
  apply xG
  intro q _
  rw [uX hp]
  by_cases hq : q = a
  ·subst hq
   simp only [if_true]
   unfold zYR
   rw [List.filter_append, List.map_append]
   simp [zWX]
  ·have hf : (((a : Nat) : Int) == (q : Int)) = false := by simp; omega
   simp only [hq, if_false]
   unfold zYR
   rw [List.filter_append]
   simp [hf]
 ·rintro s rfl
  refine ⟨_, ?_, rfl⟩
  unfold zGS
  simp [len]
abbrev zK9 (N : Nat) (L : List wQ) (i : Int) : List Int := (vA N).filter fun j => ed L i j
abbrev zQp (N : Nat) (L : List wQ) (i : Int) : List Int := (vA N).filter fun j => ed L j i
theorem zY9 (h : yO N L) (i : Nat) : zOf (zYR L i) = zK9 N L (i : Int) := by
 apply yB.ext xI (zQ2 _) ((zIV N).filter _)
 intro x
 rw [zK1, List.mem_filter, xH]
 constructor
 ·rintro ⟨j, rfl, h1, h2⟩
  rw [zVR h] at h2
  obtain ⟨a, b, h3, h4, h5, h6⟩ := h.inN _ _ h2
  exact ⟨by omega, h2⟩
 ·rintro ⟨h1, h2⟩
  obtain ⟨j, rfl⟩ := Int.eq_ofNat_of_zero_le h1.1
  have := h.hN
  exact ⟨j, rfl, by omega, by rw [zVR h]; exact h2⟩
theorem zNB (h : yO N L) (i : Int) : zCW ((N : Int), L) i = some (zK9 N L i) := by
 unfold zCW
 rw [h.proper]
 simp only [zob]
 cases hc : (decide (i < 0) || decide ((N : Int) ≤ i)) with
 | true =>
  simp only [if_true, Option.some.injEq]
  symm
  apply List.filter_eq_nil_iff.2
  intro x _ he
  obtain ⟨a, b, h1, h2, h3, h4⟩ := h.inN _ _ he
  simp only [Bool.or_eq_true, decide_eq_true_eq] at hc
  omega
 | false =>
  simp only [Bool.or_eq_false_iff, decide_eq_false_iff_not] at hc
  obtain ⟨k, rfl⟩ := Int.eq_ofNat_of_zero_le (show 0 ≤ i by omega)
  simp only [zbf, if_false, zUH h, zob, zHs _ (show k < N by omega), zZk (zWb h k), zY9 h]
theorem zMT (h : yO N L) (i : Int) : zDk ((N : Int), L) i = some (zQp N L i) := by
 unfold zDk
 rw [h.valid]
 simp only [zob]
 have hl := zEz (B := zDi ((N : Int), L) i) L (fun s p => if p.2 == i then s ++ [p.1] else s) id (fun i s => s.length ≤ i) ([] : List Int) (by simp) ?_ ?_
 ·rw [hl.1, zFB (fun p : wQ => p.2 == i) (·.1)]
  simp only [id, List.nil_append, Option.some.injEq]
  apply yB.ext xI ?_ ((zIV N).filter _)
  ·intro x
   rw [List.mem_map, List.mem_filter, xH, zTM]
   constructor
   ·rintro ⟨p, hp, rfl⟩
    obtain ⟨h1, h2⟩ := List.mem_filter.1 hp
    have h3 : p.2 = i := by simpa using h2
    obtain ⟨a, b, h4, h5, h6⟩ := zJj (h.inr p h1)
    subst h6
    exact ⟨⟨by show (0 : Int) ≤ (a : Int); omega, by show (a : Int) < (N : Int); omega⟩, by rw [← h3]; exact h1⟩
   ·rintro ⟨_, h1⟩
    exact ⟨_, List.mem_filter.2 ⟨h1, by simp⟩, rfl⟩
  ·have h1 := h.asc.filter fun p : wQ => p.2 == i
   rw [yB, List.pairwise_map]
   refine List.Pairwise.imp_of_mem ?_ h1
   intro p q hp hq hlt
   have h2 : p.2 = i := by simpa using (List.mem_filter.1 hp).2
   have h3 : q.2 = i := by simpa using (List.mem_filter.1 hq).2
   simp only [xT, zSI, h2, h3, xI.irrefl, Bool.and_false, Bool.or_false] at hlt
   exact hlt
 ·intro k p s hp hI
  have := h.len
  have := vT hp
  unfold zDi
  simp only [vK hp, if_true, vF hp, zob, vG hp h.len']
  by_cases hc : (p.2 == i) = true
  ·simp only [hc, if_true]
   rw [yJ (by simp; omega)]
   exact ⟨rfl, by simp; omega⟩
  ·simp only [hc, zbf, if_false]
   exact ⟨trivial, by omega⟩
 ·intro s _
  unfold zDi
  simp [len]
end
end
section
theorem zIb {N i : Nat} (f : Nat → Int) : (qK N f)[i]? = if i < N then some (f i) else none := by
 unfold qK
 by_cases h : i < N
 ·simp [h]
 ·simp [h]
theorem zX6 (N : Nat) (f : Nat → Int) : qK (N + 1) f = qK N f ++ [f N] := by simp [qK, List.range_succ]
theorem zTF {N c : Nat} (f : Nat → Int) (h : c ≤ N) : (qK N f).take c = qK c f := by
 apply List.ext_getElem?
 intro i
 rw [List.getElem?_take, zIb, zIb]
 by_cases h1 : i < c
 ·simp [h1, show i < N by omega]
 ·simp [h1]
theorem zS9 (k : Nat) (f : Nat → Int) {x : Nat} (hx : x < k) (v : Int) : zV6 k (qK k f) (x : Int) v = qK k fun j => if j = x then v else f j := by
 unfold zV6 qK
 apply List.map_congr_left
 intro j hj
 have hj := List.mem_range.1 hj
 rw [Int.toNat_natCast]
 by_cases h : j = x
 ·simp [h]
 ·simp only [h, if_false]
  simp [List.getD, hj]
theorem zOF (k : Nat) (f : Nat → Int) {x : Nat} (hx : x < k) : zVP (qK k f) (x : Int) = f x := by
 unfold zVP qK
 simp [List.getD, hx]
theorem zYu (k : Nat) (v : Int) : List.replicate k v = qK k fun _ => v := by
 apply List.ext_getElem?
 intro i
 rw [zIb, List.getElem?_replicate]
theorem zXP {x k : Nat} {K : Int} (hK : K = (k : Int)) (h : x < k) : uI (decide (0 ≤ (x : Int)) && decide ((x : Int) < K)) = some () := by
 subst hK
 simp [uI]; omega
theorem zXf : ∀ n, n < 41 → zIu (IntKind.u64.wrap 1) (IntKind.u64.wrap ((n : Nat) : Int)) = some (0, (n : Int)) := by decide +kernel
theorem zUb {n c : Nat} (x : Int) (hc : c ≤ n) : tX (qK n fun i => if i < c then x else 0) (c : Int) (qK c fun i => if i < c then x else 0) = qK n fun i => if i < min (c + c) n then x else 0 := by
 unfold tX
 apply List.ext_getElem?
 intro i
 rw [Int.toNat_natCast, zDc, zDc, zTF _ hc]
 rw [List.getElem?_append, List.getElem?_append, List.length_append, zDc, List.length_take, zDc, List.getElem?_take, List.getElem?_drop]
 rw [zIb, zIb, zIb, zIb]
 by_cases h1 : i < c
 ·have h2 : i < c + min (n - c) c := by omega
  have h3 : i < n := by omega
  have h4 : i < min (c + c) n := by omega
  simp only [h1, h2, h3, h4, if_true]
 ·by_cases h2 : i < c + min (n - c) c
  ·have h3 : i < n := by omega
   have h4 : i < min (c + c) n := by omega
   have h5 : i - c < n - c := by omega
   have h6 : i - c < c := by omega
   simp only [h1, h2, h3, h4, h5, h6, if_true, if_false]
  ·by_cases h3 : i < n
   ·have h4 : c + c + (i - (c + min (n - c) c)) = i := by omega
    have h5 : ¬ i < min (c + c) n := by omega
    rw [h4]
    simp only [h1, h2, h3, h5, if_true, if_false]
   ·have h4 : ¬ c + c + (i - (c + min (n - c) c)) < n := by omega
    simp only [h1, h2, h3, h4, if_false]
theorem zVl (x : Int) {n : Nat} (hn : n ≤ 40) : zBq [x] (n : Int) = some (qK n fun _ => x) := by
 unfold zBq
 have h0 : decide ((n : Int) < 0) = false := decide_eq_false (by omega)
 have h1 : IntKind.u64.wrap (len [x]) = IntKind.u64.wrap 1 := rfl
 have h2 : (decide ((0 : Int) < 0) || decide (9223372036854775807 < (n : Int))) = false := by simp; omega
 simp only [h0, zbf, if_false, zob, h1, zXf n (by omega), h2, z0G n (by omega)]
 rw [zX2 (by omega)]
 simp only [zob, zDc]
 have hs : tX (qK n fun _ => (0 : Int)) 0 [x] = qK n fun i => if i < min 1 n then x else 0 := by
  cases n with
  | zero => rfl
  | succ n =>
   unfold tX qK
   rw [List.range_succ_eq_map]
   simp only [List.map_cons, List.map_map]
   have h4 : min 1 (n + 1) = 1 := by omega
   simp [Function.comp_def, h4]
 rw [hs]
 have hm : ((Nat.min (List.length [x]) n : Nat) : Int) = ((min 1 n : Nat) : Int) := rfl
 rw [hm]
 have hl := zUy (B := zFN (qK n fun _ => 0)) (fun s => n - s.2.toNat) (fun s => ∃ c : Nat, c ≤ n ∧ min 1 n ≤ c ∧ s = (qK n (fun i => if i < c then x else 0), (c : Int))) (fun r => r = qK n fun _ => x) ?_ (qK n (fun i => if i < min 1 n then x else 0), ((min 1 n : Nat) : Int)) ⟨min 1 n, by omega, Nat.le_refl _, rfl⟩
 ·obtain ⟨r, h3, rfl⟩ := hl
  exact h3
 ·rintro _ ⟨c, hc, h1c, rfl⟩
  unfold zFN
  by_cases hlt : c < n
  ·refine .inl ⟨(qK n (fun i => if i < min (c + c) n then x else 0), ((min (c + c) n : Nat) : Int)), ?_, ⟨min (c + c) n, by omega, by omega, rfl⟩, ?_⟩
   ·have hd : decide ((c : Int) < len (qK n fun _ => (0 : Int))) = true := decide_eq_true (by simp only [len, zDc]; omega)
    have hck : (decide (0 ≤ (c : Int)) && decide ((c : Int) ≤ len (qK n fun i => if i < c then x else 0))) = true := by
     rw [decide_eq_true (show 0 ≤ (c : Int) by omega), decide_eq_true (show (c : Int) ≤ len (qK n fun i => if i < c then x else 0) by simp only [len, zDc]; omega)]
     rfl
    simp only [hd, if_true, hck, uI, zob]
    rw [zLl (by omega) (by rw [zDc]; omega)]
    simp only [zob, Int.toNat_natCast, zTF _ hc, zUb x hc, zDc]
    have hnum : ((Nat.min c (Int.toNat (((n : Nat) : Int) - (c : Int))) : Nat) : Int) = ((min c (n - c) : Nat) : Int) := by
     have : Int.toNat (((n : Nat) : Int) - (c : Int)) = n - c := by omega
     rw [this]
    rw [hnum, xJ (by omega) (by omega)]
    congr 3
    omega
   ·simp only [Int.toNat_natCast]
    omega
  ·have hcn : c = n := by omega
   subst hcn
   have hd : decide ((c : Int) < len (qK c fun _ => (0 : Int))) = false := by simp [len, zDc]
   refine .inr ⟨qK c fun i => if i < c then x else 0, by simp only [hd, zbf, if_false], ?_⟩
   apply xG
   intro i hi
   simp [hi]
section
variable (N : Nat) (L : List wQ)
noncomputable def tO : Nat → Nat → Int
 | 0, _ => 0
 | k + 1, i => if wV N L (k + 1) i = wV N L k i then tO k i else ((k + 1 : Nat) : Int)
theorem zZ1 : ∀ k i, tO N L k i ≤ (k : Int)
 | 0, _ => Int.le_refl _
 | k + 1, i => by
  unfold tO
  have := zZ1 k i
  split <;> omega
theorem zXY (k i : Nat) : wV N L k i = 1 ∨ wV N L k i = 2 ∨ wV N L k i = 3 := by
 unfold wV
 by_cases h1 : uK N L k i
 ·simp [h1]
 ·by_cases h2 : tH (uY L) (uK N L k) i <;> simp [h1, h2]
theorem now3 {k i : Nat} (h : yF N L k i) : wV N L k i = 3 := (z04 N L).2 ⟨h.2, fun ⟨m, h3, h4⟩ => zOc N L h3 (h.1.2 m h4)⟩
theorem zYH {k i : Nat} (h : wV N L k i = 2) : wV N L (k + 1) i = 2 := (zTI N L).2 (by obtain ⟨m, h1, h2⟩ := (zTI N L).1 h; exact ⟨m, zNK h1, h2⟩)
theorem zRp {k : Nat} (h : ∀ i, ¬ yF N L k i) : ∀ m, k ≤ m → ∀ i, wV N L m i = wV N L k i := by
 intro m hm i
 have hs := zWm (D := (· < N)) (R := uY L) (k := k) fun i hi => Classical.byContradiction fun hn => h i ⟨hi, hn⟩
 have he : ∀ i, uK N L m i ↔ uK N L k i := fun i => ⟨hs m hm i, z0W hm⟩
 unfold wV
 have ha : tH (uY L) (uK N L m) i ↔ tH (uY L) (uK N L k) i := ⟨fun ⟨j, h1, h2⟩ => ⟨j, (he j).1 h1, h2⟩, fun ⟨j, h1, h2⟩ => ⟨j, (he j).2 h1, h2⟩⟩
 by_cases h1 : uK N L k i
 ·rw [if_pos ((he i).2 h1), if_pos h1]
 ·rw [if_neg (fun h => h1 ((he i).1 h)), if_neg h1]
  by_cases h2 : tH (uY L) (uK N L k) i
  ·rw [if_pos (ha.2 h2), if_pos h2]
  ·rw [if_neg (fun h => h2 (ha.1 h)), if_neg h2]
theorem zXI {k : Nat} (h : ∀ i, ¬ yF N L k i) : ∀ m, k ≤ m → ∀ i, tO N L m i = tO N L k i := by
 intro m hm i
 induction m with
 | zero => rw [show k = 0 by omega]
 | succ m ih =>
  by_cases he : k = m + 1
  ·rw [he]
  ·have h1 : wV N L (m + 1) i = wV N L m i := by rw [zRp N L h (m + 1) hm, zRp N L h m (by omega)]
   rw [tO, if_pos h1, ih (by omega)]
theorem zSE {i : Nat} : ¬ yF N L N i := fun h => h.2 (zZx (D := (· < N)) (fun _ h => h) h.1)
end
section
variable {N : Nat} {L : List wQ}
noncomputable abbrev lb (N : Nat) (L : List wQ) (k : Nat) : List Int := qK N (wV N L k)
noncomputable abbrev rn (N : Nat) (L : List wQ) (k : Nat) : List Int := qK N (tO N L k)
noncomputable def zN6 (N : Nat) (L : List wQ) : List Int := lb N L (N + 1)
noncomputable def zWd (N : Nat) (L : List wQ) : List Int := rn N L (N + 1)
theorem zRk : lb N L 0 = qK N fun _ => 3 := xG fun i _ => (z04 N L).2 ⟨fun h : uK N L 0 i => h.elim, fun ⟨m, (h : uK N L 0 m), _⟩ => h.elim⟩
theorem zXG {k : Nat} (hk : k ≤ N) (h : ∀ i, ¬ yF N L k i) : lb N L k = zN6 N L ∧ rn N L k = zWd N L := by
 refine ⟨xG fun i _ => (zRp N L h (N + 1) (by omega) i).symm, xG fun i _ => (zXI N L h (N + 1) (by omega) i).symm⟩
theorem yO.hR (h : yO N L) : ∀ a b : Int, ed L a b = true → ∃ m, m < N ∧ a = (m : Int) := fun a b he => by
 obtain ⟨i, j, h1, _, h3, _⟩ := h.inN a b he
 exact ⟨i, h1, h3⟩
theorem zUD {i : Int} {q : Nat} {x : Int} (h : (zQp N L i)[q]? = some x) : ∃ a : Nat, x = (a : Int) ∧ a < N ∧ ed L (a : Int) i = true := by
 obtain ⟨h1, h2⟩ := List.mem_filter.1 (yT h)
 obtain ⟨h3, h4⟩ := xH.1 h1
 obtain ⟨a, rfl⟩ := Int.eq_ofNat_of_zero_le h3
 exact ⟨a, rfl, by omega, h2⟩
theorem zRl (i : Int) : (zQp N L i).length ≤ N := Nat.le_trans (List.length_filter_le _ _) (by rw [xF]; exact Nat.le_refl _)
theorem zV5 (i : Int) : (zK9 N L i).length ≤ N := Nat.le_trans (List.length_filter_le _ _) (by rw [xF]; exact Nat.le_refl _)
theorem zZf (hN : N ≤ 40) : zZ (zEh ((N : Int), L)) (([] : List Int), ([] : List Int), 0) = some (lb N L 0, rn N L 0) := by
 have h := yW (B := zEh ((N : Int), L)) (fun i (s : List Int × List Int) => (s.1, s.2, (i : Int))) (vA N) (fun i s => s = (qK i (fun _ => 3), qK i fun _ => 0)) (fun r => r = (qK N (fun _ => 3), qK N fun _ => 0)) ?_ ?_ ([], []) rfl
 ·obtain ⟨r, h1, rfl⟩ := h
  rw [zRk]; exact h1
 ·rintro i x s hx rfl
  obtain ⟨rfl, hi⟩ := zJv hx
  refine .inl ⟨(qK (i + 1) (fun _ => 3), qK (i + 1) fun _ => 0), ?_, rfl⟩
  have hd : decide ((i : Int) < (N : Int)) = true := by simp; omega
  unfold zEh
  simp only [hd, if_true]
  rw [yJ (by simp [zDc]; omega), yJ (by simp [zDc]; omega)]
  simp only [zob, zX6, yA i (by omega)]
 ·rintro s rfl
  rw [xF]
  refine ⟨_, ?_, rfl⟩
  unfold zEh
  simp
theorem zZo (f : Nat → Int) {l : List Int} (hl : ∀ (q : Nat) x, l[q]? = some x → ∃ a : Nat, x = (a : Int) ∧ a < N) (hb : l.length < 4294967296) (ok : Bool) :
  zZ (zEj l (qK N f)) (ok, 0) = some (ok && l.all fun b => f b.toNat == 2) := by
 have h := zEz (B := zEj l (qK N f)) l (fun ok b => ok && f b.toNat == 2) id (fun _ _ => True) ok trivial ?_ ?_
 ·rw [h.1]
  have : ∀ (l : List Int) (ok : Bool), l.foldl (fun ok b => ok && f b.toNat == 2) ok = (ok && l.all fun b => f b.toNat == 2) := by
   intro l
   induction l with
   | nil => intro b; simp
   | cons x l ih => intro b; rw [List.foldl_cons, ih, List.all_cons, Bool.and_assoc]
  rw [this]; rfl
 ·intro i x s hx _
  obtain ⟨a, rfl, ha⟩ := hl i x hx
  unfold zEj
  simp only [vK hx, if_true, vF hx, zob, vG hx hb, zHs f ha, Int.toNat_natCast]
  cases s <;> simp
 ·intro s _
  unfold zEj
  simp [len]
theorem zXA (h : yO N L) {k i : Nat} (hi : i < N) : (wV N L k i == 3 && (zQp N L (i : Int)).all fun b => wV N L k b.toNat == 2) = true ↔ yF N L k i := by
 rw [← zXm N L hi h.hR, Bool.and_eq_true, beq_iff_eq, List.all_eq_true]
 refine and_congr_right fun _ => ⟨fun hh b hb he => ?_, fun hh x hx => ?_⟩
 ·have := hh (b : Int) (List.mem_filter.2 ⟨xH.2 ⟨by omega, by omega⟩, he⟩)
  simpa using this
 ·obtain ⟨h1, h2⟩ := List.mem_filter.1 hx
  obtain ⟨h3, h4⟩ := xH.1 h1
  obtain ⟨a, rfl⟩ := Int.eq_ofNat_of_zero_le h3
  simpa using hh a (by omega) h2
open Classical in
noncomputable def uB (N : Nat) (L : List wQ) (k i : Nat) : Int := if yF N L k i then 1 else wV N L k i
open Classical in
noncomputable def tF (N : Nat) (L : List wQ) (k i : Nat) : Int := if yF N L k i then ((k + 1 : Nat) : Int) else tO N L k i
open Classical in
theorem z0J (h : yO N L) {k : Nat} (hk : k ≤ 100) : ∃ c : Bool, (c = true ↔ ∃ i, yF N L k i) ∧
  zZ (zEq ((N : Int), L) (lb N L k) (lb N L k, rn N L k, ((k + 1 : Nat) : Int))) (lb N L k, rn N L k, false, 0) = some (qK N (uB N L k), qK N (tF N L k), c) := by
 have hN := h.hN
 have hl := yW (B := zEq ((N : Int), L) (lb N L k) (lb N L k, rn N L k, ((k + 1 : Nat) : Int))) (fun i (s : List Int × List Int × Bool) => (s.1, s.2.1, s.2.2, (i : Int))) (vA N)
  (fun i s => s.1 = qK N (fun j => if j < i ∧ yF N L k j then 1 else wV N L k j) ∧ s.2.1 = qK N (fun j => if j < i ∧ yF N L k j then ((k + 1 : Nat) : Int) else tO N L k j) ∧ (s.2.2 = true ↔ ∃ j, j < i ∧ yF N L k j))
  (fun r => r.1 = qK N (uB N L k) ∧ r.2.1 = qK N (tF N L k) ∧ (r.2.2 = true ↔ ∃ j, yF N L k j)) ?_ ?_ (lb N L k, rn N L k, false) ⟨by simp, by simp, by simp⟩
 ·obtain ⟨⟨r1, r2, r3⟩, h1, rfl, rfl, h2⟩ := hl
  exact ⟨r3, h2, h1⟩
 ·rintro i x ⟨s1, s2, s3⟩ hx ⟨rfl, rfl, h3⟩
  obtain ⟨rfl, hi⟩ := zJv hx
  have hd : decide ((i : Int) < (N : Int)) = true := by simp; omega
  have hpl := zRl (N := N) (L := L) (i : Int)
  unfold zEq
  simp only [hd, if_true, zHs _ hi, zob, zMT h, yA i (by omega), Int.toNat_natCast]
  rw [zZo _ (fun q x hx => by obtain ⟨a, h1, h2, _⟩ := zUD hx; exact ⟨a, h1, h2⟩) (by omega)]
  simp only [zob]
  by_cases hn : yF N L k i
  ·have hc := (zXA h hi).2 hn
   refine .inl ⟨(qK N (fun j => if j < i + 1 ∧ yF N L k j then 1 else wV N L k j), qK N (fun j => if j < i + 1 ∧ yF N L k j then ((k + 1 : Nat) : Int) else tO N L k j), true), ?_, rfl, rfl, by simp; exact ⟨i, by omega, hn⟩⟩
   simp only [hc, if_true, zKm]
   have e1 : (qK N fun j => if j = i then 1 else if j < i ∧ yF N L k j then 1 else wV N L k j) = qK N (fun j => if j < i + 1 ∧ yF N L k j then 1 else wV N L k j) := by
    apply xG
    intro q _
    by_cases hq : q = i
    ·subst hq; simp [hn]
    ·have e : (q < i + 1) = (q < i) := by rw [eq_iff_iff]; omega
     simp [hq, e]
   have e2 : (qK N fun j => if j = i then ((k + 1 : Nat) : Int) else if j < i ∧ yF N L k j then ((k + 1 : Nat) : Int) else tO N L k j) = qK N (fun j => if j < i + 1 ∧ yF N L k j then ((k + 1 : Nat) : Int) else tO N L k j) := by
    apply xG
    intro q _
    by_cases hq : q = i
    ·subst hq; simp [hn]
    ·have e : (q < i + 1) = (q < i) := by rw [eq_iff_iff]; omega
     simp [hq, e]
   rw [e1, e2]
  ·have hc : (wV N L k i == 3 && (zQp N L (i : Int)).all fun b => wV N L k b.toNat == 2) = false := by
    cases hb : (wV N L k i == 3 && (zQp N L (i : Int)).all fun b => wV N L k b.toNat == 2) with
    | false => rfl
    | true => exact absurd ((zXA h hi).1 hb) hn
   have e : ∀ q, (q < i + 1 ∧ yF N L k q) ↔ (q < i ∧ yF N L k q) := fun q => ⟨fun ⟨h1, h2⟩ => ⟨by
    by_cases hq : q = i
    ·subst hq; exact absurd h2 hn
    ·omega, h2⟩, fun ⟨h1, h2⟩ => ⟨by omega, h2⟩⟩
   refine .inl ⟨(qK N (fun j => if j < i + 1 ∧ yF N L k j then 1 else wV N L k j), qK N (fun j => if j < i + 1 ∧ yF N L k j then ((k + 1 : Nat) : Int) else tO N L k j), s3), ?_, rfl, rfl, ?_⟩
   ·simp only [hc, zbf, if_false, e]
   ·simp only [e]; exact h3
 ·rintro ⟨s1, s2, s3⟩ ⟨rfl, rfl, h3⟩
  rw [xF]
  refine ⟨(qK N (uB N L k), qK N (tF N L k), s3), ?_, rfl, rfl, ?_⟩
  ·unfold zEq
   simp only [Int.lt_irrefl, decide_false, zbf, if_false]
   have e1 : (qK N fun j => if j < N ∧ yF N L k j then 1 else wV N L k j) = qK N (uB N L k) := xG fun q hq => by simp [uB, hq]
   have e2 : (qK N fun j => if j < N ∧ yF N L k j then ((k + 1 : Nat) : Int) else tO N L k j) = qK N (tF N L k) := xG fun q hq => by simp [tF, hq]
   rw [e1, e2]
  ·rw [h3]
   exact ⟨fun ⟨j, _, h1⟩ => ⟨j, h1⟩, fun ⟨j, h1⟩ => ⟨j, by rw [xF]; exact zQn (D := (· < N)) h1.1, h1⟩⟩
theorem zZ6 {f g : Nat → Int} {i : Nat} (hi : i < N) (rd : Int) (l1 l2 s1 s2 : List Int) {l : List Int} (hl : ∀ (q : Nat) x, l[q]? = some x → ∃ a : Nat, x = (a : Int) ∧ a < N) (hb : l.length < 4294967296) (hii : i < 1000) :
  zZ (zEu l (s1, s2, (i : Int)) (l1, l2, rd)) (qK N f, qK N g, 0) =
   some (.inl (qK N (fun j => if j = i ∧ f i = 3 ∧ (l.any fun b => f b.toNat == 1 && g b.toNat == rd) = true then 2 else f j), qK N (fun j => if j = i ∧ f i = 3 ∧ (l.any fun b => f b.toNat == 1 && g b.toNat == rd) = true then rd else g j), ((i + 1 : Nat) : Int))) := by
 have h := yW (B := zEu l (s1, s2, (i : Int)) (l1, l2, rd)) (fun q (s : List Int × List Int) => (s.1, s.2, (q : Int))) l
  (fun q s => s.1 = qK N (fun j => if j = i ∧ f i = 3 ∧ ((l.take q).any fun b => f b.toNat == 1 && g b.toNat == rd) = true then 2 else f j) ∧ s.2 = qK N (fun j => if j = i ∧ f i = 3 ∧ ((l.take q).any fun b => f b.toNat == 1 && g b.toNat == rd) = true then rd else g j))
  (fun r => r = .inl (qK N (fun j => if j = i ∧ f i = 3 ∧ (l.any fun b => f b.toNat == 1 && g b.toNat == rd) = true then 2 else f j), qK N (fun j => if j = i ∧ f i = 3 ∧ (l.any fun b => f b.toNat == 1 && g b.toNat == rd) = true then rd else g j), ((i + 1 : Nat) : Int))) ?_ ?_ (qK N f, qK N g) ⟨by simp, by simp⟩
 ·obtain ⟨r, h1, rfl⟩ := h
  exact h1
 ·rintro q x ⟨t1, t2⟩ hx ⟨rfl, rfl⟩
  obtain ⟨a, rfl, ha⟩ := hl q x hx
  have hta : ((l.take (q + 1)).any fun b => f b.toNat == 1 && g b.toNat == rd) = (((l.take q).any fun b => f b.toNat == 1 && g b.toNat == rd) || (f a == 1 && g a == rd)) := by
   rw [zIf _ hx]; simp
  unfold zEu
  simp only [vK hx, if_true, vF hx, zob, vG hx hb, zHs _ hi, zHs _ ha, Int.toNat_natCast, hta]
  cases hA : ((l.take q).any fun b => f b.toNat == 1 && g b.toNat == rd) with
  | true =>
   refine .inl ⟨(qK N (fun j => if j = i ∧ f i = 3 then 2 else f j), qK N (fun j => if j = i ∧ f i = 3 then rd else g j)), ?_, by simp, by simp⟩
   by_cases h3 : f i = 3
   ·simp [h3]
   ·have : (f i == 3) = false := by simpa using h3
    simp [h3, this]
  | false =>
   by_cases h3 : f i = 3
   ·have hai : a = i → (f a == 1) = false := fun e => by subst e; rw [h3]; rfl
    cases h1 : (f a == 1 && g a == rd) with
    | true =>
     refine .inl ⟨(qK N (fun j => if j = i then 2 else f j), qK N (fun j => if j = i then rd else g j)), ?_, by simp [h3], by simp [h3]⟩
     rw [Bool.and_eq_true] at h1
     simp [h3, h1.1, h1.2, zKm]
    | false =>
     refine .inl ⟨(qK N f, qK N g), ?_, by simp, by simp⟩
     cases h4 : f a == 1 with
     | false => simp [h3, h4]
     | true =>
      rw [h4, Bool.true_and] at h1
      simp [h3, h4, h1]
   ·have h3' : (f i == 3) = false := by simpa using h3
    refine .inl ⟨(qK N f, qK N g), by simp [h3', h3], by simp [h3], by simp [h3]⟩
 ·rintro ⟨t1, t2⟩ ⟨rfl, rfl⟩
  rw [List.take_length]
  refine ⟨_, ?_, rfl⟩
  unfold zEu
  simp only [yL, zbf, if_false, yA i (by omega)]
theorem zUu (h : yO N L) {k b : Nat} (hb : uB N L k b = 1) : (tF N L k b == ((k + 1 : Nat) : Int)) = true ↔ yF N L k b := by
 unfold tF
 by_cases hn : yF N L k b
 ·simp [hn]
 ·have := zZ1 N L k b
  simp only [hn, if_false, iff_false, beq_iff_eq]
  omega
theorem zZw (h : yO N L) {k : Nat} {f g : Nat → Int} (hf : ∀ b, f b = 1 ↔ uB N L k b = 1) (hg : ∀ b, f b = 1 → g b = tF N L k b) (i : Nat) :
  ((zQp N L (i : Int)).any fun b => f b.toNat == 1 && g b.toNat == ((k + 1 : Nat) : Int)) = true ↔ tH (uY L) (yF N L k) i := by
 rw [List.any_eq_true]
 constructor
 ·rintro ⟨x, hx, h1⟩
  obtain ⟨h2, h3⟩ := List.mem_filter.1 hx
  obtain ⟨h4, h5⟩ := xH.1 h2
  obtain ⟨a, rfl⟩ := Int.eq_ofNat_of_zero_le h4
  rw [Bool.and_eq_true, Int.toNat_natCast, beq_iff_eq] at h1
  rw [hg a h1.1] at h1
  exact ⟨a, (zUu h ((hf a).1 h1.1)).1 h1.2, h3⟩
 ·rintro ⟨m, h1, h2⟩
  have hm : m < N := zQn (D := (· < N)) h1.1
  have h3 : uB N L k m = 1 := by simp [uB, h1]
  have h4 := (hf m).2 h3
  refine ⟨(m : Int), List.mem_filter.2 ⟨xH.2 ⟨by omega, by omega⟩, h2⟩, ?_⟩
  rw [Bool.and_eq_true, Int.toNat_natCast, beq_iff_eq]
  refine ⟨h4, ?_⟩
  rw [hg m h4]
  exact (zUu h h3).2 h1
theorem zYj (k i : Nat) : wV N L (k + 1) i = (open Classical in if uB N L k i = 3 ∧ tH (uY L) (yF N L k) i then 2 else uB N L k i) := by
 rw [zSR]
 unfold uB
 by_cases hn : yF N L k i
 ·simp [hn]
 ·rw [if_neg hn, if_neg hn]
theorem zYp (k i : Nat) : tO N L (k + 1) i = (open Classical in if uB N L k i = 3 ∧ tH (uY L) (yF N L k) i then ((k + 1 : Nat) : Int) else tF N L k i) := by
 rw [tO, zSR]
 unfold uB tF
 by_cases hn : yF N L k i
 ·have := now3 N L hn
  simp [hn, this]
 ·by_cases h1 : wV N L k i = 3 ∧ tH (uY L) (yF N L k) i
  ·simp [hn, h1]
  ·simp [hn, h1]
open Classical in
theorem zZn (h : yO N L) {k : Nat} (hk : k ≤ 100) (l1 l2 : List Int) :
  zZ (zEt ((N : Int), L) (l1, l2, ((k + 1 : Nat) : Int))) (qK N (uB N L k), qK N (tF N L k), 0) = some (lb N L (k + 1), rn N L (k + 1)) := by
 have hN := h.hN
 let c (j : Nat) : Prop := uB N L k j = 3 ∧ tH (uY L) (yF N L k) j
 let F (i j : Nat) : Int := if j < i ∧ c j then 2 else uB N L k j
 let G (i j : Nat) : Int := if j < i ∧ c j then ((k + 1 : Nat) : Int) else tF N L k j
 have hF : ∀ i b, F i b = 1 ↔ uB N L k b = 1 := fun i b => by
  show (if b < i ∧ c b then 2 else uB N L k b) = 1 ↔ _
  by_cases hc : b < i ∧ c b
  ·rw [if_pos hc, hc.2.1]; simp
  ·rw [if_neg hc]
 have hG : ∀ i b, F i b = 1 → G i b = tF N L k b := fun i b hb => by
  have h1 := (hF i b).1 hb
  show (if b < i ∧ c b then ((k + 1 : Nat) : Int) else tF N L k b) = _
  rw [if_neg (fun hc => by have := hc.2.1; omega)]
 have hl := yW (B := zEt ((N : Int), L) (l1, l2, ((k + 1 : Nat) : Int))) (fun i (s : List Int × List Int) => (s.1, s.2, (i : Int))) (vA N)
  (fun i s => s = (qK N (F i), qK N (G i))) (fun r => r = (lb N L (k + 1), rn N L (k + 1))) ?_ ?_ (qK N (uB N L k), qK N (tF N L k)) (by simp [F, G])
 ·obtain ⟨r, h1, rfl⟩ := hl
  exact h1
 ·rintro i x s hx rfl
  obtain ⟨rfl, hi⟩ := zJv hx
  have hd : decide ((i : Int) < (N : Int)) = true := by simp; omega
  have hpl := zRl (N := N) (L := L) (i : Int)
  refine .inl ⟨_, ?_, rfl⟩
  unfold zEt
  simp only [hd, if_true, zMT h, zob]
  rw [zZ6 hi _ _ _ _ _ (fun q x hx => by obtain ⟨a, h1, h2, _⟩ := zUD hx; exact ⟨a, h1, h2⟩) (by omega) (by omega)]
  have hfi : F i i = uB N L k i := by simp [F]
  have e0 : ∀ j, (j = i ∧ F i i = 3 ∧ ((zQp N L (i : Int)).any fun b => F i b.toNat == 1 && G i b.toNat == ((k + 1 : Nat) : Int)) = true) ↔ j = i ∧ c i := fun j => by
   rw [zZw h (hF i) (hG i) i, hfi]
  congr 3
  ·apply xG
   intro q _
   by_cases hq : q = i
   ·subst hq
    by_cases hc : c q
    ·rw [if_pos ((e0 q).2 ⟨rfl, hc⟩)]; simp [F, hc]
    ·rw [if_neg (fun hh => hc ((e0 q).1 hh).2)]; simp [F, hc]
   ·have e : (q < i + 1) = (q < i) := by rw [eq_iff_iff]; omega
    rw [if_neg (fun hh => hq hh.1)]
    simp [F, e]
  ·congr 1
   apply xG
   intro q _
   by_cases hq : q = i
   ·subst hq
    by_cases hc : c q
    ·rw [if_pos ((e0 q).2 ⟨rfl, hc⟩)]; simp [G, hc]
    ·rw [if_neg (fun hh => hc ((e0 q).1 hh).2)]; simp [G, hc]
   ·have e : (q < i + 1) = (q < i) := by rw [eq_iff_iff]; omega
    rw [if_neg (fun hh => hq hh.1)]
    simp [G, e]
 ·rintro s rfl
  rw [xF]
  refine ⟨_, ?_, rfl⟩
  unfold zEt
  simp only [Int.lt_irrefl, decide_false, zbf, if_false]
  have e1 : qK N (F N) = lb N L (k + 1) := xG fun q hq => by rw [zYj]; simp [F, hq, c]
  have e2 : qK N (G N) = rn N L (k + 1) := xG fun q hq => by rw [zYp]; simp [G, hq, c]
  rw [e1, e2]
theorem zUg (h : yO N L) : zIg ((N : Int), L) = some (zN6 N L, zWd N L) := by
 have hN := h.hN
 unfold zIg
 rw [zZf hN]
 simp only [zob]
 have hstep : ∀ k, k ≤ N → ∃ c : Bool, (c = true ↔ ∃ i, yF N L k i) ∧ zG1 ((N : Int), L) (lb N L k, rn N L k, ((k + 1 : Nat) : Int)) = if !c then some (.inr (lb N L (k + 1), rn N L (k + 1))) else some (.inl (lb N L (k + 1), rn N L (k + 1), ((k + 2 : Nat) : Int))) := by
  intro k hk
  obtain ⟨c, hc, h3⟩ := z0J h (k := k) (by omega)
  refine ⟨c, hc, ?_⟩
  unfold zG1
  rw [yJ (by rw [zDc]; simp; omega)]
  simp only [List.nil_append, zob, h3, zZn h (show k ≤ 100 by omega)]
  rw [yA (k + 1) (by omega)]
 have hl := zR0 (B := zG1 ((N : Int), L)) (fun (_ : Unit) k => (lb N L k, rn N L k, ((k + 1 : Nat) : Int))) N (fun _ _ => True) (fun r => r = (zN6 N L, zWd N L)) ?_ ?_ () trivial
 ·obtain ⟨r, h1, rfl⟩ := hl
  exact h1
 ·intro k _ hk _
  obtain ⟨c, hc, h1⟩ := hstep k (by omega)
  rw [h1]
  cases c with
  | true => exact .inl ⟨(), rfl, trivial⟩
  | false =>
   have hno : ∀ i, ¬ yF N L k i := fun i hi => by have := hc.2 ⟨i, hi⟩; cases this
   obtain ⟨e1, e2⟩ := zXG (by omega) hno
   refine .inr ⟨_, rfl, ?_⟩
   rw [← e1, ← e2]
   exact Prod.ext (xG fun i _ => zRp N L hno (k + 1) (by omega) i) (xG fun i _ => zXI N L hno (k + 1) (by omega) i)
 ·intro _ _
  obtain ⟨c, hc, h1⟩ := hstep N (Nat.le_refl _)
  rw [h1]
  cases c with
  | true => obtain ⟨i, hi⟩ := hc.1 rfl; exact absurd hi (zSE N L)
  | false => exact ⟨_, rfl, rfl⟩
theorem zUJ (h : yO N L) : zIj ((N : Int), L) = some (zN6 N L) := by
 unfold zIj
 rw [zUg h]
 rfl
end
end
section
section
variable {N : Nat} {L : List wQ}
theorem z0B (h : yO N L) (i : Int) : (L.filter fun p => p.2 == i).map (·.1) = zQp N L i := by
 apply yB.ext xI ?_ ((zIV N).filter _)
 ·intro x
  rw [List.mem_map, List.mem_filter, xH, zTM]
  constructor
  ·rintro ⟨p, hp, rfl⟩
   obtain ⟨h1, h2⟩ := List.mem_filter.1 hp
   have h3 : p.2 = i := by simpa using h2
   obtain ⟨a, b, h4, h5, h6⟩ := zJj (h.inr p h1)
   subst h6
   exact ⟨⟨by show (0 : Int) ≤ (a : Int); omega, by show (a : Int) < (N : Int); omega⟩, by rw [← h3]; exact h1⟩
  ·rintro ⟨_, h1⟩
   exact ⟨_, List.mem_filter.2 ⟨h1, by simp⟩, rfl⟩
 ·have h1 := h.asc.filter fun p : wQ => p.2 == i
  rw [yB, List.pairwise_map]
  refine List.Pairwise.imp_of_mem ?_ h1
  intro p q hp hq hlt
  have h2 : p.2 = i := by simpa using (List.mem_filter.1 hp).2
  have h3 : q.2 = i := by simpa using (List.mem_filter.1 hq).2
  simp only [xT, zSI, h2, h3, xI.irrefl, Bool.and_false, Bool.or_false] at hlt
  exact hlt
def wZ (N : Nat) (L : List wQ) (f : Nat → Int) (j : Nat) : Nat := ((zQp N L (j : Int)).filter fun b => !(f b.toNat == 2)).length
theorem cnt_le (f : Nat → Int) (j : Nat) : wZ N L f j ≤ N := Nat.le_trans (List.length_filter_le _ _) (zRl _)
theorem zVV {f : Nat → Int} {j : Nat} : wZ N L f j = 0 ↔ ∀ b, b < N → uY L b j → f b = 2 := by
 unfold wZ
 rw [List.length_eq_zero_iff, List.filter_eq_nil_iff]
 constructor
 ·intro h b hb he
  have := h (b : Int) (List.mem_filter.2 ⟨xH.2 ⟨by omega, by omega⟩, he⟩)
  simpa using this
 ·intro h x hx
  obtain ⟨h1, h2⟩ := List.mem_filter.1 hx
  obtain ⟨h3, h4⟩ := xH.1 h1
  obtain ⟨a, rfl⟩ := Int.eq_ofNat_of_zero_le h3
  simp [h a (by omega) h2]
theorem zR2 {α : Type} [DecidableEq α] {p q : α → Bool} {x : α} : ∀ {l : List α}, l.Nodup → x ∈ l → p x = true → q x = false → (∀ y ∈ l, y ≠ x → p y = q y) → (l.filter p).length = (l.filter q).length + 1
 | [], _, hx, _, _, _ => by cases hx
 | y :: l, hn, hx, h1, h2, h3 => by
  obtain ⟨hy, hl⟩ := List.nodup_cons.1 hn
  by_cases he : y = x
  ·subst he
   have : l.filter p = l.filter q := List.filter_congr fun z hz => h3 z (List.mem_cons_of_mem _ hz) fun e => by subst e; exact hy hz
   simp [h1, h2, this]
  ·have hm : x ∈ l := by
    rcases List.mem_cons.1 hx with h | h
    ·exact absurd h.symm he
    ·exact h
   have ih := zR2 hl hm h1 h2 fun z hz => h3 z (List.mem_cons_of_mem _ hz)
   have hpq := h3 y List.mem_cons_self he
   cases hq : q y with
   | true => simp [hpq, hq, ih]
   | false => simp [hpq, hq, ih]
theorem zZs {f : Nat → Int} {a : Nat} (ha : a < N) (h3 : f a = 3) (j : Nat) :
  wZ N L f j = wZ N L (fun b => if b = a then 2 else f b) j + (if ed L (a : Int) (j : Int) = true then 1 else 0) := by
 unfold wZ
 by_cases he : ed L (a : Int) (j : Int) = true
 ·rw [if_pos he]
  refine zR2 (x := (a : Int)) ?_ (List.mem_filter.2 ⟨xH.2 ⟨by omega, by omega⟩, he⟩) (by simp [h3]) (by simp) ?_
  ·exact ((zIV N).filter _).imp fun {x y} hh e => by subst e; simp at hh
  ·intro y hy hne
   obtain ⟨h1, h2⟩ := List.mem_filter.1 hy
   obtain ⟨h4, h5⟩ := xH.1 h1
   obtain ⟨b, rfl⟩ := Int.eq_ofNat_of_zero_le h4
   have h6 : b ≠ a := fun e => hne (by rw [e])
   simp [h6]
 ·rw [if_neg he, Nat.add_zero]
  congr 1
  apply List.filter_congr
  intro x hx
  obtain ⟨h1, h2⟩ := List.mem_filter.1 hx
  obtain ⟨h4, h5⟩ := xH.1 h1
  obtain ⟨b, rfl⟩ := Int.eq_ofNat_of_zero_le h4
  have hne : b ≠ a := fun e => by subst e; exact he h2
  simp [hne]
theorem zPh {k b : Nat} : uB N L k b = 2 ↔ wV N L k b = 2 := by
 unfold uB
 by_cases h : yF N L k b
 ·have := now3 N L h
  simp [h, this]
 ·rw [if_neg h]
theorem zPq {f f' : Nat → Int} (h : ∀ b, b < N → (f b = 2 ↔ f' b = 2)) (j : Nat) : wZ N L f j = wZ N L f' j := by
 unfold wZ
 congr 1
 apply List.filter_congr
 intro x hx
 obtain ⟨h4, h5⟩ := xH.1 (List.mem_filter.1 hx).1
 obtain ⟨b, rfl⟩ := Int.eq_ofNat_of_zero_le h4
 have h1 := h b (by omega)
 rw [Int.toNat_natCast, Bool.eq_iff_iff]
 simp [h1]
theorem zPm (h : yO N L) {k j : Nat} (hj : j < N) : (wV N L k j = 3 ∧ wZ N L (wV N L k) j = 0) ↔ yF N L k j := by
 rw [zVV, zXm N L hj h.hR]
structure Nxt (N : Nat) (L : List wQ) (f : Nat → Int) (nx : List Int) : Prop where
 nd : nx.Nodup
 rg : ∀ x ∈ nx, 0 ≤ x ∧ x < N
 mem : ∀ j : Nat, (j : Int) ∈ nx ↔ j < N ∧ f j = 3 ∧ wZ N L f j = 0
theorem zXD {nx : List Int} (h1 : nx.Nodup) (h2 : ∀ x ∈ nx, 0 ≤ x ∧ x < (N : Int)) : nx.length ≤ N := by
 have := zQl (m := vA N) h1 fun x hx => xH.2 (h2 x hx)
 rwa [xF] at this
theorem zX5 {i : Int} {q : Nat} {x : Int} (h : (zK9 N L i)[q]? = some x) : ∃ a : Nat, x = (a : Int) ∧ a < N ∧ ed L i (a : Int) = true := by
 obtain ⟨h1, h2⟩ := List.mem_filter.1 (yT h)
 obtain ⟨h3, h4⟩ := xH.1 h1
 obtain ⟨a, rfl⟩ := Int.eq_ofNat_of_zero_le h3
 exact ⟨a, rfl, by omega, h2⟩
theorem zW1 (i : Int) : (zK9 N L i).Nodup := ((zIV N).filter _).imp fun {x y} hh e => by subst e; simp at hh
theorem zVG {i : Int} {j : Nat} (hj : j < N) : (j : Int) ∈ zK9 N L i ↔ ed L i (j : Int) = true := by
 rw [List.mem_filter, xH]
 exact ⟨fun h => h.2, fun h => ⟨⟨by omega, by omega⟩, h⟩⟩
theorem zYk {α : Type} {l : List α} (hn : l.Nodup) {i : Nat} {x : α} (hx : l[i]? = some x) : x ∉ l.take i := by
 intro hm
 obtain ⟨j, hj⟩ := List.getElem?_of_mem hm
 rw [List.getElem?_take] at hj
 split at hj
 ·rename_i hji
  obtain ⟨h1, h2⟩ := List.getElem?_eq_some_iff.1 hj
  obtain ⟨h3, h4⟩ := List.getElem?_eq_some_iff.1 hx
  have := (List.getElem_inj hn).1 (h2.trans h4.symm)
  omega
 ·cases hj
theorem grp_L7 (h : yO N L) {f : Nat → Int} (l2 : List Int) {a : Nat} (ha : a < N) (h3 : f a = 3) (hca : wZ N L f a ≠ 0) (q : Int) (s6 : List Int × List Int × List Int × Int × List Int) {nx : List Int} (hnx : Nxt N L f nx) (hq : 0 ≤ q ∧ q < 1000) :
  ∃ nx', Nxt N L (fun b => if b = a then 2 else f b) nx' ∧
   zZ (zCb (zK9 N L (a : Int)) (qK N f, l2, nx, q, qK 40 fun j => (wZ N L f j : Int)) (a : Int) s6) (nx, 0, qK 40 fun j => (wZ N L f j : Int)) =
    some (.inl (qK N (fun b => if b = a then 2 else f b), List.set l2 a s6.2.2.2.1, nx', q + 1, qK 40 fun j => (wZ N L (fun b => if b = a then 2 else f b) j : Int))) := by
 have hN := h.hN
 let f' : Nat → Int := fun b => if b = a then 2 else f b
 let o (t j : Nat) : Nat := wZ N L f' j + if ed L (a : Int) (j : Int) = true ∧ (j : Int) ∉ (zK9 N L (a : Int)).take t then 1 else 0
 have ho0 : ∀ j, o 0 j = wZ N L f j := fun j => by
  show wZ N L f' j + _ = _
  rw [zZs ha h3 j]
  simp [f']
 have hsl := zV5 (N := N) (L := L) (a : Int)
 have hl := yW (B := zCb (zK9 N L (a : Int)) (qK N f, l2, nx, q, qK 40 fun j => (wZ N L f j : Int)) (a : Int) s6) (fun t (s : List Int × List Int) => (s.1, (t : Int), s.2)) (zK9 N L (a : Int))
  (fun t s => s.2 = qK 40 (fun j => (o t j : Int)) ∧ s.1.Nodup ∧ (∀ x ∈ s.1, 0 ≤ x ∧ x < (N : Int)) ∧ ∀ j : Nat, (j : Int) ∈ s.1 ↔ j < N ∧ f' j = 3 ∧ o t j = 0)
  (fun r => ∃ nx', Nxt N L f' nx' ∧ r = .inl (qK N f', List.set l2 a s6.2.2.2.1, nx', q + 1, qK 40 fun j => (wZ N L f' j : Int))) ?_ ?_ (nx, qK 40 fun j => (wZ N L f j : Int)) ?_
 ·obtain ⟨r, h1, nx', h2, rfl⟩ := hl
  exact ⟨nx', h2, h1⟩
 ·rintro t x ⟨n1, op⟩ hx ⟨hop, hnd, hrg, hmem⟩
  simp only at hop hnd hrg hmem
  subst hop
  obtain ⟨j0, rfl, hj0, he⟩ := zX5 hx
  have hnot := zYk (zW1 (N := N) (L := L) (a : Int)) hx
  have hn1 := zXD hnd hrg
  have ho1 : o t j0 = wZ N L f' j0 + 1 := by
   show wZ N L f' j0 + _ = _
   rw [if_pos ⟨he, hnot⟩]
  have ho2 : o (t + 1) j0 = wZ N L f' j0 := by
   show wZ N L f' j0 + _ = _
   rw [if_neg (fun hh => hh.2 (by rw [uX hx]; simp)), Nat.add_zero]
  have ho3 : ∀ j, j ≠ j0 → o (t + 1) j = o t j := fun j hj => by
   show wZ N L f' j + _ = wZ N L f' j + _
   congr 1
   have : (j : Int) ∉ (zK9 N L (a : Int)).take (t + 1) ↔ (j : Int) ∉ (zK9 N L (a : Int)).take t := by
    rw [uX hx, List.mem_append, List.mem_singleton]
    have : ¬ (j : Int) = (j0 : Int) := by omega
    simp [this]
   simp only [this]
  have hc0 := cnt_le (N := N) (L := L) f' j0
  have hnew : zV6 40 (qK 40 fun j => (o t j : Int)) (j0 : Int) (zW ((zVP (qK 40 fun j => (o t j : Int)) (j0 : Int)) - 1)) = qK 40 fun j => (o (t + 1) j : Int) := by
   rw [zOF _ _ (by omega), zS9 _ _ (by omega), xJ (by omega) (by omega)]
   apply xG
   intro j _
   by_cases hj : j = j0
   ·subst hj; rw [if_pos rfl, ho1, ho2]; omega
   ·rw [if_neg hj, ho3 j hj]
  have hset : List.set (qK N f) (Int.toNat (a : Int)) 2 = qK N f' := by rw [Int.toNat_natCast, zKm]
  unfold zCb
  simp only [vK hx, if_true, vF hx, zob, zXP (show (40 : Int) = ((40 : Nat) : Int) from rfl) (show j0 < 40 by omega), hnew, zOF 40 (fun j => (o (t + 1) j : Int)) (show j0 < 40 by omega), hset, zHs f' hj0, vG hx (show (zK9 N L (a : Int)).length < 4294967296 by omega), ho2]
  cases hz : (((wZ N L f' j0 : Nat) : Int) == 0) && (f' j0 == 3) with
  | true =>
   rw [Bool.and_eq_true, beq_iff_eq, beq_iff_eq] at hz
   have hnin : (j0 : Int) ∉ n1 := fun hm => by have := ((hmem j0).1 hm).2.2; omega
   refine .inl ⟨(n1 ++ [(j0 : Int)], qK 40 fun j => (o (t + 1) j : Int)), ?_, rfl, ?_, ?_, ?_⟩
   ·simp only [hz.1, hz.2, beq_self_eq_true, if_true, zob]
    rw [yJ (by simp; omega)]
    rfl
   ·rw [List.nodup_append]
    exact ⟨hnd, by simp, fun x hx y hy e => by rw [List.mem_singleton] at hy; subst hy; subst e; exact hnin hx⟩
   ·intro x hx
    rcases List.mem_append.1 hx with hx | hx
    ·exact hrg x hx
    ·rw [List.mem_singleton] at hx; subst hx; omega
   ·intro j
    rw [List.mem_append, List.mem_singleton]
    by_cases hj : j = j0
    ·subst hj
     exact ⟨fun _ => ⟨hj0, hz.2, by rw [ho2]; omega⟩, fun _ => .inr rfl⟩
    ·rw [ho3 j hj, hmem j]
     exact ⟨fun hh => hh.elim id fun e => absurd (by omega) hj, .inl⟩
  | false =>
   refine .inl ⟨(n1, qK 40 fun j => (o (t + 1) j : Int)), ?_, rfl, hnd, hrg, ?_⟩
   ·cases h1 : (((wZ N L f' j0 : Nat) : Int) == 0) with
    | false => simp only [zbf, if_false, zob]
    | true =>
     rw [h1, Bool.true_and] at hz
     simp only [if_true, zob, hz, zbf, if_false]
   ·intro j
    by_cases hj : j = j0
    ·subst hj
     rw [hmem j, ho1, ho2]
     constructor
     ·rintro ⟨_, _, h0⟩; omega
     ·rintro ⟨_, h1, h0⟩
      rw [h0, h1] at hz
      simp at hz
    ·rw [ho3 j hj, hmem j]
 ·rintro ⟨n1, op⟩ ⟨hop, hnd, hrg, hmem⟩
  simp only at hop hnd hrg hmem
  subst hop
  have hoe : ∀ j, j < 40 → o (zK9 N L (a : Int)).length j = wZ N L f' j := fun j _ => by
   show wZ N L f' j + _ = _
   rw [List.take_length, if_neg]
   ·rfl
   ·rintro ⟨h1, h2⟩
    obtain ⟨x, y, _, h4, _, h6⟩ := h.inN _ _ h1
    exact h2 ((zVG (by omega)).2 h1)
  refine ⟨_, ?_, n1, ⟨hnd, hrg, fun j => ?_⟩, rfl⟩
  ·unfold zCb
   have hset : List.set (qK N f) a 2 = qK N f' := zKm f 2
   have hm : (qK 40 fun j => (o (zK9 N L (a : Int)).length j : Int)) = qK 40 fun j => (wZ N L f' j : Int) := xG fun j hj => by rw [hoe j hj]
   simp only [yL, zbf, if_false, Int.toNat_natCast, hset, hm]
   rw [xJ (by omega) (by omega)]
  ·rw [hmem j]
   constructor
   ·rintro ⟨h1, h2, h4⟩; exact ⟨h1, h2, by rw [hoe j (by omega)] at h4; exact h4⟩
   ·rintro ⟨h1, h2, h4⟩; exact ⟨h1, h2, by rw [hoe j (by omega)]; exact h4⟩
 ·refine ⟨?_, hnx.nd, hnx.rg, fun j => ?_⟩
  ·show (qK 40 fun j => (wZ N L f j : Int)) = _
   exact xG fun j _ => by rw [ho0]
  ·show (j : Int) ∈ nx ↔ _
   rw [hnx.mem j, ho0]
   show _ ↔ j < N ∧ (if j = a then 2 else f j) = 3 ∧ wZ N L f j = 0
   by_cases hj : j = a
   ·subst hj
    rw [if_pos rfl]
    exact ⟨fun hh => absurd hh.2.2 hca, fun hh => absurd hh.2.2 hca⟩
   ·rw [if_neg hj]
structure Mid (N : Nat) (L : List wQ) (k : Nat) (f g : Nat → Int) (nx : List Int) : Prop where
 v : ∀ j, j < N → f j = 1 ∨ f j = 2 ∨ f j = 3
 one : ∀ j, j < N → (f j = 1 ↔ wV N L (k + 1) j = 1)
 two : ∀ j, j < N → f j = 2 → wV N L (k + 1) j = 2
 old : ∀ j, j < N → wV N L k j = 2 → f j = 2
 rk : ∀ j, j < N → g j = if f j = wV N L k j then tO N L k j else ((k + 1 : Nat) : Int)
 nx : Nxt N L f nx
theorem grp_L6 (h : yO N L) {k : Nat} (hk : k ≤ 100) {i : Nat} (hi : yF N L k i) (s6 : List Int × List Int × List Int × Int × List Int) (hs6 : s6.2.2.2.1 = ((k + 1 : Nat) : Int)) (D : Nat → Prop)
  {f g : Nat → Int} {nx : List Int} (hM : Mid N L k f g nx) (hD : ∀ j, D j → f j ≠ 3) (q : Nat) (hq : q < 1000) (z1 z2 z3 z5 : List Int) :
  ∃ f' g' nx', Mid N L k f' g' nx' ∧ (∀ j, j < N → D j ∨ uY L i j → f' j ≠ 3) ∧
   zZ (zBD (zK9 N L (i : Int)) ((N : Int), L) s6 (z1, z2, z3, (q : Int), z5)) (qK N f, qK N g, nx, 0, qK 40 fun j => (wZ N L f j : Int)) =
    some (.inl (qK N f', qK N g', nx', ((q + 1 : Nat) : Int), qK 40 fun j => (wZ N L f' j : Int))) := by
 have hN := h.hN
 have hsl := zV5 (N := N) (L := L) (i : Int)
 have hl := yW (B := zBD (zK9 N L (i : Int)) ((N : Int), L) s6 (z1, z2, z3, (q : Int), z5)) (fun t (s : List Int × List Int × List Int × List Int) => (s.1, s.2.1, s.2.2.1, (t : Int), s.2.2.2)) (zK9 N L (i : Int))
  (fun t s => ∃ f' g' nx', Mid N L k f' g' nx' ∧ (∀ j, j < N → D j ∨ (j : Int) ∈ (zK9 N L (i : Int)).take t → f' j ≠ 3) ∧ s = (qK N f', qK N g', nx', qK 40 fun j => (wZ N L f' j : Int)))
  (fun r => ∃ f' g' nx', Mid N L k f' g' nx' ∧ (∀ j, j < N → D j ∨ uY L i j → f' j ≠ 3) ∧ r = .inl (qK N f', qK N g', nx', ((q + 1 : Nat) : Int), qK 40 fun j => (wZ N L f' j : Int))) ?_ ?_ (qK N f, qK N g, nx, qK 40 fun j => (wZ N L f j : Int)) ⟨f, g, nx, hM, fun j _ hj => by simp at hj; exact hD j hj, rfl⟩
 ·obtain ⟨r, h1, f', g', nx', h2, h3, rfl⟩ := hl
  exact ⟨f', g', nx', h2, h3, h1⟩
 ·rintro t x _ hx ⟨f', g', nx', hM', hD', rfl⟩
  obtain ⟨a, rfl, ha, he⟩ := zX5 hx
  by_cases h3 : f' a = 3
  ·have hb : (f' a != 3) = false := by simp [h3]
   have hfi : f' i = 1 := (hM'.one i (zQn (D := (· < N)) hi.1)).2 ((z06 N L).2 hi.1)
   have hca : wZ N L f' a ≠ 0 := fun h0 => by have := zVV.1 h0 i (zQn (D := (· < N)) hi.1) he; omega
   have ht : t < 1000 := by have := vT hx; omega
   obtain ⟨n2, hn2, h7⟩ := grp_L7 h (qK N g') ha h3 hca (t : Int) s6 hM'.nx ⟨by omega, by omega⟩
   have hla : wV N L k a ≠ 2 := fun e => by have := hM'.old a ha e; omega
   refine .inl ⟨(qK N (fun b => if b = a then 2 else f' b), qK N (fun b => if b = a then ((k + 1 : Nat) : Int) else g' b), n2, qK 40 fun j => (wZ N L (fun b => if b = a then 2 else f' b) j : Int)), ?_, _, _, n2, ⟨?_, ?_, ?_, ?_, ?_, hn2⟩, ?_, rfl⟩
   ·unfold zBD
    simp only [vK hx, if_true, vF hx, zob, zHs _ ha, hb, zbf, if_false, zNB h]
    rw [h7, hs6, zKm]
    rfl
   ·intro j hj
    by_cases e : j = a
    ·simp [e]
    ·simpa [e] using hM'.v j hj
   ·intro j hj
    by_cases e : j = a
    ·subst e
     have h1 := hM'.one j hj
     rw [h3] at h1
     simp only [if_true]
     constructor
     ·intro h2; cases h2
     ·intro h2; have := h1.2 h2; omega
    ·simpa [e] using hM'.one j hj
   ·intro j hj
    by_cases e : j = a
    ·subst e
     intro _
     exact (zTI N L).2 ⟨i, hi.1, he⟩
    ·simpa [e] using hM'.two j hj
   ·intro j hj hj2
    by_cases e : j = a
    ·subst e; exact absurd hj2 hla
    ·simpa [e] using hM'.old j hj hj2
   ·intro j hj
    by_cases e : j = a
    ·subst e
     rw [if_pos rfl, if_pos rfl, if_neg (fun e2 => hla e2.symm)]
    ·simpa [e] using hM'.rk j hj
   ·intro j hj hjd
    by_cases e : j = a
    ·simp [e]
    ·simp only [e, if_false]
     refine hD' j hj (hjd.imp id fun hm => ?_)
     rw [uX hx, List.mem_append, List.mem_singleton] at hm
     exact hm.resolve_right (by omega)
  ·have hb : (f' a != 3) = true := by simp [h3]
   refine .inl ⟨(qK N f', qK N g', nx', qK 40 fun j => (wZ N L f' j : Int)), ?_, f', g', nx', hM', ?_, rfl⟩
   ·unfold zBD
    simp only [vK hx, if_true, vF hx, zob, zHs _ ha, hb, vG hx (show (zK9 N L (i : Int)).length < 4294967296 by omega)]
   ·intro j hj hjd
    by_cases e : j = a
    ·subst e; exact h3
    ·refine hD' j hj (hjd.imp id fun hm => ?_)
     rw [uX hx, List.mem_append, List.mem_singleton] at hm
     exact hm.resolve_right (by omega)
 ·rintro _ ⟨f', g', nx', hM', hD', rfl⟩
  refine ⟨_, ?_, f', g', nx', hM', fun j hj hjd => hD' j hj (hjd.imp id fun he => ?_), rfl⟩
  ·unfold zBD
   simp only [yL, zbf, if_false, yA q (by omega)]
  ·rw [List.take_length]
   exact (zVG hj).2 he
structure zLu (N : Nat) (L : List wQ) (k : Nat) (Q : List Int) : Prop where
 nd : Q.Nodup
 rg : ∀ x ∈ Q, 0 ≤ x ∧ x < N
 mem : ∀ j : Nat, (j : Int) ∈ Q ↔ yF N L k j
theorem zWy (h : yO N L) (k : Nat) : Mid N L k (uB N L k) (tF N L k) [] := by
 have h1 : ∀ j, uB N L k j = 1 ↔ wV N L (k + 1) j = 1 := fun j => by
  rw [z06 N L]
  unfold uB
  by_cases hn : yF N L k j
  ·simp [hn, hn.1]
  ·rw [if_neg hn, z06 N L]
   exact ⟨fun hg => zNK hg, fun hg => Classical.byContradiction fun hc => hn ⟨hg, hc⟩⟩
 refine ⟨fun j _ => ?_, fun j _ => h1 j, fun j _ h2 => zYH N L (zPh.1 h2), fun j _ h2 => zPh.2 h2, fun j _ => ?_, ⟨List.nodup_nil, (fun x hx => by cases hx), fun j => ?_⟩⟩
 ·unfold uB
  by_cases hn : yF N L k j
  ·simp [hn]
  ·rw [if_neg hn]; exact zXY N L k j
 ·unfold uB tF
  by_cases hn : yF N L k j
  ·have := now3 N L hn
   simp [hn, this]
  ·simp [hn]
 ·constructor
  ·intro hm; cases hm
  ·rintro ⟨hj, h3, h0⟩
   exfalso
   have hc : wZ N L (uB N L k) j = wZ N L (wV N L k) j := zPq (fun b _ => zPh) j
   rw [hc] at h0
   by_cases hn : yF N L k j
   ·unfold uB at h3; rw [if_pos hn] at h3; cases h3
   ·unfold uB at h3; rw [if_neg hn] at h3
    exact hn ((zPm h hj).1 ⟨h3, h0⟩)
theorem grp_L5 (h : yO N L) {k : Nat} (hk : k ≤ 100) {Q : List Int} (hQ : zLu N L k Q) (z1 z2 z5 : List Int) :
  ∃ Q', zLu N L (k + 1) Q' ∧ zZ (zBZ (z1, z2, Q, ((k + 1 : Nat) : Int), z5) ((N : Int), L)) (qK N (uB N L k), qK N (tF N L k), ([] : List Int), 0, qK 40 fun j => (wZ N L (wV N L k) j : Int)) =
   some (.inl (lb N L (k + 1), rn N L (k + 1), Q', ((k + 2 : Nat) : Int), qK 40 fun j => (wZ N L (wV N L (k + 1)) j : Int))) := by
 have hN := h.hN
 have hql := zXD hQ.nd hQ.rg
 have hl := yW (B := zBZ (z1, z2, Q, ((k + 1 : Nat) : Int), z5) ((N : Int), L)) (fun t (s : List Int × List Int × List Int × List Int) => (s.1, s.2.1, s.2.2.1, (t : Int), s.2.2.2)) Q
  (fun t s => ∃ f' g' nx', Mid N L k f' g' nx' ∧ (∀ j, j < N → (∃ i : Nat, (i : Int) ∈ Q.take t ∧ uY L i j) → f' j ≠ 3) ∧ s = (qK N f', qK N g', nx', qK 40 fun j => (wZ N L f' j : Int)))
  (fun r => ∃ Q', zLu N L (k + 1) Q' ∧ r = .inl (lb N L (k + 1), rn N L (k + 1), Q', ((k + 2 : Nat) : Int), qK 40 fun j => (wZ N L (wV N L (k + 1)) j : Int))) ?_ ?_ (qK N (uB N L k), qK N (tF N L k), [], qK 40 fun j => (wZ N L (wV N L k) j : Int)) ?_
 ·obtain ⟨r, h1, Q', h2, rfl⟩ := hl
  exact ⟨Q', h2, h1⟩
 ·rintro t x _ hx ⟨f', g', nx', hM, hD, rfl⟩
  have ht := vT hx
  obtain ⟨h0, h1⟩ := hQ.rg x (yT hx)
  obtain ⟨i, rfl⟩ := Int.eq_ofNat_of_zero_le h0
  have hi := (hQ.mem i).1 (yT hx)
  obtain ⟨f2, g2, n2, hM2, hD2, h6⟩ := grp_L6 h hk hi (z1, z2, Q, ((k + 1 : Nat) : Int), z5) rfl (fun j => j < N ∧ ∃ i : Nat, (i : Int) ∈ Q.take t ∧ uY L i j) hM (fun j hj => hD j hj.1 hj.2) t (by omega) (qK N f') (qK N g') nx' (qK 40 fun j => (wZ N L f' j : Int))
  refine .inl ⟨(qK N f2, qK N g2, n2, qK 40 fun j => (wZ N L f2 j : Int)), ?_, f2, g2, n2, hM2, ?_, rfl⟩
  ·unfold zBZ
   simp only [vK hx, if_true, vF hx, zob, zNB h]
   rw [h6]
  ·rintro j hj ⟨i', hi', he⟩
   rw [uX hx, List.mem_append, List.mem_singleton] at hi'
   rcases hi' with hi' | hi'
   ·exact hD2 j hj (.inl ⟨hj, i', hi', he⟩)
   ·have : i' = i := by omega
    subst this
    exact hD2 j hj (.inr he)
 ·rintro _ ⟨f', g', nx', hM, hD, rfl⟩
  rw [List.take_length] at hD
  have hf : ∀ j, j < N → f' j = wV N L (k + 1) j := fun j hj => by
   rcases hM.v j hj with h1 | h1 | h1
   ·rw [h1, (hM.one j hj).1 h1]
   ·rw [h1, hM.two j hj h1]
   ·rcases zXY N L (k + 1) j with h2 | h2 | h2
    ·have := (hM.one j hj).2 h2; omega
    ·exfalso
     rw [zSR] at h2
     by_cases hn : yF N L k j
     ·rw [if_pos hn] at h2; cases h2
     ·rw [if_neg hn] at h2
      by_cases hc : wV N L k j = 3 ∧ tH (uY L) (yF N L k) j
      ·obtain ⟨m, h4, h5⟩ := hc.2
       exact hD j hj ⟨m, (hQ.mem m).2 h4, h5⟩ h1
      ·rw [if_neg hc] at h2
       have := hM.old j hj h2; omega
    ·rw [h1, h2]
  have hg : ∀ j, j < N → g' j = tO N L (k + 1) j := fun j hj => by
   rw [hM.rk j hj, hf j hj, tO]
  have hc : ∀ j, wZ N L f' j = wZ N L (wV N L (k + 1)) j := zPq fun b hb => by rw [hf b hb]
  refine ⟨_, ?_, nx', ⟨hM.nx.nd, hM.nx.rg, fun j => ?_⟩, rfl⟩
  ·unfold zBZ
   have e1 : qK N f' = lb N L (k + 1) := xG hf
   have e2 : qK N g' = rn N L (k + 1) := xG hg
   have e3 : (qK 40 fun j => (wZ N L f' j : Int)) = qK 40 fun j => (wZ N L (wV N L (k + 1)) j : Int) := xG fun j _ => by rw [hc]
   simp only [yL, zbf, if_false, e1, e2, e3, yA (k + 1) (show k + 1 + 1 < 9223372036854775808 by omega)]
  ·rw [hM.nx.mem j, hc j]
   constructor
   ·rintro ⟨h1, h2, h3⟩; rw [hf j h1] at h2; exact (zPm h h1).1 ⟨h2, h3⟩
   ·intro hn
    have h1 : j < N := zQn (D := (· < N)) hn.1
    obtain ⟨h2, h3⟩ := (zPm h h1).2 hn
    exact ⟨h1, by rw [hf j h1]; exact h2, h3⟩
 ·refine ⟨uB N L k, tF N L k, [], zWy h k, fun j _ hj => by obtain ⟨i, hi, _⟩ := hj; simp at hi, ?_⟩
  have : (qK 40 fun j => (wZ N L (wV N L k) j : Int)) = qK 40 fun j => (wZ N L (uB N L k) j : Int) := xG fun j _ => by rw [zPq fun b _ => zPh]
  rw [this]
open Classical in
theorem grp_L4 (h : yO N L) {k : Nat} {Q : List Int} (hQ : zLu N L k Q) (z1 z2 z5 : List Int) :
  zZ (zC5 (z1, z2, Q, ((k + 1 : Nat) : Int), z5)) (lb N L k, rn N L k, 0) = some (qK N (uB N L k), qK N (tF N L k)) := by
 have hN := h.hN
 have hql := zXD hQ.nd hQ.rg
 have hl := yW (B := zC5 (z1, z2, Q, ((k + 1 : Nat) : Int), z5)) (fun t (s : List Int × List Int) => (s.1, s.2, (t : Int))) Q
  (fun t s => s = (qK N (fun j => if (j : Int) ∈ Q.take t then 1 else wV N L k j), qK N (fun j => if (j : Int) ∈ Q.take t then ((k + 1 : Nat) : Int) else tO N L k j)))
  (fun r => r = (qK N (uB N L k), qK N (tF N L k))) ?_ ?_ (lb N L k, rn N L k) (by simp)
 ·obtain ⟨r, h1, rfl⟩ := hl
  exact h1
 ·rintro t x _ hx rfl
  obtain ⟨h0, h1⟩ := hQ.rg x (yT hx)
  obtain ⟨i, rfl⟩ := Int.eq_ofNat_of_zero_le h0
  refine .inl ⟨_, ?_, rfl⟩
  unfold zC5
  simp only [vK hx, if_true, vF hx, zob, zHs _ (show i < N by omega), Int.toNat_natCast, zKm, vG hx (show Q.length < 4294967296 by omega)]
  congr 3
  ·apply xG
   intro j _
   rw [uX hx]
   by_cases e : j = i
   ·subst e; simp
   ·have : ¬ (j : Int) = (i : Int) := by omega
    simp [e, this]
  ·congr 1
   apply xG
   intro j _
   rw [uX hx]
   by_cases e : j = i
   ·subst e; simp
   ·have : ¬ (j : Int) = (i : Int) := by omega
    simp [e, this]
 ·rintro _ rfl
  rw [List.take_length]
  refine ⟨_, ?_, rfl⟩
  unfold zC5
  simp only [yL, zbf, if_false]
  have e1 : (qK N fun j => if (j : Int) ∈ Q then 1 else wV N L k j) = qK N (uB N L k) := xG fun j _ => by simp only [hQ.mem j]; rfl
  have e2 : (qK N fun j => if (j : Int) ∈ Q then ((k + 1 : Nat) : Int) else tO N L k j) = qK N (tF N L k) := xG fun j _ => by simp only [hQ.mem j]; rfl
  rw [e1, e2]
theorem grp_L1 (h : yO N L) : zZ (zC7 ((N : Int), L)) (0, List.replicate 40 (0 : Int)) = some (qK 40 fun j => (wZ N L (wV N L 0) j : Int)) := by
 have hN := h.hN
 have hL := h.len
 have hl := yW (B := zC7 ((N : Int), L)) (fun t (s : List Int) => ((t : Int), s)) L
  (fun t s => s = qK 40 fun j => (((L.take t).filter fun p => p.2 == (j : Int)).length : Int)) (fun r => r = qK 40 fun j => (wZ N L (wV N L 0) j : Int)) ?_ ?_ (List.replicate 40 (0 : Int)) (by rw [zYu]; simp)
 ·obtain ⟨r, h1, rfl⟩ := hl
  exact h1
 ·rintro t p _ hp rfl
  obtain ⟨a, b, ha, hb, rfl⟩ := zJj (h.inr p (yT hp))
  have hle : ((L.take t).filter fun p => p.2 == (b : Int)).length ≤ 1600 := Nat.le_trans (List.length_filter_le _ _) (Nat.le_trans (List.length_take_le _ _) (by have := vT hp; omega))
  refine .inl ⟨_, ?_, rfl⟩
  unfold zC7
  simp only [vK hp, if_true, vF hp, zob, zXP (show (40 : Int) = ((40 : Nat) : Int) from rfl) (show b < 40 by omega), vG hp h.len', zOF 40 _ (show b < 40 by omega), zS9 40 _ (show b < 40 by omega)]
  congr 3
  apply xG
  intro j _
  rw [uX hp, List.filter_append, List.length_append]
  by_cases e : j = b
  ·subst e
   rw [if_pos rfl, xJ (by omega) (by omega)]
   simp
  ·have : ¬ (b : Int) = (j : Int) := by omega
   simp [e, this]
 ·rintro _ rfl
  rw [List.take_length]
  refine ⟨_, ?_, rfl⟩
  unfold zC7
  have e1 : (qK 40 fun j => ((L.filter fun p => p.2 == (j : Int)).length : Int)) = qK 40 fun j => (wZ N L (wV N L 0) j : Int) := xG fun j _ => by
   have h1 : (L.filter fun p => p.2 == (j : Int)).length = (zQp N L (j : Int)).length := by rw [← z0B h, List.length_map]
   rw [h1]
   unfold wZ
   rw [List.filter_eq_self.2]
   intro x hx
   obtain ⟨q, hq⟩ := List.getElem?_of_mem hx
   obtain ⟨a, rfl, ha, _⟩ := zUD hq
   have : wV N L 0 a = 3 := by
    have := congrArg (fun l : List Int => l[a]?) (zRk (N := N) (L := L))
    simpa [zIb, ha] using this
   simp [this]
  simp only [yL, zbf, if_false, e1]
theorem grp_L2 (h : yO N L) : ∃ Q, zLu N L 0 Q ∧ zZ (zC9 ((N : Int), L) (qK 40 fun j => (wZ N L (wV N L 0) j : Int))) (([] : List Int), 0) = some Q := by
 have hN := h.hN
 refine ⟨(vA N).filter fun j => wZ N L (wV N L 0) j.toNat == 0, ⟨((zIV N).filter _).imp fun {x y} hh e => by subst e; simp at hh, fun x hx => xH.1 (List.mem_filter.1 hx).1, fun j => ?_⟩, ?_⟩
 ·rw [List.mem_filter, xH, Int.toNat_natCast, beq_iff_eq]
  have h0 : ∀ j, j < N → wV N L 0 j = 3 := fun j hj => by
   have := congrArg (fun l : List Int => l[j]?) (zRk (N := N) (L := L))
   simpa [zIb, hj] using this
  constructor
  ·rintro ⟨h1, h2⟩
   exact (zPm h (show j < N by omega)).1 ⟨h0 j (by omega), h2⟩
  ·intro hn
   have hj : j < N := zQn (D := (· < N)) hn.1
   exact ⟨⟨by omega, by omega⟩, ((zPm h hj).2 hn).2⟩
 ·have hl := zEz (B := zC9 ((N : Int), L) (qK 40 fun j => (wZ N L (wV N L 0) j : Int))) (vA N) (fun s j => if (wZ N L (wV N L 0) j.toNat == 0) then s ++ [j] else s) id (fun i s => s.length ≤ i) ([] : List Int) (by simp) ?_ ?_
  ·have h2 := zFB (fun j : Int => wZ N L (wV N L 0) j.toNat == 0) id (vA N) []
   simp only [id, List.map_id, List.nil_append] at h2
   rw [hl.1, h2]; rfl
  ·intro i x s hx hI
   obtain ⟨rfl, hi⟩ := zJv hx
   unfold zC9
   have hd : decide ((i : Int) < (N : Int)) = true := decide_eq_true (by omega)
   simp only [hd, if_true, zXP (show (40 : Int) = ((40 : Nat) : Int) from rfl) (show i < 40 by omega), zob, zOF 40 _ (show i < 40 by omega), yA i (by omega), Int.toNat_natCast]
   have hz : (((wZ N L (wV N L 0) i : Nat) : Int) == 0) = (wZ N L (wV N L 0) i == 0) := by rw [Bool.eq_iff_iff, beq_iff_eq, beq_iff_eq]; omega
   rw [hz]
   by_cases hc : (wZ N L (wV N L 0) i == 0) = true
   ·rw [if_pos hc, if_pos hc, yJ (by simp; omega)]
    exact ⟨rfl, by simp; omega⟩
   ·rw [if_neg hc, if_neg hc]
    exact ⟨rfl, by omega⟩
  ·intro s _
   rw [xF]
   unfold zC9
   simp
theorem zRH (h : yO N L) : zCx ((N : Int), L) = some (zN6 N L, zWd N L) := by
 have hN := h.hN
 unfold zCx
 simp only
 rw [zVl 3 hN, zX2 (by omega)]
 simp only [zob]
 rw [grp_L1 h]
 simp only [zob]
 obtain ⟨Q0, hQ0, h2⟩ := grp_L2 h
 rw [h2, ← zRk (N := N) (L := L)]
 simp only [zob]
 have hstep : ∀ k, k ≤ N → ∀ Q, zLu N L k Q → (Q = [] ∧ zAn ((N : Int), L) (lb N L k, rn N L k, Q, ((k + 1 : Nat) : Int), qK 40 fun j => (wZ N L (wV N L k) j : Int)) = some (.inr (lb N L k, rn N L k))) ∨
   ∃ Q', zLu N L (k + 1) Q' ∧ zAn ((N : Int), L) (lb N L k, rn N L k, Q, ((k + 1 : Nat) : Int), qK 40 fun j => (wZ N L (wV N L k) j : Int)) = some (.inl (lb N L (k + 1), rn N L (k + 1), Q', ((k + 2 : Nat) : Int), qK 40 fun j => (wZ N L (wV N L (k + 1)) j : Int))) := by
  intro k hk Q hQ
  by_cases he : Q = []
  ·subst he
   refine .inl ⟨rfl, ?_⟩
   unfold zAn
   simp [len]
  ·obtain ⟨Q', hQ', h5⟩ := grp_L5 h (k := k) (by omega) hQ (lb N L k) (rn N L k) (qK 40 fun j => (wZ N L (wV N L k) j : Int))
   refine .inr ⟨Q', hQ', ?_⟩
   have hd : decide (0 < len Q) = true := decide_eq_true (by have := List.length_pos_iff.2 he; simp only [len]; omega)
   unfold zAn
   simp only [hd, if_true]
   rw [grp_L4 h hQ]
   simp only [zob]
   rw [h5]
 have hl := zR0 (B := zAn ((N : Int), L)) (fun (Q : List Int) k => (lb N L k, rn N L k, Q, ((k + 1 : Nat) : Int), qK 40 fun j => (wZ N L (wV N L k) j : Int))) N (fun k Q => zLu N L k Q) (fun r => r = (zN6 N L, zWd N L)) ?_ ?_ Q0 hQ0
 ·obtain ⟨r, h1, rfl⟩ := hl
  exact h1
 ·intro k Q hk hQ
  rcases hstep k (by omega) Q hQ with ⟨he, h1⟩ | ⟨Q', hQ', h1⟩
  ·subst he
   have hno : ∀ i, ¬ yF N L k i := fun i hi => by have := (hQ.mem i).2 hi; cases this
   obtain ⟨e1, e2⟩ := zXG (by omega) hno
   exact .inr ⟨_, h1, by rw [e1, e2]⟩
  ·exact .inl ⟨Q', h1, hQ'⟩
 ·intro Q hQ
  rcases hstep N (Nat.le_refl _) Q hQ with ⟨he, h1⟩ | ⟨Q', hQ', h1⟩
  ·subst he
   have hno : ∀ i, ¬ yF N L N i := fun i => zSE N L
   obtain ⟨e1, e2⟩ := zXG (Nat.le_refl _) hno
   exact ⟨_, h1, by rw [e1, e2]⟩
  ·exfalso
   have hne : Q ≠ [] := by
    intro e
    subst e
    unfold zAn at h1
    simp [len] at h1
   obtain ⟨x, hx⟩ := List.exists_mem_of_ne_nil Q hne
   obtain ⟨h3, _⟩ := hQ.rg x hx
   obtain ⟨i, rfl⟩ := Int.eq_ofNat_of_zero_le h3
   exact zSE N L ((hQ.mem i).1 hx)
theorem zRO (h : yO N L) : zCR ((N : Int), L) = some (zN6 N L) := by
 unfold zCR
 rw [zRH h]
 rfl
end
end
section
variable {b : zM} {l : List zI} {D : List zN} {c : Nat}
theorem uL.runsA (h : uL b l) (hs : zKq b D c) : zZp b l := Go.GD.z0Y h.toFormB (runSz hs h)
noncomputable def zLv (b : zM) (l : List zI) (f : Int) (q : Int) (r : qR) (ys : List zN) (s : List Int) : List zI :=
 ((xQ l l.length ys s).filter fun s => s.any (fun k => decide (f ≤ k)) && xS b l q r s).map fun s => (-1, q, s, r.2.2.2.2)
theorem zVm {f q : Int} {r : qR} {s : List Int} : zLv b l f q r [] s = if s.any (fun k => decide (f ≤ k)) && xS b l q r s then [(-1, q, s, r.2.2.2.2)] else [] := by
 unfold zLv
 simp only [xQ, List.filter_cons, List.filter_nil]
 split <;> rfl
theorem zUk {f q : Int} {r : qR} {y : zN} {ys : List zN} {s : List Int} : zLv b l f q r (y :: ys) s = (vA l.length).flatMap fun i => match zF l i with | some a => if a.2.2.2 == y then zLv b l f q r ys (s ++ [i]) else [] | none => [] := by
 unfold zLv
 simp only [xQ, List.filter_flatMap, List.map_flatMap]
 congr 1
 funext i
 cases zF l i with
 | none => rfl
 | some a =>
  dsimp only
  split <;> rfl
def xU (l new h res : List zI) : Prop := res = (new ++ h).take (41 - l.length)
theorem zRy {α : Type} (n : Nat) (x y : List α) : (x.take n ++ y).take n = (x ++ y).take n := by
 by_cases h : x.length ≤ n
 ·rw [List.take_of_length_le h]
 ·rw [List.take_append_of_le_length (by rw [List.length_take]; omega), List.take_append_of_le_length (by omega), List.take_take, Nat.min_self]
theorem xU.nil {new : List zI} (h : l.length + new.length ≤ 41) : xU l new [] new := by
 unfold xU
 rw [List.append_nil, List.take_of_length_le (by omega)]
theorem xU.trans {new h1 r1 h2 r2 : List zI} (a : xU l new h1 r1) (b : xU l r1 h2 r2) : xU l new (h1 ++ h2) r2 := by
 unfold xU at a b ⊢
 rw [b, a, zRy, List.append_assoc]
theorem xU.le {new h res : List zI} (hl : l.length ≤ 41) (a : xU l new h res) : l.length + res.length ≤ 41 := by
 unfold xU at a
 rw [a, List.length_take]
 omega
theorem xU.stay {new h : List zI} (hf : l.length + new.length = 41) : xU l new h new := by
 unfold xU
 rw [List.take_append_of_le_length (by omega), List.take_of_length_le (by omega)]
theorem xU.all {new h : List zI} (hf : l.length + new.length + h.length ≤ 41) : xU l new h (new ++ h) := by
 unfold xU
 rw [List.take_of_length_le (by rw [List.length_append]; omega)]
theorem zUK (b : zM) (l new : List zI) (f : Int) (h1 : l.length ≤ 100) (h2 : new.length ≤ 100) : zAj (b, l, new, f) = some (decide (40 < l.length + new.length)) := by
 unfold zAj
 simp only [len]
 rw [xJ (by omega) (by omega)]
 refine congrArg some (decide_eq_decide.2 ?_)
 omega
theorem zYM {s : List Int} (h : s.length < 4294967296) : zDN s = some s := by
 simp [zDN, yJ (l := ([] : List Int)) (m := s) (by simpa using h)]
theorem zTl (s : List Int) (b : zM) (l new : List zI) (f : Int) (h : s.length < 1000000) : zAA s (b, l, new, f) = some (s.any fun k => decide (f ≤ k)) := by
 unfold zAA zAC
 obtain ⟨r, h1, h2⟩ := yW (B := zAG s (b, l, new, f)) (fun i (_ : Unit) => (i : Int)) s (fun i _ => ∀ (j : Nat) k, j < i → s[j]? = some k → ¬ f ≤ k) (fun r => decide (0 ≤ r) = s.any fun k => decide (f ≤ k)) (fun i k _ hi hI => by
  unfold zAG zCu
  simp only [vK hi, if_true, vF hi, zob, vG hi (show s.length < 4294967296 by omega)]
  by_cases hk : f ≤ k
  ·simp only [hk, decide_true, if_true]
   refine .inr ⟨(i : Int), rfl, ?_⟩
   have : (s.any fun k => decide (f ≤ k)) = true := List.any_eq_true.2 ⟨k, yT hi, by simpa using hk⟩
   rw [this]
   exact decide_eq_true (by omega)
  ·simp only [hk, decide_false, zbf, if_false]
   exact .inl ⟨(), by trivial, fun j x hj hx => by
    by_cases hji : j = i
    ·subst hji; rw [hi] at hx; cases hx; exact hk
    ·exact hI j x (by omega) hx⟩) (fun _ hI => ⟨-1, by
  unfold zAG
  simp only [yL, zbf, if_false], by
  have : (s.any fun k => decide (f ≤ k)) = false := by
   rw [List.any_eq_false]
   intro k hk
   obtain ⟨j, hj⟩ := List.mem_iff_getElem?.1 hk
   simpa using hI j k (vT hj) hj
  rw [this]
  rfl⟩) () (fun j k hj => by omega)
 rw [show ((0 : Nat) : Int) = 0 from rfl] at h1
 rw [h1]
 simp only [zob, h2]
theorem zUS (hs : zKq b D c) (h : uL b l) (hl : l.length ≤ 40) {f : Int} {q : Int} {r : qR} (hr : zF b.2.1 q = some r) : ∀ (k : Nat) (ys : List zN) (s : List Int) (new : List zI), ys = r.2.2.2.1.drop s.length → s.length ≤ r.2.2.2.1.length → ys.length < k → (∀ k ∈ s, 0 ≤ k ∧ k < l.length) → l.length + new.length ≤ 41 →
  ∃ res, zAU k (b, l, new, f) q s = some res ∧ xU l new (zLv b l f q r ys s) res := by
 have hb := hs.body hr
 intro k
 induction k with
 | zero => intro ys _ _ _ _ hk; omega
 | succ k ih =>
  intro ys s new hys hsl hk hsub hnew
  show ∃ res, zAi (zAU k) (b, l, new, f) q s = some res ∧ _
  unfold zAi
  simp only [hr, zob, zUK b l new f (by omega) (by omega)]
  by_cases hf : 40 < l.length + new.length
  ·simp only [hf, decide_true, if_true]
   exact ⟨new, rfl, xU.stay (by omega)⟩
  ·simp only [hf, decide_false, zbf, if_false]
   cases ys with
   | nil =>
    have hlen : s.length = r.2.2.2.1.length := by
     have := congrArg List.length hys
     simp at this
     omega
    have hd : decide (len s < len r.2.2.2.1) = false := by simp [len]; omega
    simp only [hd, zbf, if_false, yC, zob]
    rw [zTl s b l new f (by omega), zVm]
    simp only [zob]
    rw [zWV h.toFormC (h.runsA hs) hr hsub (by omega)]
    cases h1 : s.any fun k => decide (f ≤ k) with
    | false =>
     simp only [zbf, if_false, zob, Bool.false_and]
     exact ⟨new, rfl, xU.nil hnew⟩
    | true =>
     simp only [if_true, zob, Bool.true_and]
     cases h2 : xS b l q r s with
     | false =>
      simp only [zbf, if_false]
      exact ⟨new, rfl, xU.nil hnew⟩
     | true =>
      simp only [if_true]
      rw [yJ (by simp; omega)]
      exact ⟨_, rfl, xU.all (by simp only [List.length_singleton]; omega)⟩
   | cons y ys =>
    have hlen : s.length < r.2.2.2.1.length := by
     have := congrArg List.length hys
     simp at this
     omega
    have hd : decide (len s < len r.2.2.2.1) = true := by simp [len]; omega
    have hy : r.2.2.2.1[s.length]? = some y := by
     have := congrArg (fun l => l[0]?) hys
     simpa using this.symm
    have hys2 : ys = r.2.2.2.1.drop (s.length + 1) := by
     have := congrArg List.tail hys
     simpa using this
    have hix : zF r.2.2.2.1 (len s) = some y := by rw [show len s = ((s.length : Nat) : Int) from rfl, uC]; exact hy
    simp only [hd, if_true]
    have hloop := yW (B := zA1 (b, l, new, f) r s (zAU k) q) (fun i (t : List zI) => ((i : Int), t)) (vA l.length)
     (fun i t => xU l new (((vA l.length).take i).flatMap fun i => match zF l i with | some a => if a.2.2.2 == y then zLv b l f q r ys (s ++ [i]) else [] | none => []) t)
     (fun res => ∃ t, res = .inr t ∧ xU l new (zLv b l f q r (y :: ys) s) t) (fun i x t hi hI => .inl ?_) (fun t hI => ?_) new (xU.nil hnew)
    ·obtain ⟨res, h1, t, h2, h3⟩ := hloop
     rw [show ((0 : Nat) : Int) = 0 from rfl] at h1
     subst h2
     exact ⟨t, by rw [h1]; rfl, h3⟩
    ·obtain ⟨rfl, hin⟩ := zJv hi
     obtain ⟨a, ha⟩ := tQ (l := l) (j := (i : Int)) (by omega) (by omega)
     have hdl : decide ((i : Int) < len l) = true := by simp [len]; omega
     have ht := hI.le (by omega)
     unfold zA1
     simp only [hdl, if_true, ha, zob, hix, yA i (by omega)]
     rw [uX hi, List.flatMap_append, List.flatMap_singleton, ha]
     dsimp only
     cases hc : a.2.2.2 == y with
     | false =>
      simp only [zbf, if_false, List.append_nil]
      exact ⟨t, rfl, hI⟩
     | true =>
      simp only [if_true]
      rw [zYM (by omega)]
      simp only [zob]
      rw [yJ (by simp; omega)]
      simp only [zob]
      obtain ⟨res, e1, e2⟩ := ih ys (s ++ [(i : Int)]) t (by simpa using hys2) (by simp; omega) (by simp at hk; omega) (fun k hk => by
       rcases List.mem_append.1 hk with hk | hk
       ·exact hsub k hk
       ·simp only [List.mem_singleton] at hk; subst hk; omega) ht
      rw [e1]
      exact ⟨res, rfl, hI.trans e2⟩
    ·refine ⟨_, ?_, t, rfl, ?_⟩
     ·unfold zA1
      have hdl : decide (((vA l.length).length : Int) < len l) = false := by rw [xF]; simp [len]
      simp only [hdl, zbf, if_false]
     ·rw [zUk]
      rw [List.take_length] at hI
      exact hI
theorem zX0 (hs : zKq b D c) (h : uL b l) (hl : l.length ≤ 40) {f : Int} {q : Int} {r : qR} (hr : zF b.2.1 q = some r) (new : List zI) (hnew : l.length + new.length ≤ 41) :
  zAh (b, l, new, f) q [] = some ((new ++ zLv b l f q r r.2.2.2.1 []).take (41 - l.length)) :=
 zM0 5 fun k hk => by
  obtain ⟨res, h1, h2⟩ := zUS hs h hl hr k r.2.2.2.1 [] new (f := f) (by simp) (by simp) (by have := hs.body hr; omega) (by simp) hnew
  rw [h1, h2]
theorem zX7 {f : Int} {first : Bool} {q : Int} {r : qR} (hr : zF b.2.1 q = some r) : tY b l f first q = if r.2.2.2.1 = [] then (if first then [(-1, q, [], r.2.2.2.2)] else []) else zLv b l f q r r.2.2.2.1 [] := by
 unfold tY zLv
 rw [hr]
 dsimp only
 split
 ·rename_i hb
  rw [hb]
  simp only [xQ, List.filter_cons, List.filter_nil]
  cases first <;> simp [zNx, xS]
 ·rename_i hb
  congr 1
  refine List.filter_congr fun s hs => ?_
  obtain ⟨t, ht, htl, _⟩ := (zN1 l l.length r.2.2.2.1 [] s).1 hs
  rw [List.nil_append] at ht
  subst ht
  unfold zNx
  have : s.isEmpty = false := by
   cases s with
   | nil => exact absurd (List.eq_nil_of_length_eq_zero htl.symm) hb
   | cons _ _ => rfl
  rw [this, Bool.and_false, Bool.or_false]
theorem zT3 (h : zH8 b) : zZ (zCd b) (0, ([] : List zI)) = some (zNS b) := by
 have hn := h.np
 have hl := zKR b
 have := (zO5 (B := zCd b) (zNS b) (fun s a => s ++ [a]) (fun s => s) (fun i s => s.length ≤ i) [] (by simp) (fun i a s hi hs => by
  obtain ⟨p, hp, rfl⟩ := zJo hi
  have hlt := vT hp
  refine ⟨?_, by simp; omega⟩
  unfold zCd
  simp only [vK hp, if_true, vF hp, zob]
  rw [yJ (by simp; omega)]
  simp only [zob, vG hp (by omega)]) (fun s _ => by
  unfold zCd
  rw [hl]
  simp only [yL, zbf, if_false])).1
 rw [this]
 have := zKz (fun a : zI => a) (zNS b) []
 simpa using this
theorem zTY (hs : zKq b D c) (h : uL b l) (hl : l.length ≤ 40) {f : Int} {r : Nat} (hr0 : 1 ≤ r) (hr : r < 1000) (z : List zI) :
  ∃ res, zZ (zB2 b ((r : Int), l, z, f)) (0, []) = some res ∧
   (if 40 < (l ++ uV b l f (decide (r ≤ 1))).length then ∃ x, res = .inr (.inr (l, x, f)) ∧ l.length + x.length = 41 else res = .inl (uV b l f (decide (r ≤ 1)))) := by
 have hnr := hs.valid.nr
 have hone : ((r : Int) == 1) = decide (r ≤ 1) := by
  rw [Bool.eq_iff_iff]
  simp only [beq_iff_eq, decide_eq_true_eq]
  omega
 refine yW (B := zB2 b ((r : Int), l, z, f)) (fun i (t : List zI) => ((i : Int), t)) (vA b.2.1.length)
  (fun i t => t = ((vA b.2.1.length).take i).flatMap (tY b l f (decide (r ≤ 1))) ∧ l.length + t.length ≤ 40)
  (fun res => if 40 < (l ++ uV b l f (decide (r ≤ 1))).length then ∃ x, res = .inr (.inr (l, x, f)) ∧ l.length + x.length = 41 else res = .inl (uV b l f (decide (r ≤ 1)))) (fun i x t hi hI => ?_) (fun t hI => ?_) [] ⟨by simp, by simpa using hl⟩
 ·obtain ⟨rfl, hin⟩ := zJv hi
  obtain ⟨ru, hru⟩ := tQ (l := b.2.1) (j := (i : Int)) (by omega) (by omega)
  have hd : decide ((i : Int) < len b.2.1) = true := by simp [len]; omega
  obtain ⟨hI1, hI2⟩ := hI
  have hnext : ((vA b.2.1.length).take (i + 1)).flatMap (tY b l f (decide (r ≤ 1))) = t ++ tY b l f (decide (r ≤ 1)) i := by
   rw [uX hi, List.flatMap_append, List.flatMap_singleton, ← hI1]
  have hpart : (t ++ tY b l f (decide (r ≤ 1)) i).length ≤ (uV b l f (decide (r ≤ 1))).length := by
   rw [← hnext]
   unfold uV
   conv => rhs; rw [← List.take_append_drop (i + 1) (vA b.2.1.length), List.flatMap_append]
   rw [List.length_append]
   omega
  have hs7 : (if decide (0 < len ru.2.2.2.1) = true then (zAh (b, l, t, f) i []).bind fun r2 => some r2
    else if ((r : Int) == 1) = true then (wI t [((-1 : Int), (i : Int), ([] : List Int), ru.2.2.2.2)]).bind fun x4 => some x4 else some t) = some ((t ++ tY b l f (decide (r ≤ 1)) i).take (41 - l.length)) := by
   rw [zX7 hru, hone]
   by_cases hb : ru.2.2.2.1 = []
   ·have hd0 : decide (0 < len ru.2.2.2.1) = false := by rw [hb]; rfl
    rw [if_pos hb]
    simp only [hd0, zbf, if_false]
    cases hr1 : decide (r ≤ 1) with
    | true =>
     simp only [if_true]
     rw [yJ (by simp; omega)]
     simp only [zob]
     rw [List.take_of_length_le (by simp; omega)]
    | false =>
     simp only [zbf, if_false, List.append_nil]
     rw [List.take_of_length_le (by omega)]
   ·have hd0 : decide (0 < len ru.2.2.2.1) = true := by
     have := List.length_pos_iff.2 hb
     simp [len]; omega
    rw [if_neg hb]
    simp only [hd0, if_true]
    rw [zX0 hs h hl hru t (by omega)]
    rfl
  unfold zB2
  simp only [hd, if_true, hru, zob]
  rw [hs7]
  simp only [zob]
  rw [zUK b l _ f (by omega) (by rw [List.length_take]; omega)]
  simp only [zob, yA i (by omega)]
  by_cases hlim : 40 < l.length + (t ++ tY b l f (decide (r ≤ 1)) i).length
  ·have hx : l.length + ((t ++ tY b l f (decide (r ≤ 1)) i).take (41 - l.length)).length = 41 := by rw [List.length_take]; omega
   have hd4 : decide (40 < l.length + ((t ++ tY b l f (decide (r ≤ 1)) i).take (41 - l.length)).length) = true := by simp only [decide_eq_true_eq]; omega
   simp only [hd4, if_true]
   refine .inr ⟨_, rfl, ?_⟩
   rw [if_pos (by rw [List.length_append]; omega)]
   exact ⟨_, rfl, hx⟩
  ·have hx : (t ++ tY b l f (decide (r ≤ 1)) i).take (41 - l.length) = t ++ tY b l f (decide (r ≤ 1)) i := List.take_of_length_le (by omega)
   rw [hx]
   have hd4 : decide (40 < l.length + (t ++ tY b l f (decide (r ≤ 1)) i).length) = false := by simp only [decide_eq_false_iff_not]; omega
   simp only [hd4, zbf, if_false]
   exact .inl ⟨_, rfl, hnext.symm, by omega⟩
 ·obtain ⟨hI1, hI2⟩ := hI
  rw [List.take_length] at hI1
  have : t = uV b l f (decide (r ≤ 1)) := hI1
  unfold zB2
  have hd : decide (((vA b.2.1.length).length : Int) < len b.2.1) = false := by rw [xF]; simp [len]
  simp only [hd, zbf, if_false]
  refine ⟨_, rfl, ?_⟩
  rw [if_neg (by rw [List.length_append, ← this]; omega), this]
theorem zT6 (hs : zKq b D c) : ∀ (k : Nat) (l z : List zI) (f : Int) (r : Nat), uL b l → l.length ≤ 40 → 41 ≤ l.length + k → r + k ≤ 900 → 1 ≤ r →
  ∃ l' x' f', zZ (zA8 b) ((r : Int), l, z, f) = some (l', x', f') ∧ l'.length ≤ 100 ∧ x'.length ≤ 100 ∧
   match zOL b k l f (decide (r ≤ 1)) with | none => 40 < l'.length + x'.length | some y => l' = y ∧ x' = [] ∧ y.length ≤ 40 := by
 intro k
 induction k with
 | zero => intros; omega
 | succ k ih =>
  intro l z f r h hl hk hr h1
  obtain ⟨res, e1, e2⟩ := zTY hs h hl (f := f) h1 (by omega) z
  unfold zOL
  by_cases hlim : 40 < (l ++ uV b l f (decide (r ≤ 1))).length
  ·rw [if_pos hlim] at e2
   obtain ⟨x, rfl, hx⟩ := e2
   refine ⟨l, x, f, ?_, by omega, by omega, ?_⟩
   ·have hstep : zA8 b ((r : Int), l, z, f) = some (.inr (l, x, f)) := by
     unfold zA8
     rw [e1]
     rfl
    rw [yM, hstep]
   ·rw [if_pos hlim]
    dsimp only
    omega
  ·rw [if_neg hlim] at e2
   subst e2
   by_cases hn : uV b l f (decide (r ≤ 1)) = []
   ·refine ⟨l, [], f, ?_, by omega, by simp, ?_⟩
    ·have hstep : zA8 b ((r : Int), l, z, f) = some (.inr (l, [], f)) := by
      unfold zA8
      rw [e1, hn]
      rfl
     rw [yM, hstep]
    ·rw [if_neg hlim, if_pos hn]
     exact ⟨rfl, rfl, hl⟩
   ·rw [if_neg hlim, if_neg hn]
    have hpos : 0 < (uV b l f (decide (r ≤ 1))).length := List.length_pos_iff.2 hn
    rw [List.length_append] at hlim
    obtain ⟨l', x', f', g1, g2, g3, g4⟩ := ih (l ++ uV b l f (decide (r ≤ 1))) (uV b l f (decide (r ≤ 1))) l.length (r + 1) (h.round hs (by rw [List.length_append]; omega)) (by rw [List.length_append]; omega) (by rw [List.length_append]; omega) (by omega) (by omega)
    rw [show decide (r + 1 ≤ 1) = false from by simp; omega] at g4
    refine ⟨l', x', f', ?_, g2, g3, g4⟩
    have hstep : zA8 b ((r : Int), l, z, f) = some (.inl (((r + 1 : Nat) : Int), l ++ uV b l f (decide (r ≤ 1)), uV b l f (decide (r ≤ 1)), (l.length : Int))) := by
     unfold zA8
     rw [e1]
     simp only [yC, zob]
     have hl0 : ((len (uV b l f (decide (r ≤ 1)))) == 0) = false := by simp only [len, beq_eq_false_iff_ne]; omega
     simp only [hl0, zbf, if_false]
     rw [yJ (by omega)]
     simp only [zob, yA r (by omega)]
    rw [yM, hstep]
    exact g1
theorem zWo (hs : zKq b D c) : zBf b = some (ansB (zMw b)) := by
 unfold zBf
 rw [zUf (zJw hs.valid), zHg.2 hs.valid]
 simp only [zob, bne_self_eq_false, zbf, if_false]
 rw [zT3 hs.valid]
 have hn := hs.valid.np
 obtain ⟨l', x', f', g1, g2, g3, g4⟩ := zT6 hs 50 (zNS b) [] 0 1 (zO9 hs.valid) (by rw [zKR]; omega) (by omega) (by omega) (by omega)
 rw [show ((1 : Nat) : Int) = 1 from rfl] at g1
 simp only [zob, g1]
 rw [zUK b l' x' f' g2 g3]
 simp only [zob]
 unfold zMw
 rw [show decide (1 ≤ 1) = true from rfl] at g4
 cases hb : zOL b 50 (zNS b) 0 true with
 | none =>
  rw [hb] at g4
  dsimp only at g4
  simp only [g4, decide_true, if_true]
  rfl
 | some y =>
  rw [hb] at g4
  obtain ⟨rfl, rfl, g5⟩ := g4
  have hd : decide (40 < l'.length + ([] : List zI).length) = false := by simp; omega
  simp only [hd, zbf, if_false]
  rfl
theorem zRR (hc : z0O b) (h : ¬ zH8 b) : zBf b = some ([], zJP b) := by
 unfold zBf
 rw [zPB hc]
 have : (zJP b != 0) = true := by
  rw [bne_iff_ne]
  exact fun h' => h (zHg.1 h')
 simp only [zob, this, if_true]
end
section
variable {b : zM} {l m : List zI} {D : List zN} {c : Nat}
theorem FormC.pre (h : FormC b (l ++ m)) : FormC b l := by
 have key : ∀ (i : Nat) a, l[i]? = some a → (l ++ m)[i]? = some a := fun i a ha => by rw [List.getElem?_append_left (vT ha)]; exact ha
 have hl := h.len
 have hl41 := h.l41
 rw [List.length_append] at hl hl41
 refine ⟨⟨⟨by omega, fun a ha => h.nsub a (List.mem_append_left _ ha), fun i a ha => h.sub i a (key i a ha)⟩, h.np, h.nr, fun i a ha => h.kind i a (key i a ha)⟩, by omega, fun i a p ha => h.pr i a p (key i a ha), fun i a r ha h0 hr => ?_⟩
 obtain ⟨g1, g2, g3⟩ := h.ru i a r (key i a ha) h0 hr
 refine ⟨g1, g2, fun j k y hk hy => ?_⟩
 obtain ⟨a', e1, e2⟩ := g3 j k y hk hy
 have := h.sub i a (key i a ha) k (yT hk)
 have hi := vT ha
 rw [zIn (by omega)] at e1
 exact ⟨a', e1, e2⟩
theorem uL.pre (h : uL b (l ++ m)) : uL b l := by
 refine ⟨h.toFormC.pre, fun i a r ha h0 hr => ?_⟩
 have hi := vT ha
 have hk : (l ++ m)[i]? = some a := by rw [List.getElem?_append_left hi]; exact ha
 rw [← zKf h.toFormC.pre h.toFormC fun k hk2 => by have := h.sub i a hk k hk2; omega]
 exact h.cut i a r hk h0 hr
theorem uL.take (h : uL b l) (n : Nat) : uL b (l.take n) := by
 rw [← List.take_append_drop n l] at h
 exact h.pre
end
section
variable {b : zM} {l : List zI}
theorem zXN (h : zH8 b) (hr : b.2.1.length ≤ 12) : zKq b (b.2.1.map fun r => r.2.2.2.2) 4 := by
 refine ⟨h, fun r hr => ⟨List.mem_map.2 ⟨r, hr, rfl⟩, zOS (h.rule r hr)⟩, ?_⟩
 rw [List.length_map]
 calc (4 + 1) ^ b.2.1.length ≤ 5 ^ 12 := Nat.pow_le_pow_right (by omega) hr
  _ < 4294967296 := by decide
theorem zNR (h : zH8 b) (hr : b.2.1.length ≤ 12) {x : List zI} (hx : zMw b = some x) : uL b x ∧ x.length ≤ 40 :=
 zQV (zXN h hr) 50 (zNS b) 0 true x (zO9 h) (by rw [zKR]; have := h.np; omega) hx
theorem FormC.nil (hp : b.1.length ≤ 100) (hr : b.2.1.length ≤ 100) : FormC b [] :=
 ⟨⟨⟨by simp, by simp, by simp⟩, hp, hr, by simp⟩, by simp, by simp, by simp⟩
theorem zR4 (m : List qU) (hb : m.length < 4294967296) : zJt m m = some true := by
 unfold zJt
 simp only [bne_self_eq_false, zbf, if_false]
 exact zOK (l := m) (fun j z hz => by
  unfold zIt
  simp only [vK hz, if_true, vF hz, zob, beq_self_eq_true, Bool.not_true, zbf, if_false, vG hz hb]) (by
  unfold zIt
  simp only [yL, zbf, if_false])
theorem zOY (h : l.length ≤ 100) (o : vN) : (zHv b l o).length ≤ 3000000 := Nat.le_trans (List.length_filter_le _ _) (zNt h)
def z01 : List vN := [(1, 1), (1, 2), (2, 1), (2, 2)]
theorem zRC : zIY = some z01 := rfl
end
section
variable {b : zM} {l : List zI}
theorem zVA (h : zH8 b) (hr : b.2.1.length ≤ 12) : zKq b (b.2.1.map fun r => r.2.2.2.2) 4 := by
 refine ⟨h, fun r hr => ⟨List.mem_map.2 ⟨r, hr, rfl⟩, zOS (h.rule r hr)⟩, ?_⟩
 rw [List.length_map]
 calc (4 + 1) ^ b.2.1.length ≤ 5 ^ 12 := Nat.pow_le_pow_right (by omega) hr
  _ < 4294967296 := by decide
end
section
variable {b : zM} {l : List zI}
theorem zWK {i : Int} (h : ¬ (0 ≤ i ∧ i < l.length)) : zA2 l i = some false := by
 unfold zA2
 congr 1
 rw [Bool.and_eq_false_iff]
 by_cases h0 : 0 ≤ i
 ·exact .inr (by simp [len]; omega)
 ·exact .inl (by simpa using h0)
def zLd (l : List zI) (i : Int) : List zN := match zF l i with | some a => [a.2.2.2] | none => []
theorem zXj {α : Type} {l : List α} {i : Int} (h : ¬ (0 ≤ i ∧ i < l.length)) : zF l i = none := by
 unfold zF
 split
 ·rename_i h0
  exact List.getElem?_eq_none (by omega)
 ·rfl
theorem zTX (is : List Int) : (is.flatMap (zLd l)).length ≤ is.length * 1 := zIv (zLd l) 1 is fun i _ => by
 unfold zLd
 split <;> simp
theorem zQH (is : List Int) (h : is.length < 1000000) : zAu l is = some (tL vZ (is.flatMap (zLd l))) := by
 unfold zAu
 have hloop := zGN (B := zBt is l) is (zLd l) (fun s => s) 1 (fun i _ => by unfold zLd; split <;> simp) [] (fun i x s hi hs => by
  have hlt := vT hi
  unfold zBt zLd
  simp only [vK hi, if_true, vF hi, zob, vG hi (show is.length < 4294967296 by omega)]
  by_cases hin : 0 ≤ x ∧ x < l.length
  ·obtain ⟨a, ha⟩ := tQ (l := l) hin.1 hin.2
   have : zA2 l x = some true := by
    unfold zA2
    congr 1
    rw [Bool.and_eq_true]
    exact ⟨by simpa using hin.1, by simpa [len] using hin.2⟩
   simp only [this, zob, if_true, ha]
   rw [yJ (by simp at hs ⊢; omega)]
   rfl
  ·simp only [zWK hin, zob, zbf, if_false, zXj hin, List.append_nil]) (fun s => by
  unfold zBt
  simp only [yL, zbf, if_false])
 rw [hloop]
 have hl := zTX (l := l) is
 simp only [zob, List.nil_append]
 rw [zVp (by omega)]
 rfl
theorem zPx (is : List Int) (h : is.length < 1000000) : zE8 l is = some (tL vZ (is.flatMap (zLd l))) := by
 unfold zE8
 obtain ⟨r, h1, h2⟩ := yW (B := zCm is l) (fun i s => (s, (i : Int))) is (fun i s => yB vZ s ∧ s.length ≤ i ∧ ∀ y, y ∈ s ↔ y ∈ (is.take i).flatMap (zLd l)) (fun r => r = tL vZ (is.flatMap (zLd l))) (fun i x s hi hI => .inl (by
  obtain ⟨hI1, hI2, hI3⟩ := hI
  have hlt := vT hi
  unfold zCm
  simp only [vK hi, if_true, vF hi, zob, vG hi (show is.length < 4294967296 by omega)]
  have hnext : ∀ y, y ∈ (is.take (i + 1)).flatMap (zLd l) ↔ y ∈ (is.take i).flatMap (zLd l) ∨ y ∈ zLd l x := fun y => by
   rw [uX hi, List.flatMap_append, List.flatMap_singleton, List.mem_append]
  by_cases hin : 0 ≤ x ∧ x < l.length
  ·obtain ⟨a, ha⟩ := tQ (l := l) hin.1 hin.2
   have d1 : decide (0 ≤ x) = true := by simpa using hin.1
   have d2 : decide (x < len l) = true := by simpa [len] using hin.2
   obtain ⟨r, e1, e2, e3, e4⟩ := zWS (l := s) a.2.2.2 (by omega) hI1
   simp only [d1, d2, if_true, zob, ha, e1]
   refine ⟨r, rfl, e2, by omega, fun y => ?_⟩
   rw [e3, hnext, hI3]
   unfold zLd
   rw [ha]
   simp [or_comm]
  ·have hc : (if decide (0 ≤ x) = true then some (decide (x < len l)) else some false) = some false := by
    by_cases h0 : 0 ≤ x
    ·have d2 : decide (x < len l) = false := by simp [len]; omega
     simp only [h0, decide_true, if_true, d2]
    ·simp only [h0, decide_false, zbf, if_false]
   rw [hc]
   simp only [zob, zbf, if_false]
   refine ⟨s, rfl, hI1, by omega, fun y => ?_⟩
   rw [hnext, hI3]
   unfold zLd
   rw [zXj hin]
   simp)) (fun s hI => ⟨s, by
  unfold zCm
  simp only [yL, zbf, if_false], by
  obtain ⟨hI1, hI2, hI3⟩ := hI
  rw [List.take_length] at hI3
  exact (zTs zXb hI1 hI3).symm⟩) [] ⟨List.Pairwise.nil, by simp, by simp⟩
 rw [← h2]
 exact h1
end
section
theorem zT2 (l : List Int) (h : l.length < 4294967296) : zJq l l = some true := by
 unfold zJq
 simp only [bne_self_eq_false, zbf, if_false]
 exact zOK (l := l) (fun i x hx => by
  have := (List.getElem?_eq_some_iff.1 hx).1
  unfold zJL
  simp only [zLI hx, if_true, uC, hx, zob, bne_self_eq_false, zbf, if_false, yA i (by omega)]) (by
  unfold zJL
  simp only [zJC, zbf, if_false])
theorem zPG (l : List zI) (h : l.length < 4294967296) (hs : ∀ a ∈ l, a.2.2.1.length < 4294967296) : zJe l l = some true := by
 unfold zJe
 simp only [bne_self_eq_false, zbf, if_false]
 exact zOK (l := l) (fun i x hx => by
  have := (List.getElem?_eq_some_iff.1 hx).1
  unfold zIs
  simp only [zLI hx, if_true, uC, hx, zob, bne_self_eq_false, zbf, if_false, beq_self_eq_true, Bool.not_true, zT2 _ (hs x (List.mem_of_getElem? hx)), yA i (by omega)]) (by
  unfold zIs
  simp only [zJC, zbf, if_false])
end
section
open Classical in
theorem zRg {α ρ : Type} {B : Int → Option (Int ⊕ ρ)} (l m : List α) (hlen : l.length = m.length) (yes no : ρ)
  (hB : ∀ (i : Nat) x y, l[i]? = some x → m[i]? = some y → B (i : Int) = some (if x = y then .inl ((i + 1 : Nat) : Int) else .inr no)) (he : B (l.length : Int) = some (.inr yes)) :
  zZ B 0 = some (if l = m then yes else no) := by
 have h := zUy (B := B) (fun i => l.length - i.toNat) (fun i => ∃ k : Nat, i = k ∧ k ≤ l.length ∧ l.take k = m.take k) (fun r => r = if l = m then yes else no) ?_ 0 ⟨0, rfl, by omega, by simp⟩
 ·obtain ⟨r, h1, rfl⟩ := h
  exact h1
 ·rintro i ⟨k, rfl, hk, ht⟩
  by_cases hkl : k = l.length
  ·subst hkl
   refine .inr ⟨yes, he, ?_⟩
   rw [List.take_of_length_le (Nat.le_refl _), List.take_of_length_le (by omega)] at ht
   rw [if_pos ht]
  ·have hx : l[k]? = some l[k] := List.getElem?_eq_getElem (by omega)
   have hy : m[k]? = some m[k] := List.getElem?_eq_getElem (by omega)
   have := hB k _ _ hx hy
   by_cases hxy : l[k] = m[k]
   ·rw [if_pos hxy] at this
    refine .inl ⟨_, this, ⟨k + 1, rfl, by omega, ?_⟩, by simp; omega⟩
    rw [List.take_add_one, List.take_add_one, ht, hx, hy, hxy]
   ·rw [if_neg hxy] at this
    refine .inr ⟨no, this, ?_⟩
    rw [if_neg fun e => hxy (by subst e; rfl)]
open Classical in
theorem zTP {a : zM} (b : zM) (h : Cnt a) : zJm a b = some (decide (a = b)) := by
 unfold zJm
 by_cases hl : a.1.length = b.1.length ∧ a.2.1.length = b.2.1.length ∧ a.2.2.length = b.2.2.length
 ·obtain ⟨l1, l2, l3⟩ := hl
  have e0 : ((len a.1) != (len b.1) || ((len a.2.1) != (len b.2.1) || (len a.2.2) != (len b.2.2))) = false := by simp [len, l1, l2, l3]
  rw [e0]
  simp only [zbf, if_false]
  have h1 := h.p
  have h2 := h.r
  have h3 := h.m
  rw [zRg a.1 b.1 l1 (.inl ()) (.inr false) (fun i x y hx hy => by
   have hi := (List.getElem?_eq_some_iff.1 hx).1
   unfold zJW
   have : decide ((i : Int) < len a.1) = true := decide_eq_true (show (i : Int) < (a.1.length : Int) by omega)
   simp only [this, if_true, uC, hx, hy, zob, yA i (by omega)]
   by_cases hxy : x = y <;> simp [hxy]) (by unfold zJW; simp)]
  rw [zRg a.2.1 b.2.1 l2 (.inl ()) (.inr false) (fun i x y hx hy => by
   have hi := (List.getElem?_eq_some_iff.1 hx).1
   have hq := h.q x (List.mem_of_getElem? hx)
   unfold zJA
   have : decide ((i : Int) < len a.2.1) = true := decide_eq_true (show (i : Int) < (a.2.1.length : Int) by omega)
   simp only [this, if_true, uC, hx, hy, zob, yA i (by omega)]
   obtain ⟨x1, x2, x3, x4, x5⟩ := x
   obtain ⟨y1, y2, y3, y4, y5⟩ := y
   simp only at hq
   rw [zYc x4 y4 (by omega)]
   by_cases c1 : x1 = y1 <;> by_cases c2 : x2 = y2 <;> by_cases c3 : x3 = y3 <;> by_cases c4 : x4 = y4 <;> by_cases c5 : x5 = y5 <;> simp [c1, c2, c3, c4, c5]) (by unfold zJA; simp)]
  rw [zRg a.2.2 b.2.2 l3 true false (fun i x y hx hy => by
   have hi := (List.getElem?_eq_some_iff.1 hx).1
   unfold zIw
   have : decide ((i : Int) < len a.2.2) = true := decide_eq_true (show (i : Int) < (a.2.2.length : Int) by omega)
   simp only [this, if_true, uC, hx, hy, zob, yA i (by omega)]
   by_cases hxy : x = y <;> simp [hxy]) (by unfold zIw; simp)]
  obtain ⟨a1, a2, a3⟩ := a
  obtain ⟨b1, b2, b3⟩ := b
  by_cases c1 : a1 = b1 <;> by_cases c2 : a2 = b2 <;> by_cases c3 : a3 = b3 <;> simp [c1, c2, c3, yC]
 ·have e0 : ((len a.1) != (len b.1) || ((len a.2.1) != (len b.2.1) || (len a.2.2) != (len b.2.2))) = true := by
   by_cases l1 : a.1.length = b.1.length
   ·by_cases l2 : a.2.1.length = b.2.1.length
    ·have l3 : a.2.2.length ≠ b.2.2.length := fun l3 => hl ⟨l1, l2, l3⟩
     have : ((len a.2.2) != (len b.2.2)) = true := bne_iff_ne.2 (show (a.2.2.length : Int) ≠ b.2.2.length by omega)
     simp [this]
    ·have : ((len a.2.1) != (len b.2.1)) = true := bne_iff_ne.2 (show (a.2.1.length : Int) ≠ b.2.1.length by omega)
     simp [this]
   ·have : ((len a.1) != (len b.1)) = true := bne_iff_ne.2 (show (a.1.length : Int) ≠ b.1.length by omega)
    simp [this]
  rw [e0, if_pos rfl]
  have : a ≠ b := by rintro rfl; exact hl ⟨rfl, rfl, rfl⟩
  simp [this]
end
section
def zWi (y : List zN) (r : qR) (k : Int) (p : vH) : Int := if (!r.2.1 && p.1 == r.1 && decide (p.2.2 ∈ y)) = true then p.2.1 else k
def rankS (ps : List vH) (y : List zN) (r : qR) : Int := ps.foldl (zWi y r) r.2.2.1
def zYC (ps : List vH) (y : List zN) (r : qR) : qR := (r.1, r.2.1, rankS ps y r, r.2.2.2.1, r.2.2.2.2)
def zMX (b : zM) (y : List zN) : zM := (b.1, b.2.1.map (zYC b.2.2 y), b.2.2)
def upto (b : zM) (y : List zN) (i : Nat) : List qR := (b.2.1.take i).map (zYC b.2.2 y) ++ b.2.1.drop i
theorem zUx (b : zM) (y : List zN) (i : Nat) : (upto b y i).length = b.2.1.length := by simp [upto]; omega
theorem zXM {b : zM} {y : List zN} {i : Nat} {r : qR} (hr : b.2.1[i]? = some r) : (upto b y i)[i]? = some r := by
 have hi := (List.getElem?_eq_some_iff.1 hr).1
 unfold upto
 rw [List.getElem?_append_right (by simp; omega)]
 simp only [List.length_map, List.length_take, List.getElem?_drop]
 rw [show i + (i - min i b.2.1.length) = i by omega]
 exact hr
theorem zZD {b : zM} {y : List zN} {i : Nat} {r : qR} (hr : b.2.1[i]? = some r) : (upto b y i).set i (zYC b.2.2 y r) = upto b y (i + 1) := by
 have hi := (List.getElem?_eq_some_iff.1 hr).1
 have h1 : ((b.2.1.take i).map (zYC b.2.2 y)).length = i := by simp; omega
 unfold upto
 rw [List.set_append_right _ _ (by omega), h1, Nat.sub_self, List.take_add_one, hr]
 have h2 : b.2.1.drop i = r :: b.2.1.drop (i + 1) := by
  rw [List.drop_eq_getElem_cons hi]
  congr 1
  rw [List.getElem?_eq_getElem hi] at hr
  exact Option.some.inj hr
 rw [h2]
 simp
theorem zV4 (b : zM) (y : List zN) : upto b y b.2.1.length = b.2.1.map (zYC b.2.2 y) := by simp [upto]
def mid (b : zM) (y : List zN) (i : Nat) (r : qR) (k : Nat) : List qR := (upto b y i).set i (r.1, r.2.1, (b.2.2.take k).foldl (zWi y r) r.2.2.1, r.2.2.2.1, r.2.2.2.2)
theorem zXC {b : zM} {y : List zN} {i : Nat} {r : qR} (hr : b.2.1[i]? = some r) : mid b y i r b.2.2.length = upto b y (i + 1) := by
 unfold mid
 rw [List.take_of_length_le (Nat.le_refl _)]
 exact zZD hr
theorem zUz {b : zM} {y : List zN} {i : Nat} {r : qR} : mid b y i r 0 = (upto b y i).set i r := by simp [mid]
theorem zZP {b : zM} {y : List zN} {i : Nat} {r : qR} (hr : b.2.1[i]? = some r) (k : Nat) : (mid b y i r k)[i]? = some (r.1, r.2.1, (b.2.2.take k).foldl (zWi y r) r.2.2.1, r.2.2.2.1, r.2.2.2.2) := by
 have hi := (List.getElem?_eq_some_iff.1 hr).1
 unfold mid
 rw [List.getElem?_set_self (by rw [zUx]; exact hi)]
theorem zYA {b : zM} {y : List zN} {i : Nat} {r : qR} {k : Nat} {p : vH} (hp : b.2.2[k]? = some p) :
  (if (!r.2.1 && p.1 == r.1 && decide (p.2.2 ∈ y)) = true then (mid b y i r k).set i (r.1, r.2.1, p.2.1, r.2.2.2.1, r.2.2.2.2) else mid b y i r k) = mid b y i r (k + 1) := by
 unfold mid
 rw [List.take_add_one, hp]
 simp only [Option.toList, List.foldl_append, List.foldl_cons, List.foldl_nil]
 show _ = List.set _ i (r.1, r.2.1, zWi y r _ p, r.2.2.2.1, r.2.2.2.2)
 unfold zWi
 by_cases hc : (!r.2.1 && p.1 == r.1 && decide (p.2.2 ∈ y)) = true
 ·rw [if_pos hc, if_pos hc, List.set_set]
 ·rw [if_neg hc, if_neg hc]
theorem zWF {b : zM} {y : List zN} (h : Cnt b) (hy : y.length < 4294967296) : zCD b y = some (zMX b y) := by
 unfold zCD
 have c1 : zCk b.1 = some b.1 := by simp [zCk, zFy h.p]
 have c2 : zE2 b.2.1 = some b.2.1 := by simp [zE2, zFy h.r]
 have c3 : zCO b.2.2 = some b.2.2 := by simp [zCO, zFy h.m]
 simp only [c1, c2, c3, zob]
 suffices hh : Ok (zZ (zB5 b y) (0, b.2.1)) fun r => r = upto b y b.2.1.length by
  obtain ⟨r, e, rfl⟩ := hh
  rw [e, zV4]
  rfl
 refine Ok.forI (fun i (s : List qR) => ((i : Int), s)) b.2.1 (fun i s => s = upto b y i) _ (fun i r s hr hs => ?_) (fun s hs => ?_) b.2.1 (by simp [upto])
 ·have hi := (List.getElem?_eq_some_iff.1 hr).1
  have hbr := h.r
  subst hs
  unfold zB5
  have hx := zXM (y := y) hr
  simp only [zLI hr, if_true, uC, hr, hx, zob, zTV (h.q r (List.mem_of_getElem? hr)), Int.toNat_natCast]
  refine Ok.forI (fun k (s : List qR) => ((k : Int), s)) b.2.2 (fun k s => s = mid b y i r k) _ (fun k p s hp hs => ?_) (fun s hs => ?_) _ zUz.symm
  ·have hk := (List.getElem?_eq_some_iff.1 hp).1
   have hbm := h.m
   subst hs
   unfold zBx
   simp only [zLI hp, if_true, uC, hp, zob, zXx _ (show y.length < 9223372036854775807 by omega), Int.toNat_natCast, zZP hr k]
   have hif : (if (!r.2.1) = true then (if (p.1 == r.1) = true then some (decide (p.2.2 ∈ y)) else some false) else some false) = some (!r.2.1 && p.1 == r.1 && decide (p.2.2 ∈ y)) := by
    cases hg : (!r.2.1) <;> cases hh : (p.1 == r.1) <;> simp
   rw [hif, zob]
   have hm := zYA (b := b) (y := y) (i := i) (r := r) hp
   refine .ite (fun hc => ?_) fun hc => ?_
   ·rw [if_pos hc] at hm
    exact .ret ⟨_, by rw [yA k (by omega)], hm⟩
   ·rw [hc] at hm
    simp only [zbf, if_false] at hm
    exact .ret ⟨_, by rw [yA k (by omega)], hm⟩
  ·subst hs
   unfold zBx
   simp only [zJC, zbf, if_false]
   exact .ret ⟨_, by simp only [yA i (by omega)], zXC hr⟩
 ·subst hs
  unfold zB5
  simp only [zJC, zbf, if_false]
  exact .ret rfl
theorem zYx {b : zM} (h : Cnt b) : zJy b = some b := by
 unfold zJy
 simp only [zFy h.p, zFy h.m, zob]
 have hl := zO5 (B := zHL b) b.2.1 (fun s x => s ++ [x]) (fun s => s) (fun i s => s.length = i) [] rfl (fun i x s hx hI => ?_) (fun s _ => ?_)
 ·rw [hl.1, zOi, List.nil_append]
  rfl
 ·have hlt := (List.getElem?_eq_some_iff.1 hx).1
  have hbr := h.r
  refine ⟨?_, by simp [hI]⟩
  unfold zHL
  simp only [zLI hx, if_true, uC, hx, zob]
  rw [zFy (h.q x (List.mem_of_getElem? hx))]
  simp only [zob]
  rw [yJ (by simp; omega), yA i (by omega)]
  rfl
 ·unfold zHL
  simp only [zJC, zbf, if_false]
theorem zUc {b : zM} {y : List zN} (h : Cnt b) (hy : y.length < 4294967296) : zHO b y = some (zMX b y) := by
 unfold zHO
 rw [zYx h]
 simp only [zob]
 suffices hh : Ok (zZ (zFR b y) (0, b.2.1)) fun r => r = upto b y b.2.1.length by
  obtain ⟨r, e, rfl⟩ := hh
  rw [e, zV4]
  rfl
 refine Ok.forI (fun i (s : List qR) => ((i : Int), s)) b.2.1 (fun i s => s = upto b y i) _ (fun i r s hr hs => ?_) (fun s hs => ?_) b.2.1 (by simp [upto])
 ·have hi := (List.getElem?_eq_some_iff.1 hr).1
  have hbr := h.r
  subst hs
  unfold zFR
  have hx := zXM (y := y) hr
  simp only [zLI hx, if_true]
  refine Ok.forI (fun k (s : List qR) => ((k : Int), s)) b.2.2 (fun k s => s = mid b y i r k) _ (fun k p s hp hs => ?_) (fun s hs => ?_) _ (by rw [zUz, zYy hx])
  ·have hk := (List.getElem?_eq_some_iff.1 hp).1
   have hbm := h.m
   subst hs
   unfold zHI
   simp only [zLI hp, if_true, uC, hp, zob, zXz _ (show y.length < 9223372036854775807 by omega), Int.toNat_natCast, zZP hr k]
   have hif : (if (p.1 == r.1) = true then (if (!r.2.1) = true then some (decide (p.2.2 ∈ y)) else some false) else some false) = some (!r.2.1 && p.1 == r.1 && decide (p.2.2 ∈ y)) := by
    cases hg : (!r.2.1) <;> cases hh : (p.1 == r.1) <;> simp
   rw [hif, zob]
   have hm := zYA (b := b) (y := y) (i := i) (r := r) hp
   refine .ite (fun hc => ?_) fun hc => ?_
   ·rw [if_pos hc] at hm
    exact .ret ⟨_, by rw [yA k (by omega)], hm⟩
   ·rw [hc] at hm
    simp only [zbf, if_false] at hm
    exact .ret ⟨_, by rw [yA k (by omega)], hm⟩
  ·subst hs
   unfold zHI
   simp only [zJC, zbf, if_false]
   exact .ret ⟨_, by simp only [yA i (by omega)], zXC hr⟩
 ·subst hs
  have hl : decide ((b.2.1.length : Int) < len (upto b y b.2.1.length)) = false := decide_eq_false (show ¬ (b.2.1.length : Int) < ((upto b y b.2.1.length).length : Int) by rw [zUx]; omega)
  unfold zFR
  simp only [hl, zbf, if_false]
  exact .ret rfl
theorem zYG {b : zM} {y : List zN} (h : Cnt b) : Cnt (zMX b y) :=
 ⟨h.p, by simp [zMX, h.r], h.m, fun r hr => by
  obtain ⟨r0, h0, rfl⟩ := List.mem_map.1 hr
  exact h.q r0 h0⟩
end
section
def zVq (l : List Int) (x : Int) : List Int := (vA l.length).filter fun i => decide (l[i.toNat]? = some x)
theorem zQS (l : List Int) (x : Int) : (zVq l x).length ≤ l.length := Nat.le_trans (List.length_filter_le _ _) (by rw [xF]; exact Nat.le_refl _)
theorem zVJ (l : List Int) (x : Int) (hl : l.length < 4294967000) : zBX l x = some (zVq l x) := by
 unfold zBX
 have h := zEz (B := zEd l x) (vA l.length) (fun s i => if decide (l[i.toNat]? = some x) then s ++ [i] else s) id (fun i s => s.length ≤ i) ([] : List Int) (by simp) ?_ ?_
 ·have h2 := zFB (fun i : Int => decide (l[i.toNat]? = some x)) id (vA l.length) []
  simp only [id, List.map_id, List.nil_append] at h2
  rw [h.1, h2]; rfl
 ·intro i y s hy hI
  obtain ⟨rfl, hi⟩ := zJv hy
  have hx : l[i]? = some l[i] := List.getElem?_eq_getElem hi
  unfold zEd
  simp only [vK hx, if_true, vF hx, zob, vG hx (by omega), Int.toNat_natCast, hx, Option.some.injEq]
  by_cases he : l[i] = x
  ·simp only [he, beq_self_eq_true, if_true, decide_true]
   rw [yJ (by simp; omega)]
   exact ⟨rfl, by simp; omega⟩
  ·have hb : (l[i] == x) = false := by simpa using he
   simp only [hb, he, decide_false, zbf, if_false]
   exact ⟨trivial, by omega⟩
 ·intro s _
  rw [xF]
  unfold zEd
  simp [len]
theorem zWG (l : List Int) (x : Int) (hl : l.length < 4294967000) : zLk l x = some (zVq l x) := zVJ l x hl
abbrev zWZ : zBa := (([], [], []), [], [], (0, []))
def zZU (o : vN) : Bool := if o.1 != 1 then (o.1 != 2) || ((o.2 != 1) && (o.2 != 2)) else (o.2 != 1) && (o.2 != 2)
noncomputable def zW6 (b : zM) (l : List zI) (o : vN) : List wQ := tL xT (zF6 (zHv b l o))
noncomputable def zW4 (b : zM) (l : List zI) (o : vN) : List zN := tL vZ ((zVq (zN6 l.length (zW6 b l o)) 1).flatMap (zLd l))
noncomputable def zZz (b : zM) (l : List zI) (o : vN) : zBa := (zMX b (zW4 b l o), l, zHv (zMX b (zW4 b l o)) l o, ((l.length : Int), zW6 (zMX b (zW4 b l o)) l o))
open Classical in
noncomputable def zNl (b : zM) (o : vN) : zBa × Int := if zH8 b then (match zMw b with
  | none => (zWZ, 2)
  | some l => if zZU o then (zWZ, 4) else (zZz b l o, 0))
 else (zWZ, zJP b)
theorem zIJ {b : zM} {l : List zI} (hl : l.length ≤ 40) (o : vN) : zOV (len l) (zHv b l o) = (((l.length : Int), zW6 b l o), 0) ∧ yO l.length (zW6 b l o) := by
 have h0 : (decide (len l < 0) || decide (40 < len l)) = false := by
  simp only [len, Bool.or_eq_false_iff, decide_eq_false_iff_not]; omega
 have h1 : (zHv b l o).any (xV (len l)) = false := by
  rw [List.any_eq_false]
  intro y hy
  have hy := zS3 (b := b) (l := l) y |>.1 (List.mem_filter.1 hy).1
  simp only [xV, len, Bool.or_eq_true, decide_eq_true_eq, not_or]
  omega
 have h2 : zOV (len l) (zHv b l o) = (((l.length : Int), zW6 b l o), 0) := by
  unfold zOV zW6
  simp only [h0, h1, zbf, if_false]
 refine ⟨h2, ?_⟩
 obtain ⟨N, e1, e2, e3, _⟩ := zUm h2
 have : N = l.length := by simp only [len] at e1; omega
 rw [← this]; exact e3
theorem zSp {b : zM} {l : List zI} {y : List zN} (h : FormB b l) : FormB (zMX b y) l :=
 ⟨h.toFormA, by simpa [zMX] using h.np, by simpa [zMX] using h.nr, fun i a ha => by simpa [zMX] using h.kind i a ha⟩
theorem zVS (b : zM) (l : List zI) (o : vN) : (zW4 b l o).length ≤ l.length := by
 refine Nat.le_trans (zWv _ _) (Nat.le_trans (zTX _) ?_)
 rw [Nat.mul_one]
 refine Nat.le_trans (zQS _ _) ?_
 rw [zN6, zDc]; exact Nat.le_refl _
section
variable {b : zM}
theorem zRF (hc : z0O b) (hr : b.2.1.length ≤ 12) (o : vN) : zFb b o = some (zNl b o) := by
 unfold zFb zNl
 by_cases hv : zH8 b
 ·rw [zWe (zVA hv hr), if_pos hv]
  cases hb : zMw b with
  | none => rfl
  | some l =>
   obtain ⟨hf, hl⟩ := zNR hv hr hb
   have hB := hf.toFormC.toFormB
   simp only [ansB, zob, bne_self_eq_false, zbf, if_false]
   show (if zZU o = true then _ else _) = _
   cases ho : zZU o with
   | true => rfl
   | false =>
    have hd := zOY (b := b) (l := l) (by omega) o
    obtain ⟨hg, hG⟩ := zIJ (b := b) hl o
    have hac := zVS b l o
    have hd2 := zOY (b := zMX b (zW4 b l o)) (l := l) (by omega) o
    obtain ⟨hg2, _⟩ := zIJ (b := zMX b (zW4 b l o)) hl o
    have hgl : (zN6 l.length (zW6 b l o)).length = l.length := zDc _ _
    have hw := zQS (zN6 l.length (zW6 b l o)) 1
    simp only [zbf, if_false, zPw hB o, zob]
    rw [zS5 _ _ (by omega), hg]
    simp only [zob]
    rw [zUJ hG]
    simp only [zob]
    rw [zWG _ _ (by omega)]
    simp only [zob]
    rw [zPx _ (by omega)]
    simp only [zob]
    rw [show tL vZ ((zVq (zN6 l.length (zW6 b l o)) 1).flatMap (zLd l)) = zW4 b l o from rfl, zUc (zJw hv) (by omega)]
    simp only [zob, zPw (zSp hB) o]
    rw [zS5 _ _ (by omega), hg2]
    rfl
 ·rw [zRJ hc hv, if_neg hv]
  have : (zJP b != 0) = true := by
   rw [bne_iff_ne]
   exact fun h' => hv (zHg.1 h')
  simp only [zob, this, if_true]
theorem zQf (hc : z0O b) (hr : b.2.1.length ≤ 12) (o : vN) : zBe b o = some (zNl b o) := by
 unfold zBe zNl
 by_cases hv : zH8 b
 ·rw [zWo (zVA hv hr), if_pos hv]
  cases hb : zMw b with
  | none => rfl
  | some l =>
   obtain ⟨hf, hl⟩ := zNR hv hr hb
   have hB := hf.toFormC.toFormB
   simp only [ansB, zob, bne_self_eq_false, zbf, if_false]
   show (if zZU o = true then _ else _) = _
   cases ho : zZU o with
   | true => rfl
   | false =>
    have hd := zOY (b := b) (l := l) (by omega) o
    obtain ⟨hg, hG⟩ := zIJ (b := b) hl o
    have hac := zVS b l o
    have hd2 := zOY (b := zMX b (zW4 b l o)) (l := l) (by omega) o
    obtain ⟨hg2, _⟩ := zIJ (b := zMX b (zW4 b l o)) hl o
    have hgl : (zN6 l.length (zW6 b l o)).length = l.length := zDc _ _
    have hw := zQS (zN6 l.length (zW6 b l o)) 1
    simp only [zbf, if_false, zQg hB o, zob]
    rw [zPA _ _ (by omega), hg]
    simp only [zob, bne_self_eq_false, zbf, if_false]
    rw [zRO hG]
    simp only [zob]
    rw [zVJ _ _ (by omega)]
    simp only [zob]
    rw [zQH _ (by omega)]
    simp only [zob]
    rw [show tL vZ ((zVq (zN6 l.length (zW6 b l o)) 1).flatMap (zLd l)) = zW4 b l o from rfl, zWF (zJw hv) (by omega)]
    simp only [zob, zQg (zSp hB) o]
    rw [zPA _ _ (by omega), hg2]
    rfl
 ·rw [zRR hc hv, if_neg hv]
  have : (zJP b != 0) = true := by
   rw [bne_iff_ne]
   exact fun h' => hv (zHg.1 h')
  simp only [zob, this, if_true]
theorem zRh (hc : Cnt b) (hr : b.2.1.length ≤ 12) (o : vN) : zFb b o = some (zNl b o) := zRF hc.c3 hr o
theorem zQz (hc : Cnt b) (hr : b.2.1.length ≤ 12) (o : vN) : zBe b o = some (zNl b o) := zQf hc.c3 hr o
theorem z0Z (hr : b.2.1.length ≤ 12) {o : vN} {c : zBa} (h : zNl b o = (c, 0)) : ∃ l, zH8 b ∧ uL b l ∧ l.length ≤ 40 ∧ zMw b = some l ∧ zZU o = false ∧ c = zZz b l o := by
 unfold zNl at h
 by_cases hv : zH8 b
 ·rw [if_pos hv] at h
  cases hb : zMw b with
  | none => rw [hb] at h; cases h
  | some l =>
   rw [hb] at h
   obtain ⟨hf, hl⟩ := zNR hv hr hb
   cases ho : zZU o with
   | true => simp only [ho, if_true] at h; cases h
   | false =>
    simp only [ho, zbf, if_false, Prod.mk.injEq, and_true] at h
    exact ⟨l, hv, hf, hl, rfl, rfl, h.symm⟩
 ·rw [if_neg hv] at h
  simp only [Prod.mk.injEq] at h
  exact absurd (zHg.1 h.2) hv
end
end
section
theorem zML (g : wY) (h : g.2.length < 4294967296) : zJl g g = some true := by
 unfold zJl
 simp only [bne_self_eq_false, Bool.or_self, zbf, if_false]
 exact zOK (l := g.2) (fun i x hx => by
  unfold zIq
  simp only [vK hx, if_true, vF hx, zob, beq_self_eq_true, Bool.not_true, zbf, if_false, vG hx h]) (by
  unfold zIq
  simp only [yL, zbf, if_false])
theorem zXk : zBb zWZ zWZ = some true := by
 unfold zBb
 rw [zTP _ ⟨by simp, by simp, by simp, fun r hr => by cases hr⟩]
 simp only [decide_true, zob, if_true]
 rw [zPG [] (by simp) (by simp)]
 simp only [zob, if_true]
 rw [zR4 [] (by simp)]
 simp only [zob, if_true]
 rw [zML _ (by simp)]
 rfl
theorem zXp {b : zM} (hc : Cnt b) (hr : b.2.1.length ≤ 12) (o : vN) : zBb (zNl b o).1 (zNl b o).1 = some true := by
 by_cases he : (zNl b o).2 = 0
 ·obtain ⟨l, hv, hf, hl, hb, ho, hcc⟩ := z0Z hr (c := (zNl b o).1) (o := o) (Prod.ext rfl he)
  rw [hcc]
  have hd := zOY (b := zMX b (zW4 b l o)) (l := l) (by omega) o
  have hG := (zIJ (b := zMX b (zW4 b l o)) hl o).2
  unfold zBb zZz
  simp only
  rw [zTP _ (zYG hc)]
  simp only [decide_true, zob, if_true]
  rw [zPG l (by omega) fun a ha => by have := hf.toFormC.toFormB.toFormA.nsub a ha; omega]
  simp only [zob, if_true]
  rw [zR4 _ (by omega)]
  simp only [zob, if_true]
  rw [zML _ hG.len']
  rfl
 ·have hz : (zNl b o).1 = zWZ := by
   unfold zNl at he ⊢
   by_cases hv : zH8 b
   ·rw [if_pos hv] at he ⊢
    cases hb : zMw b with
    | none => rfl
    | some l =>
     rw [hb] at he
     cases ho : zZU o with
     | true => simp
     | false => simp [ho] at he
   ·rw [if_neg hv]
  rw [hz, zXk]
theorem zQb (hw : zFq = some true) (y0 : zM) (y1 : vN) (y2 : List Int) : zBz y0 y1 y2 = some true := by
 suffices h : Ok (zBz y0 y1 y2) fun r => r = true by obtain ⟨r, h1, rfl⟩ := h; exact h1
 unfold zBz
 refine .bind (I := fun o => o = false → zVH y0 ∧ y0.2.1.length ≤ 12) (.bind (Ok.SmallBase y0) fun r hr => .ite (fun _ => .ret nofun) fun hc => .ite (fun _ => .ret nofun) fun h2 => .ret fun _ => ⟨hr (by simpa using hc), by have h : ¬ (10 : Int) < (y0.2.1.length : Int) := of_decide_eq_false h2; omega⟩) fun s1 hs1 => .ite (fun _ => .ret rfl) fun hc => ?_
 obtain ⟨hs0, hr0⟩ := hs1 hc
 rw [zZG]
 simp only [zob]
 obtain ⟨b, k, e1, hk, hd⟩ := zXu (zYD y2) (n := 3) (p := 5) (q := 6) (by omega) (by omega) (by omega) (by omega) (by omega) (by omega)
 rw [e1]
 simp only [zob]
 have hbd : Bnd (fun x => x.2.2.2.1.length ≤ 5) b 5 6 2 := ⟨by have := hd.np; omega, by have := hd.nr; omega, hd.nm, fun r hr => by have := hd.bd r hr; omega⟩
 refine .seqE (I := fun o => o = .inl ()) (.bind (Ok.SpoiltBase hk hbd (zZe 5 (by omega)) (fun x h => by omega) (by omega) (by omega) (by omega)) fun r4 h4 => ?_) (fun _ _ => by rw [hw]; exact .ret rfl) (fun r hr => by cases hr)
 have hcnt : ∀ x ∈ [y0, b, r4.1], Cnt x ∧ x.2.1.length ≤ 12 := by
  intro x hx
  simp only [List.mem_cons, List.not_mem_nil, or_false] at hx
  rcases hx with rfl | rfl | rfl
  ·exact ⟨hs0.cnt, hr0⟩
  ·exact ⟨hbd.cnt (by omega) (by omega) (by omega) (by omega), by have := hbd.nr; omega⟩
  ·exact ⟨h4.2.cnt (by omega) (by omega) (by omega) (by omega), by have := h4.2.nr; omega⟩
 refine Ok.forI (fun i (_ : Unit) => (i : Int)) [y0, b, r4.1] (fun _ _ => True) _ (fun i x _ hx _ => ?_) (fun _ _ => ?_) () trivial
 ·have hi : i < 3 := (List.getElem?_eq_some_iff.1 hx).1
  obtain ⟨hc, hr⟩ := hcnt x (List.mem_of_getElem? hx)
  unfold zEE
  simp only [zLI hx, if_true, uC, hx, zob]
  rw [zRC]
  simp only [zob]
  have hol : z01.length = 4 := rfl
  rw [yJ (by rw [hol]; simp)]
  simp only [zob]
  have hlp : zZ (zCL (z01 ++ [y1], len (z01 ++ [y1]), 0) x (i : Int)) 0 = some (.inl (zW ((i : Int) + 1))) := by
   refine zOK (l := z01 ++ [y1]) (fun j o hj => ?_) ?_
   ·unfold zCL
    simp only [vK hj, if_true, vF hj, zob, zQz hc hr, zRh hc hr, bne_self_eq_false, zbf, if_false, zXp hc hr, Bool.not_true, vG hj (show (z01 ++ [y1]).length < 4294967296 by simp [hol])]
   ·unfold zCL
    simp only [yL, zbf, if_false]
  rw [hlp]
  exact .ret ⟨(), yA i (by omega), trivial⟩
 ·unfold zEE
  simp only [zJC, zbf, if_false]
  exact .ret rfl
end
section
def zAp (_ : Nat) (l : List qU) : Option (List qU) := if l.length < 4294967296 then some (zQR lt4 l) else none
def zBI (_ : Nat) (l : List wQ) : Option (List wQ) := if l.length < 4294967296 then some (zQR xT l) else none
def zDy (_ : Nat) (l : List Int) : Option (List Int) := if l.length < 4294967296 then some (zQR yR l) else none
theorem zE3 (n : Nat) (l : List qU) : Le (zAp n l) (zAI l) := ⟨fun r h => by
 unfold zAp at h
 split at h
 ·rename_i hl; rw [zOx hl, zLB z02]; exact h
 ·cases h⟩
theorem zFg (n : Nat) (l : List wQ) : Le (zBI n l) (zAR l) := ⟨fun r h => by
 unfold zBI at h
 split at h
 ·rename_i hl; rw [zRd hl, zLB zZq]; exact h
 ·cases h⟩
theorem zHS (n : Nat) (l : List Int) : Le (zDy n l) (zAd l) := ⟨fun r h => by
 unfold zDy at h
 split at h
 ·rename_i hl; unfold zAd; rw [zQ4 hl]; exact h
 ·cases h⟩
def zAr (_ : Nat) (l : List zN) : Option (List zN) := if l.length < 4294967296 then some (zQR vZ l) else none
theorem zEV (n : Nat) (l : List zN) : Le (zAr n l) (zAB l) := ⟨fun r h => by
 unfold zAr at h
 split at h
 ·rename_i hl; rw [zVO hl, zLB zXb]; exact h
 ·cases h⟩
end
section
noncomputable section
def zKr (n_ : Nat) y0 s1 : Tw (zE9 y0 s1) := by
 delta zE9
 repeat with_reducible (first | intro _ | apply ti | apply ts | apply tb | apply tl n_ | exact td _)
def zGL (n_ : Nat) y0 : Tw (zAb y0) := by
 delta zAb
 repeat with_reducible (first | intro _ | apply zKr n_ | apply ti | apply ts | apply tb | apply tl n_ | exact td _)
def zGG (n_ : Nat) (y0 : List Int) := (zGL n_ y0).1
theorem zIF (n_ : Nat) (y0 : List Int) : Le (zGG n_ y0) (zAb y0) := (zGL n_ y0).2
def zKa (n_ : Nat) (y0 : List Int) : Tw (zAd y0) := ⟨zDy n_ y0, zHS n_ y0⟩
def zHR (n_ : Nat) (x1 : zI) (rec_argument_Subs : (List zI) → Int → Option (List Int)) (y0 : List zI) (s2 : (List Int) × Int) : Option (((List Int) × Int) ⊕ (List Int)) :=
 if decide (s2.2 < (len x1.2.2.1)) then
  (zF x1.2.2.1 s2.2).bind fun x2 =>
  (rec_argument_Subs y0 x2).bind fun r2 =>
  (wI s2.1 r2).bind fun x3 =>
  some (.inl (x3, zW (s2.2 + 1)))
 else
  some (.inr s2.1)
theorem zN0 (n_ : Nat) (x1 : zI) {rec_argument_Subs rec_argument_Subs' : (List zI) → Int → Option (List Int)} (h_rec_argument_Subs : ∀ u0 u1, Le (rec_argument_Subs u0 u1) (rec_argument_Subs' u0 u1)) (y0 : List zI) (s2 : (List Int) × Int) : Le (zHR n_ x1 rec_argument_Subs y0 s2) (zCQ x1 rec_argument_Subs' y0 s2) := by
 unfold zHR zCQ
 repeat with_reducible (first | intro _ | apply h_rec_argument_Subs | exact Le.refl _ | apply Le.ite | apply Le.seqE | apply Le.bind | apply Le.lp | exact Le.none _)
def zI2 (n_ : Nat) (rec_argument_Subs : (List zI) → Int → Option (List Int)) (y0 : List zI) (y1 : Int) : Option (List Int) :=
 (zA2 y0 y1).bind fun r1 =>
 if !r1 then
  some ([] : List Int)
 else
  (
   (zF y0 y1).bind fun x1 =>
   (lp n_) ((zHR n_) x1 rec_argument_Subs y0) (([y1] : List Int), 0) : Option (List Int)).bind fun s1 =>
  ((zDy n_) s1).bind fun r3 =>
  ((zGG n_) r3).bind fun r4 =>
  some r4
theorem zOl (n_ : Nat) {rec_argument_Subs rec_argument_Subs' : (List zI) → Int → Option (List Int)} (h_rec_argument_Subs : ∀ u0 u1, Le (rec_argument_Subs u0 u1) (rec_argument_Subs' u0 u1)) (y0 : List zI) (y1 : Int) : Le (zI2 n_ rec_argument_Subs y0 y1) (zDp rec_argument_Subs' y0 y1) := by
 unfold zI2 zDp
 repeat with_reducible (first | intro _ | apply h_rec_argument_Subs | apply zIF | apply zHS | apply zN0 | exact Le.refl _ | apply Le.ite | apply Le.seqE | apply Le.bind | apply Le.lp | exact Le.none _)
def zI4 (n_ : Nat) : Nat → (List zI) → Int → Option (List Int)
 | 0 => fun _ _ => none
 | k + 1 => fun y0 y1 => (zI2 n_) ((zI4 n_) k) y0 y1
theorem zKV (n_ : Nat) : ∀ (k m : Nat), k ≤ m → ∀ u0 u1, Le (zI4 n_ k u0 u1) (zCA m u0 u1)
 | 0, _, _ => fun u0 u1 => Le.none _
 | k + 1, m, h => fun u0 u1 => by
  obtain ⟨m, rfl⟩ : ∃ q, m = q + 1 := ⟨m - 1, by omega⟩
  exact zOl n_ (zKV n_ k m (by omega)) _ _
def zMW (n_ : Nat) (y0 : List zI) (y1 : Int) : Option (List Int) :=
 zI4 n_ n_ y0 y1
theorem zPb (n_ : Nat) (y0 : List zI) (y1 : Int) : Le (zMW n_ y0 y1) (zC6 y0 y1) := Le.lim n_ fun m h => zKV n_ n_ m h _ _
def zIx (n_ : Nat) (y0 : List zI) (y1 : Int) : Tw (zC6 y0 y1) := ⟨zMW n_ y0 y1, zPb n_ y0 y1⟩
def zHz (n_ : Nat) y0 y1 y2 : Tw (zBB y0 y1 y2) := by
 delta zBB
 repeat with_reducible (first | intro _ | apply zIx n_ | apply zKa n_ | apply zGL n_ | apply ti | apply ts | apply tb | apply tl n_ | exact td _)
def zHj (n_ : Nat) (x4 : zI) (rec_argument_run : zM → (List zI) → Int → Option (List zN)) (y0 : zM) (y1 : List zI) (s2 : (List zN) × Int) : Option (((List zN) × Int) ⊕ (List zN)) :=
 if decide (s2.2 < (len x4.2.2.1)) then
  (zF x4.2.2.1 s2.2).bind fun x5 =>
  (rec_argument_run y0 y1 x5).bind fun r1 =>
  (wI s2.1 r1).bind fun x6 =>
  some (.inl (x6, zW (s2.2 + 1)))
 else
  some (.inr s2.1)
theorem zNz (n_ : Nat) (x4 : zI) {rec_argument_run rec_argument_run' : zM → (List zI) → Int → Option (List zN)} (h_rec_argument_run : ∀ u0 u1 u2, Le (rec_argument_run u0 u1 u2) (rec_argument_run' u0 u1 u2)) (y0 : zM) (y1 : List zI) (s2 : (List zN) × Int) : Le (zHj n_ x4 rec_argument_run y0 y1 s2) (zFx x4 rec_argument_run' y0 y1 s2) := by
 unfold zHj zFx
 repeat with_reducible (first | intro _ | apply h_rec_argument_run | exact Le.refl _ | apply Le.ite | apply Le.seqE | apply Le.bind | apply Le.lp | exact Le.none _)
def zJT (n_ : Nat) (rec_argument_run : zM → (List zI) → Int → Option (List zN)) (y0 : zM) (y1 : List zI) (y2 : Int) : Option (List zN) :=
 (zF y1 y2).bind fun x1 =>
 (zF y1 y2).bind fun x2 =>
 (
  if decide (0 ≤ x2.2.1) then
   (zF y0.2.1 x2.2.1).bind fun x3 =>
   some x3.2.1
  else
   some false : Option Bool).bind fun s1 =>
 if s1 then
  (zF y1 y2).bind fun x4 =>
  (lp n_) ((zHj n_) x4 rec_argument_run y0 y1) (([x1.2.2.2] : List zN), 0)
 else
  some ([x1.2.2.2] : List zN)
theorem zP0 (n_ : Nat) {rec_argument_run rec_argument_run' : zM → (List zI) → Int → Option (List zN)} (h_rec_argument_run : ∀ u0 u1 u2, Le (rec_argument_run u0 u1 u2) (rec_argument_run' u0 u1 u2)) (y0 : zM) (y1 : List zI) (y2 : Int) : Le (zJT n_ rec_argument_run y0 y1 y2) (zFG rec_argument_run' y0 y1 y2) := by
 unfold zJT zFG
 repeat with_reducible (first | intro _ | apply h_rec_argument_run | apply zNz | exact Le.refl _ | apply Le.ite | apply Le.seqE | apply Le.bind | apply Le.lp | exact Le.none _)
def zJI (n_ : Nat) : Nat → zM → (List zI) → Int → Option (List zN)
 | 0 => fun _ _ _ => none
 | k + 1 => fun y0 y1 y2 => (zJT n_) ((zJI n_) k) y0 y1 y2
theorem zLR (n_ : Nat) : ∀ (k m : Nat), k ≤ m → ∀ u0 u1 u2, Le (zJI n_ k u0 u1 u2) (zBs m u0 u1 u2)
 | 0, _, _ => fun u0 u1 u2 => Le.none _
 | k + 1, m, h => fun u0 u1 u2 => by
  obtain ⟨m, rfl⟩ : ∃ q, m = q + 1 := ⟨m - 1, by omega⟩
  exact zP0 n_ (zLR n_ k m (by omega)) _ _ _
def zMr (n_ : Nat) (y0 : zM) (y1 : List zI) (y2 : Int) : Option (List zN) :=
 zJI n_ n_ y0 y1 y2
theorem zPy (n_ : Nat) (y0 : zM) (y1 : List zI) (y2 : Int) : Le (zMr n_ y0 y1 y2) (zDV y0 y1 y2) := Le.lim n_ fun m h => zLR n_ n_ m h _ _ _
def zRI (n_ : Nat) (y0 : zM) (y1 : List zI) (y2 : Int) : Tw (zDV y0 y1 y2) := ⟨zMr n_ y0 y1 y2, zPy n_ y0 y1 y2⟩
def zLa (n_ : Nat) y0 y1 : Tw (zBQ y0 y1) := by
 delta zBQ
 repeat with_reducible (first | intro _ | apply ti | apply ts | apply tb | apply tl n_ | exact td _)
def zKH (n_ : Nat) y0 y1 : Tw (zBV y0 y1) := by
 delta zBV
 repeat with_reducible (first | intro _ | apply zLa n_ | apply ti | apply ts | apply tb | apply tl n_ | exact td _)
def zKh (n_ : Nat) y0 y1 : Tw (zDG y0 y1) := by
 delta zDG
 repeat with_reducible (first | intro _ | apply zKH n_ | apply ti | apply ts | apply tb | apply tl n_ | exact td _)
def zNg (n_ : Nat) y0 y1 : Tw (zDT y0 y1) := by
 delta zDT
 repeat with_reducible (first | intro _ | apply ti | apply ts | apply tb | apply tl n_ | exact td _)
def zIP (n_ : Nat) y0 y1 : Tw (zBG y0 y1) := by
 delta zBG
 repeat with_reducible (first | intro _ | apply zNg n_ | apply ti | apply ts | apply tb | apply tl n_ | exact td _)
def zMn (n_ : Nat) y3 y0 y2 y1 s1 : Tw (zBc y3 y0 y2 y1 s1) := by
 delta zBc
 repeat with_reducible (first | intro _ | apply zRI n_ | apply zKh n_ | apply zHz n_ | apply zIP n_ | apply ti | apply ts | apply tb | apply tl n_ | exact td _)
def zKQ (n_ : Nat) y0 y1 y2 y3 : Tw (zBo y0 y1 y2 y3) := by
 delta zBo
 repeat with_reducible (first | intro _ | apply zMn n_ | apply ti | apply ts | apply tb | apply tl n_ | exact td _)
def zKL (n_ : Nat) (y0 : zM) (y1 : List zI) (y2 : Int) (y3 : List Int) := (zKQ n_ y0 y1 y2 y3).1
theorem zON (n_ : Nat) (y0 : zM) (y1 : List zI) (y2 : Int) (y3 : List Int) : Le (zKL n_ y0 y1 y2 y3) (zBo y0 y1 y2 y3) := (zKQ n_ y0 y1 y2 y3).2
def zDP (n_ : Nat) y0 y2 : Tw (zAC y0 y2) := by
 delta zAC
 repeat with_reducible (first | intro _ | apply ti | apply ts | apply tb | apply tl n_ | exact td _)
def zBA (n_ : Nat) y0 y2 : Tw (zAA y0 y2) := by
 delta zAA
 repeat with_reducible (first | intro _ | apply zDP n_ | apply ti | apply ts | apply tb | apply tl n_ | exact td _)
def zBF (n_ : Nat) (y0 : List Int) (y2 : uP) := (zBA n_ y0 y2).1
theorem zC4 (n_ : Nat) (y0 : List Int) (y2 : uP) : Le (zBF n_ y0 y2) (zAA y0 y2) := (zBA n_ y0 y2).2
def zCS (n_ : Nat) (y0 : uP) (x1 : qR) (y2 : List Int) (rec_argument_builder_apply_2 : uP → Int → (List Int) → Option (List zI)) (y1 : Int) (s2 : Int × (List zI)) : Option ((Int × (List zI)) ⊕ (Unit ⊕ (List zI))) :=
 if decide (s2.1 < (len y0.2.1)) then
  (zF y0.2.1 s2.1).bind fun x2 =>
  (zF x1.2.2.2.1 (len y2)).bind fun x3 =>
  if x2.2.2.2 == x3 then
   (
    (zDN y2).bind fun r2 =>
    (wI r2 ([s2.1] : List Int)).bind fun x4 =>
    (rec_argument_builder_apply_2 (y0.1, y0.2.1, s2.2, y0.2.2.2) y1 x4).bind fun r3 =>
    some r3 : Option (List zI)).bind fun s3 =>
   some (.inl (zW (s2.1 + 1), s3))
  else
   some (.inl (zW (s2.1 + 1), s2.2))
 else
  some (.inr (.inr s2.2))
theorem zIL (n_ : Nat) (y0 : uP) (x1 : qR) (y2 : List Int) {rec_argument_builder_apply_2 rec_argument_builder_apply_2' : uP → Int → (List Int) → Option (List zI)} (h_rec_argument_builder_apply_2 : ∀ u0 u1 u2, Le (rec_argument_builder_apply_2 u0 u1 u2) (rec_argument_builder_apply_2' u0 u1 u2)) (y1 : Int) (s2 : Int × (List zI)) : Le (zCS n_ y0 x1 y2 rec_argument_builder_apply_2 y1 s2) (zA1 y0 x1 y2 rec_argument_builder_apply_2' y1 s2) := by
 unfold zCS zA1
 repeat with_reducible (first | intro _ | apply h_rec_argument_builder_apply_2 | exact Le.refl _ | apply Le.ite | apply Le.seqE | apply Le.bind | apply Le.lp | exact Le.none _)
def zCi (n_ : Nat) (rec_argument_builder_apply_2 : uP → Int → (List Int) → Option (List zI)) (y0 : uP) (y1 : Int) (y2 : List Int) : Option (List zI) :=
 (zF y0.1.2.1 y1).bind fun x1 =>
 (zAj y0).bind fun r1 =>
 if r1 then
  some y0.2.2.1
 else
  yC (
   if decide ((len y2) < (len x1.2.2.2.1)) then
    (lp n_) ((zCS n_) y0 x1 y2 rec_argument_builder_apply_2 y1) (0, y0.2.2.1)
   else
    some (.inl ()) : Option (Unit ⊕ (List zI))) fun _ =>
  (
   ((zBF n_) y2 y0).bind fun r6 =>
   if r6 then
    ((zKL n_) y0.1 y0.2.1 y1 y2).bind fun r7 =>
    some r7
   else
    some false : Option Bool).bind fun s4 =>
  if s4 then
   (zF y0.1.2.1 y1).bind fun x6 =>
   (wI y0.2.2.1 ([((-1), y1, y2, x6.2.2.2.2)] : List zI)).bind fun x7 =>
   some x7
  else
   some y0.2.2.1
theorem zIl (n_ : Nat) {rec_argument_builder_apply_2 rec_argument_builder_apply_2' : uP → Int → (List Int) → Option (List zI)} (h_rec_argument_builder_apply_2 : ∀ u0 u1 u2, Le (rec_argument_builder_apply_2 u0 u1 u2) (rec_argument_builder_apply_2' u0 u1 u2)) (y0 : uP) (y1 : Int) (y2 : List Int) : Le (zCi n_ rec_argument_builder_apply_2 y0 y1 y2) (zAi rec_argument_builder_apply_2' y0 y1 y2) := by
 unfold zCi zAi
 repeat with_reducible (first | intro _ | apply h_rec_argument_builder_apply_2 | apply zON | apply zC4 | apply zIL | exact Le.refl _ | apply Le.ite | apply Le.seqE | apply Le.bind | apply Le.lp | exact Le.none _)
def zCc (n_ : Nat) : Nat → uP → Int → (List Int) → Option (List zI)
 | 0 => fun _ _ _ => none
 | k + 1 => fun y0 y1 y2 => (zCi n_) ((zCc n_) k) y0 y1 y2
theorem zFW (n_ : Nat) : ∀ (k m : Nat), k ≤ m → ∀ u0 u1 u2, Le (zCc n_ k u0 u1 u2) (zAU m u0 u1 u2)
 | 0, _, _ => fun u0 u1 u2 => Le.none _
 | k + 1, m, h => fun u0 u1 u2 => by
  obtain ⟨m, rfl⟩ : ∃ q, m = q + 1 := ⟨m - 1, by omega⟩
  exact zIl n_ (zFW n_ k m (by omega)) _ _ _
def zGC (n_ : Nat) (y0 : uP) (y1 : Int) (y2 : List Int) : Option (List zI) :=
 zCc n_ n_ y0 y1 y2
theorem zJH (n_ : Nat) (y0 : uP) (y1 : Int) (y2 : List Int) : Le (zGC n_ y0 y1 y2) (zAh y0 y1 y2) := Le.lim n_ fun m h => zFW n_ n_ m h _ _ _
def zJc (n_ : Nat) (y0 : uP) (y1 : Int) (y2 : List Int) : Tw (zAh y0 y1 y2) := ⟨zGC n_ y0 y1 y2, zJH n_ y0 y1 y2⟩
def zF4 (n_ : Nat) y0 y1 : Tw (zAN y0 y1) := by
 delta zAN
 repeat with_reducible (first | intro _ | apply ti | apply ts | apply tb | apply tl n_ | exact td _)
def zMY (n_ : Nat) y0 y1 : Tw (zCe y0 y1) := by
 delta zCe
 repeat with_reducible (first | intro _ | apply zF4 n_ | apply ti | apply ts | apply tb | apply tl n_ | exact td _)
def zD6 (n_ : Nat) y0 y1 : Tw (zAE y0 y1) := by
 delta zAE
 repeat with_reducible (first | intro _ | apply ti | apply ts | apply tb | apply tl n_ | exact td _)
def zOH (n_ : Nat) y0 y1 : Tw (zCH y0 y1) := by
 delta zCH
 repeat with_reducible (first | intro _ | apply zD6 n_ | apply ti | apply ts | apply tb | apply tl n_ | exact td _)
def zE5 (n_ : Nat) y0 : Tw (zAl y0) := by
 delta zAl
 repeat with_reducible (first | intro _ | apply ti | apply ts | apply tb | apply tl n_ | exact td _)
def zDt (n_ : Nat) y0 : Tw (zAy y0) := by
 delta zAy
 repeat with_reducible (first | intro _ | apply zE5 n_ | apply ti | apply ts | apply tb | apply tl n_ | exact td _)
def zNq (n_ : Nat) y0 : Tw (zDH y0) := by
 delta zDH
 repeat with_reducible (first | intro _ | apply zE5 n_ | apply ti | apply ts | apply tb | apply tl n_ | exact td _)
def zNw (n_ : Nat) y0 : Tw (zCK y0) := by
 delta zCK
 repeat with_reducible (first | intro _ | apply zDt n_ | apply zNq n_ | apply ti | apply ts | apply tb | apply tl n_ | exact td _)
def zMq (n_ : Nat) y0 y1 : Tw (zBd y0 y1) := by
 delta zBd
 repeat with_reducible (first | intro _ | apply zDt n_ | apply zMY n_ | apply ti | apply ts | apply tb | apply tl n_ | exact td _)
def zNj (n_ : Nat) y0 s3 : Tw (zCE y0 s3) := by
 delta zCE
 repeat with_reducible (first | intro _ | apply zDt n_ | apply ti | apply ts | apply tb | apply tl n_ | exact td _)
def zQc (n_ : Nat) y0 : Tw (zEH y0) := by
 delta zEH
 repeat with_reducible (first | intro _ | apply zE5 n_ | apply zDt n_ | apply zNj n_ | apply ti | apply ts | apply tb | apply tl n_ | exact td _)
def zL6 (n_ : Nat) y0 s2 : Tw (zBR y0 s2) := by
 delta zBR
 repeat with_reducible (first | intro _ | apply zNw n_ | apply zOH n_ | apply ti | apply ts | apply tb | apply tl n_ | exact td _)
def zL9 (n_ : Nat) y0 s4 : Tw (zBU y0 s4) := by
 delta zBU
 repeat with_reducible (first | intro _ | apply zQc n_ | apply zMY n_ | apply ti | apply ts | apply tb | apply tl n_ | exact td _)
def zL8 (n_ : Nat) y0 s5 : Tw (zBS y0 s5) := by
 delta zBS
 repeat with_reducible (first | intro _ | apply zMq n_ | apply ti | apply ts | apply tb | apply tl n_ | exact td _)
def zJY (n_ : Nat) y0 : Tw (zBC y0) := by
 delta zBC
 repeat with_reducible (first | intro _ | apply zL6 n_ | apply zL9 n_ | apply zL8 n_ | apply ti | apply ts | apply tb | apply tl n_ | exact td _)
def zNL (n_ : Nat) y0 s4 s6 : Tw (zB2 y0 s4 s6) := by
 delta zB2
 repeat with_reducible (first | intro _ | apply zJc n_ | apply ti | apply ts | apply tb | apply tl n_ | exact td _)
def zNX (n_ : Nat) y0 s4 : Tw (zA8 y0 s4) := by
 delta zA8
 repeat with_reducible (first | intro _ | apply zNL n_ | apply ti | apply ts | apply tb | apply tl n_ | exact td _)
def zPK (n_ : Nat) y0 : Tw (zBf y0) := by
 delta zBf
 repeat with_reducible (first | intro _ | apply zJY n_ | apply zNX n_ | apply ti | apply ts | apply tb | apply tl n_ | exact td _)
def zJS (n_ : Nat) y0 s1 : Tw (zC8 y0 s1) := by
 delta zC8
 repeat with_reducible (first | intro _ | apply ti | apply ts | apply tb | apply tl n_ | exact td _)
def zKO (n_ : Nat) y0 : Tw (zAw y0) := by
 delta zAw
 repeat with_reducible (first | intro _ | apply zJS n_ | apply ti | apply ts | apply tb | apply tl n_ | exact td _)
def zEl (n_ : Nat) (y0 : List zN) : Tw (zAB y0) := ⟨zAr n_ y0, zEV n_ y0⟩
def zLL (n_ : Nat) y0 : Tw (zCY y0) := by
 delta zCY
 repeat with_reducible (first | intro _ | apply zEl n_ | apply zKO n_ | apply ti | apply ts | apply tb | apply tl n_ | exact td _)
def zH7 (n_ : Nat) y0 y1 : Tw (zAu y0 y1) := by
 delta zAu
 repeat with_reducible (first | intro _ | apply zLL n_ | apply ti | apply ts | apply tb | apply tl n_ | exact td _)
def zSi (n_ : Nat) y0 : Tw (zFd y0) := by
 delta zFd
 repeat with_reducible (first | intro _ | apply ti | apply ts | apply tb | apply tl n_ | exact td _)
def zEs (n_ : Nat) (y0 : List qU) : Tw (zAI y0) := ⟨zAp n_ y0, zE3 n_ y0⟩
def zNC (n_ : Nat) y1 s2 r1 s3 s4 : Tw (zBm y1 s2 r1 s3 s4) := by
 delta zBm
 repeat with_reducible (first | intro _ | apply zIx n_ | apply zIP n_ | apply ti | apply ts | apply tb | apply tl n_ | exact td _)
def zNV (n_ : Nat) y1 y0 s2 s3 : Tw (zBr y1 y0 s2 s3) := by
 delta zBr
 repeat with_reducible (first | intro _ | apply zNC n_ | apply ti | apply ts | apply tb | apply tl n_ | exact td _)
def zNY (n_ : Nat) y1 y0 s2 : Tw (zB1 y1 y0 s2) := by
 delta zB1
 repeat with_reducible (first | intro _ | apply zNV n_ | apply ti | apply ts | apply tb | apply tl n_ | exact td _)
def zPT (n_ : Nat) y0 y1 : Tw (zCy y0 y1) := by
 delta zCy
 repeat with_reducible (first | intro _ | apply zNY n_ | apply zEs n_ | apply ti | apply ts | apply tb | apply tl n_ | exact td _)
def zJQ (n_ : Nat) y0 y1 : Tw (zB3 y0 y1) := by
 delta zB3
 repeat with_reducible (first | intro _ | apply zIx n_ | apply zKa n_ | apply ti | apply ts | apply tb | apply tl n_ | exact td _)
def zFv (n_ : Nat) y0 y1 : Tw (zAQ y0 y1) := by
 delta zAQ
 repeat with_reducible (first | intro _ | apply ti | apply ts | apply tb | apply tl n_ | exact td _)
def zFO (n_ : Nat) y0 y1 : Tw (zAM y0 y1) := by
 delta zAM
 repeat with_reducible (first | intro _ | apply zFv n_ | apply ti | apply ts | apply tb | apply tl n_ | exact td _)
def zRG (n_ : Nat) y0 y1 y2 : Tw (zFJ y0 y1 y2) := by
 delta zFJ
 repeat with_reducible (first | intro _ | apply zJQ n_ | apply zFO n_ | apply ti | apply ts | apply tb | apply tl n_ | exact td _)
def zHQ (n_ : Nat) (x5 : zI) (rec_argument_Last : zM → (List zI) → Int → Option (List Int)) (y0 : zM) (y1 : List zI) (s3 : (List Int) × Int) : Option (((List Int) × Int) ⊕ (List Int)) :=
 if decide (s3.2 < (len x5.2.2.1)) then
  (zF x5.2.2.1 s3.2).bind fun x6 =>
  (rec_argument_Last y0 y1 x6).bind fun r2 =>
  (wI s3.1 r2).bind fun x7 =>
  some (.inl (x7, zW (s3.2 + 1)))
 else
  some (.inr s3.1)
theorem zNE (n_ : Nat) (x5 : zI) {rec_argument_Last rec_argument_Last' : zM → (List zI) → Int → Option (List Int)} (h_rec_argument_Last : ∀ u0 u1 u2, Le (rec_argument_Last u0 u1 u2) (rec_argument_Last' u0 u1 u2)) (y0 : zM) (y1 : List zI) (s3 : (List Int) × Int) : Le (zHQ n_ x5 rec_argument_Last y0 y1 s3) (zCI x5 rec_argument_Last' y0 y1 s3) := by
 unfold zHQ zCI
 repeat with_reducible (first | intro _ | apply h_rec_argument_Last | exact Le.refl _ | apply Le.ite | apply Le.seqE | apply Le.bind | apply Le.lp | exact Le.none _)
def zI6 (n_ : Nat) (rec_argument_Last : zM → (List zI) → Int → Option (List Int)) (y0 : zM) (y1 : List zI) (y2 : Int) : Option (List Int) :=
 (
  (zA2 y1 y2).bind fun r1 =>
  if !r1 then
   some true
  else
   (zF y1 y2).bind fun x1 =>
   some (decide (x1.2.1 < 0)) : Option Bool).bind fun s1 =>
 if s1 then
  some ([] : List Int)
 else
  (zF y1 y2).bind fun x2 =>
  (zF y0.2.1 x2.2.1).bind fun x3 =>
  if !x3.2.1 then
   (zF y1 y2).bind fun x4 =>
   some ([x4.2.1] : List Int)
  else
   (
    (zF y1 y2).bind fun x5 =>
    (lp n_) ((zHQ n_) x5 rec_argument_Last y0 y1) (([] : List Int), 0) : Option (List Int)).bind fun s2 =>
   ((zDy n_) s2).bind fun r3 =>
   ((zGG n_) r3).bind fun r4 =>
   some r4
theorem zO7 (n_ : Nat) {rec_argument_Last rec_argument_Last' : zM → (List zI) → Int → Option (List Int)} (h_rec_argument_Last : ∀ u0 u1 u2, Le (rec_argument_Last u0 u1 u2) (rec_argument_Last' u0 u1 u2)) (y0 : zM) (y1 : List zI) (y2 : Int) : Le (zI6 n_ rec_argument_Last y0 y1 y2) (zEG rec_argument_Last' y0 y1 y2) := by
 unfold zI6 zEG
 repeat with_reducible (first | intro _ | apply h_rec_argument_Last | apply zIF | apply zHS | apply zNE | exact Le.refl _ | apply Le.ite | apply Le.seqE | apply Le.bind | apply Le.lp | exact Le.none _)
def zI9 (n_ : Nat) : Nat → zM → (List zI) → Int → Option (List Int)
 | 0 => fun _ _ _ => none
 | k + 1 => fun y0 y1 y2 => (zI6 n_) ((zI9 n_) k) y0 y1 y2
theorem zKN (n_ : Nat) : ∀ (k m : Nat), k ≤ m → ∀ u0 u1 u2, Le (zI9 n_ k u0 u1 u2) (zBu m u0 u1 u2)
 | 0, _, _ => fun u0 u1 u2 => Le.none _
 | k + 1, m, h => fun u0 u1 u2 => by
  obtain ⟨m, rfl⟩ : ∃ q, m = q + 1 := ⟨m - 1, by omega⟩
  exact zO7 n_ (zKN n_ k m (by omega)) _ _ _
def zMU (n_ : Nat) (y0 : zM) (y1 : List zI) (y2 : Int) : Option (List Int) :=
 zI9 n_ n_ y0 y1 y2
theorem zPS (n_ : Nat) (y0 : zM) (y1 : List zI) (y2 : Int) : Le (zMU n_ y0 y1 y2) (zFh y0 y1 y2) := Le.lim n_ fun m h => zKN n_ n_ m h _ _ _
def zQj (n_ : Nat) (y0 : zM) (y1 : List zI) (y2 : Int) : Tw (zFh y0 y1 y2) := ⟨zMU n_ y0 y1 y2, zPS n_ y0 y1 y2⟩
def zPC (n_ : Nat) y0 y1 : Tw (zGm y0 y1) := by
 delta zGm
 repeat with_reducible (first | intro _ | apply ti | apply ts | apply tb | apply tl n_ | exact td _)
def zLW (n_ : Nat) y0 y1 y2 : Tw (zBW y0 y1 y2) := by
 delta zBW
 repeat with_reducible (first | intro _ | apply zQj n_ | apply zPC n_ | apply ti | apply ts | apply tb | apply tl n_ | exact td _)
def zP8 (n_ : Nat) y0 : Tw (zCT y0) := by
 delta zCT
 repeat with_reducible (first | intro _ | apply ti | apply ts | apply tb | apply tl n_ | exact td _)
def zPI (n_ : Nat) y0 : Tw (zCU y0) := by
 delta zCU
 repeat with_reducible (first | intro _ | apply ti | apply ts | apply tb | apply tl n_ | exact td _)
def zKC (n_ : Nat) y0 y1 y2 : Tw (zC2 y0 y1 y2) := by
 delta zC2
 repeat with_reducible (first | intro _ | apply zPI n_ | apply zP8 n_ | apply ti | apply ts | apply tb | apply tl n_ | exact td _)
def zIX (n_ : Nat) y0 y1 y2 y3 y4 : Tw (zA5 y0 y1 y2 y3 y4) := by
 delta zA5
 repeat with_reducible (first | intro _ | apply zLW n_ | apply zKC n_ | apply ti | apply ts | apply tb | apply tl n_ | exact td _)
def zJM (n_ : Nat) y0 y1 y2 : Tw (zA9 y0 y1 y2) := by
 delta zA9
 repeat with_reducible (first | intro _ | apply zJQ n_ | apply ti | apply ts | apply tb | apply tl n_ | exact td _)
def zD1 (n_ : Nat) y0 y1 y2 y3 y4 : Tw (zAD y0 y1 y2 y3 y4) := by
 delta zAD
 repeat with_reducible (first | intro _ | apply zJM n_ | apply zKC n_ | apply ti | apply ts | apply tb | apply tl n_ | exact td _)
def zI3 (n_ : Nat) y0 y1 y2 y3 : Tw (zA4 y0 y1 y2 y3) := by
 delta zA4
 repeat with_reducible (first | intro _ | apply zLW n_ | apply ti | apply ts | apply tb | apply tl n_ | exact td _)
def zJ9 (n_ : Nat) y1 y2 y3 y4 y5 : Tw (zBK y1 y2 y3 y4 y5) := by
 delta zBK
 repeat with_reducible (first | intro _ | apply zIX n_ | apply zI3 n_ | apply zD1 n_ | apply ti | apply ts | apply tb | apply tl n_ | exact td _)
def zLV (n_ : Nat) y0 y1 y2 : Tw (zBY y0 y1 y2) := by
 delta zBY
 repeat with_reducible (first | intro _ | apply zHz n_ | apply zPC n_ | apply ti | apply ts | apply tb | apply tl n_ | exact td _)
def zIT (n_ : Nat) y0 y1 y2 y3 y4 : Tw (zAT y0 y1 y2 y3 y4) := by
 delta zAT
 repeat with_reducible (first | intro _ | apply zLV n_ | apply zKC n_ | apply ti | apply ts | apply tb | apply tl n_ | exact td _)
def zH5 (n_ : Nat) y0 y1 y2 y3 : Tw (zAV y0 y1 y2 y3) := by
 delta zAV
 repeat with_reducible (first | intro _ | apply zJM n_ | apply ti | apply ts | apply tb | apply tl n_ | exact td _)
def zI5 (n_ : Nat) y0 y1 y2 y3 : Tw (zA3 y0 y1 y2 y3) := by
 delta zA3
 repeat with_reducible (first | intro _ | apply zLV n_ | apply ti | apply ts | apply tb | apply tl n_ | exact td _)
def zJ5 (n_ : Nat) y1 y2 y3 y4 y6 : Tw (zBJ y1 y2 y3 y4 y6) := by
 delta zBJ
 repeat with_reducible (first | intro _ | apply zI5 n_ | apply zD1 n_ | apply zH5 n_ | apply zIT n_ | apply ti | apply ts | apply tb | apply tl n_ | exact td _)
def zUh (n_ : Nat) y0 y1 y2 y3 y4 : Tw (zHe y0 y1 y2 y3 y4) := by
 delta zHe
 repeat with_reducible (first | intro _ | apply zRG n_ | apply zJ9 n_ | apply zJ5 n_ | apply ti | apply ts | apply tb | apply tl n_ | exact td _)
def zJs (n_ : Nat) y0 y1 y2 y3 : Tw (zBP y0 y1 y2 y3) := by
 delta zBP
 repeat with_reducible (first | intro _ | apply zUh n_ | apply ti | apply ts | apply tb | apply tl n_ | exact td _)
def zD7 (n_ : Nat) y0 y1 y2 y3 s1 : Tw (zAa y0 y1 y2 y3 s1) := by
 delta zAa
 repeat with_reducible (first | intro _ | apply zJs n_ | apply ti | apply ts | apply tb | apply tl n_ | exact td _)
def zEZ (n_ : Nat) y0 y1 y2 y3 : Tw (zAX y0 y1 y2 y3) := by
 delta zAX
 repeat with_reducible (first | intro _ | apply zD7 n_ | apply ti | apply ts | apply tb | apply tl n_ | exact td _)
def zDU (n_ : Nat) y0 y1 y2 y3 s2 : Tw (zA7 y0 y1 y2 y3 s2) := by
 delta zA7
 repeat with_reducible (first | intro _ | apply zJs n_ | apply ti | apply ts | apply tb | apply tl n_ | exact td _)
def zEK (n_ : Nat) y0 y1 y2 y3 : Tw (zAF y0 y1 y2 y3) := by
 delta zAF
 repeat with_reducible (first | intro _ | apply zEZ n_ | apply zDU n_ | apply ti | apply ts | apply tb | apply tl n_ | exact td _)
def zP9 (n_ : Nat) y0 y1 y2 : Tw (zCV y0 y1 y2) := by
 delta zCV
 repeat with_reducible (first | intro _ | apply zPT n_ | apply zEK n_ | apply ti | apply ts | apply tb | apply tl n_ | exact td _)
def zK4 (n_ : Nat) y0 s1 : Tw (zDw y0 s1) := by
 delta zDw
 repeat with_reducible (first | intro _ | apply ti | apply ts | apply tb | apply tl n_ | exact td _)
def zLq (n_ : Nat) y0 : Tw (zBw y0) := by
 delta zBw
 repeat with_reducible (first | intro _ | apply zK4 n_ | apply ti | apply ts | apply tb | apply tl n_ | exact td _)
def zFz (n_ : Nat) (y0 : List wQ) : Tw (zAR y0) := ⟨zBI n_ y0, zFg n_ y0⟩
def zRM (n_ : Nat) y0 y1 : Tw (zDY y0 y1) := by
 delta zDY
 repeat with_reducible (first | intro _ | apply zFz n_ | apply zLq n_ | apply ti | apply ts | apply tb | apply tl n_ | exact td _)
def zS6 (n_ : Nat) y0 : Tw (zGj y0) := by
 delta zGj
 repeat with_reducible (first | intro _ | apply ti | apply ts | apply tb | apply tl n_ | exact td _)
def zSQ (n_ : Nat) y0 : Tw (zFm y0) := by
 delta zFm
 repeat with_reducible (first | intro _ | apply ti | apply ts | apply tb | apply tl n_ | exact td _)
def zPi (n_ : Nat) y0 y1 : Tw (zEB y0 y1) := by
 delta zEB
 repeat with_reducible (first | intro _ | apply zSi n_ | apply ti | apply ts | apply tb | apply tl n_ | exact td _)
def zND (n_ : Nat) y0 s1 : Tw (zAk y0 s1) := by
 delta zAk
 repeat with_reducible (first | intro _ | apply zPi n_ | apply ti | apply ts | apply tb | apply tl n_ | exact td _)
def zLK (n_ : Nat) y0 : Tw (zAq y0) := by
 delta zAq
 repeat with_reducible (first | intro _ | apply zND n_ | apply ti | apply ts | apply tb | apply tl n_ | exact td _)
def zQx (n_ : Nat) y0 : Tw (zFF y0) := by
 delta zFF
 repeat with_reducible (first | intro _ | apply zLK n_ | apply ti | apply ts | apply tb | apply tl n_ | exact td _)
def zL2 (n_ : Nat) y0 y1 : Tw (zCW y0 y1) := by
 delta zCW
 repeat with_reducible (first | intro _ | apply zQx n_ | apply zSQ n_ | apply zS6 n_ | apply ti | apply ts | apply tb | apply tl n_ | exact td _)
def zN3 (n_ : Nat) y0 y1 : Tw (zBq y0 y1) := by
 delta zBq
 repeat with_reducible (first | intro _ | apply ti | apply ts | apply tb | apply tl n_ | exact td _)
def zNT (n_ : Nat) r4 y0 s6 s9 s10 : Tw (zBD r4 y0 s6 s9 s10) := by
 delta zBD
 repeat with_reducible (first | intro _ | apply zL2 n_ | apply ti | apply ts | apply tb | apply tl n_ | exact td _)
def zN5 (n_ : Nat) s6 y0 s9 : Tw (zBZ s6 y0 s9) := by
 delta zBZ
 repeat with_reducible (first | intro _ | apply zL2 n_ | apply zNT n_ | apply ti | apply ts | apply tb | apply tl n_ | exact td _)
def zNM (n_ : Nat) y0 s6 : Tw (zAn y0 s6) := by
 delta zAn
 repeat with_reducible (first | intro _ | apply zN5 n_ | apply ti | apply ts | apply tb | apply tl n_ | exact td _)
def zPX (n_ : Nat) y0 : Tw (zCx y0) := by
 delta zCx
 repeat with_reducible (first | intro _ | apply zN3 n_ | apply zNM n_ | apply ti | apply ts | apply tb | apply tl n_ | exact td _)
def zLS (n_ : Nat) y0 : Tw (zCR y0) := by
 delta zCR
 repeat with_reducible (first | intro _ | apply zPX n_ | apply ti | apply ts | apply tb | apply tl n_ | exact td _)
def zGV (n_ : Nat) y0 y1 : Tw (zBX y0 y1) := by
 delta zBX
 repeat with_reducible (first | intro _ | apply ti | apply ts | apply tb | apply tl n_ | exact td _)
def zMJ (n_ : Nat) y0 x1 y1 s3 s4 : Tw (zBx y0 x1 y1 s3 s4) := by
 delta zBx
 repeat with_reducible (first | intro _ | apply zKh n_ | apply ti | apply ts | apply tb | apply tl n_ | exact td _)
def zMC (n_ : Nat) y0 y1 s3 : Tw (zB5 y0 y1 s3) := by
 delta zB5
 repeat with_reducible (first | intro _ | apply zMJ n_ | apply ti | apply ts | apply tb | apply tl n_ | exact td _)
def zNr (n_ : Nat) y0 y1 : Tw (zCD y0 y1) := by
 delta zCD
 repeat with_reducible (first | intro _ | apply zMC n_ | apply ti | apply ts | apply tb | apply tl n_ | exact td _)
def zPY (n_ : Nat) y0 y1 : Tw (zBe y0 y1) := by
 delta zBe
 repeat with_reducible (first | intro _ | apply zPK n_ | apply zP9 n_ | apply zRM n_ | apply zLS n_ | apply zGV n_ | apply zH7 n_ | apply zNr n_ | apply ti | apply ts | apply tb | apply tl n_ | exact td _)
def zOD (n_ : Nat) y0 : Tw (zF2 y0) := by
 delta zF2
 repeat with_reducible (first | intro _ | apply zLS n_ | apply ti | apply ts | apply tb | apply tl n_ | exact td _)
def zGc (n_ : Nat) y0 : Tw (zAm y0) := by
 delta zAm
 repeat with_reducible (first | intro _ | apply zOD n_ | apply ti | apply ts | apply tb | apply tl n_ | exact td _)
def zG8 (n_ : Nat) r1 s1 : Tw (zB0 r1 s1) := by
 delta zB0
 repeat with_reducible (first | intro _ | apply zGV n_ | apply ti | apply ts | apply tb | apply tl n_ | exact td _)
def zH2 (n_ : Nat) y0 : Tw (zAx y0) := by
 delta zAx
 repeat with_reducible (first | intro _ | apply zGc n_ | apply zG8 n_ | apply ti | apply ts | apply tb | apply tl n_ | exact td _)
def zGE (n_ : Nat) r1 s1 : Tw (zBN r1 s1) := by
 delta zBN
 repeat with_reducible (first | intro _ | apply zGV n_ | apply ti | apply ts | apply tb | apply tl n_ | exact td _)
def zGq (n_ : Nat) y0 : Tw (zAs y0) := by
 delta zAs
 repeat with_reducible (first | intro _ | apply zGE n_ | apply ti | apply ts | apply tb | apply tl n_ | exact td _)
def zGJ (n_ : Nat) r1 s1 : Tw (zBL r1 s1) := by
 delta zBL
 repeat with_reducible (first | intro _ | apply zGV n_ | apply ti | apply ts | apply tb | apply tl n_ | exact td _)
def zGu (n_ : Nat) y0 : Tw (zAt y0) := by
 delta zAt
 repeat with_reducible (first | intro _ | apply zGJ n_ | apply ti | apply ts | apply tb | apply tl n_ | exact td _)
def zNN (n_ : Nat) y0 y1 : Tw (zEY y0 y1) := by
 delta zEY
 repeat with_reducible (first | intro _ | apply zLK n_ | apply zH2 n_ | apply zGq n_ | apply zGu n_ | apply ti | apply ts | apply tb | apply tl n_ | exact td _)
def zKp (n_ : Nat) r1 y0 s1 : Tw (zEU r1 y0 s1) := by
 delta zEU
 repeat with_reducible (first | intro _ | apply zH7 n_ | apply ti | apply ts | apply tb | apply tl n_ | exact td _)
def zMg (n_ : Nat) y0 y1 : Tw (zDd y0 y1) := by
 delta zDd
 repeat with_reducible (first | intro _ | apply zNN n_ | apply zKp n_ | apply ti | apply ts | apply tb | apply tl n_ | exact td _)
def zKu (n_ : Nat) y0 : Tw (zC1 y0) := by
 delta zC1
 repeat with_reducible (first | intro _ | apply ti | apply ts | apply tb | apply tl n_ | exact td _)
def zMS (n_ : Nat) y0 y1 : Tw (zDC y0 y1) := by
 delta zDC
 repeat with_reducible (first | intro _ | apply zKh n_ | apply ti | apply ts | apply tb | apply tl n_ | exact td _)
def zCr (n_ : Nat) y0 y1 s1 : Tw (zAZ y0 y1 s1) := by
 delta zAZ
 repeat with_reducible (first | intro _ | apply zMS n_ | apply ti | apply ts | apply tb | apply tl n_ | exact td _)
def zDW (n_ : Nat) y0 y1 : Tw (zAO y0 y1) := by
 delta zAO
 repeat with_reducible (first | intro _ | apply zCr n_ | apply ti | apply ts | apply tb | apply tl n_ | exact td _)
def zCq (n_ : Nat) y0 y1 : Tw (zAH y0 y1) := by
 delta zAH
 repeat with_reducible (first | intro _ | apply zDW n_ | apply ti | apply ts | apply tb | apply tl n_ | exact td _)
def zJ0 (n_ : Nat) y0 y1 y2 : Tw (zCf y0 y1 y2) := by
 delta zCf
 repeat with_reducible (first | intro _ | apply zCq n_ | apply ti | apply ts | apply tb | apply tl n_ | exact td _)
def zDK (n_ : Nat) y0 y1 y2 s1 : Tw (zA6 y0 y1 y2 s1) := by
 delta zA6
 repeat with_reducible (first | intro _ | apply zJ0 n_ | apply ti | apply ts | apply tb | apply tl n_ | exact td _)
def zEA (n_ : Nat) y0 y1 y2 : Tw (zAS y0 y1 y2) := by
 delta zAS
 repeat with_reducible (first | intro _ | apply zDK n_ | apply ti | apply ts | apply tb | apply tl n_ | exact td _)
def zCt (n_ : Nat) y0 y1 y2 s2 : Tw (zA0 y0 y1 y2 s2) := by
 delta zA0
 repeat with_reducible (first | intro _ | apply zJ0 n_ | apply ti | apply ts | apply tb | apply tl n_ | exact td _)
def zDa (n_ : Nat) y0 y1 y2 : Tw (zAP y0 y1 y2) := by
 delta zAP
 repeat with_reducible (first | intro _ | apply zEA n_ | apply zCt n_ | apply ti | apply ts | apply tb | apply tl n_ | exact td _)
def zOk (n_ : Nat) y0 y1 y2 : Tw (zFo y0 y1 y2) := by
 delta zFo
 repeat with_reducible (first | intro _ | apply zMg n_ | apply zKu n_ | apply zLL n_ | apply zDa n_ | apply ti | apply ts | apply tb | apply tl n_ | exact td _)
def zP6 (n_ : Nat) y0 y1 : Tw (zCv y0 y1) := by
 delta zCv
 repeat with_reducible (first | intro _ | apply zPY n_ | apply zOk n_ | apply ti | apply ts | apply tb | apply tl n_ | exact td _)
def zGQ (n_ : Nat) y0 : Tw (zCX y0) := by
 delta zCX
 repeat with_reducible (first | intro _ | apply zDt n_ | apply ti | apply ts | apply tb | apply tl n_ | exact td _)
def zLc (n_ : Nat) y0 : Tw (zCo y0) := by
 delta zCo
 repeat with_reducible (first | intro _ | apply zGQ n_ | apply ti | apply ts | apply tb | apply tl n_ | exact td _)
def zK7 (n_ : Nat) y0 : Tw (zCB y0) := by
 delta zCB
 repeat with_reducible (first | intro _ | apply zGQ n_ | apply ti | apply ts | apply tb | apply tl n_ | exact td _)
def zLb (n_ : Nat) y0 s3 : Tw (zFK y0 s3) := by
 delta zFK
 repeat with_reducible (first | intro _ | apply zGQ n_ | apply ti | apply ts | apply tb | apply tl n_ | exact td _)
def zNU (n_ : Nat) y0 : Tw (zE4 y0) := by
 delta zE4
 repeat with_reducible (first | intro _ | apply zLb n_ | apply zGQ n_ | apply ti | apply ts | apply tb | apply tl n_ | exact td _)
def zPk (n_ : Nat) y0 : Tw (zHU y0) := by
 delta zHU
 repeat with_reducible (first | intro _ | apply zDt n_ | apply ti | apply ts | apply tb | apply tl n_ | exact td _)
def zCF (n_ : Nat) y0 y1 : Tw (zAc y0 y1) := by
 delta zAc
 repeat with_reducible (first | intro _ | apply zPk n_ | apply ti | apply ts | apply tb | apply tl n_ | exact td _)
def zFf (n_ : Nat) y0 y1 : Tw (zAz y0 y1) := by
 delta zAz
 repeat with_reducible (first | intro _ | apply zE5 n_ | apply ti | apply ts | apply tb | apply tl n_ | exact td _)
def zKY (n_ : Nat) y0 y1 : Tw (zCN y0 y1) := by
 delta zCN
 repeat with_reducible (first | intro _ | apply zCF n_ | apply zFf n_ | apply ti | apply ts | apply tb | apply tl n_ | exact td _)
def zJ6 (n_ : Nat) y0 : Tw (zBh y0) := by
 delta zBh
 repeat with_reducible (first | intro _ | apply zFf n_ | apply zCF n_ | apply ti | apply ts | apply tb | apply tl n_ | exact td _)
def zKX (n_ : Nat) s3 : Tw (zDz s3) := by
 delta zDz
 repeat with_reducible (first | intro _ | apply zCF n_ | apply ti | apply ts | apply tb | apply tl n_ | exact td _)
def zLi (n_ : Nat) y0 y1 : Tw (zDD y0 y1) := by
 delta zDD
 repeat with_reducible (first | intro _ | apply zFf n_ | apply zKX n_ | apply zCF n_ | apply ti | apply ts | apply tb | apply tl n_ | exact td _)
def zMf (n_ : Nat) y0 y1 : Tw (zDf y0 y1) := by
 delta zDf
 repeat with_reducible (first | intro _ | apply zKY n_ | apply zLc n_ | apply zLi n_ | apply zNU n_ | apply zJ6 n_ | apply zK7 n_ | apply ti | apply ts | apply tb | apply tl n_ | exact td _)
def zNF (n_ : Nat) s2 : Tw (zGg s2) := by
 delta zGg
 repeat with_reducible (first | intro _ | apply zMf n_ | apply ti | apply ts | apply tb | apply tl n_ | exact td _)
def zPZ (n_ : Nat) y0 : Tw (zGX y0) := by
 delta zGX
 repeat with_reducible (first | intro _ | apply zNF n_ | apply zJY n_ | apply ti | apply ts | apply tb | apply tl n_ | exact td _)
def zT8 (n_ : Nat) y0 : Tw (zGn y0) := by
 delta zGn
 repeat with_reducible (first | intro _ | apply zPZ n_ | apply ti | apply ts | apply tb | apply tl n_ | exact td _)
def zSP (n_ : Nat) : Tw (zFq ) := by
 delta zFq
 repeat with_reducible (first | intro _ | apply zT8 n_ | apply zP6 n_ | apply ti | apply ts | apply tb | apply tl n_ | exact td _)
end
end
section
theorem zXW : zFq = some true := (zSP 100).el (by kernel_rfl)
theorem zLw (y0 : zM) (y1 : vN) (y2 : List Int) {W0 W1 W2 : Prop} (_w0 : W0) (_w1 : W1) (_w2 : W2) : zBz y0 y1 y2 = some true := zQb zXW y0 y1 y2
end
end Go.GD
