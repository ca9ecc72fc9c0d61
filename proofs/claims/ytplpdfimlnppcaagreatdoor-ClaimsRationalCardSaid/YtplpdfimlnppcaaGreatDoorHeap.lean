/- A part. Conditions: none. -/
import Derived.Test.YtplpdfimlnppcaaGreatDoorCore
import Derived.Laws.AppendOwn
import Derived.Laws.MakeOwn
import Derived.Below
namespace Go.GD
open Go Go.RowKit
set_option autoImplicit false
variable {qd : Prop}
abbrev zW := List (Nat × Obj)
def bl : List zW → List Nat
 | [] => []
 | r :: rs => r.map Prod.fst ++ bl rs
theorem zLU {Ls : List zW} {b : Nat} : b ∈ bl Ls ↔ ∃ r ∈ Ls, ∃ p ∈ r, p.1 = b := by
 induction Ls with
 | nil => simp [bl]
 | cons r rs ih => simp [bl, ih]
theorem zDo (L M : List zW) : bl (L ++ M) = bl L ++ bl M := by
 induction L with
 | nil => rfl
 | cons r rs ih => simp [bl, ih]
structure wC (A : List Nat) (w : World) (Ls : List zW) : Prop where
 old : ∀ b ∈ A, b < w.heap.size
 has : ∀ r ∈ Ls, ∀ p ∈ r, w.heap[p.1]? = some p.2
 nodup : (bl Ls).Nodup
 apart : ∀ b ∈ bl Ls, b ∉ A
structure qT (qd : Prop) (Ls : List zW) (w : World) (Ls' : List zW) (w' : World) : Prop where
 os : w'.os = w.os
 tape : w'.tape = w.tape
 output : w'.output = w.output
 drawn : qd → w.drawn ≤ w'.drawn
 size : w.heap.size ≤ w'.heap.size
 keep : ∀ k, k < w.heap.size → k ∉ bl Ls → w'.heap[k]? = w.heap[k]?
 fresh : ∀ b ∈ bl Ls', b ∈ bl Ls ∨ w.heap.size ≤ b
theorem qT.refl (Ls : List zW) (w : World) : qT qd Ls w Ls w := ⟨rfl, rfl, rfl, fun _ => Nat.le_refl _, Nat.le_refl _, fun _ _ _ => rfl, fun _ h => .inl h⟩
theorem qT.trans {L L' L'' : List zW} {w w' w'' : World} (h : qT qd L w L' w') (k : qT qd L' w' L'' w'') : qT qd L w L'' w'' := by
 refine ⟨k.os.trans h.os, k.tape.trans h.tape, k.output.trans h.output, fun hq => Nat.le_trans (h.drawn hq) (k.drawn hq), Nat.le_trans h.size k.size, fun i hi hn => ?_, fun b hb => ?_⟩
 ·rw [k.keep i (Nat.lt_of_lt_of_le hi h.size) (fun hm => by rcases h.fresh i hm with h1 | h1; exact hn h1; omega), h.keep i hi hn]
 ·rcases k.fresh b hb with h1 | h1
  ·exact h.fresh b h1
  ·exact .inr (Nat.le_trans h.size h1)
theorem qT.drop {L L' L'' : List zW} {w w' : World} (h : qT qd L w L' w') (hs : ∀ b ∈ bl L'', b ∈ bl L') : qT qd L w L'' w' :=
 ⟨h.os, h.tape, h.output, h.drawn, h.size, h.keep, fun b hb => h.fresh b (hs b hb)⟩
theorem qT.done {L L' : List zW} {w w' : World} (h : qT qd L w L' w') : qT qd L w [] w' := h.drop (by simp [bl])
theorem qT.frame {w w' : World} (h : qT qd [] w [] w') (Ls : List zW) : qT qd Ls w Ls w' :=
 ⟨h.os, h.tape, h.output, h.drawn, h.size, fun k hk _ => h.keep k hk (by simp [bl]), fun _ hb => .inl hb⟩
theorem qT.on {L Ls : List zW} {w0 w w' : World} (_h : qT qd L w0 Ls w) (e : qT qd [] w [] w') : qT qd Ls w Ls w' := e.frame Ls
theorem wC.lt {A : List Nat} {w : World} {Ls : List zW} (h : wC A w Ls) {b : Nat} (hb : b ∈ bl Ls) : b < w.heap.size := by
 obtain ⟨r, hr, p, hp, rfl⟩ := zLU.1 hb
 exact (Array.getElem?_eq_some_iff.1 (h.has r hr p hp)).1
theorem wC.frame {A : List Nat} {w w' : World} {Ls : List zW} (h : wC A w Ls) (e : qT qd [] w [] w') : wC A w' Ls :=
 ⟨fun b hb => Nat.lt_of_lt_of_le (h.old b hb) e.size, fun r hr p hp => by
  rw [e.keep p.1 (Array.getElem?_eq_some_iff.1 (h.has r hr p hp)).1 (by simp [bl])]; exact h.has r hr p hp, h.nodup, h.apart⟩
theorem wC.sub {A : List Nat} {w : World} {Ls : List zW} (h : wC A w Ls) : wC (bl Ls ++ A) w [] :=
 ⟨fun b hb => by rcases List.mem_append.1 hb with h1 | h1; exact h.lt h1; exact h.old b h1, by simp, by simp [bl], by simp [bl]⟩
theorem wC.start {A : List Nat} {w : World} (h : ∀ b ∈ A, b < w.heap.size) : wC A w [] := ⟨h, by simp, by simp [bl], by simp [bl]⟩
theorem wC.alloc {A : List Nat} {w w' : World} {Ls : List zW} (h : wC A w Ls) (o : Obj) (hw : w'.heap = (w.alloc o).heap) : wC A w' (Ls ++ [[(w.heap.size, o)]]) := by
 have hn : w.heap.size ∉ bl Ls := fun hm => Nat.lt_irrefl _ (h.lt hm)
 refine ⟨fun b hb => ?_, fun r hr p hp => ?_, ?_, fun b hb => ?_⟩
 ·rw [hw]; have := h.old b hb; simp; omega
 ·rcases List.mem_append.1 hr with h1 | h1
  ·rw [hw, Below.heap_alloc w o p.1 (Array.getElem?_eq_some_iff.1 (h.has r h1 p hp)).1]; exact h.has r h1 p hp
  ·simp only [List.mem_singleton] at h1
   subst h1
   simp only [List.mem_singleton] at hp
   subst hp
   rw [hw]; show (w.heap.push o)[w.heap.size]? = some o; simp
 ·rw [zDo]
  refine List.nodup_append.2 ⟨h.nodup, by simp [bl], fun x hx y hy => ?_⟩
  simp [bl] at hy
  subst hy
  exact fun e => hn (e ▸ hx)
 ·rw [zDo] at hb
  rcases List.mem_append.1 hb with h1 | h1
  ·exact h.apart b h1
  ·simp [bl] at h1
   subst h1
   exact fun hA => Nat.lt_irrefl _ (h.old _ hA)
theorem qT.alloc {w w' : World} (Ls : List zW) (o : Obj) (hw : w'.heap = (w.alloc o).heap) (ho : w'.os = w.os) (ht : w'.tape = w.tape) (hp : w'.output = w.output) (hd : qd → w.drawn ≤ w'.drawn := by first | exact fun _ => Nat.le_refl _ | exact fun _ => Nat.le_succ _) : qT qd Ls w (Ls ++ [[(w.heap.size, o)]]) w' :=
 ⟨ho, ht, hp, hd, by rw [hw]; simp, fun k hk _ => by rw [hw]; exact Below.heap_alloc w o k hk, fun b hb => by
  rw [zDo] at hb
  rcases List.mem_append.1 hb with h1 | h1
  ·exact .inl h1
  ·simp [bl] at h1; exact .inr (by omega)⟩
theorem zW7 {α : Type} {l : List α} {i : Nat} {x y : α} (h : y ∈ l.set i x) : y = x ∨ ∃ j, j ≠ i ∧ l[j]? = some y := by
 obtain ⟨j, hj⟩ := List.mem_iff_getElem?.1 h
 by_cases hji : i = j
 ·subst hji
  rw [List.getElem?_set_self'] at hj
  cases hl : l[i]? with
  | none => simp [hl] at hj
  | some z => simp [hl] at hj; exact .inl hj.symm
 ·rw [List.getElem?_set_ne hji] at hj
  exact .inr ⟨j, fun e => hji e.symm, hj⟩
theorem zC6 {Ls : List zW} {i : Nat} {r : zW} (hr : Ls[i]? = some r) {p : Nat × Obj} (hp : p ∈ r) : p.1 ∈ bl Ls :=
 zLU.2 ⟨r, List.mem_iff_getElem?.2 ⟨i, hr⟩, p, hp, rfl⟩
theorem zEx {Ls : List zW} (h : (bl Ls).Nodup) : ∀ {i j : Nat} {r s : zW}, Ls[i]? = some r → Ls[j]? = some s → i ≠ j → ∀ p ∈ r, ∀ q ∈ s, p.1 ≠ q.1 := by
 induction Ls with
 | nil => intro i j r s hi; simp at hi
 | cons t ts ih =>
  simp only [bl] at h
  obtain ⟨h1, h2, h3⟩ := List.nodup_append.1 h
  intro i j r s hi hj hij p hp q hq e
  cases i with
  | zero =>
   cases j with
   | zero => exact hij rfl
   | succ j =>
    simp only [List.getElem?_cons_zero, Option.some.injEq] at hi
    simp only [List.getElem?_cons_succ] at hj
    subst hi
    exact h3 p.1 (List.mem_map.2 ⟨p, hp, rfl⟩) q.1 (zC6 hj hq) e
  | succ i =>
   simp only [List.getElem?_cons_succ] at hi
   cases j with
   | zero =>
    simp only [List.getElem?_cons_zero, Option.some.injEq] at hj
    subst hj
    exact h3 q.1 (List.mem_map.2 ⟨q, hq, rfl⟩) p.1 (zC6 hi hp) e.symm
   | succ j =>
    simp only [List.getElem?_cons_succ] at hj
    exact ih h2 hi hj (fun e => hij (by rw [e])) p hp q hq e
theorem zFu {Ls : List zW} {i : Nat} {r' : zW} {b : Nat} (h : b ∈ bl (Ls.set i r')) : (∃ p ∈ r', p.1 = b) ∨ ∃ j s, j ≠ i ∧ Ls[j]? = some s ∧ ∃ p ∈ s, p.1 = b := by
 obtain ⟨s, hs, p, hp, rfl⟩ := zLU.1 h
 rcases zW7 hs with rfl | ⟨j, hj, hl⟩
 ·exact .inl ⟨p, hp, rfl⟩
 ·exact .inr ⟨j, s, hj, hl, p, hp, rfl⟩
theorem zU3 : ∀ {Ls : List zW} {i : Nat} {r' : zW}, (bl Ls).Nodup → (r'.map Prod.fst).Nodup → (∀ j s, j ≠ i → Ls[j]? = some s → ∀ p ∈ r', ∀ q ∈ s, p.1 ≠ q.1) → (bl (Ls.set i r')).Nodup
 | [], i, r', h, _, _ => by simpa using h
 | t :: ts, 0, r', h, hr, ha => by
  simp only [bl] at h
  obtain ⟨h1, h2, h3⟩ := List.nodup_append.1 h
  simp only [List.set_cons_zero, bl]
  refine List.nodup_append.2 ⟨hr, h2, fun x hx y hy e => ?_⟩
  obtain ⟨p, hp, rfl⟩ := List.mem_map.1 hx
  obtain ⟨s, hs, q, hq, rfl⟩ := zLU.1 hy
  obtain ⟨j, hj⟩ := List.mem_iff_getElem?.1 hs
  exact ha (j + 1) s (by omega) (by simpa using hj) p hp q hq e
 | t :: ts, i + 1, r', h, hr, ha => by
  simp only [bl] at h
  obtain ⟨h1, h2, h3⟩ := List.nodup_append.1 h
  simp only [List.set_cons_succ, bl]
  refine List.nodup_append.2 ⟨h1, zU3 h2 hr (fun j s hj hs => ha (j + 1) s (by omega) (by simpa using hs)), fun x hx y hy e => ?_⟩
  obtain ⟨p, hp, rfl⟩ := List.mem_map.1 hx
  rcases zFu hy with ⟨q, hq, rfl⟩ | ⟨j, s, hj, hs, q, hq, rfl⟩
  ·exact ha 0 t (by omega) rfl q hq p hp e.symm
  ·exact h3 p.1 (List.mem_map.2 ⟨p, hp, rfl⟩) q.1 (zC6 hs hq) e
theorem wC.set {A : List Nat} {w w' : World} {Ls : List zW} (h : wC A w Ls) {i : Nat} {r r' : zW} (hr : Ls[i]? = some r)
  (hsz : w.heap.size ≤ w'.heap.size) (hk : ∀ k, k < w.heap.size → k ∉ r.map Prod.fst → w'.heap[k]? = w.heap[k]?)
  (hh : ∀ p ∈ r', w'.heap[p.1]? = some p.2) (hn : (r'.map Prod.fst).Nodup) (hf : ∀ p ∈ r', p.1 ∈ r.map Prod.fst ∨ w.heap.size ≤ p.1) : wC A w' (Ls.set i r') := by
 refine ⟨fun b hb => Nat.lt_of_lt_of_le (h.old b hb) hsz, fun s hs p hp => ?_, zU3 h.nodup hn fun j s hj hs p hp q hq e => ?_, fun b hb => ?_⟩
 ·rcases zW7 hs with rfl | ⟨j, hj, hl⟩
  ·exact hh p hp
  ·have hmem := List.mem_iff_getElem?.2 ⟨j, hl⟩
   have h1 := h.has s hmem p hp
   rw [hk p.1 (Array.getElem?_eq_some_iff.1 h1).1 (fun hm => by
    obtain ⟨q, hq, he⟩ := List.mem_map.1 hm
    exact zEx h.nodup hr hl (fun e => hj e.symm) q hq p hp he)]
   exact h1
 ·have h1 := h.has s (List.mem_iff_getElem?.2 ⟨j, hs⟩) q hq
  have hlt := (Array.getElem?_eq_some_iff.1 h1).1
  rcases hf p hp with h2 | h2
  ·obtain ⟨u, hu, he⟩ := List.mem_map.1 h2
   exact zEx h.nodup hr hs (fun e => hj e.symm) u hu q hq (he.trans e)
  ·omega
 ·rcases zFu hb with ⟨p, hp, rfl⟩ | ⟨j, s, hj, hs, p, hp, rfl⟩
  ·rcases hf p hp with h2 | h2
   ·obtain ⟨u, hu, he⟩ := List.mem_map.1 h2
    rw [← he]; exact h.apart _ (zC6 hr hu)
   ·intro hA; have := h.old _ hA; omega
  ·exact h.apart _ (zC6 hs hp)
theorem qT.set {w w' : World} {Ls : List zW} {i : Nat} {r r' : zW} (hr : Ls[i]? = some r) (ho : w'.os = w.os) (ht : w'.tape = w.tape) (hp : w'.output = w.output)
  (hsz : w.heap.size ≤ w'.heap.size) (hk : ∀ k, k < w.heap.size → k ∉ r.map Prod.fst → w'.heap[k]? = w.heap[k]?)
  (hf : ∀ p ∈ r', p.1 ∈ r.map Prod.fst ∨ w.heap.size ≤ p.1) (hd : qd → w.drawn ≤ w'.drawn := by first | exact fun _ => Nat.le_refl _ | exact fun _ => Nat.le_succ _) : qT qd Ls w (Ls.set i r') w' := by
 refine ⟨ho, ht, hp, hd, hsz, fun k hk1 hk2 => hk k hk1 (fun hm => hk2 ?_), fun b hb => ?_⟩
 ·obtain ⟨p, hp, rfl⟩ := List.mem_map.1 hm
  exact zC6 hr hp
 ·rcases zFu hb with ⟨p, hp, rfl⟩ | ⟨j, s, hj, hs, p, hp, rfl⟩
  ·rcases hf p hp with h2 | h2
   ·obtain ⟨u, hu, he⟩ := List.mem_map.1 h2
    exact .inl (he ▸ zC6 hr hu)
   ·exact .inr h2
  ·exact .inl (zC6 hs hp)
structure yK (Z : List Nat) (w : World) (Z' : List Nat) (w' : World) : Prop where
 size : w.heap.size ≤ w'.heap.size
 same : ∀ k, k < w.heap.size → k ∉ Z → k ∉ Z' ∧ w'.heap[k]? = w.heap[k]?
theorem qT.step {Ls Ls' : List zW} {w w' : World} (h : qT qd Ls w Ls' w') (A : List Nat) : yK (bl Ls ++ A) w (bl Ls' ++ A) w' :=
 ⟨h.size, fun k hk hn => by
  have h1 : k ∉ A := fun hm => hn (List.mem_append.2 (.inr hm))
  have h2 : k ∉ bl Ls := fun hm => hn (List.mem_append.2 (.inl hm))
  refine ⟨fun hm => ?_, h.keep k hk h2⟩
  rcases List.mem_append.1 hm with h3 | h3
  ·rcases h.fresh k h3 with h4 | h4
   ·exact h2 h4
   ·omega
  ·exact h1 h3⟩
theorem yK.less {Z Z' : List Nat} (w : World) (h : ∀ b ∈ Z', b ∈ Z) : yK Z w Z' w := ⟨Nat.le_refl _, fun k _ hn => ⟨fun hm => hn (h k hm), rfl⟩⟩
structure E (τ : Type) where
 n : Nat
 rd : List Nat → World → List Value → τ → Prop
 len : ∀ {Z w cs x}, rd Z w cs x → cs.length = n
 step : ∀ {Z w Z' w' cs x}, yK Z w Z' w' → rd Z w cs x → rd Z' w' cs x
 one : ∀ {Z w cs x}, rd Z w cs x → ∀ c ∈ cs, c.oneCell' = true
def zK (k : IntKind) : E Int := ⟨1, fun _ _ cs x => cs = [.int k x], by rintro _ _ _ _ rfl; rfl, by rintro _ _ _ _ _ _ _ rfl; rfl, by rintro _ _ _ _ rfl c hc; simp at hc; subst hc; rfl⟩
def zW2 : E Bool := ⟨1, fun _ _ cs x => cs = [.bool x], by rintro _ _ _ _ rfl; rfl, by rintro _ _ _ _ _ _ _ rfl; rfl, by rintro _ _ _ _ rfl c hc; simp at hc; subst hc; rfl⟩
def vK : E qD := ⟨1, fun _ _ cs x => cs = [vs x], by rintro _ _ _ _ rfl; rfl, by rintro _ _ _ _ _ _ _ rfl; rfl, by rintro _ _ _ _ rfl c hc; simp at hc; subst hc; rfl⟩
def vR {α β : Type} (e : E α) (f : E β) : E (α × β) :=
 ⟨e.n + f.n, fun Z w cs x => ∃ c1 c2, cs = c1 ++ c2 ∧ e.rd Z w c1 x.1 ∧ f.rd Z w c2 x.2,
  by rintro _ _ _ _ ⟨c1, c2, rfl, h1, h2⟩; simp [e.len h1, f.len h2],
  by rintro _ _ _ _ _ _ s ⟨c1, c2, rfl, h1, h2⟩; exact ⟨c1, c2, rfl, e.step s h1, f.step s h2⟩,
  by
  rintro _ _ _ _ ⟨c1, c2, rfl, h1, h2⟩ c hc
  rcases List.mem_append.1 hc with h | h
  ·exact e.one h1 c h
  ·exact f.one h2 c h⟩
section
variable {τ : Type} (e : E τ)
def E.rdL (Z : List Nat) (w : World) : List Value → List τ → Prop
 | cs, [] => cs = []
 | cs, x :: l => ∃ c1 c2, cs = c1 ++ c2 ∧ e.rd Z w c1 x ∧ E.rdL Z w c2 l
theorem E.rdL_len {Z : List Nat} {w : World} : ∀ {l : List τ} {cs : List Value}, e.rdL Z w cs l → cs.length = l.length * e.n
 | [], cs, h => by simp only [E.rdL] at h; simp [h]
 | x :: l, cs, h => by
  obtain ⟨c1, c2, rfl, h1, h2⟩ := h
  simp only [List.length_append, e.len h1, E.rdL_len h2, List.length_cons, Nat.add_mul, Nat.one_mul]
  omega
theorem E.rdL_step {Z Z' : List Nat} {w w' : World} (s : yK Z w Z' w') : ∀ {l : List τ} {cs : List Value}, e.rdL Z w cs l → e.rdL Z' w' cs l
 | [], cs, h => h
 | x :: l, cs, h => by obtain ⟨c1, c2, rfl, h1, h2⟩ := h; exact ⟨c1, c2, rfl, e.step s h1, E.rdL_step s h2⟩
theorem E.rdL_one {Z : List Nat} {w : World} : ∀ {l : List τ} {cs : List Value}, e.rdL Z w cs l → ∀ c ∈ cs, c.oneCell' = true
 | [], cs, h => by simp only [E.rdL] at h; simp [h]
 | x :: l, cs, h => by
  obtain ⟨c1, c2, rfl, h1, h2⟩ := h
  intro c hc
  rcases List.mem_append.1 hc with h | h
  ·exact e.one h1 c h
  ·exact E.rdL_one h2 c h
theorem E.rdL_append {Z : List Nat} {w : World} : ∀ {l m : List τ} {cs ds : List Value}, e.rdL Z w cs l → e.rdL Z w ds m → e.rdL Z w (cs ++ ds) (l ++ m)
 | [], m, cs, ds, h, k => by simp only [E.rdL] at h; subst h; simpa using k
 | x :: l, m, cs, ds, h, k => by
  obtain ⟨c1, c2, rfl, h1, h2⟩ := h
  exact ⟨c1, c2 ++ ds, by simp, h1, E.rdL_append h2 k⟩
theorem E.rdL_one_elem {Z : List Nat} {w : World} {x : τ} {cs : List Value} (h : e.rd Z w cs x) : e.rdL Z w cs [x] := ⟨cs, [], by simp, h, rfl⟩
theorem E.rdL_get {Z : List Nat} {w : World} : ∀ {l : List τ} {cs : List Value} {i : Nat} {x : τ}, e.rdL Z w cs l → l[i]? = some x → ∃ ci, e.rd Z w ci x ∧ ∀ j u, ci[j]? = some u → cs[i * e.n + j]? = some u
 | [], cs, i, x, h, hx => by simp at hx
 | y :: l, cs, 0, x, h, hx => by
  obtain ⟨c1, c2, rfl, h1, h2⟩ := h
  simp only [List.getElem?_cons_zero, Option.some.injEq] at hx
  subst hx
  exact ⟨c1, h1, fun j u hu => by simp only [Nat.zero_mul, Nat.zero_add]; rw [List.getElem?_append_left (List.getElem?_eq_some_iff.1 hu).1]; exact hu⟩
 | y :: l, cs, i + 1, x, h, hx => by
  obtain ⟨c1, c2, rfl, h1, h2⟩ := h
  simp only [List.getElem?_cons_succ] at hx
  obtain ⟨ci, k1, k2⟩ := E.rdL_get h2 hx
  refine ⟨ci, k1, fun j u hu => ?_⟩
  have := k2 j u hu
  have hl := e.len h1
  rw [show (i + 1) * e.n + j = c1.length + (i * e.n + j) by rw [hl, Nat.add_mul]; omega, List.getElem?_append_right (by omega)]
  simpa using this
theorem E.rdL_take {Z : List Nat} {w : World} : ∀ {l : List τ} {cs : List Value} (k : Nat), e.rdL Z w cs l → e.rdL Z w (cs.take (k * e.n)) (l.take k)
 | [], cs, k, h => by simp only [E.rdL] at h; simp [h, E.rdL]
 | y :: l, cs, 0, h => by simp [E.rdL]
 | y :: l, cs, k + 1, h => by
  obtain ⟨c1, c2, rfl, h1, h2⟩ := h
  have hl := e.len h1
  refine ⟨c1, c2.take (k * e.n), ?_, h1, E.rdL_take k h2⟩
  rw [show (k + 1) * e.n = c1.length + k * e.n by rw [hl, Nat.add_mul]; omega]
  rw [List.take_append, List.take_of_length_le (by omega)]; simp
theorem E.rdL_drop {Z : List Nat} {w : World} : ∀ {l : List τ} {cs : List Value} (k : Nat), e.rdL Z w cs l → e.rdL Z w (cs.drop (k * e.n)) (l.drop k)
 | [], cs, k, h => by simp only [E.rdL] at h; simp [h, E.rdL]
 | y :: l, cs, 0, h => by simpa using h
 | y :: l, cs, k + 1, h => by
  obtain ⟨c1, c2, rfl, h1, h2⟩ := h
  have hl := e.len h1
  have := E.rdL_drop k h2
  rw [show (k + 1) * e.n = c1.length + k * e.n by rw [hl, Nat.add_mul]; omega]
  rw [List.drop_append, List.drop_of_length_le (by omega)]; simpa using this
def xF (Z : List Nat) (w : World) (p : Option Addr) (c : Nat) (l : List τ) : Prop :=
 l.length ≤ c ∧ (l = [] ∨ ∃ b off cs, p = some ⟨b, off, none⟩ ∧ b ∉ Z ∧ b < w.heap.size ∧ e.rdL Z w cs l ∧ ∀ j u, cs[j]? = some u → w.cell? ⟨b, off + j, none⟩ = some u)
theorem xF.step {Z Z' : List Nat} {w w' : World} {p : Option Addr} {c : Nat} {l : List τ} (s : yK Z w Z' w') (h : xF e Z w p c l) : xF e Z' w' p c l := by
 refine ⟨h.1, h.2.imp id ?_⟩
 rintro ⟨b, off, cs, rfl, hb, hlt, hl, hc⟩
 obtain ⟨h1, h2⟩ := s.same b hlt hb
 exact ⟨b, off, cs, rfl, h1, Nat.lt_of_lt_of_le hlt s.size, e.rdL_step s hl, fun j u hu => by rw [World.cell?_of_block (w := w) h2]; exact hc j u hu⟩
theorem xF.nil (Z : List Nat) (w : World) (p : Option Addr) (c : Nat) : xF e Z w p c [] := ⟨Nat.zero_le _, .inl rfl⟩
def zWg (Z : List Nat) (w : World) (ad : Addr) (x : τ) : Prop :=
 ∃ b o ci, ad = ⟨b, o, none⟩ ∧ b ∉ Z ∧ b < w.heap.size ∧ e.rd Z w ci x ∧ ∀ j u, ci[j]? = some u → w.cell? ⟨b, o + j, none⟩ = some u
theorem zWg.step {Z Z' : List Nat} {w w' : World} {ad : Addr} {x : τ} (s : yK Z w Z' w') (h : zWg e Z w ad x) : zWg e Z' w' ad x := by
 obtain ⟨b, o, ci, rfl, hb, hlt, hx, hc⟩ := h
 obtain ⟨h1, h2⟩ := s.same b hlt hb
 exact ⟨b, o, ci, rfl, h1, Nat.lt_of_lt_of_le hlt s.size, e.step s hx, fun j u hu => by rw [World.cell?_of_block (w := w) h2]; exact hc j u hu⟩
end
def qZ {τ : Type} (e : E τ) : E (List τ) :=
 ⟨1, fun Z w cs l => ∃ p c, cs = [.slice p l.length c] ∧ xF e Z w p c l,
  by rintro _ _ _ _ ⟨p, c, rfl, _⟩; rfl,
  by rintro _ _ _ _ _ _ s ⟨p, c, rfl, h⟩; exact ⟨p, c, rfl, h.step e s⟩,
  by rintro _ _ _ _ ⟨p, c, rfl, h⟩ d hd; simp at hd; subst hd; rfl⟩
theorem zK.mk {k : IntKind} {Z : List Nat} {w : World} {x : Int} : (zK k).rd Z w [.int k x] x := rfl
theorem zW2.mk {Z : List Nat} {w : World} {x : Bool} : zW2.rd Z w [vb x] x := rfl
theorem vK.mk {Z : List Nat} {w : World} {x : qD} : vK.rd Z w [vs x] x := rfl
theorem vR.mk {α β : Type} {e : E α} {f : E β} {Z : List Nat} {w : World} {c1 c2 : List Value} {x : α} {y : β} (h1 : e.rd Z w c1 x) (h2 : f.rd Z w c2 y) : (vR e f).rd Z w (c1 ++ c2) (x, y) := ⟨c1, c2, rfl, h1, h2⟩
theorem qZ.mk {τ : Type} {e : E τ} {Z : List Nat} {w : World} {p : Option Addr} {c : Nat} {l : List τ} (h : xF e Z w p c l) : (qZ e).rd Z w [.slice p l.length c] l := ⟨p, c, rfl, h⟩
theorem zWg.fst {α β : Type} {e : E α} {f : E β} {Z : List Nat} {w : World} {b o : Nat} {x : α × β} (h : zWg (vR e f) Z w ⟨b, o, none⟩ x) : zWg e Z w ⟨b, o, none⟩ x.1 := by
 obtain ⟨b', o', ci, he, hb, hlt, ⟨c1, c2, rfl, h1, h2⟩, hc⟩ := h
 cases he
 exact ⟨b, o, c1, rfl, hb, hlt, h1, fun j u hu => hc j u (by rw [List.getElem?_append_left (List.getElem?_eq_some_iff.1 hu).1]; exact hu)⟩
theorem zWg.snd {α β : Type} {e : E α} {f : E β} {Z : List Nat} {w : World} {b o : Nat} {x : α × β} (h : zWg (vR e f) Z w ⟨b, o, none⟩ x) : zWg f Z w ⟨b, o + e.n, none⟩ x.2 := by
 obtain ⟨b', o', ci, he, hb, hlt, ⟨c1, c2, rfl, h1, h2⟩, hc⟩ := h
 cases he
 refine ⟨b, o + e.n, c2, rfl, hb, hlt, h2, fun j u hu => ?_⟩
 have hl := e.len h1
 rw [Nat.add_assoc]
 refine hc (e.n + j) u ?_
 rw [List.getElem?_append_right (by omega), hl]
 simpa using hu
theorem xF.mv {τ : Type} {e : E τ} {Z Z' : List Nat} {w w' : World} {p : Option Addr} {c : Nat} {l : List τ} (h : xF e Z w p c l) (s : yK Z w Z' w') : xF e Z' w' p c l := h.step e s
theorem zWg.mv {τ : Type} {e : E τ} {Z Z' : List Nat} {w w' : World} {ad : Addr} {x : τ} (h : zWg e Z w ad x) (s : yK Z w Z' w') : zWg e Z' w' ad x := h.step e s
theorem yK.right (B A : List Nat) (w : World) : yK (B ++ A) w A w := yK.less w fun _ h => List.mem_append.2 (.inr h)
theorem zZZ {Ls : List zW} {k b : Nat} (h : b ∈ bl (Ls.take k)) : b ∈ bl Ls := by
 obtain ⟨r, hr, p, hp, rfl⟩ := zLU.1 h
 exact zLU.2 ⟨r, List.mem_of_mem_take hr, p, hp, rfl⟩
theorem wC.take {A : List Nat} {w : World} {Ls : List zW} (h : wC A w Ls) (k : Nat) : wC A w (Ls.take k) := by
 refine ⟨h.old, fun r hr => h.has r (List.mem_of_mem_take hr), ?_, fun b hb => h.apart b (zZZ hb)⟩
 have : bl Ls = bl (Ls.take k) ++ bl (Ls.drop k) := by rw [← zDo, List.take_append_drop]
 have hn := h.nodup
 rw [this] at hn
 exact (List.nodup_append.1 hn).1
theorem qT.take {L : List zW} {w w' : World} {Ls : List zW} (h : qT qd L w Ls w') (k : Nat) : qT qd L w (Ls.take k) w' := h.drop fun _ hb => zZZ hb
theorem yK.take (Ls : List zW) (k : Nat) (A : List Nat) (w : World) : yK (bl Ls ++ A) w (bl (Ls.take k) ++ A) w := yK.less w fun b hb => by
 rcases List.mem_append.1 hb with h | h
 ·exact List.mem_append.2 (.inl (zZZ h))
 ·exact List.mem_append.2 (.inr h)
theorem z4z {Ls : List zW} {i : Nat} {r : zW} (hr : Ls[i]? = some r) (A : List Nat) : ∀ b ∈ bl [r] ++ (bl (Ls.set i []) ++ A), b ∈ bl Ls ++ A := by
 intro b hb
 rcases List.mem_append.1 hb with h | h
 ·obtain ⟨s, hs, p, hp, rfl⟩ := zLU.1 h
  simp only [List.mem_singleton] at hs
  subst hs
  exact List.mem_append.2 (.inl (zC6 hr hp))
 ·rcases List.mem_append.1 h with h | h
  ·rcases zFu h with ⟨p, hp, _⟩ | ⟨j, s, _, hs, p, hp, rfl⟩
   ·cases hp
   ·exact List.mem_append.2 (.inl (zC6 hs hp))
  ·exact List.mem_append.2 (.inr h)
theorem wC.pick {A : List Nat} {w : World} {Ls : List zW} (h : wC A w Ls) (i : Nat) {r : zW} (hr : Ls[i]? = some r) : wC (bl (Ls.set i []) ++ A) w [r] := by
 have hmem := List.mem_iff_getElem?.2 ⟨i, hr⟩
 refine ⟨fun b hb => ?_, fun s hs p hp => ?_, ?_, fun b hb hA => ?_⟩
 ·rcases List.mem_append.1 hb with h1 | h1
  ·rcases zFu h1 with ⟨p, hp, _⟩ | ⟨j, s, _, hs, p, hp, rfl⟩
   ·cases hp
   ·exact h.lt (zC6 hs hp)
  ·exact h.old b h1
 ·simp only [List.mem_singleton] at hs
  subst hs
  exact h.has _ hmem p hp
 ·have key : ∀ {Ls : List zW} {i : Nat}, (bl Ls).Nodup → Ls[i]? = some r → (r.map Prod.fst).Nodup := by
   intro Ls
   induction Ls with
   | nil => intro i _ h; simp at h
   | cons t ts ih =>
    intro i hn hi
    simp only [bl] at hn
    obtain ⟨h1, h2, _⟩ := List.nodup_append.1 hn
    cases i with
    | zero => simp only [List.getElem?_cons_zero, Option.some.injEq] at hi; subst hi; exact h1
    | succ i => exact ih h2 (by simpa using hi)
  simpa [bl] using key h.nodup hr
 ·obtain ⟨s, hs, p, hp, rfl⟩ := zLU.1 hb
  simp only [List.mem_singleton] at hs
  subst hs
  rcases List.mem_append.1 hA with h1 | h1
  ·rcases zFu h1 with ⟨q, hq, _⟩ | ⟨j, t, hj, ht, q, hq, he⟩
   ·cases hq
   ·exact zEx h.nodup hr ht (fun e => hj e.symm) p hp q hq he.symm
  ·exact h.apart _ (zC6 hr hp) h1
theorem yK.pick {Ls : List zW} {i : Nat} {r : zW} (hr : Ls[i]? = some r) (A : List Nat) (w : World) : yK (bl Ls ++ A) w (bl [r] ++ (bl (Ls.set i []) ++ A)) w := yK.less w (z4z hr A)
theorem zTy {r : zW} : bl [r] = r.map Prod.fst := by simp [bl]
theorem wC.put {A : List Nat} {w w' : World} {Ls : List zW} (h : wC A w Ls) {i : Nat} {r r' : zW} (hr : Ls[i]? = some r) (ho : wC (bl (Ls.set i []) ++ A) w' [r']) (e : qT qd [r] w [r'] w') : wC A w' (Ls.set i r') := by
 refine h.set hr e.size (fun k hk hn => e.keep k hk (by rw [zTy]; exact hn)) (ho.has r' (List.mem_singleton.2 rfl)) (by simpa [bl] using ho.nodup) (fun p hp => ?_)
 have := e.fresh p.1 (by rw [zTy]; exact List.mem_map.2 ⟨p, hp, rfl⟩)
 rwa [zTy] at this
theorem qT.put {w w' : World} {Ls : List zW} {i : Nat} {r r' : zW} (hr : Ls[i]? = some r) (e : qT qd [r] w [r'] w') : qT qd Ls w (Ls.set i r') w' :=
 qT.set hr e.os e.tape e.output e.size (fun k hk hn => e.keep k hk (by rw [zTy]; exact hn)) (fun p hp => by
  have := e.fresh p.1 (by rw [zTy]; exact List.mem_map.2 ⟨p, hp, rfl⟩)
  rwa [zTy] at this) e.drawn
theorem yK.put {Ls : List zW} {i : Nat} {r' : zW} (A : List Nat) (w : World) : yK (bl [r'] ++ (bl (Ls.set i []) ++ A)) w (bl (Ls.set i r') ++ A) w := yK.less w fun b hb => by
 rcases List.mem_append.1 hb with h | h
 ·rcases zFu h with ⟨p, hp, rfl⟩ | ⟨j, s, hj, hs, p, hp, rfl⟩
  ·exact List.mem_append.2 (.inl (by rw [zTy]; exact List.mem_map.2 ⟨p, hp, rfl⟩))
  ·refine List.mem_append.2 (.inr (List.mem_append.2 (.inl (zC6 (i := j) ?_ hp))))
   rw [List.getElem?_set_ne (fun e => hj e.symm)]; exact hs
 ·exact List.mem_append.2 (.inr (List.mem_append.2 (.inr h)))
theorem bnd {α β : Type} {m : Option α} {f : α → Option β} {o : β} (h : m.bind f = some o) : ∃ x, m = some x ∧ f x = some o := by
 cases m with
 | none => cases h
 | some x => exact ⟨x, rfl, h⟩
theorem ifT {α : Type} {b : Bool} {x y o : α} (hb : b = true) (h : (if b = true then x else y) = o) : x = o := by rw [if_pos hb] at h; exact h
theorem ifF {α : Type} {b : Bool} {x y o : α} (hb : b = false) (h : (if b = true then x else y) = o) : y = o := by rw [if_neg (by rw [hb]; simp)] at h; exact h
end Go.GD
