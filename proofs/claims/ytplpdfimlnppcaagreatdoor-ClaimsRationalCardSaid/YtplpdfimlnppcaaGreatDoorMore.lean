/- A part. Conditions: none. -/
import Derived.Test.YtplpdfimlnppcaaGreatDoorArr
namespace Go.GD
open Go Go.RowKit
set_option autoImplicit false
variable {qd : Prop}
def xK (Ls : List zW) (js : List Nat) : List zW := js.map fun j => Ls.getD j []
section
variable {A : List Nat} {w w' : World} {Ls L : List zW}
theorem zPr {js : List Nat} {r : zW} (h : r ∈ xK Ls js) {p : Nat × Obj} (hp : p ∈ r) : ∃ j ∈ js, Ls[j]? = some r := by
 obtain ⟨j, hj, rfl⟩ := List.mem_map.1 h
 refine ⟨j, hj, ?_⟩
 cases hl : Ls[j]? with
 | none => simp [List.getD, hl] at hp
 | some s => simp [List.getD, hl]
theorem zNr {js : List Nat} {b : Nat} (h : b ∈ bl (xK Ls js)) : b ∈ bl Ls := by
 obtain ⟨r, hr, p, hp, rfl⟩ := zLU.1 h
 obtain ⟨j, _, hj⟩ := zPr hr hp
 exact zC6 hj hp
theorem z19 {Ls : List zW} (h : (bl Ls).Nodup) {r : zW} (hr : r ∈ Ls) : (r.map Prod.fst).Nodup := by
 induction Ls with
 | nil => cases hr
 | cons t ts ih =>
  simp only [bl] at h
  obtain ⟨h1, h2, _⟩ := List.nodup_append.1 h
  rcases List.mem_cons.1 hr with rfl | h
  ·exact h1
  ·exact ih h2 h
theorem zSF (h : (bl Ls).Nodup) : ∀ {js : List Nat}, js.Nodup → (bl (xK Ls js)).Nodup
 | [], _ => by simp [xK, bl]
 | j :: js, hn => by
  obtain ⟨h1, h2⟩ := List.nodup_cons.1 hn
  show ((Ls.getD j []).map Prod.fst ++ bl (xK Ls js)).Nodup
  refine List.nodup_append.2 ⟨?_, zSF h h2, fun x hx y hy e => ?_⟩
  ·cases hl : Ls[j]? with
   | none => simp [List.getD, hl]
   | some s => simpa [List.getD, hl] using z19 h (List.mem_iff_getElem?.2 ⟨j, hl⟩)
  ·obtain ⟨p, hp, rfl⟩ := List.mem_map.1 hx
   obtain ⟨r, hr, q, hq, rfl⟩ := zLU.1 hy
   obtain ⟨k, hk, hlk⟩ := zPr hr hq
   cases hl : Ls[j]? with
   | none => simp [List.getD, hl] at hp
   | some s =>
    simp only [List.getD, hl, Option.getD_some] at hp
    exact zEx h hl hlk (fun e => h1 (e ▸ hk)) p hp q hq e
theorem wC.sel (h : wC A w Ls) (js : List Nat) (hn : js.Nodup) : wC A w (xK Ls js) :=
 ⟨h.old, fun r hr p hp => (by obtain ⟨j, _, hj⟩ := zPr hr hp; exact tX h hj hp), zSF h.nodup hn, fun b hb => h.apart b (zNr hb)⟩
theorem qT.sel {w0 : World} (h : qT qd L w0 Ls w) (js : List Nat) : qT qd L w0 (xK Ls js) w := h.drop fun _ hb => zNr hb
theorem yK.sel (js : List Nat) (Ls : List zW) (A : List Nat) (w : World) : yK (bl Ls ++ A) w (bl (xK Ls js) ++ A) w := yK.less w fun b hb => by
 rcases List.mem_append.1 hb with h | h
 ·exact List.mem_append.2 (.inl (zNr h))
 ·exact List.mem_append.2 (.inr h)
def xE : List Nat → List zW → List zW
 | [], L => L
 | j :: js, L => xE js (L.set j [])
def zVL : List Nat → List zW → List zW → List zW
 | j :: js, r :: rs, L => zVL js rs (L.set j r)
 | _, _, L => L
theorem zPJ {js : List Nat} : ∀ {L : List zW} {b : Nat}, b ∈ bl (xE js L) → ∃ j r, j ∉ js ∧ L[j]? = some r ∧ ∃ p ∈ r, p.1 = b := by
 induction js with
 | nil =>
  intro L b h
  obtain ⟨r, hr, p, hp, rfl⟩ := zLU.1 h
  obtain ⟨j, hj⟩ := List.mem_iff_getElem?.1 hr
  exact ⟨j, r, by simp, hj, p, hp, rfl⟩
 | cons k js ih =>
  intro L b h
  obtain ⟨j, r, hj, hr, p, hp, rfl⟩ := ih (L := L.set k []) h
  by_cases hkj : k = j
  ·subst hkj
   rw [List.getElem?_set_self'] at hr
   cases hl : L[k]? with
   | none => simp [hl] at hr
   | some s => simp [hl] at hr; subst hr; cases hp
  ·rw [List.getElem?_set_ne hkj] at hr
   exact ⟨j, r, by simp [hj, Ne.symm hkj], hr, p, hp, rfl⟩
theorem zNH {js : List Nat} {b : Nat} (h : b ∈ bl (xE js Ls)) : b ∈ bl Ls := by
 obtain ⟨j, r, _, hr, p, hp, rfl⟩ := zPJ h
 exact zC6 hr hp
theorem zXJ (js : List Nat) (A : List Nat) : ∀ b ∈ bl (xK Ls js) ++ (bl (xE js Ls) ++ A), b ∈ bl Ls ++ A := by
 intro b hb
 rcases List.mem_append.1 hb with h | h
 ·exact List.mem_append.2 (.inl (zNr h))
 ·rcases List.mem_append.1 h with h | h
  ·exact List.mem_append.2 (.inl (zNH h))
  ·exact List.mem_append.2 (.inr h)
theorem wC.picks (h : wC A w Ls) (js : List Nat) (hn : js.Nodup) : wC (bl (xE js Ls) ++ A) w (xK Ls js) := by
 refine ⟨fun b hb => ?_, (h.sel js hn).has, zSF h.nodup hn, fun b hb hA => ?_⟩
 ·rcases List.mem_append.1 hb with h1 | h1
  ·exact h.lt (zNH h1)
  ·exact h.old b h1
 ·rcases List.mem_append.1 hA with h1 | h1
  ·obtain ⟨j, r, hj, hr, p, hp, rfl⟩ := zPJ h1
   obtain ⟨s, hs, q, hq, he⟩ := zLU.1 hb
   obtain ⟨k, hk, hlk⟩ := zPr hs hq
   exact zEx h.nodup hr hlk (fun e => hj (e ▸ hk)) p hp q hq he.symm
  ·exact h.apart b (zNr hb) h1
theorem yK.picks (js : List Nat) (Ls : List zW) (A : List Nat) (w : World) : yK (bl Ls ++ A) w (bl (xK Ls js) ++ (bl (xE js Ls) ++ A)) w := yK.less w (zXJ js A)
theorem zUQ : ∀ {L : List zW} {j : Nat} {r : zW}, j < L.length → (bl (L.set j r)).Perm (r.map Prod.fst ++ bl (L.set j []))
 | [], _, _, h => by simp at h
 | t :: ts, 0, r, _ => by simp [bl]
 | t :: ts, j + 1, r, h => by
  simp only [List.set_cons_succ, bl]
  refine (List.Perm.append_left _ (zUQ (L := ts) (by simpa using h))).trans ?_
  rw [← List.append_assoc, ← List.append_assoc]
  exact List.Perm.append_right _ List.perm_append_comm
theorem zSA {js : List Nat} : ∀ {L : List zW} {k : Nat} {r : zW}, k ∉ js → xE js (L.set k r) = (xE js L).set k r := by
 induction js with
 | nil => intros; rfl
 | cons j js ih =>
  intro L k r hk
  simp only [List.mem_cons, not_or] at hk
  simp only [xE]
  rw [List.set_comm _ _ hk.1, ih hk.2]
theorem zYH {js : List Nat} : ∀ {L : List zW}, (xE js L).length = L.length := by
 induction js with
 | nil => intros; rfl
 | cons j js ih => intro L; simp [xE, ih]
theorem zRd : ∀ {js : List Nat} {rs L : List zW}, js.Nodup → (∀ j ∈ js, j < L.length) → rs.length = js.length → (bl (zVL js rs L)).Perm (bl rs ++ bl (xE js L))
 | [], [], L, _, _, _ => by simp [zVL, xE, bl]
 | [], _ :: _, _, _, _, h => by simp at h
 | _ :: _, [], _, _, _, h => by simp at h
 | j :: js, r :: rs, L, hn, hl, hlen => by
  obtain ⟨h1, h2⟩ := List.nodup_cons.1 hn
  have ih := zRd (js := js) (rs := rs) (L := L.set j r) h2 (fun k hk => by simpa using hl k (List.mem_cons_of_mem _ hk)) (by simpa using hlen)
  simp only [zVL, xE]
  refine ih.trans ?_
  rw [zSA h1, zSA h1]
  have hp := zUQ (L := xE js L) (j := j) (r := r) (by rw [zYH]; exact hl j (List.mem_cons_self))
  refine (List.Perm.append_left _ hp).trans ?_
  show (bl rs ++ (r.map Prod.fst ++ _)).Perm ((r.map Prod.fst ++ bl rs) ++ _)
  rw [← List.append_assoc]
  exact List.Perm.append_right _ List.perm_append_comm
theorem z4P {js : List Nat} : ∀ {rs L : List zW} {r : zW}, r ∈ zVL js rs L → r ∈ rs ∨ r ∈ L := by
 induction js with
 | nil => intro rs L r h; cases rs <;> exact .inr h
 | cons j js ih =>
  intro rs L r h
  cases rs with
  | nil => exact .inr h
  | cons s rs =>
   rcases ih h with h1 | h1
   ·exact .inl (List.mem_cons_of_mem _ h1)
   ·rcases zW7 h1 with rfl | ⟨k, _, hk⟩
    ·exact .inl List.mem_cons_self
    ·exact .inr (List.mem_iff_getElem?.2 ⟨k, hk⟩)
theorem z1L {js : List Nat} : ∀ {rs L : List zW}, js.Nodup → rs.length = js.length → zVL js rs (xE js L) = zVL js rs L := by
 induction js with
 | nil => intros; rfl
 | cons j js ih =>
  intro rs L hn h
  cases rs with
  | nil => simp at h
  | cons r rs =>
   obtain ⟨hj, h2⟩ := List.nodup_cons.1 hn
   simp only [zVL, xE]
   rw [zSA hj, List.set_set, ← zSA hj]
   exact ih h2 (by simpa using h)
theorem wC.fills (h : wC A w Ls) {js : List Nat} {rs new : List zW} (hn : js.Nodup) (hl : ∀ j ∈ js, j < Ls.length) (hlen : rs.length = js.length)
  (ho : wC (bl (xE js Ls) ++ A) w' (rs ++ new)) (e : qT qd (xK Ls js) w (rs ++ new) w') : wC A w' (zVL js rs Ls ++ new) := by
 have hperm : (bl (zVL js rs Ls ++ new)).Perm (bl (rs ++ new) ++ bl (xE js Ls)) := by
  rw [zDo, zDo]
  refine (List.Perm.append_right _ (zRd hn hl hlen)).trans ?_
  rw [List.append_assoc, List.append_assoc]
  exact List.Perm.append_left _ List.perm_append_comm
 have hb : ∀ b ∈ bl (xE js Ls), b ∉ bl (xK Ls js) := fun b h1 h2 => (h.picks js hn).apart b h2 (List.mem_append.2 (.inl h1))
 refine ⟨fun b hb => ho.old b (List.mem_append.2 (.inr hb)), fun r hr p hp => ?_, hperm.nodup_iff.2 (List.nodup_append.2 ⟨ho.nodup, ?_, fun x hx y hy exy => ?_⟩), fun b hb => ?_⟩
 ·rcases List.mem_append.1 hr with h1 | h1
  ·rw [← z1L hn hlen] at h1
   rcases z4P h1 with h2 | h2
   ·exact ho.has r (List.mem_append.2 (.inl h2)) p hp
   ·have hbl : p.1 ∈ bl (xE js Ls) := zLU.2 ⟨r, h2, p, hp, rfl⟩
    obtain ⟨j, s, hj, hs, q, hq, he⟩ := zPJ hbl
    have hlt := h.lt (zNH hbl)
    rw [e.keep p.1 hlt (hb _ hbl)]
    have : ∀ {js : List Nat} {L : List zW} {r : zW}, r ∈ xE js L → p ∈ r → r ∈ L := by
     intro js
     induction js with
     | nil => intro L r h _; exact h
     | cons k ks ih =>
      intro L r h hp
      rcases zW7 (ih h hp) with rfl | ⟨m, _, hm⟩
      ·cases hp
      ·exact List.mem_iff_getElem?.2 ⟨m, hm⟩
    exact h.has r (this h2 hp) p hp
  ·exact ho.has r (List.mem_append.2 (.inr h1)) p hp
 ·have h1 : ∀ {js : List Nat} {L : List zW}, (bl L).Nodup → (bl (xE js L)).Nodup := by
   intro js
   induction js with
   | nil => intro L h; exact h
   | cons k ks ih => intro L h; exact ih (zU3 h (by simp) (by simp))
  exact h1 h.nodup
 ·subst exy
  exact ho.apart x hx (List.mem_append.2 (.inl hy))
 ·rcases List.mem_append.1 (hperm.mem_iff.1 hb) with h1 | h1
  ·exact fun hA => ho.apart b h1 (List.mem_append.2 (.inr hA))
  ·exact h.apart b (zNH h1)
theorem qT.fills {js : List Nat} {rs new : List zW} (hn : js.Nodup) (hl : ∀ j ∈ js, j < Ls.length) (hlen : rs.length = js.length) (e : qT qd (xK Ls js) w (rs ++ new) w') :
  qT qd Ls w (zVL js rs Ls ++ new) w' := by
 refine ⟨e.os, e.tape, e.output, e.drawn, e.size, fun k hk hnb => e.keep k hk (fun hm => hnb (zNr hm)), fun b hb => ?_⟩
 rw [zDo] at hb
 rcases List.mem_append.1 hb with h1 | h1
 ·rcases List.mem_append.1 ((zRd hn hl hlen).mem_iff.1 h1) with h2 | h2
  ·exact (e.fresh b (by rw [zDo]; exact List.mem_append.2 (.inl h2))).imp zNr id
  ·exact .inl (zNH h2)
 ·exact (e.fresh b (by rw [zDo]; exact List.mem_append.2 (.inr h1))).imp zNr id
theorem yK.fills {js : List Nat} {rs new : List zW} (hn : js.Nodup) (hl : ∀ j ∈ js, j < Ls.length) (hlen : rs.length = js.length) (A : List Nat) (w : World) :
  yK (bl (rs ++ new) ++ (bl (xE js Ls) ++ A)) w (bl (zVL js rs Ls ++ new) ++ A) w := yK.less w fun b hb => by
 rcases List.mem_append.1 hb with h | h
 ·rw [zDo] at h
  rcases List.mem_append.1 h with h1 | h1
  ·rcases List.mem_append.1 ((zRd hn hl hlen).mem_iff.1 h1) with h2 | h2
   ·exact List.mem_append.2 (.inl (by rw [zDo]; exact List.mem_append.2 (.inl h2)))
   ·exact List.mem_append.2 (.inr (List.mem_append.2 (.inl h2)))
  ·exact List.mem_append.2 (.inl (by rw [zDo]; exact List.mem_append.2 (.inr h1)))
 ·exact List.mem_append.2 (.inr (List.mem_append.2 (.inr h)))
end
structure xW {τ σ : Type} (e : E τ) (f : E σ) where
 off : Nat
 get : τ → σ
 put : τ → σ → τ
 le : off + f.n ≤ e.n
 rdg : ∀ {Z w cs x}, e.rd Z w cs x → f.rd Z w ((cs.drop off).take f.n) (get x)
 rdp : ∀ {Z w cs x ds y}, e.rd Z w cs x → f.rd Z w ds y → e.rd Z w (cs.take off ++ ds ++ cs.drop (off + f.n)) (put x y)
def xW.id {τ : Type} (e : E τ) : xW e e :=
 ⟨0, fun x => x, fun _ y => y, by simp, fun h => by rw [List.drop_zero, List.take_of_length_le (by rw [e.len h]; exact Nat.le_refl _)]; exact h,
  fun h k => by rw [List.take_zero, List.nil_append, Nat.zero_add, List.drop_of_length_le (by rw [e.len h]; exact Nat.le_refl _), List.append_nil]; exact k⟩
theorem zPt {α β : Type} {f : E α} {g : E β} {Z : List Nat} {w : World} {cs : List Value} {x : α × β} (h : (vR f g).rd Z w cs x) :
  f.rd Z w (cs.take f.n) x.1 ∧ g.rd Z w (cs.drop f.n) x.2 := by
 obtain ⟨c1, c2, rfl, h1, h2⟩ := h
 have := f.len h1
 refine ⟨?_, ?_⟩
 ·rw [← this, List.take_left]; exact h1
 ·rw [← this, List.drop_left]; exact h2
def xW.fst {τ α β : Type} {e : E τ} {f : E α} {g : E β} (s : xW e (vR f g)) : xW e f :=
 ⟨s.off, fun x => (s.get x).1, fun x y => s.put x (y, (s.get x).2), by have := s.le; simp only [vR] at this; omega,
  fun {Z w cs x} h => by
  have h1 := (zPt (s.rdg h)).1
  rw [List.take_take, Nat.min_eq_left (by simp only [vR]; omega)] at h1
  exact h1,
  fun {Z w cs x ds y} h k => by
  have h2 := (zPt (s.rdg h)).2
  have h3 := s.rdp h (show (vR f g).rd Z w _ (y, (s.get x).2) from ⟨ds, _, rfl, k, h2⟩)
  have he : cs.take s.off ++ (ds ++ ((cs.drop s.off).take (vR f g).n).drop f.n) ++ cs.drop (s.off + (vR f g).n) = cs.take s.off ++ ds ++ cs.drop (s.off + f.n) := by
   rw [← List.append_assoc, List.append_assoc]
   congr 1
   rw [List.drop_take, List.drop_drop]
   have : cs.drop (s.off + (vR f g).n) = (cs.drop (s.off + f.n)).drop ((vR f g).n - f.n) := by
    rw [List.drop_drop]; congr 1; simp only [vR]; omega
   rw [this, List.take_append_drop]
  rw [he] at h3
  exact h3⟩
def xW.snd {τ α β : Type} {e : E τ} {f : E α} {g : E β} (s : xW e (vR f g)) : xW e g :=
 ⟨s.off + f.n, fun x => (s.get x).2, fun x y => s.put x ((s.get x).1, y), by have := s.le; simp only [vR] at this; omega,
  fun {Z w cs x} h => by
  have h1 := (zPt (s.rdg h)).2
  rw [List.drop_take, List.drop_drop] at h1
  have : (vR f g).n - f.n = g.n := by simp only [vR]; omega
  rw [this] at h1
  exact h1,
  fun {Z w cs x ds y} h k => by
  have h2 := (zPt (s.rdg h)).1
  have h3 := s.rdp h (show (vR f g).rd Z w _ ((s.get x).1, y) from ⟨_, ds, rfl, h2, k⟩)
  have he : cs.take s.off ++ (((cs.drop s.off).take (vR f g).n).take f.n ++ ds) ++ cs.drop (s.off + (vR f g).n) = cs.take (s.off + f.n) ++ ds ++ cs.drop (s.off + f.n + g.n) := by
   rw [List.take_take, Nat.min_eq_left (by simp only [vR]; omega), ← List.append_assoc, ← List.take_add]
   congr 2
   simp only [vR]; omega
  rw [he] at h3
  exact h3⟩
section
variable {τ : Type} (e : E τ) {Z : List Nat} {w : World}
theorem E.rdL_at : ∀ {l : List τ} {cs : List Value} {k : Nat} {x : τ}, e.rdL Z w cs l → l[k]? = some x → e.rd Z w ((cs.drop (k * e.n)).take e.n) x
 | [], cs, k, x, h, hx => by simp at hx
 | y :: l, cs, 0, x, h, hx => by
  obtain ⟨c1, c2, rfl, h1, h2⟩ := h
  simp only [List.getElem?_cons_zero, Option.some.injEq] at hx
  subst hx
  rw [Nat.zero_mul, List.drop_zero, ← e.len h1, List.take_left]; exact h1
 | y :: l, cs, k + 1, x, h, hx => by
  obtain ⟨c1, c2, rfl, h1, h2⟩ := h
  simp only [List.getElem?_cons_succ] at hx
  have := E.rdL_at h2 hx
  have hl := e.len h1
  rw [show (k + 1) * e.n = c1.length + k * e.n by rw [hl, Nat.add_mul]; omega, List.drop_append, List.drop_of_length_le (by omega), List.nil_append, Nat.add_sub_cancel_left]
  exact this
theorem E.rdL_set : ∀ {l : List τ} {cs : List Value} {k : Nat} {x y : τ} {ds : List Value} {off : Nat}, e.rdL Z w cs l → l[k]? = some x → off + ds.length ≤ e.n →
  (∀ ci, e.rd Z w ci x → e.rd Z w (ci.take off ++ ds ++ ci.drop (off + ds.length)) y) → e.rdL Z w (cs.take (k * e.n + off) ++ ds ++ cs.drop (k * e.n + off + ds.length)) (l.set k y)
 | [], cs, k, x, y, ds, off, h, hx, _, _ => by simp at hx
 | z :: l, cs, 0, x, y, ds, off, h, hx, hle, hp => by
  obtain ⟨c1, c2, rfl, h1, h2⟩ := h
  simp only [List.getElem?_cons_zero, Option.some.injEq] at hx
  subst hx
  have hl := e.len h1
  refine ⟨_, c2, ?_, hp c1 h1, h2⟩
  simp only [Nat.zero_mul, Nat.zero_add]
  rw [List.take_append_of_le_length (by omega), List.drop_append_of_le_length (by omega)]
  simp
 | z :: l, cs, k + 1, x, y, ds, off, h, hx, hle, hp => by
  obtain ⟨c1, c2, rfl, h1, h2⟩ := h
  simp only [List.getElem?_cons_succ] at hx
  have ih := E.rdL_set h2 hx hle hp
  have hl := e.len h1
  refine ⟨c1, _, ?_, h1, ih⟩
  rw [show (k + 1) * e.n + off = c1.length + (k * e.n + off) by rw [hl, Nat.add_mul]; omega]
  rw [List.take_append, List.take_of_length_le (by omega), Nat.add_sub_cancel_left, Nat.add_assoc c1.length, List.drop_append, List.drop_of_length_le (by omega), Nat.add_sub_cancel_left]
  simp
end
theorem zRl {α : Type} {l : List α} {i : Int} {u : α} (h : zF l i = some u) : 0 ≤ i ∧ l[i.toNat]? = some u ∧ i < (l.length : Int) := by
 unfold zF at h
 split at h
 ·rename_i h0
  obtain ⟨hlt, hv⟩ := List.getElem?_eq_some_iff.1 h
  exact ⟨h0, h, by omega⟩
 ·cases h
section
variable {P : Program} {ops : Array Oper} {Q : Exit → Act → World → Prop} {a : Act} {n : Nat} {S : List (Nat × Value)} {w : World} {K : Act → World → Prop}
variable {A : List Nat} {Ls : List zW} {d : Nat} {ty : TypeId} {pos : String} {af : Array Edge} {g : Option (Nat × Bool)}
variable {τ σ : Type} {e : E τ} {f : E σ} {te : TypeId} {Z : List Nat} {r : zW} {p : Option Addr} {c : Nat} {l : List τ} {ix : Int} {u : τ} {t : TypeId} {x y : Operand} {kd : IntKind}
theorem yL.at (hA : yL e te Z w r p c l) (hm : zF l ix = some u) : ∃ b cells, r = [(b, .cells cells te (0, 0))] ∧ p = some ⟨b, 0, none⟩ ∧ l.length ≤ c ∧ c ≤ maxLen ∧ cells.size = c * e.n ∧ e.rdL Z w (cells.toList.take (l.length * e.n)) l := by
 rcases hA with ⟨_, _, _, rfl⟩ | h
 ·have := (zRl hm).2.1; simp at this
 ·exact h
theorem zUZ (hS : wH a n S) (hA : yL e te Z w r p c l) (hx : qE S x = some (.slice p l.length c)) (hy : qE S y = some (.int kd ix)) (ht : yV P t = some e.n) (hm : zF l ix = some u) {d : Option Tmp} :
  ∃ b, p = some ⟨b, 0, none⟩ ∧ ∀ w', (execOp a.eval ⟨d, .indexAddr t x y, ty, pos, af, g⟩).run P w' = .ok (.value (.pointer (some ⟨b, ix.toNat * e.n, none⟩))) w' := by
 obtain ⟨b, cells, rfl, rfl, _⟩ := hA.at hm
 obtain ⟨h0, h1, h2⟩ := zRl hm
 refine ⟨b, rfl, fun w' => ?_⟩
 simp [execOp, hS.eval hx, hS.eval hy, zMH (m := l.length) ht h0 h2]
theorem zXG (hS : wH a n S) (hd : Nat.blt d n = true) (hg : wB ops S g = some true) (hA : yL e te Z w r p c l) (hx : qE S x = some (.slice p l.length c)) (hy : qE S y = some (.int kd ix)) (ht : yV P t = some e.n) (hm : zF l ix = some u)
  (k : ∀ b, p = some ⟨b, 0, none⟩ → ∀ a', wH a' n ((d, .pointer (some ⟨b, ix.toNat * e.n, none⟩)) :: S) → K a' w) : vW P ops Q ⟨some d, .indexAddr t x y, ty, pos, af, g⟩ K a w := by
 obtain ⟨b, hp, hrun⟩ := zUZ (P := P) (ty := ty) (pos := pos) (af := af) (g := g) (d := some d) hS hA hx hy ht hm
 exact tZ hS hd hg (hrun w) (k b hp)
theorem zXD (s : xW e f) {b : Nat} (hO : wC A w Ls) {i : Nat} (hr : Ls[i]? = some r) (hA : yL e te (bl Ls ++ A) w r p c l) (hp : p = some ⟨b, 0, none⟩) (hm : zF l ix = some u) :
  ∃ ci, f.rd (bl Ls ++ A) w ci (s.get u) ∧ ∀ w' : World, w'.heap[b]? = w.heap[b]? → ∀ j v, ci[j]? = some v → w'.cell? ⟨b, ix.toNat * e.n + s.off + j, none⟩ = some v := by
 obtain ⟨b', cells, rfl, hp', h3, _, h5, h6⟩ := hA.at hm
 rw [hp] at hp'
 cases hp'
 obtain ⟨h0, h1, h2⟩ := zRl hm
 have hb := tX hO hr (List.mem_singleton.2 rfl)
 refine ⟨_, s.rdg (e.rdL_at h6 h1), fun w' hw j v hv => ?_⟩
 rw [cell_of_row w' b _ cells te (0, 0) (hw.trans hb)]
 rw [List.getElem?_take] at hv
 split at hv
 ·rw [List.getElem?_drop, List.getElem?_take] at hv
  split at hv
  ·rw [List.getElem?_drop, List.getElem?_take] at hv
   split at hv
   ·rw [Nat.add_assoc]; simpa using hv
   ·cases hv
  ·cases hv
 ·cases hv
theorem z5P {ag : Bool} {ci : List Value} {k : Nat} (hl : ci.length = k) (hag : ag = true ∨ k = 1) : ∃ v, mkV ag ci = some v := by
 rcases hag with rfl | hn
 ·exact ⟨_, rfl⟩
 ·cases ag with
  | true => exact ⟨_, rfl⟩
  | false => match ci, hl.trans hn with | [u], _ => exact ⟨u, rfl⟩
theorem zZB (i : Nat) (s : xW e f) {b : Nat} (ag : Bool) (hS : wH a n S) (hd : Nat.blt d n = true) (hg : wB ops S g = some true) (hO : wC A w Ls) (hr : Ls[i]? = some r) (hA : yL e te (bl Ls ++ A) w r p c l)
  (hp : p = some ⟨b, 0, none⟩) (hm : zF l ix = some u) (hx : qE S x = some (.pointer (some ⟨b, ix.toNat * e.n + s.off, none⟩))) (ht : uM P t = some (ag, f.n))
  (k : ∀ ci, f.rd (bl Ls ++ A) w ci (s.get u) → ∀ v, mkV ag ci = some v → ∀ a', wH a' n ((d, v) :: S) → K a' w) (hag : ag = true ∨ f.n = 1) : vW P ops Q ⟨some d, .load t x, ty, pos, af, g⟩ K a w := by
 obtain ⟨ci, h1, h2⟩ := zXD s hO hr hA hp hm
 obtain ⟨v, hv⟩ := z5P (f.len h1) hag
 refine tZ hS hd hg (v := v) (w' := w) ?_ (k ci h1 v hv)
 simp [execOp, hS.eval hx, Instr.loadAt, Instr.sureAddr, zFg (cs := ci) (by rw [f.len h1]; exact ht) (h2 w rfl) hv]
theorem z5J (c : List Value) (o m : Nat) (v : List Value) (h : o + v.length ≤ m) : (c.take o ++ v ++ c.drop (o + v.length)).take m = if o ≤ c.length then (c.take m).take o ++ v ++ (c.take m).drop (o + v.length) else (c.take o ++ v ++ c.drop (o + v.length)).take m := by
 split
 ·rename_i hle
  rw [List.append_assoc, List.take_append, List.take_append, List.take_take, List.take_take, Nat.min_eq_right (by omega), Nat.min_eq_left (by omega), List.length_take, Nat.min_eq_left hle,
   List.take_of_length_le (l := v) (by omega), ← List.append_assoc, List.drop_take]
  congr 2
  omega
 ·rfl
theorem zXl (i : Nat) (s : xW e f) {b : Nat} {v : Value} {z : σ} (ag : Bool) (hS : wH a n S) (hg : wB ops S g = some true) (hO : wC A w Ls) (hr : Ls[i]? = some r) (hA : yL e te (bl Ls ++ A) w r p c l)
  (hp : p = some ⟨b, 0, none⟩) (hm : zF l ix = some u) (hx : qE S x = some (.pointer (some ⟨b, ix.toNat * e.n + s.off, none⟩))) (hy : qE S y = some v) (ht : uM P t = some (ag, f.n)) (hv : f.rd (bl Ls ++ A) w v.cells.toList z)
  (k : ∀ r' w', wC A w' (Ls.set i r') → qT qd Ls w (Ls.set i r') w' → yL e te (bl (Ls.set i r') ++ A) w' r' p c (l.set ix.toNat (s.put u z)) → ∀ a', wH a' n S → K a' w') :
  vW P ops Q ⟨none, .store t x y, ty, pos, af, g⟩ K a w := by
 obtain ⟨b', cells, rfl, hp', h3, h4, h5, h6⟩ := hA.at hm
 rw [hp] at hp'
 cases hp'
 obtain ⟨h0, h1, h2⟩ := zRl hm
 have hb := tX hO hr (List.mem_singleton.2 rfl)
 have hlen := f.len hv
 have hsle := s.le
 have hlt : ix.toNat + 1 ≤ l.length := (List.getElem?_eq_some_iff.1 h1).1
 have hmul : ix.toNat * e.n + e.n ≤ l.length * e.n := by
  have := Nat.mul_le_mul_right e.n hlt
  rw [Nat.add_mul, Nat.one_mul] at this; exact this
 have hmul2 : l.length * e.n ≤ cells.size := by rw [h5]; exact Nat.mul_le_mul_right _ h3
 have hst : zNy P t cells (ix.toNat * e.n + s.off) v = true := by
  unfold zNy
  simp only [ht, Bool.and_eq_true, beq_iff_eq, List.all_eq_true]
  exact ⟨⟨by simpa using hlen, Nat.ble_eq_true_of_le (by omega)⟩, f.one hv⟩
 have hother : ∀ k, k < w.heap.size → k ∉ [(b, Obj.cells cells te (0, 0))].map Prod.fst → (w.setRow b (tH cells (ix.toNat * e.n + s.off) v.cells.toList)).heap[k]? = w.heap[k]? :=
  fun k _ hk => setRow_other w b k _ (fun e => hk (by simp [e]))
 have hE : qT qd Ls w (Ls.set i [(b, .cells (tH cells (ix.toNat * e.n + s.off) v.cells.toList) te (0, 0))]) (w.setRow b (tH cells (ix.toNat * e.n + s.off) v.cells.toList)) :=
  qT.set hr rfl rfl rfl (by simp) hother (fun q hq => .inl (by simp only [List.mem_singleton] at hq; subst hq; simp))
 refine z2l hS hg (w' := w.setRow b (tH cells (ix.toNat * e.n + s.off) v.cells.toList)) (by simp [execOp, hS.eval hx, hS.eval hy, Instr.storeAt, Instr.sureAddr, zRr hb hst])
  (k [(b, .cells (tH cells (ix.toNat * e.n + s.off) v.cells.toList) te (0, 0))] _ ?_ hE (.inr ⟨b, _, rfl, hp, by simpa using h3, h4, ?_, ?_⟩))
 ·exact hO.set hr (by simp) hother (fun q hq => by simp only [List.mem_singleton] at hq; subst hq; exact setRow_heap w b cells _ te (0, 0) hb) (by simp) (fun q hq => .inl (by simp only [List.mem_singleton] at hq; subst hq; simp))
 ·simp only [tH, List.size_toArray, List.length_append, List.length_take, List.length_drop, Array.length_toList, hlen]
  rw [← h5]; omega
 ·have := e.rdL_set (e.rdL_step (hE.step A) h6) h1 (by rw [hlen]; exact hsle) (ds := v.cells.toList) (off := s.off) (y := s.put u z) (fun ci hci => by rw [hlen]; exact s.rdp hci (f.step (hE.step A) hv))
  rw [List.length_set]
  show e.rdL _ _ (List.take _ (cells.toList.take (ix.toNat * e.n + s.off) ++ v.cells.toList ++ cells.toList.drop (ix.toNat * e.n + s.off + v.cells.toList.length))) _
  rw [z5J _ _ _ _ (by omega), if_pos (by simp; omega)]
  exact this
variable {listed : Array Bool} {fuel : Nat} {B J : List Nat}
theorem zYw (i : Nat) (hO : wC A w Ls) (hS : wH a n S) (hi : ops[i]? = some ⟨some d, .indexAddr t x y, ty, pos, af, g⟩) (hk : uE ops B listed i = true) (hd : Nat.blt d n = true) (hQ : ∀ c (v : Value) a w, Q (.panic c) (a.put (some d) v) w → Q (.panic c) a w)
  (hg : wB ops S g = some true) (hA : yL e te Z w r p c l) (hx : qE S x = some (.slice p l.length c)) (hy : qE S y = some (.int kd ix)) (ht : yV P t = some e.n) (hm : zF l ix = some u)
  (k : ∀ b, p = some ⟨b, 0, none⟩ → ∀ a', wH a' n ((d, .pointer (some ⟨b, ix.toNat * e.n, none⟩)) :: S) → vA P ops Q (SB B (CC qd A Ls w J)) fuel (listed.setIfInBounds i true) a' w) : vA P ops Q (SB B (CC qd A Ls w J)) (fuel + 1) listed a w := by
 obtain ⟨b, hp, hrun⟩ := zUZ (P := P) (ty := ty) (pos := pos) (af := af) (g := g) (d := some d) hS hA hx hy ht hm
 exact z1R i hO hS hi hk hd (fun c => hQ c _) hg hrun (k b hp)
theorem z0e (i ri : Nat) (s : xW e f) {b : Nat} (ag : Bool) (hO : wC A w Ls) (hS : wH a n S) (hi : ops[i]? = some ⟨some d, .load t x, ty, pos, af, g⟩) (hk : uE ops B listed i = true) (hd : Nat.blt d n = true) (hQ : ∀ c (v : Value) a w, Q (.panic c) (a.put (some d) v) w → Q (.panic c) a w)
  (hg : wB ops S g = some true) (hb : B.all (fun j => behind ops i ops.size j) = true) (hJ : J.contains ri = true) (hr : Ls[ri]? = some r) (hA : yL e te (bl Ls ++ A) w r p c l)
  (hp : p = some ⟨b, 0, none⟩) (hm : zF l ix = some u) (hx : qE S x = some (.pointer (some ⟨b, ix.toNat * e.n + s.off, none⟩))) (ht : uM P t = some (ag, f.n))
  (k : ∀ ci, f.rd (bl Ls ++ A) w ci (s.get u) → ∀ v, mkV ag ci = some v → ∀ a', wH a' n ((d, v) :: S) → vA P ops Q (SB B (CC qd A Ls w J)) fuel (listed.setIfInBounds i true) a' w) (hag : ag = true ∨ f.n = 1) :
  vA P ops Q (SB B (CC qd A Ls w J)) (fuel + 1) listed a w := by
 obtain ⟨ci, h1, h2⟩ := zXD s hO hr hA hp hm
 obtain ⟨b', cells, hrr, hp', _⟩ := hA.at hm
 rw [hp] at hp'
 cases hp'
 subst hrr
 obtain ⟨v, hv⟩ := z5P (f.len h1) hag
 refine zU9 hO hS hi hk hd (fun c => hQ c _) (.inl ⟨zFk (o := ⟨some d, .load t x, ty, pos, af, g⟩) hS hg, fun l' w' hc hun hSw => ?_⟩) (k ci h1 v hv)
 obtain ⟨Ls', hO', _, hJ'⟩ := hSw (zWp hb hc hun)
 have hr' := hr
 rw [← z3J hJ' hJ] at hr'
 have hh : w'.heap[b]? = w.heap[b]? := (tX hO' hr' (List.mem_singleton.2 rfl)).trans (tX hO hr (List.mem_singleton.2 rfl)).symm
 simp [execOp, hS.eval hx, Instr.loadAt, Instr.sureAddr, zFg (cs := ci) (by rw [f.len h1]; exact ht) (h2 w' hh) hv]
end
def zZk (js : List Nat) (n : Nat) : Bool := match js with
 | [] => true
 | j :: r => Nat.blt j n && !r.contains j && zZk r n
theorem zNR : ∀ {js : List Nat} {n : Nat}, zZk js n = true → js.Nodup ∧ ∀ j ∈ js, j < n
 | [], _, _ => by simp
 | j :: r, n, h => by
  simp only [zZk, Bool.and_eq_true, Nat.blt_eq, Bool.not_eq_true'] at h
  obtain ⟨⟨h1, h2⟩, h3⟩ := h
  obtain ⟨k1, k2⟩ := zNR h3
  refine ⟨List.nodup_cons.2 ⟨by simpa using h2, k1⟩, fun k hk => ?_⟩
  rcases List.mem_cons.1 hk with rfl | hk
  ·exact h1
  ·exact k2 k hk
section
variable {A : List Nat} {w w' : World} {Ls : List zW}
theorem yK.sub (Ls : List zW) (A : List Nat) (w : World) : yK (bl Ls ++ A) w (bl [] ++ (bl Ls ++ A)) w := yK.less w fun _ h => h
end
section
variable {P : Program} {a : Act} {n : Nat} {S : List (Nat × Value)} {ty : TypeId} {pos : String} {af : Array Edge} {g : Option (Nat × Bool)}
theorem z2S (d : Nat) {t te : TypeId} {p : Option Addr} {m c : Nat} (hu : P.underlying t = some (.slice te)) (w : World) : (Op.equalIn (d + 1) t (.slice p m c) (.slice none 0 0)).run P w = .ok p.isNone w := by
 cases p <;> simp [Op.equalIn, run_underlying hu]
theorem z68 {t u te : TypeId} {x : Operand} {p : Option Addr} {m c : Nat} {d : Option Tmp} (hS : wH a n S) (hx : qE S x = some (.slice p m c)) (hu : P.underlying t = some (.slice te)) (w : World) :
  (execOp a.eval ⟨d, .binOp .eql t x (.const (.slice none 0 0)) u, ty, pos, af, g⟩).run P w = .ok (.value (vb p.isNone)) w := by
 have hy : qE S (.const (.slice none 0 0)) = some (.slice none 0 0) := rfl
 have h1 : (eqGuard .eql t x (.const (.slice none 0 0)) (.slice p m c) (.slice none 0 0)).run P w = .ok () w := by
  unfold eqGuard
  simp
 have h2 : (binOp .eql t (.slice p m c) (.slice none 0 0)).run P w = .ok (vb p.isNone) w := by
  have h3 : (Op.equal t (.slice p m c) (.slice none 0 0)).run P w = .ok p.isNone w := z2S 9999 hu w
  show (do pure (.bool (← Op.equal t (.slice p m c) (.slice none 0 0))) : Sem Value).run P w = _
  simp [h3]
 simp [execOp, hS.eval hx, hS.eval hy, h1, h2]
end
theorem xF.isNil {τ : Type} {e : E τ} {Z : List Nat} {w : World} {p : Option Addr} {c : Nat} {l : List τ} (h : xF e Z w p c l) (hp : p.isNone = true) : l = [] := by
 rcases h.2 with h | ⟨b, off, cs, rfl, _⟩
 ·exact h
 ·cases hp
end Go.GD
