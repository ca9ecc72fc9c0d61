/- Blocks chosen, handed over and taken back; elements of slices of one's own. Conditions: none. -/
import Derived.Test.YtofmfdlkalakaaaGreatDoorArr
namespace Go.GD
open Go Go.RowKit
set_option autoImplicit false
variable {qd : Prop}

/-! ### Some of the blocks -/

def selR (Ls : List Res) (js : List Nat) : List Res := js.map fun j => Ls.getD j []

section
variable {A : List Nat} {w w' : World} {Ls L : List Res}

theorem mem_selR {js : List Nat} {r : Res} (h : r ∈ selR Ls js) {p : Nat × Obj} (hp : p ∈ r) : ∃ j ∈ js, Ls[j]? = some r := by
  obtain ⟨j, hj, rfl⟩ := List.mem_map.1 h
  refine ⟨j, hj, ?_⟩
  cases hl : Ls[j]? with
  | none => simp [List.getD, hl] at hp
  | some s => simp [List.getD, hl]

theorem selR_bl {js : List Nat} {b : Nat} (h : b ∈ bl (selR Ls js)) : b ∈ bl Ls := by
  obtain ⟨r, hr, p, hp, rfl⟩ := mem_bl.1 h
  obtain ⟨j, _, hj⟩ := mem_selR hr hp
  exact bl_mem_of hj hp

theorem nodup_res {Ls : List Res} (h : (bl Ls).Nodup) {r : Res} (hr : r ∈ Ls) : (r.map Prod.fst).Nodup := by
  induction Ls with
  | nil => cases hr
  | cons t ts ih =>
    simp only [bl] at h
    obtain ⟨h1, h2, _⟩ := List.nodup_append.1 h
    rcases List.mem_cons.1 hr with rfl | h
    · exact h1
    · exact ih h2 h

theorem selR_nodup (h : (bl Ls).Nodup) : ∀ {js : List Nat}, js.Nodup → (bl (selR Ls js)).Nodup
  | [], _ => by simp [selR, bl]
  | j :: js, hn => by
    obtain ⟨h1, h2⟩ := List.nodup_cons.1 hn
    show ((Ls.getD j []).map Prod.fst ++ bl (selR Ls js)).Nodup
    refine List.nodup_append.2 ⟨?_, selR_nodup h h2, fun x hx y hy e => ?_⟩
    · cases hl : Ls[j]? with
      | none => simp [List.getD, hl]
      | some s => simpa [List.getD, hl] using nodup_res h (List.mem_iff_getElem?.2 ⟨j, hl⟩)
    · obtain ⟨p, hp, rfl⟩ := List.mem_map.1 hx
      obtain ⟨r, hr, q, hq, rfl⟩ := mem_bl.1 hy
      obtain ⟨k, hk, hlk⟩ := mem_selR hr hq
      cases hl : Ls[j]? with
      | none => simp [List.getD, hl] at hp
      | some s =>
        simp only [List.getD, hl, Option.getD_some] at hp
        exact nodup_apart h hl hlk (fun e => h1 (e ▸ hk)) p hp q hq e

theorem Own.sel (h : Own A w Ls) (js : List Nat) (hn : js.Nodup) : Own A w (selR Ls js) :=
  ⟨h.old, fun r hr p hp => (by obtain ⟨j, _, hj⟩ := mem_selR hr hp; exact heap_of_own h hj hp), selR_nodup h.nodup hn, fun b hb => h.apart b (selR_bl hb)⟩
theorem Ext.sel {w0 : World} (h : Ext qd L w0 Ls w) (js : List Nat) : Ext qd L w0 (selR Ls js) w := h.drop fun _ hb => selR_bl hb
theorem Step.sel (js : List Nat) (Ls : List Res) (A : List Nat) (w : World) : Step (bl Ls ++ A) w (bl (selR Ls js) ++ A) w := Step.less w fun b hb => by
  rcases List.mem_append.1 hb with h | h
  · exact List.mem_append.2 (.inl (selR_bl h))
  · exact List.mem_append.2 (.inr h)

/-! ### Blocks handed over -/

/-- the blocks without those of js -/
def blank : List Nat → List Res → List Res
  | [], L => L
  | j :: js, L => blank js (L.set j [])
/-- the blocks with new ones at js -/
def fill : List Nat → List Res → List Res → List Res
  | j :: js, r :: rs, L => fill js rs (L.set j r)
  | _, _, L => L

theorem mem_blank {js : List Nat} : ∀ {L : List Res} {b : Nat}, b ∈ bl (blank js L) → ∃ j r, j ∉ js ∧ L[j]? = some r ∧ ∃ p ∈ r, p.1 = b := by
  induction js with
  | nil =>
    intro L b h
    obtain ⟨r, hr, p, hp, rfl⟩ := mem_bl.1 h
    obtain ⟨j, hj⟩ := List.mem_iff_getElem?.1 hr
    exact ⟨j, r, by simp, hj, p, hp, rfl⟩
  | cons k js ih =>
    intro L b h
    obtain ⟨j, r, hj, hr, p, hp, rfl⟩ := ih (L := L.set k []) h
    by_cases hkj : k = j
    · subst hkj
      rw [List.getElem?_set_self'] at hr
      cases hl : L[k]? with
      | none => simp [hl] at hr
      | some s => simp [hl] at hr; subst hr; cases hp
    · rw [List.getElem?_set_ne hkj] at hr
      exact ⟨j, r, by simp [hj, Ne.symm hkj], hr, p, hp, rfl⟩

theorem blank_sub {js : List Nat} {b : Nat} (h : b ∈ bl (blank js Ls)) : b ∈ bl Ls := by
  obtain ⟨j, r, _, hr, p, hp, rfl⟩ := mem_blank h
  exact bl_mem_of hr hp

theorem picks_mem (js : List Nat) (A : List Nat) : ∀ b ∈ bl (selR Ls js) ++ (bl (blank js Ls) ++ A), b ∈ bl Ls ++ A := by
  intro b hb
  rcases List.mem_append.1 hb with h | h
  · exact List.mem_append.2 (.inl (selR_bl h))
  · rcases List.mem_append.1 h with h | h
    · exact List.mem_append.2 (.inl (blank_sub h))
    · exact List.mem_append.2 (.inr h)

theorem Own.picks (h : Own A w Ls) (js : List Nat) (hn : js.Nodup) : Own (bl (blank js Ls) ++ A) w (selR Ls js) := by
  refine ⟨fun b hb => ?_, (h.sel js hn).has, selR_nodup h.nodup hn, fun b hb hA => ?_⟩
  · rcases List.mem_append.1 hb with h1 | h1
    · exact h.lt (blank_sub h1)
    · exact h.old b h1
  · rcases List.mem_append.1 hA with h1 | h1
    · obtain ⟨j, r, hj, hr, p, hp, rfl⟩ := mem_blank h1
      obtain ⟨s, hs, q, hq, he⟩ := mem_bl.1 hb
      obtain ⟨k, hk, hlk⟩ := mem_selR hs hq
      exact nodup_apart h.nodup hr hlk (fun e => hj (e ▸ hk)) p hp q hq he.symm
    · exact h.apart b (selR_bl hb) h1

theorem Step.picks (js : List Nat) (Ls : List Res) (A : List Nat) (w : World) : Step (bl Ls ++ A) w (bl (selR Ls js) ++ (bl (blank js Ls) ++ A)) w := Step.less w (picks_mem js A)

theorem bl_set_perm : ∀ {L : List Res} {j : Nat} {r : Res}, j < L.length → (bl (L.set j r)).Perm (r.map Prod.fst ++ bl (L.set j []))
  | [], _, _, h => by simp at h
  | t :: ts, 0, r, _ => by simp [bl]
  | t :: ts, j + 1, r, h => by
    simp only [List.set_cons_succ, bl]
    refine (List.Perm.append_left _ (bl_set_perm (L := ts) (by simpa using h))).trans ?_
    rw [← List.append_assoc, ← List.append_assoc]
    exact List.Perm.append_right _ List.perm_append_comm

theorem set_blank {js : List Nat} : ∀ {L : List Res} {k : Nat} {r : Res}, k ∉ js → blank js (L.set k r) = (blank js L).set k r := by
  induction js with
  | nil => intros; rfl
  | cons j js ih =>
    intro L k r hk
    simp only [List.mem_cons, not_or] at hk
    simp only [blank]
    rw [List.set_comm _ _ hk.1, ih hk.2]

theorem blank_length {js : List Nat} : ∀ {L : List Res}, (blank js L).length = L.length := by
  induction js with
  | nil => intros; rfl
  | cons j js ih => intro L; simp [blank, ih]

/-- what the blocks are behind the call -/
theorem fill_perm : ∀ {js : List Nat} {rs L : List Res}, js.Nodup → (∀ j ∈ js, j < L.length) → rs.length = js.length → (bl (fill js rs L)).Perm (bl rs ++ bl (blank js L))
  | [], [], L, _, _, _ => by simp [fill, blank, bl]
  | [], _ :: _, _, _, _, h => by simp at h
  | _ :: _, [], _, _, _, h => by simp at h
  | j :: js, r :: rs, L, hn, hl, hlen => by
    obtain ⟨h1, h2⟩ := List.nodup_cons.1 hn
    have ih := fill_perm (js := js) (rs := rs) (L := L.set j r) h2 (fun k hk => by simpa using hl k (List.mem_cons_of_mem _ hk)) (by simpa using hlen)
    simp only [fill, blank]
    refine ih.trans ?_
    rw [set_blank h1, set_blank h1]
    have hp := bl_set_perm (L := blank js L) (j := j) (r := r) (by rw [blank_length]; exact hl j (List.mem_cons_self))
    refine (List.Perm.append_left _ hp).trans ?_
    show (bl rs ++ (r.map Prod.fst ++ _)).Perm ((r.map Prod.fst ++ bl rs) ++ _)
    rw [← List.append_assoc]
    exact List.Perm.append_right _ List.perm_append_comm

theorem mem_fill {js : List Nat} : ∀ {rs L : List Res} {r : Res}, r ∈ fill js rs L → r ∈ rs ∨ r ∈ L := by
  induction js with
  | nil => intro rs L r h; cases rs <;> exact .inr h
  | cons j js ih =>
    intro rs L r h
    cases rs with
    | nil => exact .inr h
    | cons s rs =>
      rcases ih h with h1 | h1
      · exact .inl (List.mem_cons_of_mem _ h1)
      · rcases mem_set h1 with rfl | ⟨k, _, hk⟩
        · exact .inl List.mem_cons_self
        · exact .inr (List.mem_iff_getElem?.2 ⟨k, hk⟩)

theorem fill_blank {js : List Nat} : ∀ {rs L : List Res}, js.Nodup → rs.length = js.length → fill js rs (blank js L) = fill js rs L := by
  induction js with
  | nil => intros; rfl
  | cons j js ih =>
    intro rs L hn h
    cases rs with
    | nil => simp at h
    | cons r rs =>
      obtain ⟨hj, h2⟩ := List.nodup_cons.1 hn
      simp only [fill, blank]
      rw [set_blank hj, List.set_set, ← set_blank hj]
      exact ih h2 (by simpa using h)

theorem Own.fills (h : Own A w Ls) {js : List Nat} {rs new : List Res} (hn : js.Nodup) (hl : ∀ j ∈ js, j < Ls.length) (hlen : rs.length = js.length)
    (ho : Own (bl (blank js Ls) ++ A) w' (rs ++ new)) (e : Ext qd (selR Ls js) w (rs ++ new) w') : Own A w' (fill js rs Ls ++ new) := by
  have hperm : (bl (fill js rs Ls ++ new)).Perm (bl (rs ++ new) ++ bl (blank js Ls)) := by
    rw [bl_append, bl_append]
    refine (List.Perm.append_right _ (fill_perm hn hl hlen)).trans ?_
    rw [List.append_assoc, List.append_assoc]
    exact List.Perm.append_left _ List.perm_append_comm
  have hb : ∀ b ∈ bl (blank js Ls), b ∉ bl (selR Ls js) := fun b h1 h2 => (h.picks js hn).apart b h2 (List.mem_append.2 (.inl h1))
  refine ⟨fun b hb => ho.old b (List.mem_append.2 (.inr hb)), fun r hr p hp => ?_, hperm.nodup_iff.2 (List.nodup_append.2 ⟨ho.nodup, ?_, fun x hx y hy exy => ?_⟩), fun b hb => ?_⟩
  · rcases List.mem_append.1 hr with h1 | h1
    · rw [← fill_blank hn hlen] at h1
      rcases mem_fill h1 with h2 | h2
      · exact ho.has r (List.mem_append.2 (.inl h2)) p hp
      · have hbl : p.1 ∈ bl (blank js Ls) := mem_bl.2 ⟨r, h2, p, hp, rfl⟩
        obtain ⟨j, s, hj, hs, q, hq, he⟩ := mem_blank hbl
        have hlt := h.lt (blank_sub hbl)
        rw [e.keep p.1 hlt (hb _ hbl)]
        have : ∀ {js : List Nat} {L : List Res} {r : Res}, r ∈ blank js L → p ∈ r → r ∈ L := by
          intro js
          induction js with
          | nil => intro L r h _; exact h
          | cons k ks ih =>
            intro L r h hp
            rcases mem_set (ih h hp) with rfl | ⟨m, _, hm⟩
            · cases hp
            · exact List.mem_iff_getElem?.2 ⟨m, hm⟩
        exact h.has r (this h2 hp) p hp
    · exact ho.has r (List.mem_append.2 (.inr h1)) p hp
  · have h1 : ∀ {js : List Nat} {L : List Res}, (bl L).Nodup → (bl (blank js L)).Nodup := by
      intro js
      induction js with
      | nil => intro L h; exact h
      | cons k ks ih => intro L h; exact ih (nodup_set h (by simp) (by simp))
    exact h1 h.nodup
  · subst exy
    exact ho.apart x hx (List.mem_append.2 (.inl hy))
  · rcases List.mem_append.1 (hperm.mem_iff.1 hb) with h1 | h1
    · exact fun hA => ho.apart b h1 (List.mem_append.2 (.inr hA))
    · exact h.apart b (blank_sub h1)

theorem Ext.fills {js : List Nat} {rs new : List Res} (hn : js.Nodup) (hl : ∀ j ∈ js, j < Ls.length) (hlen : rs.length = js.length) (e : Ext qd (selR Ls js) w (rs ++ new) w') :
    Ext qd Ls w (fill js rs Ls ++ new) w' := by
  refine ⟨e.os, e.tape, e.output, e.drawn, e.size, fun k hk hnb => e.keep k hk (fun hm => hnb (selR_bl hm)), fun b hb => ?_⟩
  rw [bl_append] at hb
  rcases List.mem_append.1 hb with h1 | h1
  · rcases List.mem_append.1 ((fill_perm hn hl hlen).mem_iff.1 h1) with h2 | h2
    · exact (e.fresh b (by rw [bl_append]; exact List.mem_append.2 (.inl h2))).imp selR_bl id
    · exact .inl (blank_sub h2)
  · exact (e.fresh b (by rw [bl_append]; exact List.mem_append.2 (.inr h1))).imp selR_bl id

/-- a fact of the callee's, seen by the caller -/
theorem Step.fills {js : List Nat} {rs new : List Res} (hn : js.Nodup) (hl : ∀ j ∈ js, j < Ls.length) (hlen : rs.length = js.length) (A : List Nat) (w : World) :
    Step (bl (rs ++ new) ++ (bl (blank js Ls) ++ A)) w (bl (fill js rs Ls ++ new) ++ A) w := Step.less w fun b hb => by
  rcases List.mem_append.1 hb with h | h
  · rw [bl_append] at h
    rcases List.mem_append.1 h with h1 | h1
    · rcases List.mem_append.1 ((fill_perm hn hl hlen).mem_iff.1 h1) with h2 | h2
      · exact List.mem_append.2 (.inl (by rw [bl_append]; exact List.mem_append.2 (.inl h2)))
      · exact List.mem_append.2 (.inr (List.mem_append.2 (.inl h2)))
    · exact List.mem_append.2 (.inl (by rw [bl_append]; exact List.mem_append.2 (.inr h1)))
  · exact List.mem_append.2 (.inr (List.mem_append.2 (.inr h)))

/-- no blocks of the caller's: only new ones come -/
theorem Own.news (h : Own A w Ls) {new : List Res} (ho : Own (bl Ls ++ A) w' new) (e : Ext qd [] w new w') : Own A w' (Ls ++ new) := by
  have := h.fills (js := []) (rs := []) (new := new) (by simp) (by simp) rfl (by simpa [blank] using ho) (by simpa [selR] using e)
  simpa [fill] using this
theorem Ext.news {new : List Res} (Ls : List Res) (e : Ext qd [] w new w') : Ext qd Ls w (Ls ++ new) w' :=
  ⟨e.os, e.tape, e.output, e.drawn, e.size, fun k hk _ => e.keep k hk (by simp [bl]), fun b hb => by
    rw [bl_append] at hb
    rcases List.mem_append.1 hb with h1 | h1
    · exact .inl h1
    · exact (e.fresh b h1).imp (fun h => by simp [bl] at h) id⟩

end

/-! ### Parts of a value -/

/-- how the cells of a part lie in those of the whole -/
structure Sub {τ σ : Type} (e : E τ) (f : E σ) where
  off : Nat
  get : τ → σ
  put : τ → σ → τ
  le : off + f.n ≤ e.n
  rdg : ∀ {Z w cs x}, e.rd Z w cs x → f.rd Z w ((cs.drop off).take f.n) (get x)
  rdp : ∀ {Z w cs x ds y}, e.rd Z w cs x → f.rd Z w ds y → e.rd Z w (cs.take off ++ ds ++ cs.drop (off + f.n)) (put x y)

def Sub.id {τ : Type} (e : E τ) : Sub e e :=
  ⟨0, fun x => x, fun _ y => y, by simp, fun h => by rw [List.drop_zero, List.take_of_length_le (by rw [e.len h]; exact Nat.le_refl _)]; exact h,
   fun h k => by rw [List.take_zero, List.nil_append, Nat.zero_add, List.drop_of_length_le (by rw [e.len h]; exact Nat.le_refl _), List.append_nil]; exact k⟩

theorem prod_cells {α β : Type} {f : E α} {g : E β} {Z : List Nat} {w : World} {cs : List Value} {x : α × β} (h : (eProd f g).rd Z w cs x) :
    f.rd Z w (cs.take f.n) x.1 ∧ g.rd Z w (cs.drop f.n) x.2 := by
  obtain ⟨c1, c2, rfl, h1, h2⟩ := h
  have := f.len h1
  refine ⟨?_, ?_⟩
  · rw [← this, List.take_left]; exact h1
  · rw [← this, List.drop_left]; exact h2

def Sub.fst {τ α β : Type} {e : E τ} {f : E α} {g : E β} (s : Sub e (eProd f g)) : Sub e f :=
  ⟨s.off, fun x => (s.get x).1, fun x y => s.put x (y, (s.get x).2), by have := s.le; simp only [eProd] at this; omega,
   fun {Z w cs x} h => by
    have h1 := (prod_cells (s.rdg h)).1
    rw [List.take_take, Nat.min_eq_left (by simp only [eProd]; omega)] at h1
    exact h1,
   fun {Z w cs x ds y} h k => by
    have h2 := (prod_cells (s.rdg h)).2
    have h3 := s.rdp h (show (eProd f g).rd Z w _ (y, (s.get x).2) from ⟨ds, _, rfl, k, h2⟩)
    have he : cs.take s.off ++ (ds ++ ((cs.drop s.off).take (eProd f g).n).drop f.n) ++ cs.drop (s.off + (eProd f g).n) = cs.take s.off ++ ds ++ cs.drop (s.off + f.n) := by
      rw [← List.append_assoc, List.append_assoc]
      congr 1
      rw [List.drop_take, List.drop_drop]
      have : cs.drop (s.off + (eProd f g).n) = (cs.drop (s.off + f.n)).drop ((eProd f g).n - f.n) := by
        rw [List.drop_drop]; congr 1; simp only [eProd]; omega
      rw [this, List.take_append_drop]
    rw [he] at h3
    exact h3⟩

def Sub.snd {τ α β : Type} {e : E τ} {f : E α} {g : E β} (s : Sub e (eProd f g)) : Sub e g :=
  ⟨s.off + f.n, fun x => (s.get x).2, fun x y => s.put x ((s.get x).1, y), by have := s.le; simp only [eProd] at this; omega,
   fun {Z w cs x} h => by
    have h1 := (prod_cells (s.rdg h)).2
    rw [List.drop_take, List.drop_drop] at h1
    have : (eProd f g).n - f.n = g.n := by simp only [eProd]; omega
    rw [this] at h1
    exact h1,
   fun {Z w cs x ds y} h k => by
    have h2 := (prod_cells (s.rdg h)).1
    have h3 := s.rdp h (show (eProd f g).rd Z w _ ((s.get x).1, y) from ⟨_, ds, rfl, h2, k⟩)
    have he : cs.take s.off ++ (((cs.drop s.off).take (eProd f g).n).take f.n ++ ds) ++ cs.drop (s.off + (eProd f g).n) = cs.take (s.off + f.n) ++ ds ++ cs.drop (s.off + f.n + g.n) := by
      rw [List.take_take, Nat.min_eq_left (by simp only [eProd]; omega), ← List.append_assoc, ← List.take_add]
      congr 2
      simp only [eProd]; omega
    rw [he] at h3
    exact h3⟩

section
variable {τ : Type} (e : E τ) {Z : List Nat} {w : World}

theorem E.rdL_at : ∀ {l : List τ} {cs : List Value} {k : Nat} {x : τ}, e.rdL Z w cs l → l[k]? = some x → e.rd Z w ((cs.drop (k * e.n)).take e.n) x
  | [], cs, k, x, h, hx => by simp at hx
  | y :: l, cs, 0, x, h, hx => by
    obtain ⟨c1, c2, rfl, h1, h2⟩ := h
    simp only [List.getElem?_cons_zero, Option.some.injEq] at hx
    subst hx
    rw [Nat.zero_mul, List.drop_zero, ← e.len h1, List.take_left]; exact h1
  | y :: l, cs, k + 1, x, h, hx => by
    obtain ⟨c1, c2, rfl, h1, h2⟩ := h
    simp only [List.getElem?_cons_succ] at hx
    have := E.rdL_at h2 hx
    have hl := e.len h1
    rw [show (k + 1) * e.n = c1.length + k * e.n by rw [hl, Nat.add_mul]; omega, List.drop_append, List.drop_of_length_le (by omega), List.nil_append, Nat.add_sub_cancel_left]
    exact this

theorem E.rdL_set : ∀ {l : List τ} {cs : List Value} {k : Nat} {x y : τ} {ds : List Value} {off : Nat}, e.rdL Z w cs l → l[k]? = some x → off + ds.length ≤ e.n →
    (∀ ci, e.rd Z w ci x → e.rd Z w (ci.take off ++ ds ++ ci.drop (off + ds.length)) y) → e.rdL Z w (cs.take (k * e.n + off) ++ ds ++ cs.drop (k * e.n + off + ds.length)) (l.set k y)
  | [], cs, k, x, y, ds, off, h, hx, _, _ => by simp at hx
  | z :: l, cs, 0, x, y, ds, off, h, hx, hle, hp => by
    obtain ⟨c1, c2, rfl, h1, h2⟩ := h
    simp only [List.getElem?_cons_zero, Option.some.injEq] at hx
    subst hx
    have hl := e.len h1
    refine ⟨_, c2, ?_, hp c1 h1, h2⟩
    simp only [Nat.zero_mul, Nat.zero_add]
    rw [List.take_append_of_le_length (by omega), List.drop_append_of_le_length (by omega)]
    simp
  | z :: l, cs, k + 1, x, y, ds, off, h, hx, hle, hp => by
    obtain ⟨c1, c2, rfl, h1, h2⟩ := h
    simp only [List.getElem?_cons_succ] at hx
    have ih := E.rdL_set h2 hx hle hp
    have hl := e.len h1
    refine ⟨c1, _, ?_, h1, ih⟩
    rw [show (k + 1) * e.n + off = c1.length + (k * e.n + off) by rw [hl, Nat.add_mul]; omega]
    rw [List.take_append, List.take_of_length_le (by omega), Nat.add_sub_cancel_left, Nat.add_assoc c1.length, List.drop_append, List.drop_of_length_le (by omega), Nat.add_sub_cancel_left]
    simp

end

/-! ### Elements of a slice of one's own -/

theorem idx_spec {α : Type} {l : List α} {i : Int} {u : α} (h : idx l i = some u) : 0 ≤ i ∧ l[i.toNat]? = some u ∧ i < (l.length : Int) := by
  unfold idx at h
  split at h
  · rename_i h0
    obtain ⟨hlt, hv⟩ := List.getElem?_eq_some_iff.1 h
    exact ⟨h0, h, by omega⟩
  · cases h

section
variable {P : Program} {ops : Array Oper} {Q : Exit → Act → World → Prop} {a : Act} {n : Nat} {S : List (Nat × Value)} {w : World} {K : Act → World → Prop}
variable {A : List Nat} {Ls : List Res} {d : Nat} {ty : TypeId} {pos : String} {af : Array Edge} {g : Option (Nat × Bool)}
variable {τ σ : Type} {e : E τ} {f : E σ} {te : TypeId} {Z : List Nat} {r : Res} {p : Option Addr} {c : Nat} {l : List τ} {ix : Int} {u : τ} {t : TypeId} {x y : Operand} {kd : IntKind}

theorem Arr.at (hA : Arr e te Z w r p c l) (hm : idx l ix = some u) : ∃ b o cells, r = [(b, .cells cells te (0, 0))] ∧ p = some ⟨b, o, none⟩ ∧ l.length ≤ c ∧ c ≤ maxLen ∧ o + c * e.n ≤ cells.size ∧ e.rdL Z w ((cells.toList.drop o).take (l.length * e.n)) l := by
  rcases hA with ⟨_, _, _, rfl⟩ | h
  · have := (idx_spec hm).2.1; simp at this
  · exact h

theorem r_index_arr (hS : Slots a n S) (hA : Arr e te Z w r p c l) (hx : opd S x = some (.slice p l.length c)) (hy : opd S y = some (.int kd ix)) (ht : elemSize P t = some e.n) (hm : idx l ix = some u) {d : Option Tmp} :
    ∃ b o, p = some ⟨b, o, none⟩ ∧ ∀ w', (execOp a.eval ⟨d, .indexAddr t x y, ty, pos, af, g⟩).run P w' = .ok (.value (.pointer (some ⟨b, o + ix.toNat * e.n, none⟩))) w' := by
  obtain ⟨b, o, cells, rfl, rfl, _⟩ := hA.at hm
  obtain ⟨h0, h1, h2⟩ := idx_spec hm
  refine ⟨b, o, rfl, fun w' => ?_⟩
  simp [execOp, hS.eval hx, hS.eval hy, run_indexAt (m := l.length) ht h0 h2]

theorem op_index_arr (hS : Slots a n S) (hd : Nat.blt d n = true) (hg : wantedS ops S g = some true) (hA : Arr e te Z w r p c l) (hx : opd S x = some (.slice p l.length c)) (hy : opd S y = some (.int kd ix)) (ht : elemSize P t = some e.n) (hm : idx l ix = some u)
    (k : ∀ b o, p = some ⟨b, o, none⟩ → ∀ a', Slots a' n ((d, .pointer (some ⟨b, o + ix.toNat * e.n, none⟩)) :: S) → K a' w) : Stp P ops Q ⟨some d, .indexAddr t x y, ty, pos, af, g⟩ K a w := by
  obtain ⟨b, o, hp, hrun⟩ := r_index_arr (P := P) (ty := ty) (pos := pos) (af := af) (g := g) (d := some d) hS hA hx hy ht hm
  exact op_val hS hd hg (hrun w) (k b o hp)

theorem arr_cells (s : Sub e f) {b o : Nat} (hO : Own A w Ls) {i : Nat} (hr : Ls[i]? = some r) (hA : Arr e te (bl Ls ++ A) w r p c l) (hp : p = some ⟨b, o, none⟩) (hm : idx l ix = some u) :
    ∃ ci, f.rd (bl Ls ++ A) w ci (s.get u) ∧ ∀ w' : World, w'.heap[b]? = w.heap[b]? → ∀ j v, ci[j]? = some v → w'.cell? ⟨b, o + ix.toNat * e.n + s.off + j, none⟩ = some v := by
  obtain ⟨b', o', cells, rfl, hp', h3, _, h5, h6⟩ := hA.at hm
  rw [hp] at hp'
  cases hp'
  obtain ⟨h0, h1, h2⟩ := idx_spec hm
  have hb := heap_of_own hO hr (List.mem_singleton.2 rfl)
  refine ⟨_, s.rdg (e.rdL_at h6 h1), fun w' hw j v hv => ?_⟩
  rw [cell_of_row w' b _ cells te (0, 0) (hw.trans hb)]
  rw [List.getElem?_take] at hv
  split at hv
  · rw [List.getElem?_drop, List.getElem?_take] at hv
    split at hv
    · rw [List.getElem?_drop, List.getElem?_take] at hv
      split at hv
      · rw [List.getElem?_drop] at hv
        have he : o + ix.toNat * e.n + s.off + j = o + (ix.toNat * e.n + (s.off + j)) := by omega
        rw [he]; simpa using hv
      · cases hv
    · cases hv
  · cases hv

theorem mkV_of {ag : Bool} {ci : List Value} {k : Nat} (hl : ci.length = k) (hag : ag = true ∨ k = 1) : ∃ v, mkV ag ci = some v := by
  rcases hag with rfl | hn
  · exact ⟨_, rfl⟩
  · cases ag with
    | true => exact ⟨_, rfl⟩
    | false => match ci, hl.trans hn with | [u], _ => exact ⟨u, rfl⟩

theorem op_load_arr (i : Nat) (s : Sub e f) {b o : Nat} (ag : Bool) (hS : Slots a n S) (hd : Nat.blt d n = true) (hg : wantedS ops S g = some true) (hO : Own A w Ls) (hr : Ls[i]? = some r) (hA : Arr e te (bl Ls ++ A) w r p c l)
    (hp : p = some ⟨b, o, none⟩) (hm : idx l ix = some u) (hx : opd S x = some (.pointer (some ⟨b, o + ix.toNat * e.n + s.off, none⟩))) (ht : shapeOf P t = some (ag, f.n))
    (k : ∀ ci, f.rd (bl Ls ++ A) w ci (s.get u) → ∀ v, mkV ag ci = some v → ∀ a', Slots a' n ((d, v) :: S) → K a' w) (hag : ag = true ∨ f.n = 1) : Stp P ops Q ⟨some d, .load t x, ty, pos, af, g⟩ K a w := by
  obtain ⟨ci, h1, h2⟩ := arr_cells s hO hr hA hp hm
  obtain ⟨v, hv⟩ := mkV_of (f.len h1) hag
  refine op_val hS hd hg (v := v) (w' := w) ?_ (k ci h1 v hv)
  simp [execOp, hS.eval hx, Instr.loadAt, Instr.sureAddr, run_loadVar_cells (cs := ci) (by rw [f.len h1]; exact ht) (h2 w rfl) hv]

theorem drop_put {c : List Value} (o m k : Nat) (v : List Value) (h : o + m + k ≤ c.length) : (c.take (o + m + k) ++ v ++ c.drop (o + m + k + v.length)).drop o = (c.drop o).take (m + k) ++ v ++ (c.drop o).drop (m + k + v.length) := by
  rw [List.append_assoc, List.drop_append_of_le_length (by rw [List.length_take]; omega), List.drop_take, Nat.add_assoc o, Nat.add_sub_cancel_left, List.drop_drop, ← List.append_assoc, Nat.add_assoc o]

theorem take_put (c : List Value) (o m : Nat) (v : List Value) (h : o + v.length ≤ m) : (c.take o ++ v ++ c.drop (o + v.length)).take m = if o ≤ c.length then (c.take m).take o ++ v ++ (c.take m).drop (o + v.length) else (c.take o ++ v ++ c.drop (o + v.length)).take m := by
  split
  · rename_i hle
    rw [List.append_assoc, List.take_append, List.take_append, List.take_take, List.take_take, Nat.min_eq_right (by omega), Nat.min_eq_left (by omega), List.length_take, Nat.min_eq_left hle,
      List.take_of_length_le (l := v) (by omega), ← List.append_assoc, List.drop_take]
    congr 2
    omega
  · rfl

theorem op_store_arr (i : Nat) (s : Sub e f) {b o : Nat} {v : Value} {z : σ} (ag : Bool) (hS : Slots a n S) (hg : wantedS ops S g = some true) (hO : Own A w Ls) (hr : Ls[i]? = some r) (hA : Arr e te (bl Ls ++ A) w r p c l)
    (hp : p = some ⟨b, o, none⟩) (hm : idx l ix = some u) (hx : opd S x = some (.pointer (some ⟨b, o + ix.toNat * e.n + s.off, none⟩))) (hy : opd S y = some v) (ht : shapeOf P t = some (ag, f.n)) (hv : f.rd (bl Ls ++ A) w v.cells.toList z)
    (k : ∀ r' w', Own A w' (Ls.set i r') → Ext qd Ls w (Ls.set i r') w' → Arr e te (bl (Ls.set i r') ++ A) w' r' p c (l.set ix.toNat (s.put u z)) → ∀ a', Slots a' n S → K a' w') :
    Stp P ops Q ⟨none, .store t x y, ty, pos, af, g⟩ K a w := by
  obtain ⟨b', o', cells, rfl, hp', h3, h4, h5, h6⟩ := hA.at hm
  rw [hp] at hp'
  cases hp'
  obtain ⟨h0, h1, h2⟩ := idx_spec hm
  have hb := heap_of_own hO hr (List.mem_singleton.2 rfl)
  have hlen := f.len hv
  have hsle := s.le
  have hlt : ix.toNat + 1 ≤ l.length := (List.getElem?_eq_some_iff.1 h1).1
  have hmul : ix.toNat * e.n + e.n ≤ l.length * e.n := by
    have := Nat.mul_le_mul_right e.n hlt
    rw [Nat.add_mul, Nat.one_mul] at this; exact this
  have hmul2 : o + l.length * e.n ≤ cells.size := Nat.le_trans (Nat.add_le_add_left (Nat.mul_le_mul_right _ h3) _) h5
  have hst : storeOk P t cells (o + ix.toNat * e.n + s.off) v = true := by
    unfold storeOk
    simp only [ht, Bool.and_eq_true, beq_iff_eq, List.all_eq_true]
    exact ⟨⟨by simpa using hlen, Nat.ble_eq_true_of_le (by omega)⟩, f.one hv⟩
  have hother : ∀ k, k < w.heap.size → k ∉ [(b, Obj.cells cells te (0, 0))].map Prod.fst → (w.setRow b (putL cells (o + ix.toNat * e.n + s.off) v.cells.toList)).heap[k]? = w.heap[k]? :=
    fun k _ hk => setRow_other w b k _ (fun e => hk (by simp [e]))
  have hE : Ext qd Ls w (Ls.set i [(b, .cells (putL cells (o + ix.toNat * e.n + s.off) v.cells.toList) te (0, 0))]) (w.setRow b (putL cells (o + ix.toNat * e.n + s.off) v.cells.toList)) :=
    Ext.set hr rfl rfl rfl (by simp) hother (fun q hq => .inl (by simp only [List.mem_singleton] at hq; subst hq; simp))
  refine op_unit hS hg (w' := w.setRow b (putL cells (o + ix.toNat * e.n + s.off) v.cells.toList)) (by simp [execOp, hS.eval hx, hS.eval hy, Instr.storeAt, Instr.sureAddr, run_store_row hb hst])
    (k [(b, .cells (putL cells (o + ix.toNat * e.n + s.off) v.cells.toList) te (0, 0))] _ ?_ hE (.inr ⟨b, o, _, rfl, hp, by simpa using h3, h4, ?_, ?_⟩))
  · exact hO.set hr (by simp) hother (fun q hq => by simp only [List.mem_singleton] at hq; subst hq; exact setRow_heap w b cells _ te (0, 0) hb) (by simp) (fun q hq => .inl (by simp only [List.mem_singleton] at hq; subst hq; simp))
  · simp only [putL, List.size_toArray, List.length_append, List.length_take, List.length_drop, Array.length_toList, hlen]
    omega
  · have := e.rdL_set (e.rdL_step (hE.step A) h6) h1 (by rw [hlen]; exact hsle) (ds := v.cells.toList) (off := s.off) (y := s.put u z) (fun ci hci => by rw [hlen]; exact s.rdp hci (f.step (hE.step A) hv))
    rw [List.length_set]
    show e.rdL _ _ (List.take _ (List.drop o (cells.toList.take (o + ix.toNat * e.n + s.off) ++ v.cells.toList ++ cells.toList.drop (o + ix.toNat * e.n + s.off + v.cells.toList.length)))) _
    rw [drop_put o (ix.toNat * e.n) s.off v.cells.toList (by have := Array.length_toList (xs := cells); omega), take_put _ _ _ _ (by omega), if_pos (by simp; omega)]
    exact this

variable {listed : Array Bool} {fuel : Nat} {B J : List Nat}

theorem d_index_arr (i : Nat) (hO : Own A w Ls) (hS : Slots a n S) (hi : ops[i]? = some ⟨some d, .indexAddr t x y, ty, pos, af, g⟩) (hk : takeOk ops B listed i = true) (hd : Nat.blt d n = true) (hQ : ∀ c (v : Value) a w, Q (.panic c) (a.put (some d) v) w → Q (.panic c) a w)
    (hg : wantedS ops S g = some true) (hA : Arr e te Z w r p c l) (hx : opd S x = some (.slice p l.length c)) (hy : opd S y = some (.int kd ix)) (ht : elemSize P t = some e.n) (hm : idx l ix = some u)
    (k : ∀ b o, p = some ⟨b, o, none⟩ → ∀ a', Slots a' n ((d, .pointer (some ⟨b, o + ix.toNat * e.n, none⟩)) :: S) → wpL P ops Q (SB B (CC qd A Ls w J)) fuel (listed.setIfInBounds i true) a' w) : wpL P ops Q (SB B (CC qd A Ls w J)) (fuel + 1) listed a w := by
  obtain ⟨b, o, hp, hrun⟩ := r_index_arr (P := P) (ty := ty) (pos := pos) (af := af) (g := g) (d := some d) hS hA hx hy ht hm
  exact d_val i hO hS hi hk hd (fun c => hQ c _) hg hrun (k b o hp)

theorem d_load_arr (i ri : Nat) (s : Sub e f) {b o : Nat} (ag : Bool) (hO : Own A w Ls) (hS : Slots a n S) (hi : ops[i]? = some ⟨some d, .load t x, ty, pos, af, g⟩) (hk : takeOk ops B listed i = true) (hd : Nat.blt d n = true) (hQ : ∀ c (v : Value) a w, Q (.panic c) (a.put (some d) v) w → Q (.panic c) a w)
    (hg : wantedS ops S g = some true) (hb : B.all (fun j => behind ops i ops.size j) = true) (hJ : J.contains ri = true) (hr : Ls[ri]? = some r) (hA : Arr e te (bl Ls ++ A) w r p c l)
    (hp : p = some ⟨b, o, none⟩) (hm : idx l ix = some u) (hx : opd S x = some (.pointer (some ⟨b, o + ix.toNat * e.n + s.off, none⟩))) (ht : shapeOf P t = some (ag, f.n))
    (k : ∀ ci, f.rd (bl Ls ++ A) w ci (s.get u) → ∀ v, mkV ag ci = some v → ∀ a', Slots a' n ((d, v) :: S) → wpL P ops Q (SB B (CC qd A Ls w J)) fuel (listed.setIfInBounds i true) a' w) (hag : ag = true ∨ f.n = 1) :
    wpL P ops Q (SB B (CC qd A Ls w J)) (fuel + 1) listed a w := by
  obtain ⟨ci, h1, h2⟩ := arr_cells s hO hr hA hp hm
  obtain ⟨b', o', cells, hrr, hp', _⟩ := hA.at hm
  rw [hp] at hp'
  cases hp'
  subst hrr
  obtain ⟨v, hv⟩ := mkV_of (f.len h1) hag
  refine d_take hO hS hi hk hd (fun c => hQ c _) (.inl ⟨wanted_of (o := ⟨some d, .load t x, ty, pos, af, g⟩) hS hg, fun l' w' hc hun hSw => ?_⟩) (k ci h1 v hv)
  obtain ⟨Ls', hO', _, hJ'⟩ := hSw (none_yet hb hc hun)
  have hr' := hr
  rw [← map_get hJ' hJ] at hr'
  have hh : w'.heap[b]? = w.heap[b]? := (heap_of_own hO' hr' (List.mem_singleton.2 rfl)).trans (heap_of_own hO hr (List.mem_singleton.2 rfl)).symm
  simp [execOp, hS.eval hx, Instr.loadAt, Instr.sureAddr, run_loadVar_cells (cs := ci) (by rw [f.len h1]; exact ht) (h2 w' hh) hv]

end

/-! ### The same, in the form in which they are used -/

def okJs (js : List Nat) (n : Nat) : Bool := match js with
  | [] => true
  | j :: r => Nat.blt j n && !r.contains j && okJs r n

theorem okJs_spec : ∀ {js : List Nat} {n : Nat}, okJs js n = true → js.Nodup ∧ ∀ j ∈ js, j < n
  | [], _, _ => by simp
  | j :: r, n, h => by
    simp only [okJs, Bool.and_eq_true, Nat.blt_eq, Bool.not_eq_true'] at h
    obtain ⟨⟨h1, h2⟩, h3⟩ := h
    obtain ⟨k1, k2⟩ := okJs_spec h3
    refine ⟨List.nodup_cons.2 ⟨by simpa using h2, k1⟩, fun k hk => ?_⟩
    rcases List.mem_cons.1 hk with rfl | hk
    · exact h1
    · exact k2 k hk

section
variable {A : List Nat} {w w' : World} {Ls : List Res}
theorem Own.sel' (h : Own A w Ls) (js : List Nat) (hk : okJs js Ls.length = true) : Own A w (selR Ls js) := h.sel js (okJs_spec hk).1
theorem Own.picks' (h : Own A w Ls) (js : List Nat) (hk : okJs js Ls.length = true) : Own (bl (blank js Ls) ++ A) w (selR Ls js) := h.picks js (okJs_spec hk).1
theorem Own.fills' (h : Own A w Ls) {L2 : List Res} (js : List Nat) (rs new : List Res) (hk : okJs js Ls.length = true) (hlen : rs.length = js.length) (h2 : L2 = rs ++ new)
    (ho : Own (bl (blank js Ls) ++ A) w' L2) (e : Ext qd (selR Ls js) w L2 w') : Own A w' (fill js rs Ls ++ new) := by
  subst h2; exact h.fills (okJs_spec hk).1 (okJs_spec hk).2 hlen ho e
theorem Ext.fills' {L2 : List Res} (js : List Nat) (rs new : List Res) (hk : okJs js Ls.length = true) (hlen : rs.length = js.length) (h2 : L2 = rs ++ new) (e : Ext qd (selR Ls js) w L2 w') : Ext qd Ls w (fill js rs Ls ++ new) w' := by
  subst h2; exact Ext.fills (okJs_spec hk).1 (okJs_spec hk).2 hlen e
theorem Step.fills' {L2 : List Res} (js : List Nat) (rs new : List Res) (hk : okJs js Ls.length = true) (hlen : rs.length = js.length) (h2 : L2 = rs ++ new) (A : List Nat) (w : World) :
    Step (bl L2 ++ (bl (blank js Ls) ++ A)) w (bl (fill js rs Ls ++ new) ++ A) w := by
  subst h2; exact Step.fills (okJs_spec hk).1 (okJs_spec hk).2 hlen A w
theorem Step.news {new : List Res} (Ls : List Res) (A : List Nat) (w : World) : Step (bl new ++ (bl Ls ++ A)) w (bl (Ls ++ new) ++ A) w := Step.less w fun b hb => by
  rw [bl_append, List.append_assoc] at hb
  rcases List.mem_append.1 hb with h | h
  · exact List.mem_append.2 (.inr (List.mem_append.2 (.inl h)))
  · rcases List.mem_append.1 h with h | h
    · exact List.mem_append.2 (.inl h)
    · exact List.mem_append.2 (.inr (List.mem_append.2 (.inr h)))
theorem Step.sub (Ls : List Res) (A : List Nat) (w : World) : Step (bl Ls ++ A) w (bl [] ++ (bl Ls ++ A)) w := Step.less w fun _ h => h
end

/-! ### s == nil -/

section
variable {P : Program} {a : Act} {n : Nat} {S : List (Nat × Value)} {ty : TypeId} {pos : String} {af : Array Edge} {g : Option (Nat × Bool)}
theorem run_eqnil (d : Nat) {t te : TypeId} {p : Option Addr} {m c : Nat} (hu : P.underlying t = some (.slice te)) (w : World) : (Op.equalIn (d + 1) t (.slice p m c) (.slice none 0 0)).run P w = .ok p.isNone w := by
  cases p <;> simp [Op.equalIn, run_underlying hu]
/-- s == nil -/
theorem r_eqnil {t u te : TypeId} {x : Operand} {p : Option Addr} {m c : Nat} {d : Option Tmp} (hS : Slots a n S) (hx : opd S x = some (.slice p m c)) (hu : P.underlying t = some (.slice te)) (w : World) :
    (execOp a.eval ⟨d, .binOp .eql t x (.const (.slice none 0 0)) u, ty, pos, af, g⟩).run P w = .ok (.value (vb p.isNone)) w := by
  have hy : opd S (.const (.slice none 0 0)) = some (.slice none 0 0) := rfl
  have h1 : (eqGuard .eql t x (.const (.slice none 0 0)) (.slice p m c) (.slice none 0 0)).run P w = .ok () w := by
    unfold eqGuard
    simp
  have h2 : (binOp .eql t (.slice p m c) (.slice none 0 0)).run P w = .ok (vb p.isNone) w := by
    have h3 : (Op.equal t (.slice p m c) (.slice none 0 0)).run P w = .ok p.isNone w := run_eqnil 9999 hu w
    show (do pure (.bool (← Op.equal t (.slice p m c) (.slice none 0 0))) : Sem Value).run P w = _
    simp [h3]
  simp [execOp, hS.eval hx, hS.eval hy, h1, h2]
end

theorem RdS.isNil {τ : Type} {e : E τ} {Z : List Nat} {w : World} {p : Option Addr} {c : Nat} {l : List τ} (h : RdS e Z w p c l) (hp : p.isNone = true) : l = [] := by
  rcases h.2 with h | ⟨b, off, cs, rfl, _⟩
  · exact h
  · cases hp

theorem nilW {α : Type} {m m' o : Option α} (h : m = o) (e : m' = m) : m' = o := e.trans h

end Go.GD
