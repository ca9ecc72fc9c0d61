/- A slice of one's own whose elements hold slices of one's own. Conditions: none. -/
import Derived.Test.YtofmfdlkalakaaaGreatDoorOps5
namespace Go.GD
open Go Go.RowKit
set_option autoImplicit false
variable {qd : Prop}
set_option linter.unusedVariables false

/-! ### Blocks laid together in another way -/

theorem bl_flat : ∀ (Ls : List Res), bl Ls = Ls.flatten.map Prod.fst
  | [] => rfl
  | r :: rs => by simp [bl, bl_flat rs]

theorem set_perm : ∀ {Ls : List Res} {i : Nat} {r : Res} (r' : Res), Ls[i]? = some r → (r ++ (Ls.set i r').flatten).Perm (r' ++ Ls.flatten)
  | [], i, r, r', h => by simp at h
  | t :: ts, 0, r, r', h => by
    simp only [List.getElem?_cons_zero, Option.some.injEq] at h
    subst h
    simp only [List.set_cons_zero, List.flatten_cons]
    rw [← List.append_assoc, ← List.append_assoc]
    exact List.perm_append_comm.append_right _
  | t :: ts, i + 1, r, r', h => by
    simp only [List.getElem?_cons_succ] at h
    simp only [List.set_cons_succ, List.flatten_cons]
    have h1 : (r ++ (t ++ (ts.set i r').flatten)).Perm (t ++ (r ++ (ts.set i r').flatten)) := by
      rw [← List.append_assoc, ← List.append_assoc]; exact List.perm_append_comm.append_right _
    have h2 : (t ++ (r' ++ ts.flatten)).Perm (r' ++ (t ++ ts.flatten)) := by
      rw [← List.append_assoc, ← List.append_assoc]; exact List.perm_append_comm.append_right _
    exact (h1.trans ((set_perm r' h).append_left t)).trans h2

section
variable {A : List Nat} {L0 Ls Ls2 : List Res} {w0 w : World} {n : Nat} {S : List (Nat × Value)} {F : List PP} {a : Act} {Y : Res}

theorem bl_less (hp : (Ls2.flatten ++ Y).Perm Ls.flatten) : ∀ b ∈ bl Ls2, b ∈ bl Ls := by
  intro b hb
  rw [bl_flat] at hb ⊢
  obtain ⟨p, h1, rfl⟩ := List.mem_map.1 hb
  exact List.mem_map.2 ⟨p, hp.subset (List.mem_append.2 (.inl h1)), rfl⟩
theorem Own.less (h : Own A w Ls) (hp : (Ls2.flatten ++ Y).Perm Ls.flatten) : Own A w Ls2 := by
  refine ⟨h.old, fun r hr p hpr => ?_, ?_, fun b hb => h.apart b (bl_less hp b hb)⟩
  · have hm : p ∈ Ls.flatten := hp.subset (List.mem_append.2 (.inl (List.mem_flatten.2 ⟨r, hr, hpr⟩)))
    obtain ⟨s, hs, hps⟩ := List.mem_flatten.1 hm
    exact h.has s hs p hps
  · have hn := h.nodup
    rw [bl_flat] at hn ⊢
    have h2 := (hp.map Prod.fst).nodup_iff.2 hn
    rw [List.map_append] at h2
    exact (List.nodup_append.1 h2).1
theorem SS.less (h : SS qd A L0 w0 n S Ls F a w) (hp : (Ls2.flatten ++ Y).Perm Ls.flatten) : SS qd A L0 w0 n S Ls2 F a w :=
  ⟨h.s, h.o.less hp, h.e.drop (bl_less hp), h.f.mv (Step.less w fun b hb => by
    rcases List.mem_append.1 hb with h1 | h1
    · exact List.mem_append.2 (.inl (bl_less hp b h1))
    · exact List.mem_append.2 (.inr h1))⟩
/-- what was given up lies in none of the blocks that are left -/
theorem Own.gone (h : Own A w Ls) (hp : (Ls2.flatten ++ Y).Perm Ls.flatten) : ∀ p ∈ Y, w.heap[p.1]? = some p.2 ∧ p.1 ∉ bl Ls2 ++ A := by
  intro p hpy
  have hm : p ∈ Ls.flatten := hp.subset (List.mem_append.2 (.inr hpy))
  obtain ⟨s, hs, hps⟩ := List.mem_flatten.1 hm
  refine ⟨h.has s hs p hps, fun hb => ?_⟩
  rcases List.mem_append.1 hb with h1 | h1
  · have hn := h.nodup
    rw [bl_flat] at hn h1
    have h2 := (hp.map Prod.fst).nodup_iff.2 hn
    rw [List.map_append] at h2
    exact (List.nodup_append.1 h2).2.2 _ h1 _ (List.mem_map.2 ⟨p, hpy, rfl⟩) rfl
  · exact h.apart _ (mem_bl.2 ⟨s, hs, p, hps, rfl⟩) h1
end

/-! ### Cells as they lie -/

def eRaw (k : Nat) : E (List Value) := ⟨k, fun _ _ cs x => cs = x ∧ x.length = k ∧ ∀ c ∈ x, c.oneCell' = true, by rintro _ _ _ _ ⟨rfl, h, _⟩; exact h, by rintro _ _ _ _ _ _ _ h; exact h, by rintro _ _ _ _ ⟨rfl, _, h⟩; exact h⟩

theorem raw_rd {τ : Type} {e : E τ} {Z Z2 : List Nat} {w w2 : World} : ∀ {raw : List (List Value)} {cs : List Value} {l : List τ}, (eRaw e.n).rdL Z w cs raw → raw.length = l.length → (∀ (k : Nat) (x : τ), l[k]? = some x → ∃ c, raw[k]? = some c ∧ e.rd Z2 w2 c x) → e.rdL Z2 w2 cs l
  | [], cs, [], h, _, _ => h
  | c :: raw, cs, x :: l, h, hl, hx => by
    obtain ⟨c1, c2, rfl, ⟨rfl, _, _⟩, h2⟩ := h
    obtain ⟨c', h3, h4⟩ := hx 0 x rfl
    simp only [List.getElem?_cons_zero, Option.some.injEq] at h3
    subst h3
    exact ⟨_, _, rfl, h4, raw_rd h2 (by simpa using hl) fun k y hy => hx (k + 1) y (by simpa using hy)⟩
theorem raw_mem {k : Nat} {Z : List Nat} {w : World} : ∀ {raw : List (List Value)} {cs : List Value}, (eRaw k).rdL Z w cs raw → ∀ c ∈ raw, c.length = k ∧ ∀ v ∈ c, v.oneCell' = true
  | [], _, _, c, hc => by cases hc
  | c0 :: raw, _, h, c, hc => by
    obtain ⟨c1, c2, rfl, ⟨rfl, h1, h2⟩, h3⟩ := h
    rcases List.mem_cons.1 hc with rfl | hc
    · exact ⟨h1, h2⟩
    · exact raw_mem h3 c hc

theorem Arr.raw_mem {k t : Nat} {Z : List Nat} {w : World} {r : Res} {p : Option Addr} {c : Nat} {raw : List (List Value)} (h : Arr (eRaw k) t Z w r p c raw) : ∀ x ∈ raw, x.length = k ∧ ∀ v ∈ x, v.oneCell' = true := by
  rcases h with ⟨_, _, _, rfl⟩ | ⟨b, o, cells, _, _, _, _, _, h6⟩
  · intro x hx; cases hx
  · exact Go.GD.raw_mem h6
theorem Arr.of_raw {τ : Type} {e : E τ} {t : Nat} {Z Z2 : List Nat} {w w2 : World} {r : Res} {p : Option Addr} {c : Nat} {raw : List (List Value)} {l : List τ} (h : Arr (eRaw e.n) t Z w r p c raw) (hl : raw.length = l.length)
    (hx : ∀ (k : Nat) (x : τ), l[k]? = some x → ∃ c, raw[k]? = some c ∧ e.rd Z2 w2 c x) : Arr e t Z2 w2 r p c l := by
  rcases h with ⟨h1, h2, h3, rfl⟩ | ⟨b, o, cells, h1, h2, h3, h4, h5, h6⟩
  · exact .inl ⟨h1, h2, h3, List.eq_nil_of_length_eq_zero (by simpa using hl.symm)⟩
  · exact .inr ⟨b, o, cells, h1, h2, by rw [← hl]; exact h3, h4, h5, by rw [← hl]; exact raw_rd h6 hl hx⟩

section
variable {τ σ : Type} {e : E τ} {f : E σ}

/-- a field that is a slice, taken out and put in -/
structure Fld (s : Sub e (eSlice f)) : Prop where
  pp : ∀ x z, s.put (s.put x []) z = s.put x z
  pg : ∀ x, s.put x (s.get x) = x

variable (s : Sub e (eSlice f)) (tf : TypeId)
/-- the cells with no slice in that field -/
def hd0 (cs : List Value) : List Value := cs.take s.off ++ [.slice none 0 0] ++ cs.drop (s.off + 1)
def NE (Z : List Nat) (w : World) (D : Res) (cs : List Value) (x : τ) : Prop :=
  ∃ q cap, cs[s.off]? = some (.slice q (s.get x).length cap) ∧ e.rd Z w (hd0 s cs) (s.put x []) ∧ Arr f tf Z w D q cap (s.get x)
inductive NL (Z : List Nat) (w : World) : Res → List (List Value) → List τ → Prop
  | nil : NL Z w [] [] []
  | cons {D1 D : Res} {cs : List Value} {x : τ} {raw : List (List Value)} {l : List τ} : NE s tf Z w D1 cs x → NL Z w D raw l → NL Z w (D1 ++ D) (cs :: raw) (x :: l)

variable {s tf} {Z Z2 : List Nat} {w w2 : World} {D : Res} {cs : List Value} {x : τ} {raw : List (List Value)} {l : List τ}

theorem NE.mv (st : Step Z w Z2 w2) (h : NE s tf Z w D cs x) : NE s tf Z2 w2 D cs x := by
  obtain ⟨q, cap, h1, h2, h3⟩ := h
  exact ⟨q, cap, h1, e.step st h2, h3.mv st⟩
theorem NL.mv (st : Step Z w Z2 w2) (h : NL s tf Z w D raw l) : NL s tf Z2 w2 D raw l := by
  induction h with
  | nil => exact .nil
  | cons h _ ih => exact .cons (h.mv st) ih
theorem NL.len (h : NL s tf Z w D raw l) : raw.length = l.length := by
  induction h with
  | nil => rfl
  | cons h _ ih => simp [ih]
theorem NL.snoc {D1 : Res} (h : NL s tf Z w D raw l) (k : NE s tf Z w D1 cs x) : NL s tf Z w (D ++ D1) (raw ++ [cs]) (l ++ [x]) := by
  induction h with
  | nil => simpa using NL.cons k .nil
  | cons h _ ih => rw [List.append_assoc]; exact .cons h ih
theorem NL.get (h : NL s tf Z w D raw l) : ∀ {k : Nat}, l[k]? = some x → ∃ Da D1 Db cs, D = Da ++ D1 ++ Db ∧ raw[k]? = some cs ∧ NE s tf Z w D1 cs x ∧ ∀ j y, j ≠ k → l[j]? = some y → ∃ c D', raw[j]? = some c ∧ NE s tf Z w D' c y ∧ D' ⊆ Da ++ Db := by
  induction h with
  | nil => intro k hk; simp at hk
  | @cons D1 D cs0 x0 raw l h0 hl ih =>
    intro k hk
    cases k with
    | zero =>
      simp only [List.getElem?_cons_zero, Option.some.injEq] at hk
      subst hk
      refine ⟨[], D1, D, cs0, by simp, rfl, h0, fun j y hj hy => ?_⟩
      cases j with
      | zero => exact absurd rfl hj
      | succ j =>
        simp only [List.getElem?_cons_succ] at hy
        have : ∀ {D : Res} {raw : List (List Value)} {l : List τ}, NL s tf Z w D raw l → ∀ {j : Nat} {y : τ}, l[j]? = some y → ∃ c D', raw[j]? = some c ∧ NE s tf Z w D' c y ∧ D' ⊆ D := by
          intro D raw l h
          induction h with
          | nil => intro j y hy; simp at hy
          | @cons D1 D cs0 x0 raw l h0 hl ih =>
            intro j y hy
            cases j with
            | zero =>
              simp only [List.getElem?_cons_zero, Option.some.injEq] at hy
              subst hy
              exact ⟨cs0, D1, rfl, h0, List.subset_append_left _ _⟩
            | succ j =>
              obtain ⟨c, D', h1, h2, h3⟩ := ih (by simpa using hy)
              exact ⟨c, D', by simpa using h1, h2, h3.trans (List.subset_append_right _ _)⟩
        obtain ⟨c, D', h1, h2, h3⟩ := this hl hy
        exact ⟨c, D', by simpa using h1, h2, by simpa using h3⟩
    | succ k =>
      simp only [List.getElem?_cons_succ] at hk
      obtain ⟨Da, D2, Db, cs, rfl, h1, h2, h3⟩ := ih hk
      refine ⟨D1 ++ Da, D2, Db, cs, by simp, by simpa using h1, h2, fun j y hj hy => ?_⟩
      cases j with
      | zero =>
        simp only [List.getElem?_cons_zero, Option.some.injEq] at hy
        subst hy
        exact ⟨cs0, D1, rfl, h0, fun p hp => by simp [hp]⟩
      | succ j =>
        obtain ⟨c, D', k1, k2, k3⟩ := h3 j y (by omega) (by simpa using hy)
        exact ⟨c, D', by simpa using k1, k2, fun p hp => by have := k3 hp; simp at this ⊢; exact .inr this⟩

theorem put_cells {v : Value} (hv : cs[s.off]? = some v) : (hd0 s cs).take s.off ++ [v] ++ (hd0 s cs).drop (s.off + (eSlice f).n) = cs := by
  have hlt := (List.getElem?_eq_some_iff.1 hv).1
  have hl : (cs.take s.off).length = s.off := by simp; omega
  have h1 : (hd0 s cs).take s.off = cs.take s.off := by
    unfold hd0
    rw [List.append_assoc, List.take_append_of_le_length (by omega), List.take_of_length_le (by omega)]
  have h2 : (hd0 s cs).drop (s.off + (eSlice f).n) = cs.drop (s.off + 1) := by
    unfold hd0
    show List.drop (s.off + 1) _ = _
    rw [List.drop_append, List.drop_of_length_le (by simp; omega), List.nil_append]
    have : s.off + 1 - (List.take s.off cs ++ [Value.slice none 0 0]).length = 0 := by simp; omega
    rw [this, List.drop_zero]
  rw [h1, h2]
  have h3 : cs = cs.take s.off ++ cs.drop s.off := (List.take_append_drop _ _).symm
  have h4 : cs.drop s.off = v :: cs.drop (s.off + 1) := by
    rw [List.drop_eq_getElem_cons hlt]
    congr 1
    rw [List.getElem?_eq_getElem hlt] at hv
    exact Option.some.inj hv
  conv => rhs; rw [h3, h4]
  simp

/-- a slice of one's own whose block was given up is read -/
theorem Arr.rdOf {t : Nat} {D : Res} {q : Option Addr} {cap : Nat} {l : List σ} (h : Arr f t Z w D q cap l) (st : Step Z w Z2 w) (hD : ∀ p ∈ D, w.heap[p.1]? = some p.2 ∧ p.1 ∉ Z2) : RdS f Z2 w q cap l := by
  rcases h with ⟨_, _, _, rfl⟩ | ⟨b, o, cells, rfl, rfl, h3, h4, h5, h6⟩
  · exact ⟨Nat.zero_le _, .inl rfl⟩
  · obtain ⟨hb, hz⟩ := hD _ (List.mem_singleton.2 rfl)
    refine ⟨h3, .inr ⟨b, o, _, rfl, hz, (Array.getElem?_eq_some_iff.1 hb).1, f.rdL_step st h6, fun j u hu => ?_⟩⟩
    rw [cell_of_row w b (o + j) cells t (0, 0) hb]
    rw [List.getElem?_take] at hu
    split at hu
    · rw [List.getElem?_drop] at hu; simpa using hu
    · cases hu

theorem NE.rd (hs : Fld s) (h : NE s tf Z w D cs x) (st : Step Z w Z2 w) (hD : ∀ p ∈ D, w.heap[p.1]? = some p.2 ∧ p.1 ∉ Z2) : e.rd Z2 w cs x := by
  obtain ⟨q, cap, h1, h2, h3⟩ := h
  have h4 := h3.rdOf st hD
  have h5 := s.rdp (e.step st h2) (eSlice.mk h4)
  rw [put_cells h1, hs.pp, hs.pg] at h5
  exact h5
end

section
variable {τ σ : Type} {e : E τ} {f : E σ} (s : Sub e (eSlice f)) (te tf : TypeId)
/-- a slice of one's own, and those in its elements -/
def Nst (r : Res) (p : Option Addr) (c m : Nat) (l : List τ) : PP :=
  ⟨fun Z w => ∃ r0 D raw, r = r0 ++ D ∧ Arr (eRaw e.n) te Z w r0 p c raw ∧ m = l.length ∧ NL s tf Z w D raw l,
   fun st ⟨r0, D, raw, h1, h2, h3, h4⟩ => ⟨r0, D, raw, h1, h2.mv st, h3, h4.mv st⟩⟩
/-- a slice of one's own in which the slice of one element is told apart -/
def Hol (r : Res) (p : Option Addr) (c m : Nat) (l : List τ) (ix : Int) (q : Option Addr) (cap : Nat) : PP :=
  ⟨fun Z w => ∃ raw, Arr (eRaw e.n) te Z w r p c raw ∧ m = l.length ∧ raw.length = l.length ∧ ∀ k x, l[k]? = some x → ∃ cs, raw[k]? = some cs ∧
     (if k = ix.toNat then cs[s.off]? = some (.slice q (s.get x).length cap) ∧ e.rd Z w (hd0 s cs) (s.put x []) else e.rd Z w cs x),
   fun st ⟨raw, h1, h2, h3, h4⟩ => ⟨raw, h1.mv st, h2, h3, fun k x hx => by
     obtain ⟨cs, k1, k2⟩ := h4 k x hx
     refine ⟨cs, k1, ?_⟩
     split
     · rename_i hk; rw [if_pos hk] at k2; exact ⟨k2.1, e.step st k2.2⟩
     · rename_i hk; rw [if_neg hk] at k2; exact e.step st k2⟩⟩
end

/-- one cell of many -/
def Sub.cell {k : Nat} (off : Nat) (h : off + 1 ≤ k) : Sub (eRaw k) (eRaw 1) :=
  ⟨off, fun x => (x.drop off).take 1, fun x y => x.take off ++ y ++ x.drop (off + 1), h,
   by
    rintro Z w cs x ⟨rfl, h1, h2⟩
    exact ⟨rfl, by simp; omega, fun c hc => h2 c (List.mem_of_mem_drop (List.mem_of_mem_take hc))⟩,
   by
    rintro Z w cs x ds y ⟨rfl, h1, h2⟩ ⟨rfl, h3, h4⟩
    refine ⟨rfl, by simp [h3]; omega, fun c hc => ?_⟩
    simp only [List.mem_append] at hc
    rcases hc with (hc | hc) | hc
    · exact h2 c (List.mem_of_mem_take hc)
    · exact h4 c hc
    · exact h2 c (List.mem_of_mem_drop hc)⟩

section
variable {P : Program} {n : Nat} {X : Hd qd} {ρ ς : Type} {Q : PQ ρ} {S : Sl} {Ls : List Res} {F : List PP} {m m1 m2 : Option ρ} {os : Array Oper} {ol : List Oper} {x y : Operand} {p p' : Pos}
variable {d t : Nat} {ty ty2 : TypeId} {pos pos2 : String} {af af2 : Array Edge} {g g2 : Option (Nat × Bool)} {kd : IntKind} {B Jj : List Nat} {li : Array Bool} {fuel : Nat}
variable {τ σ : Type} {e : E τ} {f : E σ} {s : Sub e (eSlice f)} {te tf : TypeId} {r rj : Res} {p0 q q2 : Option Addr} {c k0 c2 cap : Nat} {z : List τ} {ix : Int}

/-- the nil slice -/
theorem jnR (s : Sub e (eSlice f)) (te tf : TypeId) (h : snocC Ls [] fun Ls' => J P n X Q p S Ls' (Nst s te tf [] none 0 0 [] :: F) m) (hl : snocC Ls [] (fun Ls' => p.less Ls Ls') := by first | exact trivial | exact rfl) : J P n X Q p S Ls F m :=
  ⟨fun hq r0 hm a w hs => by
    rw [snocC_eq] at h hl
    have h1 := hs.room (eRaw e.n) te
    have h2 : SS qd X.A X.L0 X.w0 n S (Ls ++ [[]]) (Nst s te tf [] none 0 0 [] :: F) a w := ⟨h1.s, h1.o, h1.e, ⟨[], [], [], rfl, h1.f.1.1, rfl, .nil⟩, h1.f.2⟩
    exact Pos.less_go hl room_less h2 (h.go hq r0 hm a w h2)⟩

theorem SS.unnest (hs : Fld s) {A : List Nat} {L0 : List Res} {w0 w : World} {a : Act} (h : SS qd A L0 w0 n S Ls F a w) (i : Nat) (hF : (Nst s te tf r p0 c k0 z).h (bl Ls ++ A) w) (hr : Ls[i]? = some r) :
    ∃ r0, SS qd A L0 w0 n S (Ls.set i r0) (Ar e te r0 p0 c k0 z :: F) a w ∧ ∀ b ∈ bl (Ls.set i r0), b ∈ bl Ls := by
  obtain ⟨r0, D, raw, rfl, h1, h2, h3⟩ := hF
  have hp : ((Ls.set i r0).flatten ++ D).Perm Ls.flatten := by
    have := set_perm r0 hr
    rw [List.append_assoc] at this
    exact (List.perm_append_comm.trans ((List.perm_append_left_iff r0).1 this))
  have hg := h.o.gone hp
  have h4 := h.less hp
  have hst : Step (bl Ls ++ A) w (bl (Ls.set i r0) ++ A) w := Step.less w fun b hb => by
    rcases List.mem_append.1 hb with hb | hb
    · exact List.mem_append.2 (.inl (bl_less hp b hb))
    · exact List.mem_append.2 (.inr hb)
  refine ⟨r0, h4.add (f := Ar e te r0 p0 c k0 z) ⟨(h1.mv hst).of_raw (by rw [h3.len]) fun k x hx => ?_, h2⟩, bl_less hp⟩
  obtain ⟨Da, D1, Db, cs, rfl, k1, k2, _⟩ := h3.get hx
  exact ⟨cs, k1, k2.rd hs hst fun p hp => hg p (by simp [hp])⟩

/-- the elements' slices are only read from now on -/
theorem jun (hs : Fld s) (i k : Nat) (hF : nth F k = Nst s te tf r p0 c k0 z) (h : ∀ r0, setC Ls i r0 fun Ls' => J P n X Q p S Ls' (Ar e te r0 p0 c k0 z :: F) m) (hr : Ls[i]? = some r := by rfl) (hl : ∀ r0, setC Ls i r0 (fun Ls' => p.less Ls Ls') := by intro _; first | exact trivial | exact rfl) : J P n X Q p S Ls F m :=
  ⟨fun hq r0 hm a w hs' => by
    obtain ⟨r1, h1, h2⟩ := hs'.unnest hs i (hF ▸ hs'.g k) hr
    have h := h r1
    have hl := hl r1
    rw [setC_eq] at h hl
    exact Pos.less_go hl h2 h1 (h.go hq r0 hm a w h1)⟩

theorem rw1 {cs : List Value} (hl : Nat.beq cs.length e.n = true := by kernel_rfl) (ho : cs.all (fun c => c.oneCell') = true := by rfl) : RV (eRaw e.n) Ls F cs cs := fun _ _ _ _ => ⟨rfl, Nat.eq_of_beq_eq_true hl, fun c hc => List.all_eq_true.1 ho c hc⟩

/-- one element more, whose slice is of one's own -/
theorem jnA {ff : List τ → Option ρ} {cs : List Value} {u0 : τ} {lb : List σ} {mb cb : Nat} (at0 : At Ls p os ⟨some d, .call { callee := .builtin .append, args := [x, y].toArray, argTypes := [t, t].toArray }, ty, pos, af, g⟩ p') (i j k kb : Nat)
    (hF : nth F k = Nst s te tf r p0 c k0 z) (g2 : OKr Ls F (R (eRaw e.n) q c2 1 [cs])) (hB : nth F kb = Ar f tf rj q2 cb mb lb) (hv : RV e Ls F (hd0 s cs) (s.put u0 []))
    (hh : cs[s.off]? = some (.slice q2 mb cb)) (hx : opd S x = some (.slice p0 k0 c)) (hy : opd S y = some (.slice q 1 c2))
    (h : ∀ u r' p1 c', setC Ls i r' fun L1 => setC L1 j [] fun Ls' => J P n X Q p' ((d, sv p1 u c') :: S) Ls' (Nst s te tf r' p1 c' (List.length u) u :: F) (ff u))
    (hu : s.get u0 = lb := by rfl) (hi : Ls[i]? = some r := by rfl) (hj : Ls[j]? = some rj := by rfl) (hij : Nat.beq i j = false := by rfl) (ht : slOk P t te e.n = true := by kernel_rfl) (hd : Nat.blt d n = true := by kernel_rfl) (hg : wantedS os S g = some true := by kernel_rfl) :
    J P n X Q p S Ls F ((app z [u0]).bind ff) :=
  ⟨fun hq rr hm a w hs => by
    obtain ⟨u, h1, h2⟩ := bnd hm
    refine at0.run fun K hK => ?_
    have hN : (Nst s te tf r p0 c k0 z).h (bl Ls ++ X.A) w := hF ▸ hs.g k
    have hBb : (Ar f tf rj q2 cb mb lb).h (bl Ls ++ X.A) w := hB ▸ hs.g kb
    obtain ⟨r0, D, raw, rfl, k1, k2, k3⟩ := hN
    obtain ⟨hBa, rfl⟩ := hBb
    have hne : i ≠ j := by intro e; subst e; simp [Nat.beq_refl] at hij
    have hil : i < Ls.length := (List.getElem?_eq_some_iff.1 hi).1
    have hjl : j < Ls.length := (List.getElem?_eq_some_iff.1 hj).1
    have hj1 : ∀ ra, (Ls.set i ra)[j]? = some rj := fun ra => by rw [List.getElem?_set_ne hne]; exact hj
    -- the blocks laid apart
    have hp1 : ((((Ls.set i r0).set j []) ++ [D ++ rj]).flatten ++ []).Perm Ls.flatten := by
      have e1 := set_perm r0 hi
      have e2 := set_perm [] (hj1 r0)
      simp only [List.flatten_append, List.flatten_cons, List.flatten_nil, List.append_nil, List.nil_append] at e2 ⊢
      rw [List.append_assoc] at e1
      have e3 : (D ++ (Ls.set i r0).flatten).Perm Ls.flatten := (List.perm_append_left_iff r0).1 e1
      refine List.Perm.trans ?_ e3
      refine List.Perm.trans List.perm_append_comm ?_
      rw [List.append_assoc]
      exact e2.append_left D
    have hs1 := hs.less hp1
    have hst : Step (bl Ls ++ X.A) w (bl (((Ls.set i r0).set j []) ++ [D ++ rj]) ++ X.A) w := Step.less w fun b hb => by
      rcases List.mem_append.1 hb with hb | hb
      · exact List.mem_append.2 (.inl (bl_less hp1 b hb))
      · exact List.mem_append.2 (.inr hb)
    have hi1 : (((Ls.set i r0).set j []) ++ [D ++ rj])[i]? = some r0 := by
      rw [List.getElem?_append_left (by simpa using hil), List.getElem?_set_ne (Ne.symm hne), List.getElem?_set_self hil]
    have hR : (R (eRaw e.n) q c2 1 [cs]).h (bl (((Ls.set i r0).set j []) ++ [D ++ rj]) ++ X.A) w := (R (eRaw e.n) q c2 1 [cs]).mv hst (g2 _ _ hs.o hs.f)
    have happ := app_lt h1
    have hm1 : app raw [cs] = some (raw ++ [cs]) := by
      unfold app
      rw [if_pos (by have := happ.1; rw [k3.len]; simpa using this)]
    have hx' : opd S x = some (.slice p0 raw.length c) := by rw [k3.len, ← k2]; exact hx
    refine b_append_r i hs1 (show (Ar (eRaw e.n) te r0 p0 c raw.length raw).h _ w from ⟨k1.mv hst, rfl⟩) hR hx' hy hm1 (fun r' p1 c' a' w' h' E' => ?_) hi1 ht hd hg
    -- the blocks laid together again
    have hp2 : ((((Ls.set i (r' ++ (D ++ rj))).set j []).flatten) ++ []).Perm ((((Ls.set i r0).set j []) ++ [D ++ rj]).set i r').flatten := by
      rw [List.set_append_left _ _ (by simpa using hil)]
      have e1 : ((Ls.set i r0).set j []).set i r' = (Ls.set i r').set j [] := by rw [List.set_comm _ _ (Ne.symm hne)]; simp
      rw [e1]
      simp only [List.flatten_append, List.flatten_cons, List.flatten_nil, List.append_nil]
      have hi2 : ((Ls.set i r').set j [])[i]? = some r' := by rw [List.getElem?_set_ne (Ne.symm hne), List.getElem?_set_self hil]
      have e2 := set_perm (r' ++ (D ++ rj)) hi2
      have e3 : ((Ls.set i r').set j []).set i (r' ++ (D ++ rj)) = (Ls.set i (r' ++ (D ++ rj))).set j [] := by rw [List.set_comm _ _ (Ne.symm hne)]; simp
      rw [e3, List.append_assoc r'] at e2
      exact ((List.perm_append_left_iff r').1 e2).trans List.perm_append_comm
    have hs2 := h'.less hp2
    have hst2 : Step (bl ((((Ls.set i r0).set j []) ++ [D ++ rj]).set i r') ++ X.A) w' (bl ((Ls.set i (r' ++ (D ++ rj))).set j []) ++ X.A) w' := Step.less w' fun b hb => by
      rcases List.mem_append.1 hb with hb | hb
      · exact List.mem_append.2 (.inl (bl_less hp2 b hb))
      · exact List.mem_append.2 (.inr hb)
    have hEx : Ext qd Ls w ((Ls.set i (r' ++ (D ++ rj))).set j []) w' := by
      refine ⟨E'.os, E'.tape, E'.output, E'.drawn, E'.size, fun b hb hn => E'.keep b hb fun hm => hn (bl_less hp1 b hm), fun b hb => ?_⟩
      rcases E'.fresh b (bl_less hp2 b hb) with h5 | h5
      · exact .inl (bl_less hp1 b h5)
      · exact .inr h5
    have hall : Step (bl Ls ++ X.A) w (bl ((Ls.set i (r' ++ (D ++ rj))).set j []) ++ X.A) w' := hEx.step X.A
    obtain ⟨_, rfl⟩ := happ
    have h := h (z ++ [u0]) (r' ++ (D ++ rj)) p1 c'
    simp only [setC_eq] at h
    refine hK hEx (h.go hq rr h2 a' w' ⟨?_, hs2.o, hs2.e, ⟨r', D ++ rj, raw ++ [cs], rfl, ?_, by simp, ?_⟩, hs2.f.2⟩)
    · have := hs2.s
      rw [show (raw ++ [cs]).length = (z ++ [u0]).length by simp [k3.len]] at this
      exact this
    · exact hs2.f.1.1
    · exact (k3.mv hall).snoc (cs := cs) (x := u0) (D1 := rj) ⟨q2, cb, by rw [hu]; exact hh, e.step hall (hv _ _ hs.o hs.f), by rw [hu]; exact hBa.mv hall⟩⟩

/-- the slice of one element is taken apart from the others, which are only read from now on -/
theorem jnO {ff : τ → Option ρ} (hs : Fld s) (i k : Nat) (ix : Int) (hF : nth F k = Nst s te tf r p0 c k0 z)
    (h : ∀ u, idx z ix = some u → ∀ r0 rb qb cb, setC Ls i r0 fun L1 => snocC L1 rb fun Ls' => J P n X Q p S Ls' (Hol s te r0 p0 c k0 z ix qb cb :: Ar f tf rb qb cb (List.length (s.get u)) (s.get u) :: F) (ff u))
    (hr : Ls[i]? = some r := by rfl) (hl : ∀ r0 rb, setC Ls i r0 (fun L1 => snocC L1 rb fun Ls' => p.less Ls Ls') := by intro _ _; first | exact trivial | exact rfl) : J P n X Q p S Ls F ((idx z ix).bind ff) :=
  ⟨fun hq rr hm a w hs' => by
    obtain ⟨u, h1, h2⟩ := bnd hm
    have hN : (Nst s te tf r p0 c k0 z).h (bl Ls ++ X.A) w := hF ▸ hs'.g k
    obtain ⟨r0, D, raw, rfl, k1, k2, k3⟩ := hN
    have hget : z[ix.toNat]? = some u := (idx_spec h1).2.1
    obtain ⟨Da, D1, Db, cs, rfl, k4, k5, k6⟩ := k3.get hget
    have hp : ((Ls.set i r0 ++ [D1]).flatten ++ (Da ++ Db)).Perm Ls.flatten := by
      have := set_perm r0 hr
      rw [List.append_assoc] at this
      refine List.Perm.trans ?_ ((List.perm_append_left_iff r0).1 this)
      simp only [List.flatten_append, List.flatten_cons, List.flatten_nil, List.append_nil]
      refine List.Perm.trans (List.Perm.append_right _ List.perm_append_comm) ?_
      refine List.Perm.trans List.perm_append_comm ?_
      rw [← List.append_assoc]
      refine List.Perm.append_right _ ?_
      rw [List.append_assoc, List.append_assoc]
      exact List.Perm.append_left _ List.perm_append_comm
    have hg := hs'.o.gone hp
    have h4 := hs'.less hp
    have hst : Step (bl Ls ++ X.A) w (bl (Ls.set i r0 ++ [D1]) ++ X.A) w := Step.less w fun b hb => by
      rcases List.mem_append.1 hb with hb | hb
      · exact List.mem_append.2 (.inl (bl_less hp b hb))
      · exact List.mem_append.2 (.inr hb)
    obtain ⟨qb, cb, k7, k8, k9⟩ := k5
    have h := h u h1 r0 D1 qb cb
    have hl := hl r0 D1
    simp only [setC_eq, snocC_eq] at h hl
    have hss : SS qd X.A X.L0 X.w0 n S (Ls.set i r0 ++ [D1]) (Hol s te r0 p0 c k0 z ix qb cb :: Ar f tf D1 qb cb (List.length (s.get u)) (s.get u) :: F) a w := by
      refine ⟨h4.s, h4.o, h4.e, ⟨raw, k1.mv hst, k2, k3.len, fun k x hx => ?_⟩, ⟨k9.mv hst, rfl⟩, h4.f⟩
      by_cases hk : k = ix.toNat
      · subst hk
        rw [hget] at hx
        cases hx
        exact ⟨cs, k4, by rw [if_pos rfl]; exact ⟨k7, e.step hst k8⟩⟩
      · obtain ⟨c1, D', j1, j2, j3⟩ := k6 k x hk hx
        exact ⟨c1, j1, by rw [if_neg hk]; exact j2.rd hs hst fun p hp => hg p (j3 hp)⟩
    exact Pos.less_go hl (bl_less hp) hss (h.go hq rr h2 a w hss)⟩

/-- the address of an element, in a region that draws -/
theorem jdH {ff : τ → Option ρ} {qb : Option Addr} {cb : Nat} {iy : Int} (i k : Nat) (hi : os[i]? = some ⟨some d, .indexAddr t x y, ty, pos, af, g⟩) (hF : nth F k = Hol s te r p0 c k0 z iy qb cb) (hx : opd S x = some (.slice p0 k0 c)) (hy : opd S y = some (.int kd ix))
    (h : ∀ u, idx z ix = some u → ∀ b o, p0 = some ⟨b, o, none⟩ → J P n X Q (.dr os B Jj fuel (li.setIfInBounds i true)) ((d, pt b (o + ix.toNat * e.n)) :: S) Ls F (ff u))
    (ht : elemSize P t = some e.n := by kernel_rfl) (hk : takeOk os B li i = true := by kernel_rfl) (hd : Nat.blt d n = true := by kernel_rfl) (hg : wantedS os S g = some true := by kernel_rfl) :
    J P n X Q (.dr os B Jj (fuel + 1) li) S Ls F ((idx z ix).bind ff) :=
  ⟨fun hq rr hm a w hs => by
    obtain ⟨u, h1, h2⟩ := bnd hm
    have hH : (Hol s te r p0 c k0 z iy qb cb).h (bl Ls ++ X.A) w := hF ▸ hs.g k
    obtain ⟨raw, k1, k2, k3, k4⟩ := hH
    obtain ⟨cs, k5, _⟩ := k4 _ _ ((idx_spec h1).2.1)
    have h3 : idx raw ix = some cs := by
      have := (idx_spec h1).1
      unfold idx
      rw [if_pos this]; exact k5
    exact dia i hs hi (show (Ar (eRaw e.n) te r p0 c raw.length raw).h _ w from ⟨k1, rfl⟩) (by rw [k3, ← k2]; exact hx) hy h3 (fun b o hp a h' => (h u h1 b o hp).go hq rr h2 a w h') ht (fun c v a w hp => (hq rr c _ _ hp).elim) hk hd hg⟩

theorem mkV_one {v v2 : Value} (h : mkV false [v] = some v2) : v2 = v := by
  unfold mkV at h
  simpa using h.symm

/-- the element's slice is read -/
theorem jdHL {b o : Nat} {u : τ} {qb : Option Addr} {cb : Nat} (i ri k : Nat) (hs : Fld s) (hi : os[i]? = some ⟨some d, .load t x, ty, pos, af, g⟩) (hF : nth F k = Hol s te r p0 c k0 z ix qb cb) (hp : p0 = some ⟨b, o, none⟩) (hm0 : idx z ix = some u) (hx : opd S x = some (pt b (o + ix.toNat * e.n + s.off)))
    (h : J P n X Q (.dr os B Jj fuel (li.setIfInBounds i true)) ((d, sv qb (s.get u) cb) :: S) Ls F m) (hr : Ls[ri]? = some r := by rfl) (ht : shapeOf P t = some (false, 1) := by kernel_rfl)
    (hb : B.all (fun j => behind os i os.size j) = true := by kernel_rfl) (hJ : Jj.contains ri = true := by kernel_rfl) (hk : takeOk os B li i = true := by kernel_rfl) (hd : Nat.blt d n = true := by kernel_rfl) (hg : wantedS os S g = some true := by kernel_rfl) : J P n X Q (.dr os B Jj (fuel + 1) li) S Ls F m :=
  ⟨fun hq rr hm a w hss => by
    have hH : (Hol s te r p0 c k0 z ix qb cb).h (bl Ls ++ X.A) w := hF ▸ hss.g k
    obtain ⟨raw, k1, k2, k3, k4⟩ := hH
    obtain ⟨cs, k5, k6⟩ := k4 _ _ ((idx_spec hm0).2.1)
    rw [if_pos rfl] at k6
    have h3 : idx raw ix = some cs := by
      have := (idx_spec hm0).1
      unfold idx
      rw [if_pos this]; exact k5
    have hlt := (List.getElem?_eq_some_iff.1 k6.1).1
    have hcell : ((cs.drop s.off).take 1) = [.slice qb (s.get u).length cb] := by
      rw [List.drop_eq_getElem_cons hlt]
      have := k6.1
      rw [List.getElem?_eq_getElem hlt] at this
      simp [Option.some.inj this]
    exact dla i ri (Sub.cell s.off s.le) false hss hi (show (Ar (eRaw e.n) te r p0 c raw.length raw).h _ w from ⟨k1, rfl⟩) hp h3 hx (fun ci hc v hv a' h' => by
      obtain ⟨rfl, _, _⟩ := hc
      have hv : mkV false ((cs.drop s.off).take 1) = some v := hv
      rw [hcell] at hv
      rw [mkV_one hv] at h'
      exact h.go hq rr hm a' w h') hr ht (.inr rfl) hb hJ (fun c v a w hp => (hq rr c _ _ hp).elim) hk hd hg⟩

/-- another slice is put in its place: from now on all are only read -/
theorem jnS {b o : Nat} {u : τ} {qb qn : Option Addr} {cb mn cn : Nat} {ln : List σ} (at0 : At Ls p os ⟨none, .store t x y, ty, pos, af, g⟩ p') (i k : Nat) (hs : Fld s) (hF : nth F k = Hol s te r p0 c k0 z ix qb cb) (hp : p0 = some ⟨b, o, none⟩) (hm0 : idx z ix = some u) (hx : opd S x = some (pt b (o + ix.toNat * e.n + s.off)))
    (hy : opd S y = some (.slice qn mn cn)) (hR : OKr Ls F (R f qn cn mn ln))
    (h : ∀ r', setC Ls i r' fun Ls' => J P n X Q p' S Ls' (Ar e te r' p0 c k0 (z.set ix.toNat (s.put u ln)) :: F) m) (hr : Ls[i]? = some r := by rfl) (ht : shapeOf P t = some (false, 1) := by kernel_rfl) (hg : wantedS os S g = some true := by kernel_rfl) : J P n X Q p S Ls F m :=
  ⟨fun hq rr hm a w hss => at0.run fun K hK => by
    have hH : (Hol s te r p0 c k0 z ix qb cb).h (bl Ls ++ X.A) w := hF ▸ hss.g k
    have hRR := hR _ _ hss.o hss.f
    obtain ⟨raw, k1, k2, k3, k4⟩ := hH
    obtain ⟨cs, k5, k6⟩ := k4 _ _ ((idx_spec hm0).2.1)
    rw [if_pos rfl] at k6
    have h3 : idx raw ix = some cs := by
      have := (idx_spec hm0).1
      unfold idx
      rw [if_pos this]; exact k5
    refine b_store_arr i (Sub.cell s.off s.le) [.slice qn mn cn] false hss (show (Ar (eRaw e.n) te r p0 c raw.length raw).h _ w from ⟨k1, rfl⟩) hp h3 hx hy ⟨rfl, rfl, fun c hc => by simp at hc; subst hc; rfl⟩ (fun r' a' w' h' E' => ?_) hr ht hg
    have h := h r'
    rw [setC_eq] at h
    have hall := E'.step X.A
    refine hK E' (h.go hq rr hm a' w' ⟨h'.s, h'.o, h'.e, ⟨h'.f.1.1.of_raw (by simp [k3]) fun j y hy => ?_, by simpa using k2⟩, h'.f.2⟩)
    by_cases hj : j = ix.toNat
    · subst hj
      have hlt : ix.toNat < z.length := by simpa using (List.getElem?_eq_some_iff.1 hy).1
      rw [List.getElem?_set_self hlt] at hy
      cases hy
      refine ⟨_, List.getElem?_set_self (by rw [k3]; exact hlt), ?_⟩
      have h5 := s.rdp (e.step hall k6.2) (R.cell ((R f qn cn mn ln).mv hall hRR))
      rw [hs.pp] at h5
      have hlt2 := (List.getElem?_eq_some_iff.1 k6.1).1
      have hl : (cs.take s.off).length = s.off := by simp; omega
      have e1 : (hd0 s cs).take s.off = cs.take s.off := by
        unfold hd0
        rw [List.append_assoc, List.take_append_of_le_length (by omega), List.take_of_length_le (by omega)]
      have e2 : (hd0 s cs).drop (s.off + (eSlice f).n) = cs.drop (s.off + 1) := by
        unfold hd0
        show List.drop (s.off + 1) _ = _
        rw [List.drop_append, List.drop_of_length_le (by simp; omega), List.nil_append]
        have : s.off + 1 - (List.take s.off cs ++ [Value.slice none 0 0]).length = 0 := by simp; omega
        rw [this, List.drop_zero]
      rw [e1, e2] at h5
      exact h5
    · rw [List.getElem?_set_ne (fun e => hj e.symm)] at hy
      obtain ⟨c1, j1, j2⟩ := k4 j y hy
      rw [if_neg hj] at j2
      exact ⟨c1, by rw [List.getElem?_set_ne (fun e => hj e.symm)]; exact j1, e.step hall j2⟩⟩
end
end Go.GD
