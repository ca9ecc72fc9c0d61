/- A part. Conditions: none. -/
import Derived.Test.YtplpdfimlnppcaaGreatDoorOps5
namespace Go.GD
open Go Go.RowKit
set_option autoImplicit false
variable {qd : Prop}
set_option linter.unusedVariables false
theorem zWk : ∀ (Ls : List zW), bl Ls = Ls.flatten.map Prod.fst
 | [] => rfl
 | r :: rs => by simp [bl, zWk rs]
section
variable {A : List Nat} {L0 Ls Ls2 : List zW} {w0 w : World} {n : Nat} {S : List (Nat × Value)} {F : List PP} {a : Act} {Y : zW}
theorem zZA (hp : (Ls2.flatten ++ Y).Perm Ls.flatten) : ∀ b ∈ bl Ls2, b ∈ bl Ls := by
 intro b hb
 rw [zWk] at hb ⊢
 obtain ⟨p, h1, rfl⟩ := List.mem_map.1 hb
 exact List.mem_map.2 ⟨p, hp.subset (List.mem_append.2 (.inl h1)), rfl⟩
theorem wC.less (h : wC A w Ls) (hp : (Ls2.flatten ++ Y).Perm Ls.flatten) : wC A w Ls2 := by
 refine ⟨h.old, fun r hr p hpr => ?_, ?_, fun b hb => h.apart b (zZA hp b hb)⟩
 ·have hm : p ∈ Ls.flatten := hp.subset (List.mem_append.2 (.inl (List.mem_flatten.2 ⟨r, hr, hpr⟩)))
  obtain ⟨s, hs, hps⟩ := List.mem_flatten.1 hm
  exact h.has s hs p hps
 ·have hn := h.nodup
  rw [zWk] at hn ⊢
  have h2 := (hp.map Prod.fst).nodup_iff.2 hn
  rw [List.map_append] at h2
  exact (List.nodup_append.1 h2).1
theorem SS.less (h : SS qd A L0 w0 n S Ls F a w) (hp : (Ls2.flatten ++ Y).Perm Ls.flatten) : SS qd A L0 w0 n S Ls2 F a w :=
 ⟨h.s, h.o.less hp, h.e.drop (zZA hp), h.f.mv (yK.less w fun b hb => by
  rcases List.mem_append.1 hb with h1 | h1
  ·exact List.mem_append.2 (.inl (zZA hp b h1))
  ·exact List.mem_append.2 (.inr h1))⟩
theorem wC.gone (h : wC A w Ls) (hp : (Ls2.flatten ++ Y).Perm Ls.flatten) : ∀ p ∈ Y, w.heap[p.1]? = some p.2 ∧ p.1 ∉ bl Ls2 ++ A := by
 intro p hpy
 have hm : p ∈ Ls.flatten := hp.subset (List.mem_append.2 (.inr hpy))
 obtain ⟨s, hs, hps⟩ := List.mem_flatten.1 hm
 refine ⟨h.has s hs p hps, fun hb => ?_⟩
 rcases List.mem_append.1 hb with h1 | h1
 ·have hn := h.nodup
  rw [zWk] at hn h1
  have h2 := (hp.map Prod.fst).nodup_iff.2 hn
  rw [List.map_append] at h2
  exact (List.nodup_append.1 h2).2.2 _ h1 _ (List.mem_map.2 ⟨p, hpy, rfl⟩) rfl
 ·exact h.apart _ (zLU.2 ⟨s, hs, p, hps, rfl⟩) h1
end
def eRaw (k : Nat) : E (List Value) := ⟨k, fun _ _ cs x => cs = x ∧ x.length = k ∧ ∀ c ∈ x, c.oneCell' = true, by rintro _ _ _ _ ⟨rfl, h, _⟩; exact h, by rintro _ _ _ _ _ _ _ h; exact h, by rintro _ _ _ _ ⟨rfl, _, h⟩; exact h⟩
section
variable {τ σ : Type} {e : E τ} {f : E σ}
structure Fld (s : xW e (qZ f)) : Prop where
 pp : ∀ x z, s.put (s.put x []) z = s.put x z
 pg : ∀ x, s.put x (s.get x) = x
variable (s : xW e (qZ f)) (tf : TypeId)
def hd0 (cs : List Value) : List Value := cs.take s.off ++ [.slice none 0 0] ++ cs.drop (s.off + 1)
def NE (Z : List Nat) (w : World) (D : zW) (cs : List Value) (x : τ) : Prop :=
 ∃ q cap, cs[s.off]? = some (.slice q (s.get x).length cap) ∧ e.rd Z w (hd0 s cs) (s.put x []) ∧ yL f tf Z w D q cap (s.get x)
inductive NL (Z : List Nat) (w : World) : zW → List (List Value) → List τ → Prop
 | nil : NL Z w [] [] []
 | cons {D1 D : zW} {cs : List Value} {x : τ} {raw : List (List Value)} {l : List τ} : NE s tf Z w D1 cs x → NL Z w D raw l → NL Z w (D1 ++ D) (cs :: raw) (x :: l)
variable {s tf} {Z Z2 : List Nat} {w w2 : World} {D : zW} {cs : List Value} {x : τ} {raw : List (List Value)} {l : List τ}
theorem NE.mv (st : yK Z w Z2 w2) (h : NE s tf Z w D cs x) : NE s tf Z2 w2 D cs x := by
 obtain ⟨q, cap, h1, h2, h3⟩ := h
 exact ⟨q, cap, h1, e.step st h2, h3.mv st⟩
theorem NL.mv (st : yK Z w Z2 w2) (h : NL s tf Z w D raw l) : NL s tf Z2 w2 D raw l := by
 induction h with
 | nil => exact .nil
 | cons h _ ih => exact .cons (h.mv st) ih
theorem NL.len (h : NL s tf Z w D raw l) : raw.length = l.length := by
 induction h with
 | nil => rfl
 | cons h _ ih => simp [ih]
theorem NL.get (h : NL s tf Z w D raw l) : ∀ {k : Nat}, l[k]? = some x → ∃ Da D1 Db cs, D = Da ++ D1 ++ Db ∧ raw[k]? = some cs ∧ NE s tf Z w D1 cs x ∧ ∀ j y, j ≠ k → l[j]? = some y → ∃ c D', raw[j]? = some c ∧ NE s tf Z w D' c y ∧ D' ⊆ Da ++ Db := by
 induction h with
 | nil => intro k hk; simp at hk
 | @cons D1 D cs0 x0 raw l h0 hl ih =>
  intro k hk
  cases k with
  | zero =>
   simp only [List.getElem?_cons_zero, Option.some.injEq] at hk
   subst hk
   refine ⟨[], D1, D, cs0, by simp, rfl, h0, fun j y hj hy => ?_⟩
   cases j with
   | zero => exact absurd rfl hj
   | succ j =>
    simp only [List.getElem?_cons_succ] at hy
    have : ∀ {D : zW} {raw : List (List Value)} {l : List τ}, NL s tf Z w D raw l → ∀ {j : Nat} {y : τ}, l[j]? = some y → ∃ c D', raw[j]? = some c ∧ NE s tf Z w D' c y ∧ D' ⊆ D := by
     intro D raw l h
     induction h with
     | nil => intro j y hy; simp at hy
     | @cons D1 D cs0 x0 raw l h0 hl ih =>
      intro j y hy
      cases j with
      | zero =>
       simp only [List.getElem?_cons_zero, Option.some.injEq] at hy
       subst hy
       exact ⟨cs0, D1, rfl, h0, List.subset_append_left _ _⟩
      | succ j =>
       obtain ⟨c, D', h1, h2, h3⟩ := ih (by simpa using hy)
       exact ⟨c, D', by simpa using h1, h2, h3.trans (List.subset_append_right _ _)⟩
    obtain ⟨c, D', h1, h2, h3⟩ := this hl hy
    exact ⟨c, D', by simpa using h1, h2, by simpa using h3⟩
  | succ k =>
   simp only [List.getElem?_cons_succ] at hk
   obtain ⟨Da, D2, Db, cs, rfl, h1, h2, h3⟩ := ih hk
   refine ⟨D1 ++ Da, D2, Db, cs, by simp, by simpa using h1, h2, fun j y hj hy => ?_⟩
   cases j with
   | zero =>
    simp only [List.getElem?_cons_zero, Option.some.injEq] at hy
    subst hy
    exact ⟨cs0, D1, rfl, h0, fun p hp => by simp [hp]⟩
   | succ j =>
    obtain ⟨c, D', k1, k2, k3⟩ := h3 j y (by omega) (by simpa using hy)
    exact ⟨c, D', by simpa using k1, k2, fun p hp => by have := k3 hp; simp at this ⊢; exact .inr this⟩
theorem z1s {v : Value} (hv : cs[s.off]? = some v) : (hd0 s cs).take s.off ++ [v] ++ (hd0 s cs).drop (s.off + (qZ f).n) = cs := by
 have hlt := (List.getElem?_eq_some_iff.1 hv).1
 have hl : (cs.take s.off).length = s.off := by simp; omega
 have h1 : (hd0 s cs).take s.off = cs.take s.off := by
  unfold hd0
  rw [List.append_assoc, List.take_append_of_le_length (by omega), List.take_of_length_le (by omega)]
 have h2 : (hd0 s cs).drop (s.off + (qZ f).n) = cs.drop (s.off + 1) := by
  unfold hd0
  show List.drop (s.off + 1) _ = _
  rw [List.drop_append, List.drop_of_length_le (by simp; omega), List.nil_append]
  have : s.off + 1 - (List.take s.off cs ++ [Value.slice none 0 0]).length = 0 := by simp; omega
  rw [this, List.drop_zero]
 rw [h1, h2]
 have h3 : cs = cs.take s.off ++ cs.drop s.off := (List.take_append_drop _ _).symm
 have h4 : cs.drop s.off = v :: cs.drop (s.off + 1) := by
  rw [List.drop_eq_getElem_cons hlt]
  congr 1
  rw [List.getElem?_eq_getElem hlt] at hv
  exact Option.some.inj hv
 conv => rhs; rw [h3, h4]
 simp
theorem yL.rdOf {t : Nat} {D : zW} {q : Option Addr} {cap : Nat} {l : List σ} (h : yL f t Z w D q cap l) (st : yK Z w Z2 w) (hD : ∀ p ∈ D, w.heap[p.1]? = some p.2 ∧ p.1 ∉ Z2) : xF f Z2 w q cap l := by
 rcases h with ⟨_, _, _, rfl⟩ | ⟨b, cells, rfl, rfl, h3, h4, h5, h6⟩
 ·exact ⟨Nat.zero_le _, .inl rfl⟩
 ·obtain ⟨hb, hz⟩ := hD _ (List.mem_singleton.2 rfl)
  refine ⟨h3, .inr ⟨b, 0, _, rfl, hz, (Array.getElem?_eq_some_iff.1 hb).1, f.rdL_step st h6, fun j u hu => ?_⟩⟩
  rw [cell_of_row w b (0 + j) cells t (0, 0) hb, Nat.zero_add]
  rw [List.getElem?_take] at hu
  split at hu
  ·simpa using hu
  ·cases hu
theorem NE.rd (hs : Fld s) (h : NE s tf Z w D cs x) (st : yK Z w Z2 w) (hD : ∀ p ∈ D, w.heap[p.1]? = some p.2 ∧ p.1 ∉ Z2) : e.rd Z2 w cs x := by
 obtain ⟨q, cap, h1, h2, h3⟩ := h
 have h4 := h3.rdOf st hD
 have h5 := s.rdp (e.step st h2) (qZ.mk h4)
 rw [z1s h1, hs.pp, hs.pg] at h5
 exact h5
end
section
variable {τ σ : Type} {e : E τ} {f : E σ} (s : xW e (qZ f)) (te tf : TypeId)
end
def xW.cell {k : Nat} (off : Nat) (h : off + 1 ≤ k) : xW (eRaw k) (eRaw 1) :=
 ⟨off, fun x => (x.drop off).take 1, fun x y => x.take off ++ y ++ x.drop (off + 1), h,
  by
  rintro Z w cs x ⟨rfl, h1, h2⟩
  exact ⟨rfl, by simp; omega, fun c hc => h2 c (List.mem_of_mem_drop (List.mem_of_mem_take hc))⟩,
  by
  rintro Z w cs x ds y ⟨rfl, h1, h2⟩ ⟨rfl, h3, h4⟩
  refine ⟨rfl, by simp [h3]; omega, fun c hc => ?_⟩
  simp only [List.mem_append] at hc
  rcases hc with (hc | hc) | hc
  ·exact h2 c (List.mem_of_mem_take hc)
  ·exact h4 c hc
  ·exact h2 c (List.mem_of_mem_drop hc)⟩
section
variable {P : Program} {n : Nat} {X : Hd qd} {ρ ς : Type} {Q : PQ ρ} {S : Sl} {Ls : List zW} {F : List PP} {m m1 m2 : Option ρ} {os : Array Oper} {ol : List Oper} {x y : Operand} {p p' : uZ}
variable {d t : Nat} {ty ty2 : TypeId} {pos pos2 : String} {af af2 : Array Edge} {g g2 : Option (Nat × Bool)} {kd : IntKind} {B Jj : List Nat} {li : Array Bool} {fuel : Nat}
variable {τ σ : Type} {e : E τ} {f : E σ} {s : xW e (qZ f)} {te tf : TypeId} {r rj : zW} {p0 q q2 : Option Addr} {c k0 c2 cap : Nat} {z : List τ} {ix : Int}
end
end Go.GD
