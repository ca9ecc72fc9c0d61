/- Part of the proof. Conditions: none. -/
import Derived.Test.YtjfjjkgaddknfaaGreatDoorArrv
namespace Go.GD
open Go Go.RowKit
set_option autoImplicit false
variable {qd : Prop}
set_option linter.unusedVariables false
def yW (k : Nat) (l : List Int) : List Value := (List.range k).map fun j => vi (l.getD j 0)
abbrev uC (pre : List Value) (k : Nat) (l : List Int) (post : List Value) : List Value := pre ++ (yW k l ++ post)
theorem zCR (k : Nat) (l : List Int) : (yW k l).length = k := by simp [yW]
theorem zQp {k j : Nat} (l : List Int) (h : j < k) : (yW k l)[j]? = some (vi (l.getD j 0)) := by
 simp [yW, h]
theorem z06 (k : Nat) (l : List Int) (i v : Int) : yW k (xO k l i v) = (yW k l).set i.toNat (vi v) := by
 apply List.ext_getElem?
 intro j
 by_cases hj : j < k
 ·rw [zQp _ hj, List.getElem?_set]
  by_cases e : i.toNat = j
  ·subst e
   simp [zCR, hj, xO]
  ·rw [if_neg e, zQp _ hj]
   have : ¬ j = i.toNat := fun h => e h.symm
   simp [xO, hj, this]
 ·rw [List.getElem?_eq_none (by rw [zCR]; omega), List.getElem?_eq_none (by rw [List.length_set, zCR]; omega)]
section
variable {P : Program} {n : Nat} {X : Hd qd} {ρ : Type} {Q : PQ ρ} {S : Sl} {Ls : List zV} {F : List PP} {m : Option ρ} {os : Array Oper} {ol : List Oper} {x y : Operand} {p p' : uS} {a : Act}
variable {d t : Nat} {ty : TypeId} {pos : String} {af : Array Edge} {g : Option (Nat × Bool)} {kd : IntKind} {B Jj : List Nat} {li : Array Bool} {fuel : Nat}
variable {b o : Nat} {te : TypeId} {fr : Nat × Nat} {ix K : Int}
theorem z1a {k : Nat} {u : Unit} (hK : K = ((k : Nat) : Int)) (h : vY (decide (0 ≤ ix) && decide (ix < K)) = some u) : 0 ≤ ix ∧ ix < (k : Int) := by
 unfold vY at h
 split at h
 ·rename_i h0
  simp only [Bool.and_eq_true, decide_eq_true_eq] at h0
  exact ⟨h0.1, hK ▸ h0.2⟩
 ·cases h
theorem jiL {f : Unit → Option ρ} (k : Nat) (hx : qD S x = some (pt b o)) (hy : qD S y = some (.int kd ix))
  (h : ∀ u, (0 ≤ ix ∧ ix.toNat < k) → J P n X Q (.ops os ol) ((d, pt b (o + ix.toNat * 1)) :: S) Ls F (f u))
  (ht : zKn P t = some (k, 1) := by kernel_rfl) (hK : K = ((k : Nat) : Int) := by rfl) (hd : Nat.blt d n = true := by kernel_rfl) (hg : qX os S g = some true := by kernel_rfl) :
  J P n X Q (.ops os (⟨some d, .indexAddr t x y, ty, pos, af, g⟩ :: ol)) S Ls F ((vY (decide (0 ≤ ix) && decide (ix < K))).bind f) :=
 ⟨fun hq r hm a w hs => by
  obtain ⟨u, h1, h2⟩ := bnd hm
  have hb := z1a hK h1
  exact sl (z2I hs (v := pt b (o + ix.toNat * 1)) (fun w' => zZe hs.s hx hy ht hb rfl w') (fun a h' => (h u ⟨hb.1, by omega⟩).go hq r h2 a w h') hd hg)⟩
theorem z1p {f : Unit → Option ρ} (k i : Nat) (hi : os[i]? = some ⟨some d, .indexAddr t x y, ty, pos, af, g⟩) (hx : qD S x = some (pt b o)) (hy : qD S y = some (.int kd ix))
  (h : ∀ u, (0 ≤ ix ∧ ix.toNat < k) → J P n X Q (.dr os B Jj fuel (li.setIfInBounds i true)) ((d, pt b (o + ix.toNat * 1)) :: S) Ls F (f u))
  (ht : zKn P t = some (k, 1) := by kernel_rfl) (hK : K = ((k : Nat) : Int) := by rfl) (hk : uD os B li i = true := by kernel_rfl) (hd : Nat.blt d n = true := by kernel_rfl) (hg : qX os S g = some true := by kernel_rfl) :
  J P n X Q (.dr os B Jj (fuel + 1) li) S Ls F ((vY (decide (0 ≤ ix) && decide (ix < K))).bind f) :=
 ⟨fun hq r hm a w hs => by
  obtain ⟨u, h1, h2⟩ := bnd hm
  have hb := z1a hK h1
  exact dv (v := pt b (o + ix.toNat * 1)) i hs hi (fun w' => zZe hs.s hx hy ht hb rfl w') (fun a' hs' => (h u ⟨hb.1, by omega⟩).go hq r h2 a' w hs') (fun c v a w hp => (hq r c _ _ hp).elim) hk hd hg⟩
theorem zWR {pre post : List Value} {k j : Nat} {l : List Int} (ho : pre.length = o) (hj : j < k) : o + j * 1 < (pre ++ (yW k l ++ post)).length ∧ (pre ++ (yW k l ++ post))[o + j * 1]? = some (vi (l.getD j 0)) := by
 have h1 : (pre ++ (yW k l ++ post))[o + j * 1]? = some (vi (l.getD j 0)) := by
  rw [List.getElem?_append_right (by omega), List.getElem?_append_left (by rw [zCR]; omega), show o + j * 1 - pre.length = j by omega, zQp l hj]
 exact ⟨(List.getElem?_eq_some_iff.1 h1).1, h1⟩
theorem zUz {pre post : List Value} {k j : Nat} {l : List Int} (ho : pre.length = o) (hj : j < k) (ht : uH P t = some (false, 1)) : zM7 P t (pre ++ (yW k l ++ post)).toArray (o + j * 1) = some (vi (l.getD j 0)) := by
 obtain ⟨hlt, he⟩ := zWR (post := post) (l := l) ho hj
 unfold zM7
 rw [ht]
 have : Nat.ble (o + j * 1 + 1) (pre ++ (yW k l ++ post)).toArray.size = true := by rw [Nat.ble_eq, List.size_toArray]; exact hlt
 simp only [this, if_true, zYQ]
 rw [List.drop_eq_getElem_cons hlt, (List.getElem?_eq_some_iff.1 he).2]
 rfl
theorem jlL (i k : Nat) (l : List Int) (pre post : List Value) (hm : 0 ≤ ix ∧ ix.toNat < k) (hx : qD S x = some (pt b (o + ix.toNat * 1))) (hr : Ls[i]? = some [(b, .cells (uC pre k l post).toArray te fr)])
  (h : J P n X Q (.ops os ol) ((d, vi (yM l ix)) :: S) Ls F m) (ho : pre.length = o := by rfl) (ht : uH P t = some (false, 1) := by kernel_rfl) (hd : Nat.blt d n = true := by kernel_rfl) (hg : qX os S g = some true := by kernel_rfl) : J P n X Q (.ops os (⟨some d, .load t x, ty, pos, af, g⟩ :: ol)) S Ls F m :=
 ⟨fun hq r hm' a w' hs => sl (zNk i (vi (yM l ix)) hs hx hr (fun a h' => h.go hq r hm' a w' h') (zUz ho hm.2 ht) hd hg)⟩
theorem jdlL (i q k : Nat) (l : List Int) (pre post : List Value) (hm : 0 ≤ ix ∧ ix.toNat < k) (hi : os[i]? = some ⟨some d, .load t x, ty, pos, af, g⟩) (hx : qD S x = some (pt b (o + ix.toNat * 1))) (hr : Ls[q]? = some [(b, .cells (uC pre k l post).toArray te fr)])
  (h : J P n X Q (.dr os B Jj fuel (li.setIfInBounds i true)) ((d, vi (yM l ix)) :: S) Ls F m) (ho : pre.length = o := by rfl)
  (ht : uH P t = some (false, 1) := by kernel_rfl) (hb : B.all (fun j => behind os i os.size j) = true := by kernel_rfl) (hJ : Jj.contains q = true := by kernel_rfl)
  (hk : uD os B li i = true := by kernel_rfl) (hd : Nat.blt d n = true := by kernel_rfl) (hg : qX os S g = some true := by kernel_rfl) : J P n X Q (.dr os B Jj (fuel + 1) li) S Ls F m :=
 ⟨fun hq r hm' a w' hs => dlo i q (vi (yM l ix)) hs hi hx hr (fun a' hs' => h.go hq r hm' a' w' hs') (zUz ho hm.2 ht) hb hJ (fun c v a w hp => (hq r c _ _ hp).elim) hk hd hg⟩
theorem jsL (z : Int) (at0 : At Ls p os ⟨none, .store t x y, ty, pos, af, g⟩ p') (i k : Nat) (l : List Int) (pre post : List Value) (hm : 0 ≤ ix ∧ ix.toNat < k) (hx : qD S x = some (pt b (o + ix.toNat * 1))) (hy : qD S y = some (vi z)) (hr : Ls[i]? = some (bx b te (uC pre k l post)))
  (h : zV9 Ls i (bx b te (uC pre k (xO k l ix z) post)) fun Ls' => J P n X Q p' S Ls' F m) (ho : pre.length = o := by rfl) (ht : uH P t = some (false, 1) := by kernel_rfl) (hg : qX os S g = some true := by kernel_rfl) : J P n X Q p S Ls F m :=
 ⟨fun hq r hm' a w hs => at0.run fun K hK => by
  obtain ⟨hlt, he⟩ := zWR (post := post) (l := l) ho hm.2
  have hput : tA (pre ++ (yW k l ++ post)).toArray (o + ix.toNat * 1) (vi z).cells.toList = (pre ++ (yW k (xO k l ix z) ++ post)).toArray := by
   have h1 : (pre ++ (yW k l ++ post)).set (o + ix.toNat * 1) (vi z) = pre ++ (yW k (xO k l ix z) ++ post) := by
    rw [List.set_append_right _ _ (by omega), List.set_append_left _ _ (by rw [zCR]; omega), show o + ix.toNat * 1 - pre.length = ix.toNat by omega, z06]
   rw [← h1, List.set_eq_take_append_cons_drop, if_pos hlt]
   simp [tA, Value.cells]
  refine zOi i hs hx hy hr (fun a w2 h' e => hK e ?_) ?_ hg
  ·rw [zI5] at h
   rw [hput] at h' ⊢
   exact h.go hq r hm' a w2 h'
  ·unfold zMI
   rw [ht]
   have hble : Nat.ble (o + ix.toNat * 1 + 1) (pre ++ (yW k l ++ post)).toArray.size = true := by rw [Nat.ble_eq, List.size_toArray]; exact hlt
   simp only [hble]
   rfl⟩
theorem jalA (at0 : At Ls p os ⟨some d, .alloc t, ty, pos, af, g⟩ p') (c : List Value) (h : ∀ b, zRP Ls (bx b t c) fun Ls' => J P n X Q p' ((d, pt b 0) :: S) Ls' F m)
  (hx : zIS P t = some (.agg c.toArray) := by kernel_rfl) (hd : Nat.blt d n = true := by kernel_rfl) (hg : qX os S g = some true := by kernel_rfl) : J P n X Q p S Ls F m :=
 ⟨fun hq r hm a w hs => at0.run fun K hK => zZA hs hx (fun b a w' h' e => hK e (by
  have h := h b
  rw [zKZ] at h
  exact h.go hq r hm a w' h')) hd hg⟩
end
end Go.GD
