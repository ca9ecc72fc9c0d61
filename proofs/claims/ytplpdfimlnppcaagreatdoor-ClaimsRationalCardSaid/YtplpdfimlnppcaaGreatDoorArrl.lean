/- A part. Conditions: none. -/
import Derived.Test.YtplpdfimlnppcaaGreatDoorArrv
namespace Go.GD
open Go Go.RowKit
set_option autoImplicit false
variable {qd : Prop}
set_option linter.unusedVariables false
def yZ (k : Nat) (l : List Int) : List Value := (List.range k).map fun j => vi (l.getD j 0)
abbrev uC (pre : List Value) (k : Nat) (l : List Int) (post : List Value) : List Value := pre ++ (yZ k l ++ post)
theorem zCv (k : Nat) (l : List Int) : (yZ k l).length = k := by simp [yZ]
theorem zT4 {k j : Nat} (l : List Int) (h : j < k) : (yZ k l)[j]? = some (vi (l.getD j 0)) := by
 simp [yZ, h]
theorem z4V (k : Nat) (l : List Int) (i v : Int) : yZ k (xR k l i v) = (yZ k l).set i.toNat (vi v) := by
 apply List.ext_getElem?
 intro j
 by_cases hj : j < k
 ·rw [zT4 _ hj, List.getElem?_set]
  by_cases e : i.toNat = j
  ·subst e
   simp [zCv, hj, xR]
  ·rw [if_neg e, zT4 _ hj]
   have : ¬ j = i.toNat := fun h => e h.symm
   simp [xR, hj, this]
 ·rw [List.getElem?_eq_none (by rw [zCv]; omega), List.getElem?_eq_none (by rw [List.length_set, zCv]; omega)]
section
variable {P : Program} {n : Nat} {X : Hd qd} {ρ : Type} {Q : PQ ρ} {S : Sl} {Ls : List zW} {F : List PP} {m : Option ρ} {os : Array Oper} {ol : List Oper} {x y : Operand} {p p' : uZ} {a : Act}
variable {d t : Nat} {ty : TypeId} {pos : String} {af : Array Edge} {g : Option (Nat × Bool)} {kd : IntKind} {B Jj : List Nat} {li : Array Bool} {fuel : Nat}
variable {b o : Nat} {te : TypeId} {fr : Nat × Nat} {ix K : Int}
theorem z5X {k : Nat} {u : Unit} (hK : K = ((k : Nat) : Int)) (h : yC (decide (0 ≤ ix) && decide (ix < K)) = some u) : 0 ≤ ix ∧ ix < (k : Int) := by
 unfold yC at h
 split at h
 ·rename_i h0
  simp only [Bool.and_eq_true, decide_eq_true_eq] at h0
  exact ⟨h0.1, hK ▸ h0.2⟩
 ·cases h
theorem jiL {f : Unit → Option ρ} (k : Nat) (hx : qE S x = some (pt b o)) (hy : qE S y = some (.int kd ix))
  (h : ∀ u, (0 ≤ ix ∧ ix.toNat < k) → J P n X Q (.ops os ol) ((d, pt b (o + ix.toNat * 1)) :: S) Ls F (f u))
  (ht : zMq P t = some (k, 1) := by kernel_rfl) (hK : K = ((k : Nat) : Int) := by rfl) (hd : Nat.blt d n = true := by kernel_rfl) (hg : wB os S g = some true := by kernel_rfl) :
  J P n X Q (.ops os (⟨some d, .indexAddr t x y, ty, pos, af, g⟩ :: ol)) S Ls F ((yC (decide (0 ≤ ix) && decide (ix < K))).bind f) :=
 ⟨fun hq r hm a w hs => by
  obtain ⟨u, h1, h2⟩ := bnd hm
  have hb := z5X hK h1
  exact sl (z6G hs (v := pt b (o + ix.toNat * 1)) (fun w' => z1i hs.s hx hy ht hb rfl w') (fun a h' => (h u ⟨hb.1, by omega⟩).go hq r h2 a w h') hd hg)⟩
theorem z5Z {f : Unit → Option ρ} (k i : Nat) (hi : os[i]? = some ⟨some d, .indexAddr t x y, ty, pos, af, g⟩) (hx : qE S x = some (pt b o)) (hy : qE S y = some (.int kd ix))
  (h : ∀ u, (0 ≤ ix ∧ ix.toNat < k) → J P n X Q (.dr os B Jj fuel (li.setIfInBounds i true)) ((d, pt b (o + ix.toNat * 1)) :: S) Ls F (f u))
  (ht : zMq P t = some (k, 1) := by kernel_rfl) (hK : K = ((k : Nat) : Int) := by rfl) (hk : uE os B li i = true := by kernel_rfl) (hd : Nat.blt d n = true := by kernel_rfl) (hg : wB os S g = some true := by kernel_rfl) :
  J P n X Q (.dr os B Jj (fuel + 1) li) S Ls F ((yC (decide (0 ≤ ix) && decide (ix < K))).bind f) :=
 ⟨fun hq r hm a w hs => by
  obtain ⟨u, h1, h2⟩ := bnd hm
  have hb := z5X hK h1
  exact dv (v := pt b (o + ix.toNat * 1)) i hs hi (fun w' => z1i hs.s hx hy ht hb rfl w') (fun a' hs' => (h u ⟨hb.1, by omega⟩).go hq r h2 a' w hs') (fun c v a w hp => (hq r c _ _ hp).elim) hk hd hg⟩
theorem zYt {pre post : List Value} {k j : Nat} {l : List Int} (ho : pre.length = o) (hj : j < k) : o + j * 1 < (pre ++ (yZ k l ++ post)).length ∧ (pre ++ (yZ k l ++ post))[o + j * 1]? = some (vi (l.getD j 0)) := by
 have h1 : (pre ++ (yZ k l ++ post))[o + j * 1]? = some (vi (l.getD j 0)) := by
  rw [List.getElem?_append_right (by omega), List.getElem?_append_left (by rw [zCv]; omega), show o + j * 1 - pre.length = j by omega, zT4 l hj]
 exact ⟨(List.getElem?_eq_some_iff.1 h1).1, h1⟩
theorem zYN {pre post : List Value} {k j : Nat} {l : List Int} (ho : pre.length = o) (hj : j < k) (ht : uM P t = some (false, 1)) : zO7 P t (pre ++ (yZ k l ++ post)).toArray (o + j * 1) = some (vi (l.getD j 0)) := by
 obtain ⟨hlt, he⟩ := zYt (post := post) (l := l) ho hj
 unfold zO7
 rw [ht]
 have : Nat.ble (o + j * 1 + 1) (pre ++ (yZ k l ++ post)).toArray.size = true := by rw [Nat.ble_eq, List.size_toArray]; exact hlt
 simp only [this, if_true, z16]
 rw [List.drop_eq_getElem_cons hlt, (List.getElem?_eq_some_iff.1 he).2]
 rfl
theorem jlL (i k : Nat) (l : List Int) (pre post : List Value) (hm : 0 ≤ ix ∧ ix.toNat < k) (hx : qE S x = some (pt b (o + ix.toNat * 1))) (hr : Ls[i]? = some [(b, .cells (uC pre k l post).toArray te fr)])
  (h : J P n X Q (.ops os ol) ((d, vi (yR l ix)) :: S) Ls F m) (ho : pre.length = o := by rfl) (ht : uM P t = some (false, 1) := by kernel_rfl) (hd : Nat.blt d n = true := by kernel_rfl) (hg : wB os S g = some true := by kernel_rfl) : J P n X Q (.ops os (⟨some d, .load t x, ty, pos, af, g⟩ :: ol)) S Ls F m :=
 ⟨fun hq r hm' a w' hs => sl (zPx i (vi (yR l ix)) hs hx hr (fun a h' => h.go hq r hm' a w' h') (zYN ho hm.2 ht) hd hg)⟩
theorem jdlL (i q k : Nat) (l : List Int) (pre post : List Value) (hm : 0 ≤ ix ∧ ix.toNat < k) (hi : os[i]? = some ⟨some d, .load t x, ty, pos, af, g⟩) (hx : qE S x = some (pt b (o + ix.toNat * 1))) (hr : Ls[q]? = some [(b, .cells (uC pre k l post).toArray te fr)])
  (h : J P n X Q (.dr os B Jj fuel (li.setIfInBounds i true)) ((d, vi (yR l ix)) :: S) Ls F m) (ho : pre.length = o := by rfl)
  (ht : uM P t = some (false, 1) := by kernel_rfl) (hb : B.all (fun j => behind os i os.size j) = true := by kernel_rfl) (hJ : Jj.contains q = true := by kernel_rfl)
  (hk : uE os B li i = true := by kernel_rfl) (hd : Nat.blt d n = true := by kernel_rfl) (hg : wB os S g = some true := by kernel_rfl) : J P n X Q (.dr os B Jj (fuel + 1) li) S Ls F m :=
 ⟨fun hq r hm' a w' hs => dlo i q (vi (yR l ix)) hs hi hx hr (fun a' hs' => h.go hq r hm' a' w' hs') (zYN ho hm.2 ht) hb hJ (fun c v a w hp => (hq r c _ _ hp).elim) hk hd hg⟩
theorem jsL (z : Int) (at0 : At Ls p os ⟨none, .store t x y, ty, pos, af, g⟩ p') (i k : Nat) (l : List Int) (pre post : List Value) (hm : 0 ≤ ix ∧ ix.toNat < k) (hx : qE S x = some (pt b (o + ix.toNat * 1))) (hy : qE S y = some (vi z)) (hr : Ls[i]? = some (bx b te (uC pre k l post)))
  (h : zY3 Ls i (bx b te (uC pre k (xR k l ix z) post)) fun Ls' => J P n X Q p' S Ls' F m) (ho : pre.length = o := by rfl) (ht : uM P t = some (false, 1) := by kernel_rfl) (hg : wB os S g = some true := by kernel_rfl) : J P n X Q p S Ls F m :=
 ⟨fun hq r hm' a w hs => at0.run fun K hK => by
  obtain ⟨hlt, he⟩ := zYt (post := post) (l := l) ho hm.2
  have hput : tH (pre ++ (yZ k l ++ post)).toArray (o + ix.toNat * 1) (vi z).cells.toList = (pre ++ (yZ k (xR k l ix z) ++ post)).toArray := by
   have h1 : (pre ++ (yZ k l ++ post)).set (o + ix.toNat * 1) (vi z) = pre ++ (yZ k (xR k l ix z) ++ post) := by
    rw [List.set_append_right _ _ (by omega), List.set_append_left _ _ (by rw [zCv]; omega), show o + ix.toNat * 1 - pre.length = ix.toNat by omega, z4V]
   rw [← h1, List.set_eq_take_append_cons_drop, if_pos hlt]
   simp [tH, Value.cells]
  refine zRB i hs hx hy hr (fun a w2 h' e => hK e ?_) ?_ hg
  ·rw [zJ4] at h
   rw [hput] at h' ⊢
   exact h.go hq r hm' a w2 h'
  ·unfold zNy
   rw [ht]
   have hble : Nat.ble (o + ix.toNat * 1 + 1) (pre ++ (yZ k l ++ post)).toArray.size = true := by rw [Nat.ble_eq, List.size_toArray]; exact hlt
   simp only [hble]
   rfl⟩
theorem jalA (at0 : At Ls p os ⟨some d, .alloc t, ty, pos, af, g⟩ p') (c : List Value) (h : ∀ b, zUK Ls (bx b t c) fun Ls' => J P n X Q p' ((d, pt b 0) :: S) Ls' F m)
  (hx : zKF P t = some (.agg c.toArray) := by kernel_rfl) (hd : Nat.blt d n = true := by kernel_rfl) (hg : wB os S g = some true := by kernel_rfl) : J P n X Q p S Ls F m :=
 ⟨fun hq r hm a w hs => at0.run fun K hK => z2N hs hx (fun b a w' h' e => hK e (by
  have h := h b
  rw [zMk] at h
  exact h.go hq r hm a w' h')) hd hg⟩
end
end Go.GD
