/- Part of the proof. Conditions: none. -/
import Derived.Test.YtkjadnjfmdgngaaGreatDoorArrv
namespace Go.GD
open Go Go.RowKit
set_option autoImplicit false
variable {qd : Prop}
set_option linter.unusedVariables false
def zRc (k : Nat) (l : List Int) : List Value := (List.range k).map fun j => vi (l.getD j 0)
abbrev zX8 (pre : List Value) (k : Nat) (l : List Int) (post : List Value) : List Value := pre ++ (zRc k l ++ post)
theorem zJB (k : Nat) (l : List Int) : (zRc k l).length = k := by simp [zRc]
theorem zR2 {k j : Nat} (l : List Int) (h : j < k) : (zRc k l)[j]? = some (vi (l.getD j 0)) := by
 simp [zRc, h]
theorem zXu (k : Nat) (l : List Int) (i v : Int) : zRc k (zTy k l i v) = (zRc k l).set i.toNat (vi v) := by
 apply List.ext_getElem?
 intro j
 by_cases hj : j < k
 ·rw [zR2 _ hj, List.getElem?_set]
  by_cases e : i.toNat = j
  ·subst e
   simp [zJB, hj, zTy]
  ·rw [if_neg e, zR2 _ hj]
   have : ¬ j = i.toNat := fun h => e h.symm
   simp [zTy, hj, this]
 ·rw [List.getElem?_eq_none (by rw [zJB]; omega), List.getElem?_eq_none (by rw [List.length_set, zJB]; omega)]
section
variable {P : Program} {n : Nat} {X : Hd qd} {ρ : Type} {Q : PQ ρ} {S : Sl} {Ls : List zZ} {F : List PP} {m : Option ρ} {os : Array Oper} {ol : List Oper} {x y : Operand} {p p' : uW} {a : Act}
variable {d t : Nat} {ty : TypeId} {pos : String} {af : Array Edge} {g : Option (Nat × Bool)} {kd : IntKind} {B Jj : List Nat} {li : Array Bool} {fuel : Nat}
variable {b o : Nat} {te : TypeId} {fr : Nat × Nat} {ix K : Int}
theorem chk_bd {k : Nat} {u : Unit} (hK : K = ((k : Nat) : Int)) (h : uH (decide (0 ≤ ix) && decide (ix < K)) = some u) : 0 ≤ ix ∧ ix < (k : Int) := by
 unfold uH at h
 split at h
 ·rename_i h0
  simp only [Bool.and_eq_true, decide_eq_true_eq] at h0
  exact ⟨h0.1, hK ▸ h0.2⟩
 ·cases h
theorem jiL {f : Unit → Option ρ} (k : Nat) (hx : qI S x = some (pt b o)) (hy : qI S y = some (.int kd ix))
  (h : ∀ u, (0 ≤ ix ∧ ix.toNat < k) → J P n X Q (.ops os ol) ((d, pt b (o + ix.toNat * 1)) :: S) Ls F (f u))
  (ht : zPK P t = some (k, 1) := by kernel_rfl) (hK : K = ((k : Nat) : Int) := by rfl) (hd : Nat.blt d n = true := by kernel_rfl) (hg : wD os S g = some true := by kernel_rfl) :
  J P n X Q (.ops os (⟨some d, .indexAddr t x y, ty, pos, af, g⟩ :: ol)) S Ls F ((uH (decide (0 ≤ ix) && decide (ix < K))).bind f) :=
 ⟨fun hq r hm a w hs => by
  obtain ⟨u, h1, h2⟩ := xX hm
  have hb := chk_bd hK h1
  exact sl (zZ5 hs (v := pt b (o + ix.toNat * 1)) (fun w' => zZN hs.s hx hy ht hb rfl w') (fun a h' => (h u ⟨hb.1, by omega⟩).go hq r h2 a w h') hd hg)⟩
theorem zVz {pre post : List Value} {k j : Nat} {l : List Int} (ho : pre.length = o) (hj : j < k) : o + j * 1 < (pre ++ (zRc k l ++ post)).length ∧ (pre ++ (zRc k l ++ post))[o + j * 1]? = some (vi (l.getD j 0)) := by
 have h1 : (pre ++ (zRc k l ++ post))[o + j * 1]? = some (vi (l.getD j 0)) := by
  rw [List.getElem?_append_right (by omega), List.getElem?_append_left (by rw [zJB]; omega), show o + j * 1 - pre.length = j by omega, zR2 l hj]
 exact ⟨(List.getElem?_eq_some_iff.1 h1).1, h1⟩
theorem zW3 {pre post : List Value} {k j : Nat} {l : List Int} (ho : pre.length = o) (hj : j < k) (ht : xL P t = some (false, 1)) : zMI P t (pre ++ (zRc k l ++ post)).toArray (o + j * 1) = some (vi (l.getD j 0)) := by
 obtain ⟨hlt, he⟩ := zVz (post := post) (l := l) ho hj
 unfold zMI
 rw [ht]
 have : Nat.ble (o + j * 1 + 1) (pre ++ (zRc k l ++ post)).toArray.size = true := by rw [Nat.ble_eq, List.size_toArray]; exact hlt
 simp only [this, if_true, zVw]
 rw [List.drop_eq_getElem_cons hlt, (List.getElem?_eq_some_iff.1 he).2]
 rfl
theorem jlL (i k : Nat) (l : List Int) (pre post : List Value) (hm : 0 ≤ ix ∧ ix.toNat < k) (hx : qI S x = some (pt b (o + ix.toNat * 1))) (hr : Ls[i]? = some [(b, .cells (zX8 pre k l post).toArray te fr)])
  (h : J P n X Q (.ops os ol) ((d, vi (zUh l ix)) :: S) Ls F m) (ho : pre.length = o := by rfl) (ht : xL P t = some (false, 1) := by kernel_rfl) (hd : Nat.blt d n = true := by kernel_rfl) (hg : wD os S g = some true := by kernel_rfl) : J P n X Q (.ops os (⟨some d, .load t x, ty, pos, af, g⟩ :: ol)) S Ls F m :=
 ⟨fun hq r hm' a w' hs => sl (zNr i (vi (zUh l ix)) hs hx hr (fun a h' => h.go hq r hm' a w' h') (zW3 ho hm.2 ht) hd hg)⟩
theorem jsL (z : Int) (at0 : At Ls p os ⟨none, .store t x y, ty, pos, af, g⟩ p') (i k : Nat) (l : List Int) (pre post : List Value) (hm : 0 ≤ ix ∧ ix.toNat < k) (hx : qI S x = some (pt b (o + ix.toNat * 1))) (hy : qI S y = some (vi z)) (hr : Ls[i]? = some (bx b te (zX8 pre k l post)))
  (h : zUg Ls i (bx b te (zX8 pre k (zTy k l ix z) post)) fun Ls' => J P n X Q p' S Ls' F m) (ho : pre.length = o := by rfl) (ht : xL P t = some (false, 1) := by kernel_rfl) (hg : wD os S g = some true := by kernel_rfl) : J P n X Q p S Ls F m :=
 ⟨fun hq r hm' a w hs => at0.run fun K hK => by
  obtain ⟨hlt, he⟩ := zVz (post := post) (l := l) ho hm.2
  have hput : tM (pre ++ (zRc k l ++ post)).toArray (o + ix.toNat * 1) (vi z).cells.toList = (pre ++ (zRc k (zTy k l ix z) ++ post)).toArray := by
   have h1 : (pre ++ (zRc k l ++ post)).set (o + ix.toNat * 1) (vi z) = pre ++ (zRc k (zTy k l ix z) ++ post) := by
    rw [List.set_append_right _ _ (by omega), List.set_append_left _ _ (by rw [zJB]; omega), show o + ix.toNat * 1 - pre.length = ix.toNat by omega, zXu]
   rw [← h1, List.set_eq_take_append_cons_drop, if_pos hlt]
   simp [tM, Value.cells]
  refine zPR i hs hx hy hr (fun a w2 h' e => hK e ?_) ?_ hg
  ·rw [zI5] at h
   rw [hput] at h' ⊢
   exact h.go hq r hm' a w2 h'
  ·unfold zL2
   rw [ht]
   have hble : Nat.ble (o + ix.toNat * 1 + 1) (pre ++ (zRc k l ++ post)).toArray.size = true := by rw [Nat.ble_eq, List.size_toArray]; exact hlt
   simp only [hble]
   rfl⟩
theorem jalA (at0 : At Ls p os ⟨some d, .alloc t, ty, pos, af, g⟩ p') (c : List Value) (h : ∀ b, zPh Ls (bx b t c) fun Ls' => J P n X Q p' ((d, pt b 0) :: S) Ls' F m)
  (hx : zHi P t = some (.agg c.toArray) := by kernel_rfl) (hd : Nat.blt d n = true := by kernel_rfl) (hg : wD os S g = some true := by kernel_rfl) : J P n X Q p S Ls F m :=
 ⟨fun hq r hm a w hs => at0.run fun K hK => zWk hs hx (fun b a w' h' e => hK e (by
  have h := h b
  rw [zJc] at h
  exact h.go hq r hm a w' h')) hd hg⟩
end
end Go.GD
