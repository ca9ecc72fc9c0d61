/- Part of the proof. Conditions: none. -/
import Derived.Test.YthlaikjapnddkaaGreatDoorArrv
namespace Go.GD
open Go Go.RowKit
set_option autoImplicit false
variable {qd : Prop}
set_option linter.unusedVariables false
def zSo (k : Nat) (l : List Int) : List Value := (List.range k).map fun j => vi (l.getD j 0)
abbrev zYQ (pre : List Value) (k : Nat) (l : List Int) (post : List Value) : List Value := pre ++ (zSo k l ++ post)
theorem zJO (k : Nat) (l : List Int) : (zSo k l).length = k := by simp [zSo]
theorem zSL {k j : Nat} (l : List Int) (h : j < k) : (zSo k l)[j]? = some (vi (l.getD j 0)) := by
 simp [zSo, h]
theorem zYq (k : Nat) (l : List Int) (i v : Int) : zSo k (zV6 k l i v) = (zSo k l).set i.toNat (vi v) := by
 apply List.ext_getElem?
 intro j
 by_cases hj : j < k
 ·rw [zSL _ hj, List.getElem?_set]
  by_cases e : i.toNat = j
  ·subst e
   simp [zJO, hj, zV6]
  ·rw [if_neg e, zSL _ hj]
   have : ¬ j = i.toNat := fun h => e h.symm
   simp [zV6, hj, this]
 ·rw [List.getElem?_eq_none (by rw [zJO]; omega), List.getElem?_eq_none (by rw [List.length_set, zJO]; omega)]
section
variable {P : Program} {n : Nat} {X : Hd qd} {ρ : Type} {Q : PQ ρ} {S : Sl} {Ls : List zY} {F : List PP} {m : Option ρ} {os : Array Oper} {ol : List Oper} {x y : Operand} {p p' : uJ} {a : Act}
variable {d t : Nat} {ty : TypeId} {pos : String} {af : Array Edge} {g : Option (Nat × Bool)} {kd : IntKind} {B Jj : List Nat} {li : Array Bool} {fuel : Nat}
variable {b o : Nat} {te : TypeId} {fr : Nat × Nat} {ix K : Int}
theorem chk_bd {k : Nat} {u : Unit} (hK : K = ((k : Nat) : Int)) (h : uI (decide (0 ≤ ix) && decide (ix < K)) = some u) : 0 ≤ ix ∧ ix < (k : Int) := by
 unfold uI at h
 split at h
 ·rename_i h0
  simp only [Bool.and_eq_true, decide_eq_true_eq] at h0
  exact ⟨h0.1, hK ▸ h0.2⟩
 ·cases h
theorem jiL {f : Unit → Option ρ} (k : Nat) (hx : qF S x = some (pt b o)) (hy : qF S y = some (.int kd ix))
  (h : ∀ u, (0 ≤ ix ∧ ix.toNat < k) → J P n X Q (.ops os ol) ((d, pt b (o + ix.toNat * 1)) :: S) Ls F (f u))
  (ht : zO6 P t = some (k, 1) := by kernel_rfl) (hK : K = ((k : Nat) : Int) := by rfl) (hd : Nat.blt d n = true := by kernel_rfl) (hg : wH os S g = some true := by kernel_rfl) :
  J P n X Q (.ops os (⟨some d, .indexAddr t x y, ty, pos, af, g⟩ :: ol)) S Ls F ((uI (decide (0 ≤ ix) && decide (ix < K))).bind f) :=
 ⟨fun hq r hm a w hs => by
  obtain ⟨u, h1, h2⟩ := xC hm
  have hb := chk_bd hK h1
  exact sl (z0D hs (v := pt b (o + ix.toNat * 1)) (fun w' => zZl hs.s hx hy ht hb rfl w') (fun a h' => (h u ⟨hb.1, by omega⟩).go hq r h2 a w h') hd hg)⟩
theorem zWj {pre post : List Value} {k j : Nat} {l : List Int} (ho : pre.length = o) (hj : j < k) : o + j * 1 < (pre ++ (zSo k l ++ post)).length ∧ (pre ++ (zSo k l ++ post))[o + j * 1]? = some (vi (l.getD j 0)) := by
 have h1 : (pre ++ (zSo k l ++ post))[o + j * 1]? = some (vi (l.getD j 0)) := by
  rw [List.getElem?_append_right (by omega), List.getElem?_append_left (by rw [zJO]; omega), show o + j * 1 - pre.length = j by omega, zSL l hj]
 exact ⟨(List.getElem?_eq_some_iff.1 h1).1, h1⟩
theorem zXv {pre post : List Value} {k j : Nat} {l : List Int} (ho : pre.length = o) (hj : j < k) (ht : uQ P t = some (false, 1)) : zMe P t (pre ++ (zSo k l ++ post)).toArray (o + j * 1) = some (vi (l.getD j 0)) := by
 obtain ⟨hlt, he⟩ := zWj (post := post) (l := l) ho hj
 unfold zMe
 rw [ht]
 have : Nat.ble (o + j * 1 + 1) (pre ++ (zSo k l ++ post)).toArray.size = true := by rw [Nat.ble_eq, List.size_toArray]; exact hlt
 simp only [this, if_true, zXe]
 rw [List.drop_eq_getElem_cons hlt, (List.getElem?_eq_some_iff.1 he).2]
 rfl
theorem jlL (i k : Nat) (l : List Int) (pre post : List Value) (hm : 0 ≤ ix ∧ ix.toNat < k) (hx : qF S x = some (pt b (o + ix.toNat * 1))) (hr : Ls[i]? = some [(b, .cells (zYQ pre k l post).toArray te fr)])
  (h : J P n X Q (.ops os ol) ((d, vi (zVP l ix)) :: S) Ls F m) (ho : pre.length = o := by rfl) (ht : uQ P t = some (false, 1) := by kernel_rfl) (hd : Nat.blt d n = true := by kernel_rfl) (hg : wH os S g = some true := by kernel_rfl) : J P n X Q (.ops os (⟨some d, .load t x, ty, pos, af, g⟩ :: ol)) S Ls F m :=
 ⟨fun hq r hm' a w' hs => sl (zO8 i (vi (zVP l ix)) hs hx hr (fun a h' => h.go hq r hm' a w' h') (zXv ho hm.2 ht) hd hg)⟩
theorem jsL (z : Int) (at0 : At Ls p os ⟨none, .store t x y, ty, pos, af, g⟩ p') (i k : Nat) (l : List Int) (pre post : List Value) (hm : 0 ≤ ix ∧ ix.toNat < k) (hx : qF S x = some (pt b (o + ix.toNat * 1))) (hy : qF S y = some (vi z)) (hr : Ls[i]? = some (bx b te (zYQ pre k l post)))
  (h : tS Ls i (bx b te (zYQ pre k (zV6 k l ix z) post)) fun Ls' => J P n X Q p' S Ls' F m) (ho : pre.length = o := by rfl) (ht : uQ P t = some (false, 1) := by kernel_rfl) (hg : wH os S g = some true := by kernel_rfl) : J P n X Q p S Ls F m :=
 ⟨fun hq r hm' a w hs => at0.run fun K hK => by
  obtain ⟨hlt, he⟩ := zWj (post := post) (l := l) ho hm.2
  have hput : tI (pre ++ (zSo k l ++ post)).toArray (o + ix.toNat * 1) (vi z).cells.toList = (pre ++ (zSo k (zV6 k l ix z) ++ post)).toArray := by
   have h1 : (pre ++ (zSo k l ++ post)).set (o + ix.toNat * 1) (vi z) = pre ++ (zSo k (zV6 k l ix z) ++ post) := by
    rw [List.set_append_right _ _ (by omega), List.set_append_left _ _ (by rw [zJO]; omega), show o + ix.toNat * 1 - pre.length = ix.toNat by omega, zYq]
   rw [← h1, List.set_eq_take_append_cons_drop, if_pos hlt]
   simp [tI, Value.cells]
  refine zQA i hs hx hy hr (fun a w2 h' e => hK e ?_) ?_ hg
  ·rw [zGH] at h
   rw [hput] at h' ⊢
   exact h.go hq r hm' a w2 h'
  ·unfold zLf
   rw [ht]
   have hble : Nat.ble (o + ix.toNat * 1 + 1) (pre ++ (zSo k l ++ post)).toArray.size = true := by rw [Nat.ble_eq, List.size_toArray]; exact hlt
   simp only [hble]
   rfl⟩
theorem jalA (at0 : At Ls p os ⟨some d, .alloc t, ty, pos, af, g⟩ p') (c : List Value) (h : ∀ b, zNJ Ls (bx b t c) fun Ls' => J P n X Q p' ((d, pt b 0) :: S) Ls' F m)
  (hx : zHa P t = some (.agg c.toArray) := by kernel_rfl) (hd : Nat.blt d n = true := by kernel_rfl) (hg : wH os S g = some true := by kernel_rfl) : J P n X Q p S Ls F m :=
 ⟨fun hq r hm a w hs => at0.run fun K hK => zXU hs hx (fun b a w' h' e => hK e (by
  have h := h b
  rw [zHu] at h
  exact h.go hq r hm a w' h')) hd hg⟩
end
end Go.GD
