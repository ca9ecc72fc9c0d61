/- Great arrays of numbers in blocks of one's own, told by lists. Conditions: none. -/
import Derived.Test.YtnlkkepioljniaaGreatDoorArrv
namespace Go.GD
open Go Go.RowKit
set_option autoImplicit false
variable {qd : Prop}
set_option linter.unusedVariables false

/-- how an array lies -/
def arrC (k : Nat) (l : List Int) : List Value := (List.range k).map fun j => vi (l.getD j 0)

/-- a row of cells with an array among them -/
abbrev arrT (pre : List Value) (k : Nat) (l : List Int) (post : List Value) : List Value := pre ++ (arrC k l ++ post)

theorem arrC_length (k : Nat) (l : List Int) : (arrC k l).length = k := by simp [arrC]
theorem arrC_get {k j : Nat} (l : List Int) (h : j < k) : (arrC k l)[j]? = some (vi (l.getD j 0)) := by
  simp [arrC, h]
theorem arrC_set (k : Nat) (l : List Int) (i v : Int) : arrC k (aput k l i v) = (arrC k l).set i.toNat (vi v) := by
  apply List.ext_getElem?
  intro j
  by_cases hj : j < k
  · rw [arrC_get _ hj, List.getElem?_set]
    by_cases e : i.toNat = j
    · subst e
      simp [arrC_length, hj, aput]
    · rw [if_neg e, arrC_get _ hj]
      have : ¬ j = i.toNat := fun h => e h.symm
      simp [aput, hj, this]
  · rw [List.getElem?_eq_none (by rw [arrC_length]; omega), List.getElem?_eq_none (by rw [List.length_set, arrC_length]; omega)]

section
variable {P : Program} {n : Nat} {X : Hd qd} {ρ : Type} {Q : PQ ρ} {S : Sl} {Ls : List Res} {F : List PP} {m : Option ρ} {os : Array Oper} {ol : List Oper} {x y : Operand} {p p' : Pos} {a : Act}
variable {d t : Nat} {ty : TypeId} {pos : String} {af : Array Edge} {g : Option (Nat × Bool)} {kd : IntKind} {B Jj : List Nat} {li : Array Bool} {fuel : Nat}
variable {b o : Nat} {te : TypeId} {fr : Nat × Nat} {ix K : Int}

theorem chk_bd {k : Nat} {u : Unit} (hK : K = ((k : Nat) : Int)) (h : chk (decide (0 ≤ ix) && decide (ix < K)) = some u) : 0 ≤ ix ∧ ix < (k : Int) := by
  unfold chk at h
  split at h
  · rename_i h0
    simp only [Bool.and_eq_true, decide_eq_true_eq] at h0
    exact ⟨h0.1, hK ▸ h0.2⟩
  · cases h

/-- an element's place -/
theorem jiL {f : Unit → Option ρ} (k : Nat) (hx : opd S x = some (pt b o)) (hy : opd S y = some (.int kd ix))
    (h : ∀ u, (0 ≤ ix ∧ ix.toNat < k) → J P n X Q (.ops os ol) ((d, pt b (o + ix.toNat * 1)) :: S) Ls F (f u))
    (ht : arrSize P t = some (k, 1) := by kernel_rfl) (hK : K = ((k : Nat) : Int) := by rfl) (hd : Nat.blt d n = true := by kernel_rfl) (hg : wantedS os S g = some true := by kernel_rfl) :
    J P n X Q (.ops os (⟨some d, .indexAddr t x y, ty, pos, af, g⟩ :: ol)) S Ls F ((chk (decide (0 ≤ ix) && decide (ix < K))).bind f) :=
  ⟨fun hq r hm a w hs => by
    obtain ⟨u, h1, h2⟩ := bnd hm
    have hb := chk_bd hK h1
    exact sl (b_val hs (v := pt b (o + ix.toNat * 1)) (fun w' => r_iaddr hs.s hx hy ht hb rfl w') (fun a h' => (h u ⟨hb.1, by omega⟩).go hq r h2 a w h') hd hg)⟩
theorem jdiL {f : Unit → Option ρ} (k i : Nat) (hi : os[i]? = some ⟨some d, .indexAddr t x y, ty, pos, af, g⟩) (hx : opd S x = some (pt b o)) (hy : opd S y = some (.int kd ix))
    (h : ∀ u, (0 ≤ ix ∧ ix.toNat < k) → J P n X Q (.dr os B Jj fuel (li.setIfInBounds i true)) ((d, pt b (o + ix.toNat * 1)) :: S) Ls F (f u))
    (ht : arrSize P t = some (k, 1) := by kernel_rfl) (hK : K = ((k : Nat) : Int) := by rfl) (hk : takeOk os B li i = true := by kernel_rfl) (hd : Nat.blt d n = true := by kernel_rfl) (hg : wantedS os S g = some true := by kernel_rfl) :
    J P n X Q (.dr os B Jj (fuel + 1) li) S Ls F ((chk (decide (0 ≤ ix) && decide (ix < K))).bind f) :=
  ⟨fun hq r hm a w hs => by
    obtain ⟨u, h1, h2⟩ := bnd hm
    have hb := chk_bd hK h1
    exact dv (v := pt b (o + ix.toNat * 1)) i hs hi (fun w' => r_iaddr hs.s hx hy ht hb rfl w') (fun a' hs' => (h u ⟨hb.1, by omega⟩).go hq r h2 a' w hs') (fun c v a w hp => (hq r c _ _ hp).elim) hk hd hg⟩

theorem arrl_at {pre post : List Value} {k j : Nat} {l : List Int} (ho : pre.length = o) (hj : j < k) : o + j * 1 < (pre ++ (arrC k l ++ post)).length ∧ (pre ++ (arrC k l ++ post))[o + j * 1]? = some (vi (l.getD j 0)) := by
  have h1 : (pre ++ (arrC k l ++ post))[o + j * 1]? = some (vi (l.getD j 0)) := by
    rw [List.getElem?_append_right (by omega), List.getElem?_append_left (by rw [arrC_length]; omega), show o + j * 1 - pre.length = j by omega, arrC_get l hj]
  exact ⟨(List.getElem?_eq_some_iff.1 h1).1, h1⟩
theorem load_arrl {pre post : List Value} {k j : Nat} {l : List Int} (ho : pre.length = o) (hj : j < k) (ht : shapeOf P t = some (false, 1)) : loadR P t (pre ++ (arrC k l ++ post)).toArray (o + j * 1) = some (vi (l.getD j 0)) := by
  obtain ⟨hlt, he⟩ := arrl_at (post := post) (l := l) ho hj
  unfold loadR
  rw [ht]
  have : Nat.ble (o + j * 1 + 1) (pre ++ (arrC k l ++ post)).toArray.size = true := by rw [Nat.ble_eq, List.size_toArray]; exact hlt
  simp only [this, if_true, getL]
  rw [List.drop_eq_getElem_cons hlt, (List.getElem?_eq_some_iff.1 he).2]
  rfl
/-- an element is read -/
theorem jlL (i k : Nat) (l : List Int) (pre post : List Value) (hm : 0 ≤ ix ∧ ix.toNat < k) (hx : opd S x = some (pt b (o + ix.toNat * 1))) (hr : Ls[i]? = some [(b, .cells (arrT pre k l post).toArray te fr)])
    (h : J P n X Q (.ops os ol) ((d, vi (aget l ix)) :: S) Ls F m) (ho : pre.length = o := by rfl) (ht : shapeOf P t = some (false, 1) := by kernel_rfl) (hd : Nat.blt d n = true := by kernel_rfl) (hg : wantedS os S g = some true := by kernel_rfl) : J P n X Q (.ops os (⟨some d, .load t x, ty, pos, af, g⟩ :: ol)) S Ls F m :=
  ⟨fun hq r hm' a w' hs => sl (b_load_own i (vi (aget l ix)) hs hx hr (fun a h' => h.go hq r hm' a w' h') (load_arrl ho hm.2 ht) hd hg)⟩
theorem jdlL (i q k : Nat) (l : List Int) (pre post : List Value) (hm : 0 ≤ ix ∧ ix.toNat < k) (hi : os[i]? = some ⟨some d, .load t x, ty, pos, af, g⟩) (hx : opd S x = some (pt b (o + ix.toNat * 1))) (hr : Ls[q]? = some [(b, .cells (arrT pre k l post).toArray te fr)])
    (h : J P n X Q (.dr os B Jj fuel (li.setIfInBounds i true)) ((d, vi (aget l ix)) :: S) Ls F m) (ho : pre.length = o := by rfl)
    (ht : shapeOf P t = some (false, 1) := by kernel_rfl) (hb : B.all (fun j => behind os i os.size j) = true := by kernel_rfl) (hJ : Jj.contains q = true := by kernel_rfl)
    (hk : takeOk os B li i = true := by kernel_rfl) (hd : Nat.blt d n = true := by kernel_rfl) (hg : wantedS os S g = some true := by kernel_rfl) : J P n X Q (.dr os B Jj (fuel + 1) li) S Ls F m :=
  ⟨fun hq r hm' a w' hs => dlo i q (vi (aget l ix)) hs hi hx hr (fun a' hs' => h.go hq r hm' a' w' hs') (load_arrl ho hm.2 ht) hb hJ (fun c v a w hp => (hq r c _ _ hp).elim) hk hd hg⟩

/-- an element is written -/
theorem jsL (z : Int) (at0 : At Ls p os ⟨none, .store t x y, ty, pos, af, g⟩ p') (i k : Nat) (l : List Int) (pre post : List Value) (hm : 0 ≤ ix ∧ ix.toNat < k) (hx : opd S x = some (pt b (o + ix.toNat * 1))) (hy : opd S y = some (vi z)) (hr : Ls[i]? = some (bx b te (arrT pre k l post)))
    (h : setC Ls i (bx b te (arrT pre k (aput k l ix z) post)) fun Ls' => J P n X Q p' S Ls' F m) (ho : pre.length = o := by rfl) (ht : shapeOf P t = some (false, 1) := by kernel_rfl) (hg : wantedS os S g = some true := by kernel_rfl) : J P n X Q p S Ls F m :=
  ⟨fun hq r hm' a w hs => at0.run fun K hK => by
    obtain ⟨hlt, he⟩ := arrl_at (post := post) (l := l) ho hm.2
    have hput : putL (pre ++ (arrC k l ++ post)).toArray (o + ix.toNat * 1) (vi z).cells.toList = (pre ++ (arrC k (aput k l ix z) ++ post)).toArray := by
      have h1 : (pre ++ (arrC k l ++ post)).set (o + ix.toNat * 1) (vi z) = pre ++ (arrC k (aput k l ix z) ++ post) := by
        rw [List.set_append_right _ _ (by omega), List.set_append_left _ _ (by rw [arrC_length]; omega), show o + ix.toNat * 1 - pre.length = ix.toNat by omega, arrC_set]
      rw [← h1, List.set_eq_take_append_cons_drop, if_pos hlt]
      simp [putL, Value.cells]
    refine b_store_own i hs hx hy hr (fun a w2 h' e => hK e ?_) ?_ hg
    · rw [setC_eq] at h
      rw [hput] at h' ⊢
      exact h.go hq r hm' a w2 h'
    · unfold storeOk
      rw [ht]
      have hble : Nat.ble (o + ix.toNat * 1 + 1) (pre ++ (arrC k l ++ post)).toArray.size = true := by rw [Nat.ble_eq, List.size_toArray]; exact hlt
      simp only [hble]
      rfl⟩

/-- a block that is told by its cells -/
theorem jalA (at0 : At Ls p os ⟨some d, .alloc t, ty, pos, af, g⟩ p') (c : List Value) (h : ∀ b, snocC Ls (bx b t c) fun Ls' => J P n X Q p' ((d, pt b 0) :: S) Ls' F m)
    (hx : zeroOf P t = some (.agg c.toArray) := by kernel_rfl) (hd : Nat.blt d n = true := by kernel_rfl) (hg : wantedS os S g = some true := by kernel_rfl) : J P n X Q p S Ls F m :=
  ⟨fun hq r hm a w hs => at0.run fun K hK => b_alloc hs hx (fun b a w' h' e => hK e (by
    have h := h b
    rw [snocC_eq] at h
    exact h.go hq r hm a w' h')) hd hg⟩
end
end Go.GD
