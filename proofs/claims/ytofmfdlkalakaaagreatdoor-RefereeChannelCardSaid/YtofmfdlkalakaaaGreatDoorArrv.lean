/- Small arrays: values put together, their elements' places in blocks of one's own. Conditions: none. -/
import Derived.Test.YtofmfdlkalakaaaGreatDoorNest
namespace Go.GD
open Go Go.RowKit
set_option autoImplicit false
variable {qd : Prop}
set_option linter.unusedVariables false

def pvA (P : Program) (S : List (Nat × Value)) (t : TypeId) (parts : List (Nat × Operand)) : Option Value := match P.underlying t with
  | some (.array _ el) => match P.info? el, zeroOf P t, partsOf S parts with
    | some i, some z, some vs => (Instr.fill (fun j => some (j * i.size, i.size)) z.cells vs).map .agg
    | _, _, _ => none
  | _ => none

/-- an array in which one element is another -/
def aset {α : Type} : List α → Int → Int → α → List α
  | [], _, _, _ => []
  | a :: l, k, i, v => (if (i == k) = true then v else a) :: aset l (k + 1) i v
theorem aset_set {α : Type} (v : α) : ∀ (l : List α) (k i : Int), k ≤ i → aset l k i v = l.set (i - k).toNat v
  | [], _, _, _ => rfl
  | a :: l, k, i, h => by
    unfold aset
    by_cases e : i = k
    · subst e
      have h0 : ∀ (l : List α) (k : Int), i < k → aset l k i v = l := by
        intro l
        induction l with
        | nil => intro k _; rfl
        | cons b l ih =>
          intro k hk
          unfold aset
          have : (i == k) = false := by simpa using (by omega : i ≠ k)
          rw [this, ih (k + 1) (by omega)]
          rfl
      rw [h0 l (i + 1) (by omega)]
      simp
    · have h1 : (i == k) = false := by simpa using e
      rw [h1, aset_set v l (k + 1) i (by omega)]
      have : (i - k).toNat = (i - (k + 1)).toNat + 1 := by omega
      rw [this, List.set_cons_succ]
      rfl

section
variable {P : Program} {n : Nat} {X : Hd qd} {ρ : Type} {Q : PQ ρ} {S : Sl} {Ls : List Res} {F : List PP} {m : Option ρ} {os : Array Oper} {ol : List Oper} {x y : Operand} {p p' : Pos} {a : Act}
variable {d t : Nat} {ty : TypeId} {pos : String} {af : Array Edge} {g : Option (Nat × Bool)} {kd : IntKind} {B Jj : List Nat} {li : Array Bool} {fuel : Nat}

theorem r_buildA {parts : Array (Nat × Operand)} {v : Value} {d : Option Tmp} (hS : Slots a n S) (h : pvA P S t parts.toList = some v) (w : World) :
    (execOp a.eval ⟨d, .build t parts, ty, pos, af, g⟩).run P w = .ok (.value v) w := by
  unfold pvA at h
  split at h
  · rename_i k el hu
    split at h
    · rename_i i z vs hi hz hvs
      simp only [Option.map_eq_some_iff] at h
      obtain ⟨cells, hfill, rfl⟩ := h
      have h2 := hS.parts hvs
      have h3 := run_zeroOf hz w
      have hsr : (sizeOf el).run P w = .ok i.size w := by simp [sizeOf, typeInfo, hi]
      simp only [execOp, Instr.build, Sem.run_bind, h3, Result.andThen_ok, run_underlying hu, hsr]
      simp only [Array.toList_map, h2]
      simp [hfill]
    · cases h
  · cases h

/-- an element's place -/
theorem r_iaddr {b o o' k sz : Nat} {i : Int} {d : Option Tmp} (hS : Slots a n S) (hx : opd S x = some (pt b o)) (hy : opd S y = some (.int kd i)) (ht : arrSize P t = some (k, sz)) (h0 : 0 ≤ i ∧ i < (k : Int)) (ho : o + i.toNat * sz = o') (w : World) :
    (execOp a.eval ⟨d, .indexAddr t x y, ty, pos, af, g⟩).run P w = .ok (.value (pt b o')) w := by
  subst ho
  simp [execOp, hS.eval hx, hS.eval hy, run_indexArr ht h0.1 (show i.toNat < k by omega)]

section
variable {τ : Type} {l : List τ} {ix : Int} {u : τ} {b o : Nat} {c : List Value} {te : TypeId} {fr : Nat × Nat}
theorem idx_bd (h : idx l ix = some u) : 0 ≤ ix ∧ ix < (l.length : Int) := by
  have := idx_spec h
  exact ⟨this.1, this.2.2⟩
/-- an element's place, the index not told -/
theorem jiB {f : τ → Option ρ} (hx : opd S x = some (pt b o)) (hy : opd S y = some (.int kd ix))
    (h : ∀ u, idx l ix = some u → J P n X Q (.ops os ol) ((d, pt b (o + ix.toNat * 1)) :: S) Ls F (f u))
    (ht : arrSize P t = some (l.length, 1) := by kernel_rfl) (hd : Nat.blt d n = true := by kernel_rfl) (hg : wantedS os S g = some true := by kernel_rfl) :
    J P n X Q (.ops os (⟨some d, .indexAddr t x y, ty, pos, af, g⟩ :: ol)) S Ls F ((idx l ix).bind f) :=
  ⟨fun hq r hm a w hs => by
    obtain ⟨u, h1, h2⟩ := bnd hm
    exact sl (b_val hs (v := pt b (o + ix.toNat * 1)) (fun w' => r_iaddr hs.s hx hy ht (idx_bd h1) rfl w') (fun a h' => (h u h1).go hq r h2 a w h') hd hg)⟩
theorem jdB {f : τ → Option ρ} (i : Nat) (hi : os[i]? = some ⟨some d, .indexAddr t x y, ty, pos, af, g⟩) (hx : opd S x = some (pt b o)) (hy : opd S y = some (.int kd ix))
    (h : ∀ u, idx l ix = some u → J P n X Q (.dr os B Jj fuel (li.setIfInBounds i true)) ((d, pt b (o + ix.toNat * 1)) :: S) Ls F (f u))
    (ht : arrSize P t = some (l.length, 1) := by kernel_rfl) (hk : takeOk os B li i = true := by kernel_rfl) (hd : Nat.blt d n = true := by kernel_rfl) (hg : wantedS os S g = some true := by kernel_rfl) :
    J P n X Q (.dr os B Jj (fuel + 1) li) S Ls F ((idx l ix).bind f) :=
  ⟨fun hq r hm a w hs => by
    obtain ⟨u, h1, h2⟩ := bnd hm
    exact dv (v := pt b (o + ix.toNat * 1)) i hs hi (fun w' => r_iaddr hs.s hx hy ht (idx_bd h1) rfl w') (fun a' hs' => (h u h1).go hq r h2 a' w hs') (fun c v a w hp => (hq r c _ _ hp).elim) hk hd hg⟩

theorem cell_at (w : τ → Value) (hc : (c.drop o).take l.length = l.map w) (hm : idx l ix = some u) : ∃ hlt : o + ix.toNat * 1 < c.length, c[o + ix.toNat * 1] = w u := by
  obtain ⟨h1, h2, h3⟩ := idx_spec hm
  have h4 : ((c.drop o).take l.length)[ix.toNat]? = some (w u) := by rw [hc, List.getElem?_map, h2]; rfl
  rw [List.getElem?_take, if_pos (by omega), List.getElem?_drop] at h4
  obtain ⟨h5, h6⟩ := List.getElem?_eq_some_iff.1 h4
  exact ⟨by omega, by simpa using h6⟩
theorem load_at (w : τ → Value) (hc : (c.drop o).take l.length = l.map w) (hm : idx l ix = some u) (ht : shapeOf P t = some (false, 1)) : loadR P t c.toArray (o + ix.toNat * 1) = some (w u) := by
  obtain ⟨hlt, he⟩ := cell_at w hc hm
  unfold loadR
  rw [ht]
  have : Nat.ble (o + ix.toNat * 1 + 1) c.toArray.size = true := by rw [Nat.ble_eq, List.size_toArray]; exact hlt
  simp only [this, if_true, getL]
  rw [List.drop_eq_getElem_cons hlt, he]
  rfl
/-- an element of an array in a block of one's own is read -/
theorem jlI (i : Nat) (w : τ → Value) (hx : opd S x = some (pt b (o + ix.toNat * 1))) (hr : Ls[i]? = some [(b, .cells c.toArray te fr)]) (hc : (c.drop o).take l.length = l.map w) (hm : idx l ix = some u)
    (h : J P n X Q (.ops os ol) ((d, w u) :: S) Ls F m) (ht : shapeOf P t = some (false, 1) := by kernel_rfl) (hd : Nat.blt d n = true := by kernel_rfl) (hg : wantedS os S g = some true := by kernel_rfl) : J P n X Q (.ops os (⟨some d, .load t x, ty, pos, af, g⟩ :: ol)) S Ls F m :=
  ⟨fun hq r hm' a w' hs => sl (b_load_own i (w u) hs hx hr (fun a h' => h.go hq r hm' a w' h') (load_at w hc hm ht) hd hg)⟩
theorem jdlI (i q : Nat) (w : τ → Value) (hi : os[i]? = some ⟨some d, .load t x, ty, pos, af, g⟩) (hx : opd S x = some (pt b (o + ix.toNat * 1))) (hr : Ls[q]? = some [(b, .cells c.toArray te fr)]) (hc : (c.drop o).take l.length = l.map w) (hm : idx l ix = some u)
    (h : J P n X Q (.dr os B Jj fuel (li.setIfInBounds i true)) ((d, w u) :: S) Ls F m)
    (ht : shapeOf P t = some (false, 1) := by kernel_rfl) (hb : B.all (fun j => behind os i os.size j) = true := by kernel_rfl) (hJ : Jj.contains q = true := by kernel_rfl)
    (hk : takeOk os B li i = true := by kernel_rfl) (hd : Nat.blt d n = true := by kernel_rfl) (hg : wantedS os S g = some true := by kernel_rfl) : J P n X Q (.dr os B Jj (fuel + 1) li) S Ls F m :=
  ⟨fun hq r hm' a w' hs => dlo i q (w u) hs hi hx hr (fun a' hs' => h.go hq r hm' a' w' hs') (load_at w hc hm ht) hb hJ (fun c v a w hp => (hq r c _ _ hp).elim) hk hd hg⟩

/-- and written -/
theorem jsI {z : τ} (w : τ → Value) (at0 : At Ls p os ⟨none, .store t x y, ty, pos, af, g⟩ p') (i : Nat) (hx : opd S x = some (pt b (o + ix.toNat * 1))) (hy : opd S y = some (w z)) (hr : Ls[i]? = some (bx b te c)) (hc : (c.drop o).take l.length = l.map w) (hm : idx l ix = some u)
    (h : putC o c ((aset l 0 ix z).map w) fun c' => setC Ls i (bx b te c') fun Ls' => J P n X Q p' S Ls' F m) (ht : shapeOf P t = some (false, 1) := by kernel_rfl) (hz : (w z).oneCell' = true := by rfl) (hg : wantedS os S g = some true := by kernel_rfl) : J P n X Q p S Ls F m :=
  ⟨fun hq r hm' a w' hs => at0.run fun K hK => b_store_own i hs hx hy hr (fun a w2 h' e => hK e (by
    have h := putC_eq h
    rw [setC_eq] at h
    obtain ⟨h1, h2, h3⟩ := idx_spec hm
    have hlen : (aset l 0 ix z).map w = (l.map w).set ix.toNat (w z) := by
      rw [aset_set z l 0 ix h1, Int.sub_zero, List.map_set]
    have hl2 : (l.map w).length = l.length := List.length_map w
    have hcl : o + l.length ≤ c.length := by
      have := congrArg List.length hc
      simp only [List.length_take, List.length_drop, List.length_map] at this
      omega
    have hnew : c.take o ++ (aset l 0 ix z).map w ++ c.drop (o + ((aset l 0 ix z).map w).length) = c.set (o + ix.toNat * 1) (w z) := by
      rw [hlen, List.length_set, hl2]
      have hd1 : c = c.take o ++ (l.map w ++ c.drop (o + l.length)) := by
        conv => lhs; rw [← List.take_append_drop o c, ← List.take_append_drop l.length (c.drop o), hc, List.drop_drop]
      conv => rhs; rw [hd1]
      have ho : (c.take o).length = o := by rw [List.length_take]; omega
      rw [List.set_append_right _ _ (by omega), ho, show o + ix.toNat * 1 - o = ix.toNat by omega, List.set_append_left _ _ (by omega), List.append_assoc]
    rw [hnew] at h
    have hz1 : (w z).cells.toList = [w z] := by
      cases hv : w z <;> first | rfl | (rw [hv] at hz; cases hz)
    have hlt : o + ix.toNat * 1 < c.length := by omega
    have hput : putL c.toArray (o + ix.toNat * 1) (w z).cells.toList = (c.set (o + ix.toNat * 1) (w z)).toArray := by
      unfold putL
      rw [hz1, List.set_eq_take_append_cons_drop, if_pos hlt]
      simp
    rw [hput] at h' ⊢
    exact h.go hq r hm' a w2 h')) (by
      obtain ⟨h1, h2, h3⟩ := idx_spec hm
      have hcl : o + l.length ≤ c.length := by
        have := congrArg List.length hc
        simp only [List.length_take, List.length_drop, List.length_map] at this
        omega
      have hz1 : (w z).cells.toList = [w z] := by
        cases hv : w z <;> first | rfl | (rw [hv] at hz; cases hz)
      have hz2 : (w z).cells.size = 1 := by rw [← Array.length_toList, hz1]; rfl
      unfold storeOk
      rw [ht]
      have hble : Nat.ble (o + ix.toNat * 1 + 1) c.toArray.size = true := by rw [Nat.ble_eq, List.size_toArray]; omega
      simp only [hz2, beq_self_eq_true, hble, hz1, List.all_cons, hz, List.all_nil, Bool.and_self]) hg⟩
end
end
end Go.GD
