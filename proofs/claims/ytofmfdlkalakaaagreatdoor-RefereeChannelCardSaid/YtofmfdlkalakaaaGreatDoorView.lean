/- Views of arrays of one's own: x[k:] that is read, or cleared, while x is written; x[:k]. Conditions: none. -/
import Derived.Test.YtofmfdlkalakaaaGreatDoorMore
import Derived.Test.YtofmfdlkalakaaaGreatDoorLib
namespace Go.GD
open Go Go.RowKit
set_option autoImplicit false
variable {qd : Prop}

/-- the header of x[k:]: L the length of x -/
def Vw (n : Nat) (p : Option Addr) (c L : Nat) (k : Int) (p' : Option Addr) (m : Nat) : Prop :=
  0 ≤ k ∧ k.toNat + m = L ∧ L ≤ c ∧ ∀ b o, p = some ⟨b, o, none⟩ → m ≠ 0 → p' = some ⟨b, o + k.toNat * n, none⟩

section
variable {P : Program} {ops : Array Oper} {Q : Exit → Act → World → Prop} {a : Act} {n : Nat} {S : List (Nat × Value)} {w : World} {K : Act → World → Prop}
variable {A : List Nat} {Ls : List Res} {d : Nat} {ty : TypeId} {pos : String} {af : Array Edge} {g : Option (Nat × Bool)}
variable {τ : Type} {e : E τ} {te : TypeId} {Z : List Nat} {r : Res} {p p' : Option Addr} {c c' m L : Nat} {l z : List τ} {k j : Int} {u : τ} {t : TypeId} {x y lo hi : Operand} {kd : IntKind}

theorem Arr.le (hA : Arr e te Z w r p c l) : l.length ≤ c := by
  rcases hA with ⟨_, _, rfl, rfl⟩ | ⟨_, _, _, _, _, h, _⟩
  · exact Nat.le_refl _
  · exact h

theorem r_slice_view {d : Option Tmp} {q : Unit} (hS : Slots a n S) (hA : Arr e te Z w r p c l) (hx : opd S x = some (.slice p l.length c)) (ht : elemSize P t = some e.n) (hlo : opd S lo = some (.int kd k))
    (hm : chk (decide (0 ≤ k) && decide (k ≤ (l.length : Int))) = some q) :
    ∃ p' c', Vw e.n p c l.length k p' (Int.toNat ((l.length : Int) - k)) ∧ ∀ w', (execOp a.eval ⟨d, .slice t x (some lo) none none, ty, pos, af, g⟩).run P w' = .ok (.value (.slice p' (Int.toNat ((l.length : Int) - k)) c')) w' := by
  have h0 : 0 ≤ k ∧ k ≤ (l.length : Int) := by
    unfold chk at hm
    split at hm
    · rename_i h; simpa using h
    · cases hm
  have hle := hA.le
  unfold elemSize at ht
  split at ht
  · rename_i te' hu
    cases hq : P.info? te' with
    | none => simp [hq] at ht
    | some info =>
      have hs : info.size = e.n := by simpa [hq] using ht
      refine ⟨if c = k.toNat then p else p.map (·.add (k.toNat * e.n)), c - k.toNat, ⟨h0.1, by omega, hle, fun b o hp hne => ?_⟩, fun w' => ?_⟩
      · subst hp
        rw [if_neg (by omega)]
        simp [add_plain]
      · have hb := run_bounds (P := P) (w := w') (b := true) (m := l.length) (c := c) (lo := some (.int kd k)) (hi := none) (i := k) (j := l.length) (.inr ⟨_, rfl⟩) (.inl ⟨rfl, rfl⟩) h0.1 h0.2 (by omega)
        have hsub : l.length - k.toNat = ((l.length : Int) - k).toNat := by omega
        simp [execOp, hS.eval hx, hS.eval hlo, Instr.sliceAt, Instr.slice, run_underlying hu, hb, sizeOf, typeInfo, hq, hs, hsub]
  · cases ht

/-- x[k:], the rest of x: from now on the whole -/
theorem r_slice_suf {d : Option Tmp} (hS : Slots a n S) (hA : Arr e te Z w r p c l) (hx : opd S x = some (.slice p l.length c)) (ht : elemSize P t = some e.n) (hlo : opd S lo = some (.int kd k)) (hm : sub l k l.length = some z) :
    ∃ p' c', Arr e te Z w r p' c' z ∧ ∀ w', (execOp a.eval ⟨d, .slice t x (some lo) none none, ty, pos, af, g⟩).run P w' = .ok (.value (.slice p' z.length c')) w' := by
  unfold sub at hm
  split at hm
  case isFalse => cases hm
  rename_i h0
  obtain ⟨h1, h2, _⟩ := h0
  simp only [Option.some.injEq] at hm
  have hz : z = l.drop k.toNat := by rw [← hm]; simp
  have hzl : z.length = l.length - k.toNat := by rw [hz]; simp
  have hle := hA.le
  unfold elemSize at ht
  split at ht
  · rename_i te' hu
    cases hq : P.info? te' with
    | none => simp [hq] at ht
    | some info =>
      have hs : info.size = e.n := by simpa [hq] using ht
      refine ⟨if c = k.toNat then p else p.map (·.add (k.toNat * e.n)), c - k.toNat, ?_, fun w' => ?_⟩
      · rcases hA with ⟨rfl, rfl, rfl, rfl⟩ | ⟨b, o, cells, rfl, rfl, h3, h4, h5, h6⟩
        · rw [hz]
          have : k.toNat = 0 := by simp at h2; omega
          simpa [this] using Arr.nil
        · have h7 := e.rdL_drop k.toNat h6
          by_cases hc : c = k.toNat
          · have hz0 : z = [] := List.eq_nil_of_length_eq_zero (by omega)
            rw [if_pos hc, hz0]
            exact .inr ⟨b, o, cells, rfl, rfl, Nat.zero_le _, by omega, by rw [hc, Nat.sub_self, Nat.zero_mul]; omega, by simp [E.rdL]⟩
          · rw [if_neg hc]
            have hkc : k.toNat ≤ c := by omega
            have hmul : k.toNat * e.n + (c - k.toNat) * e.n = c * e.n := by rw [← Nat.add_mul]; congr 1; omega
            refine .inr ⟨b, o + k.toNat * e.n, cells, rfl, by simp [add_plain], by omega, by omega, by omega, ?_⟩
            rw [hzl, hz, ← List.drop_drop]
            rw [List.drop_take, ← Nat.sub_mul] at h7
            exact h7
      · have hb := run_bounds (P := P) (w := w') (b := true) (m := l.length) (c := c) (lo := some (.int kd k)) (hi := none) (i := k) (j := l.length) (.inr ⟨_, rfl⟩) (.inl ⟨rfl, rfl⟩) h1 h2 (by omega)
        simp [execOp, hS.eval hx, hS.eval hlo, Instr.sliceAt, Instr.slice, run_underlying hu, hb, sizeOf, typeInfo, hq, hs, hzl]
  · cases ht

/-- x[:k] -/
theorem r_slice_pre {d : Option Tmp} (hS : Slots a n S) (hA : Arr e te Z w r p c l) (hx : opd S x = some (.slice p l.length c)) (ht : elemSize P t = some e.n) (hhi : opd S hi = some (.int kd k)) (hm : sub l 0 k = some z) :
    Arr e te Z w r p c z ∧ ∀ w', (execOp a.eval ⟨d, .slice t x none (some hi) none, ty, pos, af, g⟩).run P w' = .ok (.value (.slice p z.length c)) w' := by
  unfold sub at hm
  split at hm
  case isFalse => cases hm
  rename_i h0
  obtain ⟨_, h1, h2⟩ := h0
  simp only [Option.some.injEq] at hm
  have hz : z = l.take k.toNat := by rw [← hm]; simp
  have hzl : z.length = k.toNat := by rw [hz]; simp; omega
  have hle := hA.le
  refine ⟨?_, fun w' => ?_⟩
  · rcases hA with ⟨rfl, rfl, rfl, rfl⟩ | ⟨b, o, cells, rfl, rfl, h3, h4, h5, h6⟩
    · rw [hz]; simpa using Arr.nil
    · refine .inr ⟨b, o, cells, rfl, rfl, by omega, h4, h5, ?_⟩
      have := e.rdL_take k.toNat h6
      rw [List.take_take, Nat.min_eq_left (Nat.mul_le_mul_right _ (by omega))] at this
      rw [hzl, hz]
      exact this
  · unfold elemSize at ht
    split at ht
    · rename_i te' hu
      cases hq : P.info? te' with
      | none => simp [hq] at ht
      | some info =>
        have hb := run_bounds (P := P) (w := w') (b := true) (m := l.length) (c := c) (lo := none) (hi := some (.int kd k)) (i := 0) (j := k) (.inl ⟨rfl, rfl⟩) (.inr ⟨_, rfl⟩) (Int.le_refl _) h1 (by omega)
        have hp : p.map (fun a : Addr => a.add 0) = p := by
          rcases hA with ⟨_, rfl, _, _⟩ | ⟨b, o, cells, _, rfl, _⟩
          · rfl
          · simp [add_plain]
        simp [execOp, hS.eval hx, hS.eval hhi, Instr.sliceAt, Instr.slice, run_underlying hu, hb, sizeOf, typeInfo, hq, hzl, hp]
    · cases ht

theorem idxV_spec (h : idxV l k j = some u) : 0 ≤ j ∧ idx l (k + j) = some u := by
  unfold idxV at h
  split at h
  · rename_i h0; exact ⟨h0, h⟩
  · cases h

/-- v[j] of the view v = x[k:] -/
theorem r_index_view {d : Option Tmp} (hS : Slots a n S) (hA : Arr e te Z w r p c l) (hV : Vw e.n p c L k p' m) (hL : List.length l = L) (hx : opd S x = some (.slice p' m c')) (hy : opd S y = some (.int kd j)) (ht : elemSize P t = some e.n) (hm : idxV l k j = some u) :
    idx l (k + j) = some u ∧ ∃ b o, p = some ⟨b, o, none⟩ ∧ ∀ w', (execOp a.eval ⟨d, .indexAddr t x y, ty, pos, af, g⟩).run P w' = .ok (.value (.pointer (some ⟨b, o + (k + j).toNat * e.n, none⟩))) w' := by
  obtain ⟨hj, hi⟩ := idxV_spec hm
  obtain ⟨b, o, cells, rfl, rfl, _⟩ := hA.at hi
  obtain ⟨h0, _, h2⟩ := idx_spec hi
  obtain ⟨v0, v1, v2, v3⟩ := hV
  have hp' := v3 b o rfl (by omega)
  subst hp'
  refine ⟨hi, b, o, rfl, fun w' => ?_⟩
  have := run_indexAt (P := P) (w := w') (t := t) (k := e.n) (b := b) (off := o + k.toNat * e.n) (m := m) (c := c') (i := j) ht hj (by omega) kd
  have hadd : o + k.toNat * e.n + j.toNat * e.n = o + (k + j).toNat * e.n := by rw [Nat.add_assoc, ← Nat.add_mul]; congr 2; omega
  rw [hadd] at this
  simp [execOp, hS.eval hx, hS.eval hy, this]

theorem op_void {op : Op} {v : Value} {w' : World} (hS : Slots a n S) (hg : wantedS ops S g = some true) (hr : (execOp a.eval ⟨none, op, ty, pos, af, g⟩).run P w = .ok (.value v) w')
    (k : ∀ a', Slots a' n S → K a' w') : Stp P ops Q ⟨none, op, ty, pos, af, g⟩ K a w := by
  unfold Stp
  rw [if_pos (wanted_of (o := ⟨none, op, ty, pos, af, g⟩) hS hg)]
  unfold Oper.wp
  rw [hr]
  exact k a hS

theorem zeroCells_list (z : Array Value) : ∀ m, (Builtin.zeroCells z m).toList = (List.replicate m z.toList).flatten
  | 0 => by simp [Builtin.zeroCells]
  | m + 1 => by
    rw [List.replicate_succ', List.flatten_append, ← zeroCells_list z m]
    apply List.ext_getElem?
    intro i
    simp only [Builtin.zeroCells, Array.toList_map, Array.toList_range, List.getElem?_map, List.flatten_singleton]
    by_cases h1 : i < m * z.size
    · rw [List.getElem?_append_left (by simpa using h1), List.getElem?_range (by rw [Nat.add_mul]; omega), List.getElem?_map, List.getElem?_range h1]
    · rw [List.getElem?_append_right (by simpa using h1)]
      simp only [List.length_map, List.length_range]
      by_cases h2 : i < (m + 1) * z.size
      · rw [List.getElem?_range h2]
        rw [Nat.add_mul, Nat.one_mul] at h2
        have hm : i % z.size = i - m * z.size := by
          have : i = (i - m * z.size) + m * z.size := by omega
          rw [this, Nat.add_mul_mod_self_right, Nat.mod_eq_of_lt (by omega)]; omega
        have hlt : i - m * z.size < z.size := by omega
        simp [hm, hlt]
      · rw [List.getElem?_eq_none (by simpa using h2), List.getElem?_eq_none]
        · rfl
        · rw [Nat.add_mul, Nat.one_mul] at h2; simp; omega

theorem E.rdL_replicate {w : World} {zc : List Value} {zd : τ} (h : e.rd Z w zc zd) : ∀ m, e.rdL Z w (List.replicate m zc).flatten (List.replicate m zd)
  | 0 => rfl
  | m + 1 => by
    rw [List.replicate_succ, List.replicate_succ, List.flatten_cons]
    exact ⟨_, _, rfl, h, E.rdL_replicate h m⟩

/-- clear(v) of the view v = x[k:] -/
theorem op_clear_view (i : Nat) {zd : τ} {zv : Value} {q : Option Addr} (hS : Slots a n S) (hg : wantedS ops S g = some true) (hO : Own A w Ls) (hr : Ls[i]? = some r) (hA : Arr e te (bl Ls ++ A) w r p c l)
    (hV : Vw e.n p c L k q m) (hL : List.length l = L) (hx : opd S x = some (.slice q m c')) (ht : slOk P t te e.n = true) (hz : zeroOf P te = some zv) (hzr : e.rd (bl Ls ++ A) w zv.cells.toList zd)
    (kk : ∀ r' w', Own A w' (Ls.set i r') → Ext qd Ls w (Ls.set i r') w' → Arr e te (bl (Ls.set i r') ++ A) w' r' p c (clearFrom l k zd) → ∀ a', Slots a' n S → K a' w') :
    Stp P ops Q ⟨none, .call { callee := .builtin .clear, args := [x].toArray, argTypes := [t].toArray }, ty, pos, af, g⟩ K a w := by
  obtain ⟨hu, info, zv', hi, hz', hsize, hby, hpos, hzs⟩ := slOk_spec ht
  obtain ⟨v0, v1, v2, v3⟩ := hV
  subst hL
  have hcl : clearFrom l k zd = l.take k.toNat ++ List.replicate m zd := by unfold clearFrom; congr 2; omega
  by_cases hm0 : m = 0
  · subst hm0
    have hll : clearFrom l k zd = l := by rw [hcl, List.take_of_length_le (by omega)]; simp
    have hself : Ls.set i r = Ls := by
      apply List.ext_getElem?; intro j
      by_cases hj : i = j
      · subst hj; rw [List.getElem?_set_self']; simp [hr]
      · rw [List.getElem?_set_ne hj]
    refine op_void hS hg (v := .tuple #[]) (w' := w) ?_ (kk r w (by rw [hself]; exact hO) (by rw [hself]; exact Ext.refl _ _) (by rw [hself, hll]; exact hA))
    cases q <;> simp [execOp, resolve, invoke, builtin, hS.eval hx, Builtin.clear_, run_underlying hu]
  · rcases hA with ⟨rfl, rfl, rfl, rfl⟩ | ⟨b, o, cells, rfl, rfl, h3, h4, h5, h6⟩
    · simp at v1; omega
    · have hq := v3 b o rfl hm0
      subst hq
      have hb := heap_of_own hO hr (List.mem_singleton.2 rfl)
      have hzl : (zeroOf P te) = info.zero := by simp [zeroOf, hi]
      have hzz : zv' = zv := by rw [hz] at hzl; rw [hz'] at hzl; exact (Option.some.inj hzl).symm
      subst hzz
      have hvl : (Builtin.zeroCells zv'.cells m).toList.length = m * e.n := by simp [size_zeroCells, hzs]
      have hfit : o + k.toNat * e.n + 0 + (Builtin.zeroCells zv'.cells m).toList.length ≤ cells.size := by
        rw [hvl, Nat.add_zero, Nat.add_assoc, ← Nat.add_mul, v1]; exact Nat.le_trans (Nat.add_le_add_left (Nat.mul_le_mul_right _ h3) _) h5
      have hvs : (Builtin.zeroCells zv'.cells m).size = m * e.n := by rw [size_zeroCells, hzs]
      have hvr := E.rdL_replicate hzr m
      rw [← zeroCells_list] at hvr
      have hst := run_storeCells_at P b (o + k.toNat * e.n) te (Builtin.zeroCells zv'.cells m).toList 0 cells w hb hfit (e.rdL_one hvr)
      simp only [Nat.add_zero] at hst
      have hzv : ∀ w', (zeroValue te).run P w' = .ok zv' w' := fun w' => run_zeroOf hz w'
      have hother : ∀ cs : Array Value, ∀ k, k < w.heap.size → k ∉ [(b, Obj.cells cells te (0, 0))].map Prod.fst → (w.setRow b cs).heap[k]? = w.heap[k]? := fun cs k _ hk => setRow_other w b k _ (fun e => hk (by simp [e]))
      have hE : Ext qd Ls w (Ls.set i [(b, .cells (putL cells (o + k.toNat * e.n) (Builtin.zeroCells zv'.cells m).toList) te (0, 0))]) (w.setRow b (putL cells (o + k.toNat * e.n) (Builtin.zeroCells zv'.cells m).toList)) :=
        Ext.set hr rfl rfl rfl (by simp) (hother _) (fun q hq => .inl (by simp only [List.mem_singleton] at hq; subst hq; simp))
      refine op_void hS hg (v := .tuple #[]) (w' := w.setRow b (putL cells (o + k.toNat * e.n) (Builtin.zeroCells zv'.cells m).toList)) ?_
        (kk [(b, .cells (putL cells (o + k.toNat * e.n) (Builtin.zeroCells zv'.cells m).toList) te (0, 0))] _ ?_ hE (.inr ⟨b, o, _, rfl, rfl, by rw [length_clearFrom]; exact h3, h4, ?_, ?_⟩))
      · have hmm : ∃ m', m = m' + 1 := ⟨m - 1, by omega⟩
        obtain ⟨m', rfl⟩ := hmm
        simp [execOp, resolve, invoke, builtin, hS.eval hx, Builtin.clear_, run_underlying hu, hzv, hst, putL]
      · exact hO.set hr (by simp) (hother _) (fun q hq => by simp only [List.mem_singleton] at hq; subst hq; exact setRow_heap w b cells _ te (0, 0) hb) (by simp) (fun q hq => .inl (by simp only [List.mem_singleton] at hq; subst hq; simp))
      · simp only [putL, List.size_toArray, List.length_append, List.length_take, List.length_drop, Array.length_toList]
        rw [hvs]; rw [hvl] at hfit; omega
      · rw [hcl]
        have hlen : (l.take k.toNat ++ List.replicate m zd).length * e.n = k.toNat * e.n + m * e.n := by
          rw [List.length_append, List.length_take, List.length_replicate, Nat.min_eq_left (by omega), Nat.add_mul]
        have h7 := e.rdL_take k.toNat h6
        rw [List.take_take, Nat.min_eq_left (Nat.mul_le_mul_right _ (by omega))] at h7
        have : ((putL cells (o + k.toNat * e.n) (Builtin.zeroCells zv'.cells m).toList).toList.drop o).take (k.toNat * e.n + m * e.n) = (cells.toList.drop o).take (k.toNat * e.n) ++ (Builtin.zeroCells zv'.cells m).toList := by
          show ((cells.toList.take (o + k.toNat * e.n) ++ (Builtin.zeroCells zv'.cells m).toList ++ cells.toList.drop (o + k.toNat * e.n + (Builtin.zeroCells zv'.cells m).toList.length)).drop o).take _ = _
          rw [← hvl]
          exact take_drop_put _ _ _ _ (by have := Array.length_toList (xs := cells); omega)
        rw [hlen, this]
        exact e.rdL_append (e.rdL_step (hE.step A) h7) (e.rdL_step (hE.step A) hvr)

end
end Go.GD
