/- A part. Conditions: none. -/
import Derived.Test.YtplpdfimlnppcaaGreatDoorMore
import Derived.Test.YtplpdfimlnppcaaGreatDoorLib
namespace Go.GD
open Go Go.RowKit
set_option autoImplicit false
variable {qd : Prop}
def Vw (n : Nat) (p : Option Addr) (c L : Nat) (k : Int) (p' : Option Addr) (m : Nat) : Prop :=
 0 ≤ k ∧ k.toNat + m = L ∧ L ≤ c ∧ ∀ b, p = some ⟨b, 0, none⟩ → m ≠ 0 → p' = some ⟨b, k.toNat * n, none⟩
section
variable {P : Program} {ops : Array Oper} {Q : Exit → Act → World → Prop} {a : Act} {n : Nat} {S : List (Nat × Value)} {w : World} {K : Act → World → Prop}
variable {A : List Nat} {Ls : List zW} {d : Nat} {ty : TypeId} {pos : String} {af : Array Edge} {g : Option (Nat × Bool)}
variable {τ : Type} {e : E τ} {te : TypeId} {Z : List Nat} {r : zW} {p p' : Option Addr} {c c' m L : Nat} {l z : List τ} {k j : Int} {u : τ} {t : TypeId} {x y lo hi : Operand} {kd : IntKind}
theorem yL.le (hA : yL e te Z w r p c l) : l.length ≤ c := by
 rcases hA with ⟨_, _, rfl, rfl⟩ | ⟨_, _, _, _, h, _⟩
 ·exact Nat.le_refl _
 ·exact h
theorem zSu {d : Option Tmp} {q : Unit} (hS : wH a n S) (hA : yL e te Z w r p c l) (hx : qE S x = some (.slice p l.length c)) (ht : yV P t = some e.n) (hlo : qE S lo = some (.int kd k))
  (hm : yC (decide (0 ≤ k) && decide (k ≤ (l.length : Int))) = some q) :
  ∃ p' c', Vw e.n p c l.length k p' (Int.toNat ((l.length : Int) - k)) ∧ ∀ w', (execOp a.eval ⟨d, .slice t x (some lo) none none, ty, pos, af, g⟩).run P w' = .ok (.value (.slice p' (Int.toNat ((l.length : Int) - k)) c')) w' := by
 have h0 : 0 ≤ k ∧ k ≤ (l.length : Int) := by
  unfold yC at hm
  split at hm
  ·rename_i h; simpa using h
  ·cases hm
 have hle := hA.le
 unfold yV at ht
 split at ht
 ·rename_i te' hu
  cases hq : P.info? te' with
  | none => simp [hq] at ht
  | some info =>
   have hs : info.size = e.n := by simpa [hq] using ht
   refine ⟨if c = k.toNat then p else p.map (·.add (k.toNat * e.n)), c - k.toNat, ⟨h0.1, by omega, hle, fun b hp hne => ?_⟩, fun w' => ?_⟩
   ·subst hp
    rw [if_neg (by omega)]
    simp [zDm]
   ·have hb := zNd (P := P) (w := w') (b := true) (m := l.length) (c := c) (lo := some (.int kd k)) (hi := none) (i := k) (j := l.length) (.inr ⟨_, rfl⟩) (.inl ⟨rfl, rfl⟩) h0.1 h0.2 (by omega)
    have hsub : l.length - k.toNat = ((l.length : Int) - k).toNat := by omega
    simp [execOp, hS.eval hx, hS.eval hlo, Instr.sliceAt, Instr.slice, run_underlying hu, hb, sizeOf, typeInfo, hq, hs, hsub]
 ·cases ht
theorem zTi {d : Option Tmp} (hS : wH a n S) (hA : yL e te Z w r p c l) (hx : qE S x = some (.slice p l.length c)) (ht : yV P t = some e.n) (hhi : qE S hi = some (.int kd k)) (hm : sub l 0 k = some z) :
  yL e te Z w r p c z ∧ ∀ w', (execOp a.eval ⟨d, .slice t x none (some hi) none, ty, pos, af, g⟩).run P w' = .ok (.value (.slice p z.length c)) w' := by
 unfold sub at hm
 split at hm
 case isFalse => cases hm
 rename_i h0
 obtain ⟨_, h1, h2⟩ := h0
 simp only [Option.some.injEq] at hm
 have hz : z = l.take k.toNat := by rw [← hm]; simp
 have hzl : z.length = k.toNat := by rw [hz]; simp; omega
 have hle := hA.le
 refine ⟨?_, fun w' => ?_⟩
 ·rcases hA with ⟨rfl, rfl, rfl, rfl⟩ | ⟨b, cells, rfl, rfl, h3, h4, h5, h6⟩
  ·rw [hz]; simpa using yL.nil
  ·refine .inr ⟨b, cells, rfl, rfl, by omega, h4, h5, ?_⟩
   have := e.rdL_take k.toNat h6
   rw [List.take_take, Nat.min_eq_left (Nat.mul_le_mul_right _ (by omega))] at this
   rw [hzl, hz]
   exact this
 ·unfold yV at ht
  split at ht
  ·rename_i te' hu
   cases hq : P.info? te' with
   | none => simp [hq] at ht
   | some info =>
    have hb := zNd (P := P) (w := w') (b := true) (m := l.length) (c := c) (lo := none) (hi := some (.int kd k)) (i := 0) (j := k) (.inl ⟨rfl, rfl⟩) (.inr ⟨_, rfl⟩) (Int.le_refl _) h1 (by omega)
    have hp : p.map (fun a : Addr => a.add 0) = p := by
     rcases hA with ⟨_, rfl, _, _⟩ | ⟨b, cells, _, rfl, _⟩
     ·rfl
     ·simp [zDm]
    simp [execOp, hS.eval hx, hS.eval hhi, Instr.sliceAt, Instr.slice, run_underlying hu, hb, sizeOf, typeInfo, hq, hzl, hp]
  ·cases ht
theorem z3h (h : zUz l k j = some u) : 0 ≤ j ∧ zF l (k + j) = some u := by
 unfold zUz at h
 split at h
 ·rename_i h0; exact ⟨h0, h⟩
 ·cases h
theorem zSs {d : Option Tmp} (hS : wH a n S) (hA : yL e te Z w r p c l) (hV : Vw e.n p c L k p' m) (hL : List.length l = L) (hx : qE S x = some (.slice p' m c')) (hy : qE S y = some (.int kd j)) (ht : yV P t = some e.n) (hm : zUz l k j = some u) :
  zF l (k + j) = some u ∧ ∃ b, p = some ⟨b, 0, none⟩ ∧ ∀ w', (execOp a.eval ⟨d, .indexAddr t x y, ty, pos, af, g⟩).run P w' = .ok (.value (.pointer (some ⟨b, (k + j).toNat * e.n, none⟩))) w' := by
 obtain ⟨hj, hi⟩ := z3h hm
 obtain ⟨b, cells, rfl, rfl, _⟩ := hA.at hi
 obtain ⟨h0, _, h2⟩ := zRl hi
 obtain ⟨v0, v1, v2, v3⟩ := hV
 have hp' := v3 b rfl (by omega)
 subst hp'
 refine ⟨hi, b, rfl, fun w' => ?_⟩
 have := zMH (P := P) (w := w') (t := t) (k := e.n) (b := b) (off := k.toNat * e.n) (m := m) (c := c') (i := j) ht hj (by omega) kd
 have hadd : k.toNat * e.n + j.toNat * e.n = (k + j).toNat * e.n := by rw [← Nat.add_mul]; congr 1; omega
 rw [hadd] at this
 simp [execOp, hS.eval hx, hS.eval hy, this]
theorem z2s {op : Op} {v : Value} {w' : World} (hS : wH a n S) (hg : wB ops S g = some true) (hr : (execOp a.eval ⟨none, op, ty, pos, af, g⟩).run P w = .ok (.value v) w')
  (k : ∀ a', wH a' n S → K a' w') : vW P ops Q ⟨none, op, ty, pos, af, g⟩ K a w := by
 unfold vW
 rw [if_pos (zFk (o := ⟨none, op, ty, pos, af, g⟩) hS hg)]
 unfold Oper.wp
 rw [hr]
 exact k a hS
theorem zK9 (z : Array Value) : ∀ m, (Builtin.zeroCells z m).toList = (List.replicate m z.toList).flatten
 | 0 => by simp [Builtin.zeroCells]
 | m + 1 => by
  rw [List.replicate_succ', List.flatten_append, ← zK9 z m]
  apply List.ext_getElem?
  intro i
  simp only [Builtin.zeroCells, Array.toList_map, Array.toList_range, List.getElem?_map, List.flatten_singleton]
  by_cases h1 : i < m * z.size
  ·rw [List.getElem?_append_left (by simpa using h1), List.getElem?_range (by rw [Nat.add_mul]; omega), List.getElem?_map, List.getElem?_range h1]
  ·rw [List.getElem?_append_right (by simpa using h1)]
   simp only [List.length_map, List.length_range]
   by_cases h2 : i < (m + 1) * z.size
   ·rw [List.getElem?_range h2]
    rw [Nat.add_mul, Nat.one_mul] at h2
    have hm : i % z.size = i - m * z.size := by
     have : i = (i - m * z.size) + m * z.size := by omega
     rw [this, Nat.add_mul_mod_self_right, Nat.mod_eq_of_lt (by omega)]; omega
    have hlt : i - m * z.size < z.size := by omega
    simp [hm, hlt]
   ·rw [List.getElem?_eq_none (by simpa using h2), List.getElem?_eq_none]
    ·rfl
    ·rw [Nat.add_mul, Nat.one_mul] at h2; simp; omega
theorem E.rdL_replicate {w : World} {zc : List Value} {zd : τ} (h : e.rd Z w zc zd) : ∀ m, e.rdL Z w (List.replicate m zc).flatten (List.replicate m zd)
 | 0 => rfl
 | m + 1 => by
  rw [List.replicate_succ, List.replicate_succ, List.flatten_cons]
  exact ⟨_, _, rfl, h, E.rdL_replicate h m⟩
theorem zWU (i : Nat) {zd : τ} {zv : Value} {q : Option Addr} (hS : wH a n S) (hg : wB ops S g = some true) (hO : wC A w Ls) (hr : Ls[i]? = some r) (hA : yL e te (bl Ls ++ A) w r p c l)
  (hV : Vw e.n p c L k q m) (hL : List.length l = L) (hx : qE S x = some (.slice q m c')) (ht : xQ P t te e.n = true) (hz : zKF P te = some zv) (hzr : e.rd (bl Ls ++ A) w zv.cells.toList zd)
  (kk : ∀ r' w', wC A w' (Ls.set i r') → qT qd Ls w (Ls.set i r') w' → yL e te (bl (Ls.set i r') ++ A) w' r' p c (zDI l k zd) → ∀ a', wH a' n S → K a' w') :
  vW P ops Q ⟨none, .call { callee := .builtin .clear, args := [x].toArray, argTypes := [t].toArray }, ty, pos, af, g⟩ K a w := by
 obtain ⟨hu, info, zv', hi, hz', hsize, hby, hpos, hzs⟩ := zMD ht
 obtain ⟨v0, v1, v2, v3⟩ := hV
 subst hL
 have hcl : zDI l k zd = l.take k.toNat ++ List.replicate m zd := by unfold zDI; congr 2; omega
 by_cases hm0 : m = 0
 ·subst hm0
  have hll : zDI l k zd = l := by rw [hcl, List.take_of_length_le (by omega)]; simp
  have hself : Ls.set i r = Ls := by
   apply List.ext_getElem?; intro j
   by_cases hj : i = j
   ·subst hj; rw [List.getElem?_set_self']; simp [hr]
   ·rw [List.getElem?_set_ne hj]
  refine z2s hS hg (v := .tuple #[]) (w' := w) ?_ (kk r w (by rw [hself]; exact hO) (by rw [hself]; exact qT.refl _ _) (by rw [hself, hll]; exact hA))
  cases q <;> simp [execOp, resolve, invoke, builtin, hS.eval hx, Builtin.clear_, run_underlying hu]
 ·rcases hA with ⟨rfl, rfl, rfl, rfl⟩ | ⟨b, cells, rfl, rfl, h3, h4, h5, h6⟩
  ·simp at v1; omega
  ·have hq := v3 b rfl hm0
   subst hq
   have hb := tX hO hr (List.mem_singleton.2 rfl)
   have hzl : (zKF P te) = info.zero := by simp [zKF, hi]
   have hzz : zv' = zv := by rw [hz] at hzl; rw [hz'] at hzl; exact (Option.some.inj hzl).symm
   subst hzz
   have hvl : (Builtin.zeroCells zv'.cells m).toList.length = m * e.n := by simp [size_zeroCells, hzs]
   have hfit : k.toNat * e.n + 0 + (Builtin.zeroCells zv'.cells m).toList.length ≤ cells.size := by
    rw [hvl, Nat.add_zero, ← Nat.add_mul, v1, h5]; exact Nat.mul_le_mul_right _ h3
   have hvs : (Builtin.zeroCells zv'.cells m).size = m * e.n := by rw [size_zeroCells, hzs]
   have hvr := E.rdL_replicate hzr m
   rw [← zK9] at hvr
   have hst := run_storeCells_at P b (k.toNat * e.n) te (Builtin.zeroCells zv'.cells m).toList 0 cells w hb hfit (e.rdL_one hvr)
   simp only [Nat.add_zero] at hst
   have hzv : ∀ w', (zeroValue te).run P w' = .ok zv' w' := fun w' => zPo hz w'
   have hother : ∀ cs : Array Value, ∀ k, k < w.heap.size → k ∉ [(b, Obj.cells cells te (0, 0))].map Prod.fst → (w.setRow b cs).heap[k]? = w.heap[k]? := fun cs k _ hk => setRow_other w b k _ (fun e => hk (by simp [e]))
   have hE : qT qd Ls w (Ls.set i [(b, .cells (tH cells (k.toNat * e.n) (Builtin.zeroCells zv'.cells m).toList) te (0, 0))]) (w.setRow b (tH cells (k.toNat * e.n) (Builtin.zeroCells zv'.cells m).toList)) :=
    qT.set hr rfl rfl rfl (by simp) (hother _) (fun q hq => .inl (by simp only [List.mem_singleton] at hq; subst hq; simp))
   refine z2s hS hg (v := .tuple #[]) (w' := w.setRow b (tH cells (k.toNat * e.n) (Builtin.zeroCells zv'.cells m).toList)) ?_
    (kk [(b, .cells (tH cells (k.toNat * e.n) (Builtin.zeroCells zv'.cells m).toList) te (0, 0))] _ ?_ hE (.inr ⟨b, _, rfl, rfl, by rw [zIs]; exact h3, h4, ?_, ?_⟩))
   ·have hmm : ∃ m', m = m' + 1 := ⟨m - 1, by omega⟩
    obtain ⟨m', rfl⟩ := hmm
    simp [execOp, resolve, invoke, builtin, hS.eval hx, Builtin.clear_, run_underlying hu, hzv, hst, tH]
   ·exact hO.set hr (by simp) (hother _) (fun q hq => by simp only [List.mem_singleton] at hq; subst hq; exact setRow_heap w b cells _ te (0, 0) hb) (by simp) (fun q hq => .inl (by simp only [List.mem_singleton] at hq; subst hq; simp))
   ·simp only [tH, List.size_toArray, List.length_append, List.length_take, List.length_drop, Array.length_toList]
    rw [← h5, hvs]; rw [hvl] at hfit; omega
   ·rw [hcl]
    have hlen : (l.take k.toNat ++ List.replicate m zd).length * e.n = k.toNat * e.n + m * e.n := by
     rw [List.length_append, List.length_take, List.length_replicate, Nat.min_eq_left (by omega), Nat.add_mul]
    have h7 := e.rdL_take k.toNat h6
    rw [List.take_take, Nat.min_eq_left (Nat.mul_le_mul_right _ (by omega))] at h7
    have : (tH cells (k.toNat * e.n) (Builtin.zeroCells zv'.cells m).toList).toList.take (k.toNat * e.n + m * e.n) = cells.toList.take (k.toNat * e.n) ++ (Builtin.zeroCells zv'.cells m).toList := by
     have hl1 : (cells.toList.take (k.toNat * e.n) ++ (Builtin.zeroCells zv'.cells m).toList).length = k.toNat * e.n + m * e.n := by
      rw [List.length_append, hvl, List.length_take, Array.length_toList, Nat.min_eq_left (by omega)]
     rw [← hl1]; exact List.take_left
    rw [hlen, this]
    exact e.rdL_append (e.rdL_step (hE.step A) h7) (e.rdL_step (hE.step A) hvr)
end
end Go.GD
