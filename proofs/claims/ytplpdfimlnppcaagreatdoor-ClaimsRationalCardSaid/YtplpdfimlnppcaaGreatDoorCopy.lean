/- A part. Conditions: none. -/
import Derived.Test.YtplpdfimlnppcaaGreatDoorOps3
import Derived.Laws.CopyRow
import Derived.Scope
namespace Go.GD
open Go Go.RowKit
set_option autoImplicit false
variable {qd : Prop}
section
variable {P : Program} {ops : Array Oper} {Q : Exit → Act → World → Prop} {K : Act → World → Prop}
variable {A : List Nat} {L0 Ls : List zW} {w0 w : World} {n : Nat} {S : List (Nat × Value)} {F : List PP} {a : Act} {Z : List Nat}
variable {d : Nat} {ty : TypeId} {pos : String} {af : Array Edge} {g : Option (Nat × Bool)} {B J : List Nat} {listed : Array Bool} {fuel : Nat}
variable {τ : Type} {e : E τ} {te : TypeId} {r : zW} {p q q2 : Option Addr} {c m L : Nat} {l z : List τ} {k : Int} {t : TypeId} {x y : Operand}
theorem Vw.src (hV : Vw e.n p c L k q m) (hA : yL e te Z w r p c l) (hL : l.length = L) (hO : wC A w Ls) {i : Nat} (hr : Ls[i]? = some r) : Src e Z w q (l.drop k.toNat) ∧ (l.drop k.toNat).length = m := by
 obtain ⟨v0, v1, v2, v3⟩ := hV
 have hlen : (l.drop k.toNat).length = m := by rw [List.length_drop]; omega
 refine ⟨?_, hlen⟩
 by_cases hm : m = 0
 ·exact .inl (List.eq_nil_of_length_eq_zero (by rw [hlen, hm]))
 ·rcases hA with ⟨_, _, _, rfl⟩ | ⟨b, cells, rfl, rfl, h3, h4, h5, h6⟩
  ·simp at hL; omega
  ·refine .inr ⟨b, k.toNat * e.n, _, v3 b rfl hm, e.rdL_drop k.toNat h6, fun j u hu => ?_⟩
   have hb := tX hO hr (List.mem_singleton.2 rfl)
   rw [cell_of_row w b (k.toNat * e.n + j) cells te (0, 0) hb]
   rw [List.getElem?_drop, List.getElem?_take] at hu
   split at hu
   ·simpa using hu
   ·cases hu
theorem zZ3 {k2 c' i : Nat} (hO : wC A w Ls) (hr : Ls[i]? = some r) (hA : yL e te (bl Ls ++ A) w r p c l) (hV : Vw e.n p c L k q m) (hL : l.length = L) (hR : Src e (bl Ls ++ A) w q2 z) (ht : xQ P t te e.n = true) (rty : TypeId) :
  ∃ r' w', (Builtin.copy_ #[t, t] rty #[.slice q m c', .slice q2 z.length k2]).run P w = .ok (goInt (Nat.min z.length m)) w' ∧
   wC A w' (Ls.set i r') ∧ qT qd Ls w (Ls.set i r') w' ∧ yL e te (bl (Ls.set i r') ++ A) w' r' p c (zJF l k z) := by
 obtain ⟨hu, info, zv, hi, hz', hsize, hby, hpos, hzs⟩ := zMD ht
 obtain ⟨v0, v1, v2, v3⟩ := hV
 subst hL
 have hself : Ls.set i r = Ls := by
  apply List.ext_getElem?; intro j
  by_cases hj : i = j
  ·subst hj; rw [List.getElem?_set_self']; simp [hr]
  ·rw [List.getElem?_set_ne hj]
 by_cases hn0 : Nat.min z.length m = 0
 ·have hll : zJF l k z = l := by
   unfold zJF
   rcases Nat.min_eq_zero_iff.1 hn0 with h | h
   ·rw [List.eq_nil_of_length_eq_zero h]; simp
   ·rw [List.take_of_length_le (by omega), List.drop_of_length_le (by omega), show l.length - k.toNat = 0 by omega]; simp
  refine ⟨r, w, ?_, by rw [hself]; exact hO, by rw [hself]; exact qT.refl _ _, by rw [hself, hll]; exact hA⟩
  cases q <;> cases q2 <;> simp [Builtin.copy_, run_underlying hu, Builtin.lenOf, Builtin.firstCells, sizeOf, typeInfo, hi, hn0, loadCells, loadCellsFrom, storeCells]
 ·have hm0 : m ≠ 0 := fun h => hn0 (by rw [h]; exact Nat.min_zero _)
  have hz0 : z ≠ [] := fun h => hn0 (by rw [h]; exact Nat.zero_min _)
  rcases hA with ⟨rfl, rfl, rfl, rfl⟩ | ⟨b, cells, rfl, rfl, h3, h4, h5, h6⟩
  ·simp at v1; omega
  ·have hq := v3 b rfl hm0
   subst hq
   rcases hR with hR | ⟨b2, off, cs, rfl, hcs, hcell⟩
   ·exact absurd hR hz0
   ·have hb := tX hO hr (List.mem_singleton.2 rfl)
    obtain ⟨nn, hnn⟩ : ∃ nn, nn = Nat.min z.length m := ⟨_, rfl⟩
    have hnz : nn ≤ z.length := by rw [hnn]; exact Nat.min_le_left _ _
    have hnm : nn ≤ m := by rw [hnn]; exact Nat.min_le_right _ _
    have hcs2 := e.rdL_take nn hcs
    have hlen : (cs.take (nn * e.n)).length = nn * e.n := by rw [e.rdL_len hcs2, List.length_take, Nat.min_eq_left hnz]
    have hload := run_loadCells_list (P := P) w ⟨b2, off, none⟩ (cs.take (nn * e.n)) (fun j u hj => by
     rw [zDm]
     apply hcell
     rw [List.getElem?_take] at hj
     split at hj
     ·exact hj
     ·cases hj)
    have hfit : k.toNat * e.n + 0 + (cs.take (nn * e.n)).length ≤ cells.size := by
     rw [hlen, Nat.add_zero, ← Nat.add_mul, h5]; exact Nat.mul_le_mul_right _ (by omega)
    have hst := run_storeCells_at P b (k.toNat * e.n) te (cs.take (nn * e.n)) 0 cells w hb hfit (e.rdL_one hcs2)
    simp only [Nat.add_zero] at hst
    have hother : ∀ cs : Array Value, ∀ k, k < w.heap.size → k ∉ [(b, Obj.cells cells te (0, 0))].map Prod.fst → (w.setRow b cs).heap[k]? = w.heap[k]? := fun cs k _ hk => setRow_other w b k _ (fun e => hk (by simp [e]))
    have hE : qT qd Ls w (Ls.set i [(b, .cells (cells.toList.take (k.toNat * e.n) ++ cs.take (nn * e.n) ++ cells.toList.drop (k.toNat * e.n + (cs.take (nn * e.n)).length)).toArray te (0, 0))]) (w.setRow b (cells.toList.take (k.toNat * e.n) ++ cs.take (nn * e.n) ++ cells.toList.drop (k.toNat * e.n + (cs.take (nn * e.n)).length)).toArray) :=
     qT.set hr rfl rfl rfl (by simp) (hother _) (fun q hq => .inl (by simp only [List.mem_singleton] at hq; subst hq; simp))
    refine ⟨[(b, .cells (cells.toList.take (k.toNat * e.n) ++ cs.take (nn * e.n) ++ cells.toList.drop (k.toNat * e.n + (cs.take (nn * e.n)).length)).toArray te (0, 0))], _, ?_, ?_, hE, .inr ⟨b, _, rfl, rfl, by rw [zOI]; exact h3, h4, ?_, ?_⟩⟩
    ·rw [hlen] at hload
     simp [Builtin.copy_, run_underlying hu, Builtin.lenOf, Builtin.firstCells, sizeOf, typeInfo, hi, hsize, ← hnn, hload, hst]
    ·exact hO.set hr (by simp) (hother _) (fun q hq => by simp only [List.mem_singleton] at hq; subst hq; exact setRow_heap w b cells _ te (0, 0) hb) (by simp) (fun q hq => .inl (by simp only [List.mem_singleton] at hq; subst hq; simp))
    ·simp only [List.size_toArray, List.length_append, List.length_take, List.length_drop, Array.length_toList, Nat.add_zero] at hfit ⊢
     omega
    ·have hcp : zJF l k z = l.take k.toNat ++ z.take nn ++ l.drop (k.toNat + nn) := by
      unfold zJF
      have h1 : z.take (l.length - k.toNat) = z.take nn := by
       apply List.ext_getElem?; intro j
       simp only [List.getElem?_take]
       by_cases hj : j < z.length
       ·have : j < l.length - k.toNat ↔ j < nn := by rw [hnn, Nat.lt_min]; omega
        simp [this]
       ·simp [List.getElem?_eq_none (Nat.le_of_not_lt hj)]
      have h2 : l.drop (k.toNat + z.length) = l.drop (k.toNat + nn) := by
       by_cases hj : z.length ≤ m
       ·rw [show nn = z.length by rw [hnn]; exact Nat.min_eq_left hj]
       ·rw [show nn = m by rw [hnn]; exact Nat.min_eq_right (by omega), List.drop_of_length_le (by omega), List.drop_of_length_le (by omega)]
      rw [h1, h2]
     rw [hcp]
     have e1 := e.rdL_take k.toNat h6
     rw [List.take_take, Nat.min_eq_left (Nat.mul_le_mul_right _ (by omega))] at e1
     have e2 := e.rdL_drop (k.toNat + nn) h6
     have e3 := e.rdL_append (e.rdL_append (e.rdL_step (hE.step A) e1) (e.rdL_step (hE.step A) hcs2)) (e.rdL_step (hE.step A) e2)
     refine cast ?_ e3
     congr 1
     have hlen2 : (l.take k.toNat ++ z.take nn ++ l.drop (k.toNat + nn)).length = l.length := by
      simp only [List.length_append, List.length_take, List.length_drop]; omega
     rw [hlen2]
     show _ = List.take _ (_ ++ _ ++ _)
     have hA1 : (cells.toList.take (k.toNat * e.n) ++ cs.take (nn * e.n)).length = (k.toNat + nn) * e.n := by
      rw [List.length_append, hlen, List.length_take, Array.length_toList, Nat.add_mul, Nat.min_eq_left]
      rw [h5]; exact Nat.mul_le_mul_right _ (by omega)
     rw [List.take_append, hA1, List.take_of_length_le (l := cells.toList.take (k.toNat * e.n) ++ cs.take (nn * e.n)) (by rw [hA1]; exact Nat.mul_le_mul_right _ (by omega)), hlen, ← Nat.add_mul, List.drop_take]
theorem Vw.whole (hA : yL e te Z w r p c l) (hm : m = l.length) : Vw e.n p c m 0 p m :=
 ⟨Int.le_refl _, by simp, by rw [hm]; exact hA.le, fun b hp _ => by rw [hp]; simp⟩
theorem R.srcs {Z : List Nat} (h : (R e p c m l).h Z w) : Src e Z w p l ∧ l.length = m := ⟨h.1.src, h.2.symm⟩
theorem Ar.srcs (h : (Ar e te r p c m l).h (bl Ls ++ A) w) (hO : wC A w Ls) {i : Nat} (hr : Ls[i]? = some r) : Src e (bl Ls ++ A) w p l ∧ l.length = m := ⟨h.1.src hO hr, h.2.symm⟩
theorem zYa (i : Nat) {m' c' m2 k2 : Nat} {q : Option Addr} (h : SS qd A L0 w0 n S Ls F a w) (hA : (Ar e te r p c m l).h (bl Ls ++ A) w) (hV : Vw e.n p c m k q m') (hR : Src e (bl Ls ++ A) w q2 z ∧ z.length = m2)
  (hx : qE S x = some (.slice q m' c')) (hy : qE S y = some (.slice q2 m2 k2))
  (kk : ∀ r' a' w', SS qd A L0 w0 n ((d, vi ((Nat.min m2 m' : Nat) : Int)) :: S) (Ls.set i r') (Ar e te r' p c m (zJF l k z) :: F) a' w' → qT qd Ls w (Ls.set i r') w' → K a' w') (hr : Ls[i]? = some r := by rfl)
  (ht : xQ P t te e.n = true := by kernel_rfl) (hd : Nat.blt d n = true := by kernel_rfl) (hg : wB ops S g = some true := by kernel_rfl) : vW P ops Q ⟨some d, .call { callee := .builtin .copy, args := [x, y].toArray, argTypes := [t, t].toArray }, ty, pos, af, g⟩ K a w := by
 obtain ⟨hA, hm'⟩ := hA
 obtain ⟨hR, rfl⟩ := hR
 obtain ⟨r', w', hrun, h1, h2, h3⟩ := zZ3 (P := P) (k2 := k2) (c' := c') h.o hr hA hV hm'.symm hR ht ty
 refine tZ h.s hd hg (v := vi ((Nat.min z.length m' : Nat) : Int)) (w' := w') ?_ fun a' hS => kk r' a' w' (h.next h1 h2 hS [Ar _ _ _ _ _ m _] ⟨⟨h3, by rw [zOI]; exact hm'⟩, trivial⟩) h2
 simp [execOp, resolve, invoke, builtin, h.s.eval hx, h.s.eval hy, hrun, goInt]
theorem z0r (q : Nat) {hi' : Operand} {k0 : Int} {kd : IntKind} (h : SS qd A L0 w0 n S Ls F a w) (hi0 : ops[q]? = some ⟨some d, .slice t x none (some hi') none, ty, pos, af, g⟩) (hA : (Ar e te r p c m l).h (bl Ls ++ A) w) (hx : qE S x = some (.slice p m c)) (hhi : qE S hi' = some (.int kd k0)) (hm : sub l 0 k0 = some z)
  (k : ∀ a, SS qd A L0 w0 n ((d, .slice p (List.length z) c) :: S) Ls (Ar e te r p c (List.length z) z :: F) a w → vA P ops Q (SB B (CC qd A Ls w J)) fuel (listed.setIfInBounds q true) a w)
  (ht : yV P t = some e.n := by kernel_rfl) (hQ : ∀ c (v : Value) a w, Q (.panic c) (a.put (some d) v) w → Q (.panic c) a w := by exact fun _ _ _ _ h => h)
  (hk : uE ops B listed q = true := by kernel_rfl) (hd : Nat.blt d n = true := by kernel_rfl) (hg : wB ops S g = some true := by kernel_rfl) : vA P ops Q (SB B (CC qd A Ls w J)) (fuel + 1) listed a w := by
 obtain ⟨hA, rfl⟩ := hA
 obtain ⟨hf, hr⟩ := zTi (P := P) (d := some d) (ty := ty) (pos := pos) (af := af) (g := g) h.s hA hx ht hhi hm
 exact z1R q h.o h.s hi0 hk hd (fun c => hQ c _) hg hr fun a hS => k a ((h.slot hS).add (f := Ar e te r p c (List.length z) z) ⟨hf, rfl⟩)
theorem zZU (q : Nat) {lo' : Operand} {k0 : Int} {kd : IntKind} {u : Unit} (h : SS qd A L0 w0 n S Ls F a w) (hi0 : ops[q]? = some ⟨some d, .slice t x (some lo') none none, ty, pos, af, g⟩) (hA : (Ar e te r p c m l).h (bl Ls ++ A) w) (hx : qE S x = some (.slice p m c)) (hlo : qE S lo' = some (.int kd k0))
  (hm : yC (decide (0 ≤ k0) && decide (k0 ≤ (l.length : Int))) = some u)
  (k : ∀ p' c', Vw e.n p c m k0 p' (Int.toNat ((m : Int) - k0)) → ∀ a, SS qd A L0 w0 n ((d, .slice p' (Int.toNat ((m : Int) - k0)) c') :: S) Ls F a w → vA P ops Q (SB B (CC qd A Ls w J)) fuel (listed.setIfInBounds q true) a w)
  (ht : yV P t = some e.n := by kernel_rfl) (hQ : ∀ c (v : Value) a w, Q (.panic c) (a.put (some d) v) w → Q (.panic c) a w := by exact fun _ _ _ _ h => h)
  (hk : uE ops B listed q = true := by kernel_rfl) (hd : Nat.blt d n = true := by kernel_rfl) (hg : wB ops S g = some true := by kernel_rfl) : vA P ops Q (SB B (CC qd A Ls w J)) (fuel + 1) listed a w := by
 obtain ⟨hA, rfl⟩ := hA
 obtain ⟨p', c', hv, hr⟩ := zSu (P := P) (d := some d) (ty := ty) (pos := pos) (af := af) (g := g) h.s hA hx ht hlo hm
 exact z1R q h.o h.s hi0 hk hd (fun c => hQ c _) hg hr fun a hS => k p' c' hv a (h.slot hS)
end
end Go.GD
