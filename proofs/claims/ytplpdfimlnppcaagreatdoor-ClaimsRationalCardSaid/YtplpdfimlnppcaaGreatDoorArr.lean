/- A part. Conditions: none. -/
import Derived.Test.YtplpdfimlnppcaaGreatDoorDraw
namespace Go.GD
open Go Go.RowKit
set_option autoImplicit false
variable {qd : Prop}
def yL {τ : Type} (e : E τ) (t : TypeId) (Z : List Nat) (w : World) (r : zW) (p : Option Addr) (c : Nat) (l : List τ) : Prop :=
 (r = [] ∧ p = none ∧ c = 0 ∧ l = []) ∨
 ∃ b cells, r = [(b, .cells cells t (0, 0))] ∧ p = some ⟨b, 0, none⟩ ∧ l.length ≤ c ∧ c ≤ maxLen ∧ cells.size = c * e.n ∧ e.rdL Z w (cells.toList.take (l.length * e.n)) l
def Src {τ : Type} (e : E τ) (Z : List Nat) (w : World) (p : Option Addr) (l : List τ) : Prop :=
 l = [] ∨ ∃ b off cs, p = some ⟨b, off, none⟩ ∧ e.rdL Z w cs l ∧ ∀ j u, cs[j]? = some u → w.cell? ⟨b, off + j, none⟩ = some u
section
variable {τ : Type} {e : E τ} {t : TypeId} {Z Z' : List Nat} {w w' : World} {r : zW} {p : Option Addr} {c : Nat} {l : List τ} {A : List Nat} {Ls : List zW}
theorem yL.mv (h : yL e t Z w r p c l) (s : yK Z w Z' w') : yL e t Z' w' r p c l := by
 rcases h with h | ⟨b, cells, h1, h2, h3, h4, h5, h6⟩
 ·exact .inl h
 ·exact .inr ⟨b, cells, h1, h2, h3, h4, h5, e.rdL_step s h6⟩
theorem yL.nil : yL e t Z w [] none 0 [] := .inl ⟨rfl, rfl, rfl, rfl⟩
theorem xF.src (h : xF e Z w p c l) : Src e Z w p l := h.2.imp id fun ⟨b, off, cs, h1, _, _, h4, h5⟩ => ⟨b, off, cs, h1, h4, h5⟩
theorem yL.src (h : yL e t Z w r p c l) (hO : wC A w Ls) {i : Nat} (hr : Ls[i]? = some r) : Src e Z w p l := by
 rcases h with ⟨_, _, _, h⟩ | ⟨b, cells, rfl, rfl, h3, h4, h5, h6⟩
 ·exact .inl h
 ·refine .inr ⟨b, 0, _, rfl, h6, fun j u hu => ?_⟩
  have hb := tX hO hr (List.mem_singleton.2 rfl)
  rw [cell_of_row w b (0 + j) cells t (0, 0) hb, Nat.zero_add]
  rw [List.getElem?_take] at hu
  split at hu
  ·simpa using hu
  ·cases hu
theorem z5A {i : Nat} : ∀ b ∈ bl (Ls.set i []) ++ A, b ∈ bl Ls ++ A := by
 intro b hb
 rcases List.mem_append.1 hb with h | h
 ·rcases zFu h with ⟨p, hp, _⟩ | ⟨j, s, _, hs, p, hp, rfl⟩
  ·cases hp
  ·exact List.mem_append.2 (.inl (zC6 hs hp))
 ·exact List.mem_append.2 (.inr h)
theorem yK.dropped (i : Nat) (Ls : List zW) (A : List Nat) (w : World) : yK (bl Ls ++ A) w (bl (Ls.set i []) ++ A) w := yK.less w z5A
theorem wC.dropped (hO : wC A w Ls) (i : Nat) : wC A w (Ls.set i []) := by
 cases hr : Ls[i]? with
 | none =>
  have : Ls.length ≤ i := List.getElem?_eq_none_iff.1 hr
  rw [List.set_eq_of_length_le this]; exact hO
 | some r => exact hO.set hr (Nat.le_refl _) (fun _ _ _ => rfl) (by simp) (by simp) (by simp)
theorem qT.dropped {L : List zW} {w0 : World} (h : qT qd L w0 Ls w) (i : Nat) : qT qd L w0 (Ls.set i []) w := h.drop fun b hb => by
 rcases zFu hb with ⟨p, hp, _⟩ | ⟨j, s, _, hs, p, hp, rfl⟩
 ·cases hp
 ·exact zC6 hs hp
theorem yL.share (h : yL e t (bl Ls ++ A) w r p c l) (hO : wC A w Ls) {i : Nat} (hr : Ls[i]? = some r) : xF e (bl (Ls.set i []) ++ A) w p c l := by
 rcases h with ⟨_, _, _, rfl⟩ | ⟨b, cells, rfl, rfl, h3, h4, h5, h6⟩
 ·exact ⟨Nat.zero_le _, .inl rfl⟩
 ·have hb := tX hO hr (List.mem_singleton.2 rfl)
  refine ⟨h3, .inr ⟨b, 0, _, rfl, fun hm => ?_, (Array.getElem?_eq_some_iff.1 hb).1, e.rdL_step (yK.dropped i Ls A w) h6, fun j u hu => ?_⟩⟩
  ·rcases List.mem_append.1 hm with hm | hm
   ·rcases zFu hm with ⟨q, hq, _⟩ | ⟨j, s, hj, hs, q, hq, he⟩
    ·cases hq
    ·exact zEx hO.nodup hr hs (fun e => hj e.symm) _ (List.mem_singleton.2 rfl) q hq he.symm
   ·exact hO.apart b (zC6 hr (List.mem_singleton.2 rfl)) hm
  ·rw [cell_of_row w b (0 + j) cells t (0, 0) hb, Nat.zero_add]
   rw [List.getElem?_take] at hu
   split at hu
   ·simpa using hu
   ·cases hu
theorem wC.room (hO : wC A w Ls) : wC A w (Ls ++ [[]]) :=
 ⟨hO.old, fun s hs p hp => (by rcases List.mem_append.1 hs with h | h; exact hO.has s h p hp; simp at h; subst h; cases hp), (by rw [zDo]; simpa [bl] using hO.nodup), fun b hb => (by
  rw [zDo] at hb; simp [bl] at hb; exact hO.apart b hb)⟩
theorem qT.room (Ls : List zW) (w : World) : qT qd Ls w (Ls ++ [[]]) w :=
 ⟨rfl, rfl, rfl, fun _ => Nat.le_refl _, Nat.le_refl _, fun _ _ _ => rfl, fun b hb => by rw [zDo] at hb; simp [bl] at hb; exact .inl hb⟩
end
def xQ (P : Program) (t te n : Nat) : Bool :=
 match P.underlying t with
 | some (.slice e') => e' == te && match P.info? te with
  | some i => i.size == n && Nat.ble i.bytes 32768 && Nat.ble 1 n && match i.zero with
   | some z => z.cells.size == n
   | none => false
  | none => false
 | _ => false
theorem zMD {P : Program} {t te n : Nat} (h : xQ P t te n = true) :
  P.underlying t = some (.slice te) ∧ ∃ i z, P.info? te = some i ∧ i.zero = some z ∧ i.size = n ∧ i.bytes ≤ 32768 ∧ 0 < n ∧ z.cells.size = n := by
 unfold xQ at h
 split at h
 ·rename_i e' hu
  simp only [Bool.and_eq_true, beq_iff_eq] at h
  obtain ⟨rfl, h⟩ := h
  split at h
  ·rename_i i hi
   simp only [Bool.and_eq_true, beq_iff_eq] at h
   obtain ⟨⟨⟨h1, h2⟩, h3⟩, h4⟩ := h
   split at h4
   ·rename_i z hz
    exact ⟨hu, i, z, hi, hz, h1, Nat.le_of_ble_eq_true h2, Nat.le_of_ble_eq_true h3, by simpa using h4⟩
   ·cases h4
  ·cases h
 ·cases h
section
variable {P : Program} {ops : Array Oper} {Q : Exit → Act → World → Prop} {a : Act} {n : Nat} {S : List (Nat × Value)} {w : World} {K : Act → World → Prop}
variable {A : List Nat} {Ls : List zW} {d : Nat} {ty : TypeId} {pos : String} {af : Array Edge} {g : Option (Nat × Bool)}
theorem zPc {t te : Nat} {s : Option Addr} {m c k : Nat} {q : Option Addr} {rty : TypeId} (hu : P.underlying t = some (.slice te)) {i : TypeInfo} (hi : P.info? te = some i) (hm : m ≤ c) :
  (Builtin.append_ #[t, t] rty #[.slice s m c, .slice q 0 k]).run P w = .ok (.slice s m c) w := by
 have hf : (Builtin.firstCells i.size 0 (.slice q 0 k)).run P w = .ok #[] w := by
  cases q with
  | none => rfl
  | some b => simp [Builtin.firstCells, loadCells, loadCellsFrom]
 cases s <;> simp [Builtin.append_, run_underlying hu, sizeOf, typeInfo, hi, Builtin.lenOf, hm, hf, storeCells]
theorem z59 {α : Type} {l m z : List α} (h : wE l m = some z) : l.length + m.length < 4294967296 ∧ z = l ++ m := by
 unfold wE at h
 split at h
 ·rename_i h0; simp only [Option.some.injEq] at h; exact ⟨h0, h.symm⟩
 ·cases h
theorem zVI {τ : Type} {e : E τ} {t te : Nat} {r : zW} {p q : Option Addr} {c k i : Nat} {l m z : List τ} (hO : wC A w Ls) (hr : Ls[i]? = some r) (hA : yL e te (bl Ls ++ A) w r p c l)
  (hR : Src e (bl Ls ++ A) w q m) (ht : xQ P t te e.n = true) (hm : wE l m = some z) (rty : TypeId) :
  ∃ r' p' c' w', (Builtin.append_ #[t, t] rty #[.slice p l.length c, .slice q m.length k]).run P w = .ok (.slice p' z.length c') w' ∧
   wC A w' (Ls.set i r') ∧ qT qd Ls w (Ls.set i r') w' ∧ yL e te (bl (Ls.set i r') ++ A) w' r' p' c' z := by
 obtain ⟨hsm, rfl⟩ := z59 hm
 obtain ⟨hu, info, zv, hi, hz, hsize, hby, hpos, hzs⟩ := zMD ht
 have hlc : l.length ≤ c := by
  rcases hA with ⟨_, _, _, rfl⟩ | ⟨b, cells, _, _, h3, _⟩
  ·exact Nat.zero_le _
  ·exact h3
 by_cases hm0 : m = []
 ·subst hm0
  refine ⟨r, p, c, w, by simpa using zPc (k := k) (q := q) hu hi hlc, ?_, ?_, ?_⟩
  ·exact hO.set hr (Nat.le_refl _) (fun _ _ _ => rfl) (fun x hx => tX hO hr hx) (by simpa [bl] using (hO.pick i hr).nodup) (fun x hx => .inl (List.mem_map.2 ⟨x, hx, rfl⟩))
  ·exact qT.set hr rfl rfl rfl (Nat.le_refl _) (fun _ _ _ => rfl) (fun x hx => .inl (List.mem_map.2 ⟨x, hx, rfl⟩))
  ·have hself : Ls.set i r = Ls := by
    apply List.ext_getElem?; intro j
    by_cases hj : i = j
    ·subst hj; rw [List.getElem?_set_self']; simp [hr]
    ·rw [List.getElem?_set_ne hj]
   rw [hself]; simpa using hA
 ·have hmpos : 0 < m.length := List.length_pos_iff.2 hm0
  rcases hR with hR | ⟨b2, off, cs2, rfl, hcs2, hcell⟩
  ·exact absurd hR hm0
  ·have hl2 : cs2.length = m.length * info.size := by rw [e.rdL_len hcs2, hsize]
   have hnews : ∀ j u, cs2[j]? = some u → w.cell? ((⟨b2, off, none⟩ : Addr).add j) = some u := fun j u hu => by rw [zDm]; exact hcell j u hu
   have hone := e.rdL_one hcs2
   have hbytes : (l.length + m.length) * info.bytes ≤ 140737488355328 := by
    have := Nat.mul_le_mul (Nat.le_of_lt hsm) hby
    omega
   have h63 : ((l.length + m.length : Nat) : Int) ≤ 9223372036854775807 := by omega
   rcases hA with ⟨rfl, rfl, rfl, rfl⟩ | ⟨b, cells, rfl, rfl, h3, h4, h5, h6⟩
   ·
    have hrun := run_append_nil (P := P) w t rty te info zv hu hi hz ⟨b2, off, none⟩ m.length k cs2 hl2 hnews hmpos (by omega) (by simp at hbytes; omega)
    have hge := grownCap_ge w m.length 0 te
    have hcm := grownCap_le_maxLen w m.length 0 te (by simp only [maxLen]; omega)
    refine ⟨[(w.heap.size, .cells (cs2.toArray ++ Builtin.zeroCells zv.cells (grownCap w m.length 0 te - m.length)) te (0, 0))], _, _, _, by rw [List.nil_append]; exact hrun, ?_, ?_, ?_⟩
    ·exact hO.set hr (by simp) (fun k hk _ => Below.heap_alloc w.drew _ k hk) (fun x hx => by simp only [List.mem_singleton] at hx; subst hx; exact heap_alloc_new w.drew _) (by simp) (fun x hx => by simp only [List.mem_singleton] at hx; subst hx; exact .inr (Nat.le_refl _))
    ·exact qT.set hr rfl rfl rfl (by simp) (fun k hk _ => Below.heap_alloc w.drew _ k hk) (fun x hx => by simp only [List.mem_singleton] at hx; subst hx; exact .inr (Nat.le_refl _))
    ·have hE : qT qd Ls w (Ls.set i [(w.heap.size, .cells (cs2.toArray ++ Builtin.zeroCells zv.cells (grownCap w m.length 0 te - m.length)) te (0, 0))]) (w.drew.alloc (.cells (cs2.toArray ++ Builtin.zeroCells zv.cells (grownCap w m.length 0 te - m.length)) te)) :=
      qT.set hr rfl rfl rfl (by simp) (fun k hk _ => Below.heap_alloc w.drew _ k hk) (fun x hx => by simp only [List.mem_singleton] at hx; subst hx; exact .inr (Nat.le_refl _))
     refine .inr ⟨w.heap.size, _, rfl, rfl, by simpa using hge, hcm, ?_, ?_⟩
     ·simp only [Array.size_append, List.size_toArray, size_zeroCells, hzs, hl2, hsize, ← Nat.add_mul]
      congr 1; omega
     ·have : (cs2.toArray ++ Builtin.zeroCells zv.cells (grownCap w m.length 0 te - m.length)).toList.take (([] ++ m).length * e.n) = cs2 := by
       simp only [Array.toList_append, List.nil_append]
       rw [← hsize, ← hl2]; simp
      rw [this]
      exact e.rdL_step (hE.step A) (by simpa using hcs2)
   ·have hb := tX hO hr (List.mem_singleton.2 rfl)
    have hlo : (cells.toList.take (l.length * e.n)).length = l.length * info.size := by rw [e.rdL_len h6, hsize]
    by_cases hroom : l.length + m.length ≤ c
    ·
     have hfit : l.length * info.size + cs2.length ≤ cells.size := by rw [hl2, h5, ← Nat.add_mul, hsize]; exact Nat.mul_le_mul_right _ hroom
     have hrun := run_append_room (P := P) w t rty te info hu hi b l.length c cells hb ⟨b2, off, none⟩ m.length k cs2 hl2 hnews hone hroom hfit
     have hk : ∀ (cs : Array Value) (k : Nat), k < w.heap.size → k ∉ [(b, Obj.cells cells te (0, 0))].map Prod.fst → (w.setRow b cs).heap[k]? = w.heap[k]? := fun cs k _ hk => setRow_other w b k _ (fun e => hk (by simp [e]))
     refine ⟨[(b, .cells (cells.toList.take (l.length * info.size) ++ cs2 ++ cells.toList.drop (l.length * info.size + cs2.length)).toArray te (0, 0))], _, c, _, by rw [List.length_append]; exact hrun, ?_, ?_, ?_⟩
     ·exact hO.set hr (by simp) (hk _) (fun x hx => by simp only [List.mem_singleton] at hx; subst hx; exact setRow_heap w b cells _ te (0, 0) hb) (by simp) (fun x hx => by simp only [List.mem_singleton] at hx; subst hx; exact .inl (by simp))
     ·exact qT.set hr rfl rfl rfl (by simp) (hk _) (fun x hx => by simp only [List.mem_singleton] at hx; subst hx; exact .inl (by simp))
     ·have hE : qT qd Ls w (Ls.set i [(b, .cells (cells.toList.take (l.length * info.size) ++ cs2 ++ cells.toList.drop (l.length * info.size + cs2.length)).toArray te (0, 0))]) (w.setRow b (cells.toList.take (l.length * info.size) ++ cs2 ++ cells.toList.drop (l.length * info.size + cs2.length)).toArray) :=
       qT.set hr rfl rfl rfl (by simp) (hk _) (fun x hx => by simp only [List.mem_singleton] at hx; subst hx; exact .inl (by simp))
      refine .inr ⟨b, _, rfl, rfl, by simpa using hroom, h4, ?_, ?_⟩
      ·simp only [List.size_toArray, List.length_append, List.length_take, List.length_drop, Array.length_toList]
       rw [← h5]; omega
      ·have hsz : (l ++ m).length * e.n = (cells.toList.take (l.length * info.size) ++ cs2).length := by
        rw [List.length_append, List.length_append, hsize, hlo, hl2, hsize, Nat.add_mul]
       have : (cells.toList.take (l.length * info.size) ++ cs2 ++ cells.toList.drop (l.length * info.size + cs2.length)).toArray.toList.take ((l ++ m).length * e.n) = cells.toList.take (l.length * e.n) ++ cs2 := by
        rw [hsz]; show List.take _ (cells.toList.take (l.length * info.size) ++ cs2 ++ _) = _; rw [List.take_left, hsize]
       rw [this]
       exact e.rdL_append (e.rdL_step (hE.step A) h6) (e.rdL_step (hE.step A) hcs2)
    ·
     have holds : ∀ j u, (cells.toList.take (l.length * e.n))[j]? = some u → w.cell? ((⟨b, 0, none⟩ : Addr).add j) = some u := fun j u hu => by
      rw [zDm, cell_of_row w b (0 + j) cells te (0, 0) hb, Nat.zero_add]
      rw [List.getElem?_take] at hu
      split at hu
      ·simpa using hu
      ·cases hu
     have hrun := run_append_grow (P := P) w t rty te info zv hu hi hz ⟨b, 0, none⟩ l.length c _ hlo holds ⟨b2, off, none⟩ m.length k cs2 hl2 hnews (by omega) h63 (growslice_fits (by omega) hbytes)
     have hge := grownCap_ge w (l.length + m.length) c te
     have hcm := grownCap_le_maxLen w (l.length + m.length) c te (by simp only [maxLen]; omega)
     refine ⟨[(w.heap.size, .cells ((cells.toList.take (l.length * e.n)).toArray ++ cs2.toArray ++ Builtin.zeroCells zv.cells (grownCap w (l.length + m.length) c te - (l.length + m.length))) te (0, 0))], _, _, _, by rw [List.length_append]; exact hrun, ?_, ?_, ?_⟩
     ·exact hO.set hr (by simp) (fun k hk _ => Below.heap_alloc w.drew _ k hk) (fun x hx => by simp only [List.mem_singleton] at hx; subst hx; exact heap_alloc_new w.drew _) (by simp) (fun x hx => by simp only [List.mem_singleton] at hx; subst hx; exact .inr (Nat.le_refl _))
     ·exact qT.set hr rfl rfl rfl (by simp) (fun k hk _ => Below.heap_alloc w.drew _ k hk) (fun x hx => by simp only [List.mem_singleton] at hx; subst hx; exact .inr (Nat.le_refl _))
     ·have hE : qT qd Ls w (Ls.set i [(w.heap.size, .cells ((cells.toList.take (l.length * e.n)).toArray ++ cs2.toArray ++ Builtin.zeroCells zv.cells (grownCap w (l.length + m.length) c te - (l.length + m.length))) te (0, 0))]) (w.drew.alloc (.cells ((cells.toList.take (l.length * e.n)).toArray ++ cs2.toArray ++ Builtin.zeroCells zv.cells (grownCap w (l.length + m.length) c te - (l.length + m.length))) te)) :=
       qT.set hr rfl rfl rfl (by simp) (fun k hk _ => Below.heap_alloc w.drew _ k hk) (fun x hx => by simp only [List.mem_singleton] at hx; subst hx; exact .inr (Nat.le_refl _))
      refine .inr ⟨w.heap.size, _, rfl, rfl, by simpa using hge, hcm, ?_, ?_⟩
      ·simp only [Array.size_append, List.size_toArray, size_zeroCells, hzs, hlo, hl2, hsize, ← Nat.add_mul]
       congr 1; omega
      ·have hsz : (l ++ m).length * e.n = (cells.toList.take (l.length * e.n) ++ cs2).length := by
        rw [List.length_append, List.length_append, hlo, hl2, hsize, Nat.add_mul]
       have : ((cells.toList.take (l.length * e.n)).toArray ++ cs2.toArray ++ Builtin.zeroCells zv.cells (grownCap w (l.length + m.length) c te - (l.length + m.length))).toList.take ((l ++ m).length * e.n) = cells.toList.take (l.length * e.n) ++ cs2 := by
        rw [hsz]; simp only [Array.toList_append]; exact List.take_left
       rw [this]
       exact e.rdL_append (e.rdL_step (hE.step A) h6) (e.rdL_step (hE.step A) hcs2)
theorem zYI (i : Nat) {τ : Type} {e : E τ} {t : TypeId} (te : TypeId) {r : zW} {p q : Option Addr} {c k : Nat} {l m z : List τ} {x y : Operand} (hS : wH a n S) (hd : Nat.blt d n = true) (hg : wB ops S g = some true) (hO : wC A w Ls) (hr : Ls[i]? = some r)
  (hA : yL e te (bl Ls ++ A) w r p c l) (hR : Src e (bl Ls ++ A) w q m) (hx : qE S x = some (.slice p l.length c)) (hy : qE S y = some (.slice q m.length k)) (ht : xQ P t te e.n = true) (hm : wE l m = some z)
  (kk : ∀ r' p' c' w', wC A w' (Ls.set i r') → qT qd Ls w (Ls.set i r') w' → yL e te (bl (Ls.set i r') ++ A) w' r' p' c' z → ∀ a', wH a' n ((d, .slice p' z.length c') :: S) → K a' w') :
  vW P ops Q ⟨some d, .call { callee := .builtin .append, args := [x, y].toArray, argTypes := [t, t].toArray }, ty, pos, af, g⟩ K a w := by
 obtain ⟨r', p', c', w', hrun, h1, h2, h3⟩ := zVI (P := P) (k := k) hO hr hA hR ht hm ty
 refine tZ hS hd hg (v := .slice p' z.length c') (w' := w') ?_ (kk r' p' c' w' h1 h2 h3)
 simp [execOp, resolve, invoke, builtin, hS.eval hx, hS.eval hy, hrun]
def zOM (P : Program) (S : List (Nat × Value)) (t m : Nat) (parts : List (Nat × Operand)) : Option (List Value) :=
 match P.underlying t with
 | some (.slice e) => match P.info? e with
  | some i => match i.zero, zSj S parts with
   | some z, some vs => if Nat.ble (m * i.size) 16777216 then (Instr.fill (fun j => some (j * i.size, i.size)) (if m * i.size = 0 then #[] else (Array.range (m * i.size)).map (z.cells[· % z.cells.size]!)) vs).map Array.toList else none
   | _, _ => none
  | none => none
 | _ => none
theorem zNA {t m te nn : Nat} {parts : Array (Nat × Operand)} {cs : List Value} {w : World} (hS : wH a n S) (ht : xQ P t te nn = true) (h : zOM P S t m parts.toList = some cs) {d : Option Tmp} :
  (execOp a.eval ⟨d, .buildSlice t m parts, ty, pos, af, g⟩).run P w = .ok (.value (.slice (some ⟨w.heap.size, 0, none⟩) m m)) (w.alloc (.cells cs.toArray te)) := by
 obtain ⟨hu, info, zv, hi, hz, hsize, hby, hpos, hzs⟩ := zMD ht
 unfold zOM at h
 simp only [hu, hi, hz] at h
 split at h
 ·rename_i z' vs hz' hvs
  simp only [Option.some.injEq] at hz'
  subst hz'
  split at h
  ·rename_i hle
   have hle' : m * info.size ≤ 16777216 := Nat.le_of_ble_eq_true hle
   simp only [Option.map_eq_some_iff] at h
   obtain ⟨cells, hf, rfl⟩ := h
   have h2 := hS.parts hvs
   have hnle : ¬ (m * info.size > 2 ^ 24) := by omega
   have hzr : (zeroValue te).run P w = .ok zv w := zPo (by simp [zKF, hi, hz]) w
   have hsr : (sizeOf te).run P w = .ok info.size w := by simp [sizeOf, typeInfo, hi]
   have hr0 : Array.range 0 = #[] := rfl
   simp only [execOp, Instr.buildSlice, Array.toList_map, h2]
   by_cases h0 : m * info.size = 0
   ·simp only [h0, if_true] at hf
    simp [run_underlying hu, hsr, h0, hr0, hf, newRow]
   ·rw [if_neg h0] at hf
    have h0' : ¬ (m = 0 ∨ info.size = 0) := fun h => h0 (by rcases h with h | h <;> simp [h])
    simp only [Sem.run_bind, run_underlying hu, Result.andThen_ok, hsr, if_neg hnle, if_neg h0, Sem.run_pure, hzr]
    rw [hf]
    simp [newRow]
  ·cases h
 ·cases h
theorem rd_new {τ : Type} {e : E τ} {cs : List Value} {l : List τ} {te : TypeId} (hO : wC A w Ls) (hrd : e.rdL (bl Ls ++ A) w cs l) : xF e (bl Ls ++ A) (w.alloc (.cells cs.toArray te)) (some ⟨w.heap.size, 0, none⟩) l.length l := by
 refine ⟨Nat.le_refl _, .inr ⟨w.heap.size, 0, cs, rfl, fun hm => ?_, by simp, ?_, fun j u hu => ?_⟩⟩
 ·rcases List.mem_append.1 hm with h | h
  ·exact Nat.lt_irrefl _ (hO.lt h)
  ·exact Nat.lt_irrefl _ (hO.old _ h)
 ·exact e.rdL_step ⟨by simp, fun k hk hn => ⟨hn, Below.heap_alloc w _ k hk⟩⟩ hrd
 ·rw [cell_of_row (w.alloc (.cells cs.toArray te)) w.heap.size (0 + j) cs.toArray te (0, 0) (heap_alloc_new w _), Nat.zero_add]
  simpa using hu
theorem z4S {τ : Type} {e : E τ} {t m te : Nat} {parts : List (Nat × Operand)} (cs : List Value) (l : List τ) (hS : wH a n S) (hd : Nat.blt d n = true) (hg : wB ops S g = some true) (hO : wC A w Ls)
  (ht : xQ P t te e.n = true) (hc : zOM P S t m parts = some cs) (hrd : e.rdL (bl Ls ++ A) w cs l) (hl : l.length = m)
  (k : ∀ p c w', wC A w' Ls → qT qd Ls w Ls w' → xF e (bl Ls ++ A) w' p c l → ∀ a', wH a' n ((d, .slice p l.length c) :: S) → K a' w') :
  vW P ops Q ⟨some d, .buildSlice t m parts.toArray, ty, pos, af, g⟩ K a w := by
 subst hl
 refine tZ hS hd hg (zNA hS ht (by simpa using hc)) (k _ _ _ ?_ ?_ (rd_new hO hrd))
 ·exact ⟨fun b hb => by have := hO.old b hb; simp; omega, fun r hr p hp => by rw [Below.heap_alloc w _ p.1 (Array.getElem?_eq_some_iff.1 (hO.has r hr p hp)).1]; exact hO.has r hr p hp, hO.nodup, hO.apart⟩
 ·exact ⟨rfl, rfl, rfl, fun _ => Nat.le_refl _, by simp, fun k hk _ => Below.heap_alloc w _ k hk, fun b hb => .inl hb⟩
theorem z2i {τ : Type} {e : E τ} {t m : Nat} (te : Nat) {parts : List (Nat × Operand)} (cs : List Value) (l : List τ) (hS : wH a n S) (hd : Nat.blt d n = true) (hg : wB ops S g = some true) (hO : wC A w Ls)
  (ht : xQ P t te e.n = true) (hc : zOM P S t m parts = some cs) (hrd : e.rdL (bl Ls ++ A) w cs l) (hl : l.length = m) (hm : Nat.ble m 16777216 = true)
  (k : ∀ r p c w', wC A w' (Ls ++ [r]) → qT qd Ls w (Ls ++ [r]) w' → yL e te (bl (Ls ++ [r]) ++ A) w' r p c l → ∀ a', wH a' n ((d, .slice p l.length c) :: S) → K a' w') :
  vW P ops Q ⟨some d, .buildSlice t m parts.toArray, ty, pos, af, g⟩ K a w := by
 subst hl
 have hle : l.length ≤ 16777216 := Nat.le_of_ble_eq_true hm
 have hE := qT.alloc (qd := qd) (w := w) (w' := w.alloc (.cells cs.toArray te)) Ls (.cells cs.toArray te) rfl rfl rfl rfl
 refine tZ hS hd hg (zNA hS ht (by simpa using hc)) (k _ _ _ _ (hO.alloc _ rfl) hE (.inr ⟨w.heap.size, cs.toArray, rfl, rfl, Nat.le_refl _, by simp only [maxLen]; omega, by simp [e.rdL_len hrd], ?_⟩))
 have : cs.toArray.toList.take (l.length * e.n) = cs := by rw [← e.rdL_len hrd]; simp
 rw [this]
 exact e.rdL_step (hE.step A) hrd
theorem z2x {τ : Type} {e : E τ} {Z : List Nat} {p : Option Addr} {c : Nat} {l z : List τ} {i j : Int} {x : Operand} {lo hi : Option Operand} {vlo vhi : Option Value} {t : TypeId} {d : Option Tmp} (hS : wH a n S) (hR : xF e Z w p c l)
  (hx : qE S x = some (.slice p l.length c)) (ht : yV P t = some e.n) (hlo : zWJ S lo = some vlo) (hhi : zWJ S hi = some vhi) (b1 : Bd vlo i 0) (b2 : Bd vhi j l.length) (hm : sub l i j = some z) :
  ∃ p' c', (∀ w', (execOp a.eval ⟨d, .slice t x lo hi none, ty, pos, af, g⟩).run P w' = .ok (.value (.slice p' z.length c')) w') ∧ xF e Z w p' c' z := by
 unfold sub at hm
 split at hm
 ·rename_i h0
  simp only [Option.some.injEq] at hm
  obtain ⟨h1, h2, h3⟩ := h0
  subst hm
  have hzl : ((l.take j.toNat).drop i.toNat).length = j.toNat - i.toNat := by simp; omega
  unfold yV at ht
  split at ht
  ·rename_i te hu
   cases hq : P.info? te with
   | none => simp [hq] at ht
   | some info =>
    have hs : info.size = e.n := by simpa [hq] using ht
    refine ⟨if c = i.toNat then p else p.map (·.add (i.toNat * e.n)), c - i.toNat, fun w' => ?_, ?_⟩
    ·have hb := zNd (P := P) (w := w') (b := true) (m := l.length) (c := c) b1 b2 h1 h2 (by have := hR.1; omega)
     simp [execOp, hS.eval hx, hS.evalO hlo, hS.evalO hhi, Instr.sliceAt, Instr.slice, run_underlying hu, hb, sizeOf, typeInfo, hq, hs, hzl]
    ·refine ⟨by rw [hzl]; have := hR.1; omega, ?_⟩
     by_cases he : (l.take j.toNat).drop i.toNat = []
     ·exact .inl he
     ·rcases hR.2 with rfl | ⟨b, off, cs, rfl, hb, hlt, hl, hcell⟩
      ·exact .inl (by simp)
      ·have hne : ¬ c = i.toNat := fun hci => he (List.eq_nil_of_length_eq_zero (by rw [hzl]; have := hR.1; omega))
       refine .inr ⟨b, off + i.toNat * e.n, (cs.take (j.toNat * e.n)).drop (i.toNat * e.n), by simp [hne, zDm], hb, hlt, e.rdL_drop _ (e.rdL_take _ hl), fun k u hu => ?_⟩
       rw [List.getElem?_drop, List.getElem?_take] at hu
       split at hu
       ·rw [Nat.add_assoc]; exact hcell _ u hu
       ·cases hu
  ·cases ht
 ·cases hm
theorem zVh (F : Value → ByteArray → Sem (ForInStep ByteArray)) (hF : ∀ n s, F (.int .u8 n) s = pure (.yield (s.push (UInt8.ofNat n.toNat)))) : ∀ (l : List Int) (cs : List Value) (Z : List Nat) (w w' : World) (s : ByteArray), (zK .u8).rdL Z w cs l →
  (forIn cs s F : Sem ByteArray).run P w' = .ok ⟨(s.data.toList ++ zTJ l).toArray⟩ w'
 | [], cs, Z, w, w', s, h => by
  simp only [E.rdL] at h
  subst h
  simp [zTJ]
 | x :: l, cs, Z, w, w', s, h => by
  obtain ⟨c1, c2, rfl, h1, h2⟩ := h
  simp only [zK] at h1
  subst h1
  have ih := zVh F hF l c2 Z w w' (s.push (UInt8.ofNat x.toNat)) h2
  simp only [List.cons_append, List.nil_append, List.forIn_cons, hF, Sem.run_bind, Sem.run_pure, Result.andThen_ok]
  rw [ih]
  simp [zTJ, ByteArray.push]
end
end Go.GD
