/- Part of the proof. Conditions: none. -/
import Derived.Test.YtkjadnjfmdgngaaGreatDoorHeap
import Derived.Laws.OwnMore
import Derived.Laws.Concat
namespace Go.GD
open Go Go.RowKit
set_option autoImplicit false
variable {qd : Prop}
def tY : Bool → List Value → Option Value
 | true, cs => some (.agg cs.toArray)
 | false, [v] => some v
 | false, _ => none
section
variable {P : Program} {w : World}
theorem zCV (b o j : Nat) : (⟨b, o, none⟩ : Addr).add j = ⟨b, o + j, none⟩ := by unfold Addr.add; split <;> simp_all
theorem zDa {t : TypeId} {b o : Nat} {ag : Bool} {cs : List Value} {v : Value} (hs : xB P t = some (ag, cs.length)) (hc : ∀ j u, cs[j]? = some u → w.cell? ⟨b, o + j, none⟩ = some u)
  (hv : tY ag cs = some v) : (loadVar t ⟨b, o, none⟩).run P w = .ok v w := by
 obtain ⟨h1, h2⟩ := zIi (w := w) hs
 cases ag with
 | true =>
  simp only [tY, Option.some.injEq] at hv
  subst hv
  have := run_loadCells_list (P := P) w ⟨b, o, none⟩ cs (fun j u hu => by rw [zCV]; exact hc j u hu)
  simp [loadVar, h1, h2, this]
 | false =>
  match cs, hv with
  | [u], hv =>
   simp only [tY, Option.some.injEq] at hv
   subst hv
   have := hc 0 u rfl
   simp only [Nat.add_zero] at this
   simp [loadVar, h1, run_load, this]
def zWe (c : Array Value) (o n : Nat) : List Value := (c.toList.drop o).take n
def xZ (c : Array Value) (o : Nat) (v : List Value) : Array Value := (c.toList.take o ++ v ++ c.toList.drop (o + v.length)).toArray
theorem zXt {c : Array Value} {o n j : Nat} {u : Value} (h : (zWe c o n)[j]? = some u) : c[o + j]? = some u := by
 unfold zWe at h
 rw [List.getElem?_take] at h
 split at h
 ·rw [List.getElem?_drop] at h; simpa using h
 ·cases h
def zMH (P : Program) (t : TypeId) (c : Array Value) (o : Nat) : Option Value :=
 match xB P t with
 | none => none
 | some (ag, n) => if Nat.ble (o + n) c.size then tY ag (zWe c o n) else none
theorem zL8 {t : TypeId} {b o : Nat} {c : Array Value} {te : TypeId} {fr : Nat × Nat} {v : Value} (hg : w.heap[b]? = some (.cells c te fr)) (hv : zMH P t c o = some v) :
  (loadVar t ⟨b, o, none⟩).run P w = .ok v w := by
 unfold zMH at hv
 split at hv
 ·cases hv
 ·rename_i ag n hs
  split at hv
  ·rename_i hle
   have hle' : o + n ≤ c.size := Nat.le_of_ble_eq_true hle
   have hlen : (zWe c o n).length = n := by simp [zWe]; omega
   exact zDa (cs := zWe c o n) (by rw [hlen]; exact hs) (fun j u hu => by rw [cell_of_row w b (o + j) c te fr hg]; exact zXt hu) hv
  ·cases hv
def zLD (P : Program) (t : TypeId) (c : Array Value) (o : Nat) (v : Value) : Bool :=
 match xB P t with
 | none => false
 | some (_, n) => v.cells.size == n && Nat.ble (o + n) c.size && v.cells.toList.all (fun x => x.oneCell')
theorem zNX {t : TypeId} {b o : Nat} {c : Array Value} {te : TypeId} {v : Value} (hg : w.heap[b]? = some (.cells c te (0, 0))) (hv : zLD P t c o v = true) :
  (storeVar t ⟨b, o, none⟩ v).run P w = .ok () (w.setRow b (xZ c o v.cells.toList)) := by
 unfold zLD at hv
 split at hv
 ·cases hv
 ·rename_i ag n hs
  simp only [Bool.and_eq_true, beq_iff_eq, List.all_eq_true] at hv
  obtain ⟨⟨h1, h2⟩, h3⟩ := hv
  have h2' : o + n ≤ c.size := Nat.le_of_ble_eq_true h2
  obtain ⟨k1, k2⟩ := zIi (w := w) hs
  have hst := run_storeCells_at P b o te v.cells.toList 0 c w hg (by simp; omega) h3
  simp only [Nat.add_zero] at hst
  simp [storeVar, k2, h1, hst, xZ]
end
section
variable {P : Program} {ops : Array Oper} {Q : Exit → Act → World → Prop} {a : Act} {n : Nat} {S : List (Nat × Value)} {w : World} {K : Act → World → Prop}
variable {A : List Nat} {Ls : List qB} {d : Nat} {ty : TypeId} {pos : String} {af : Array Edge} {g : Option (Nat × Bool)}
theorem tW (hO : Own A w Ls) {i : Nat} {r : qB} (hr : Ls[i]? = some r) {p : Nat × Obj} (hp : p ∈ r) : w.heap[p.1]? = some p.2 :=
 hO.has r (List.mem_iff_getElem?.2 ⟨i, hr⟩) p hp
theorem zTL (i : Nat) {x : Operand} {t b o : Nat} {c : Array Value} {te : TypeId} {fr : Nat × Nat} {v : Value} (hS : wK a n S) (hd : Nat.blt d n = true) (hg : wE ops S g = some true) (hO : Own A w Ls)
  (hx : qJ S x = some (.pointer (some ⟨b, o, none⟩))) (hr : Ls[i]? = some [(b, .cells c te fr)]) (hv : zMH P t c o = some v)
  (k : ∀ a', wK a' n ((d, v) :: S) → K a' w) : vO P ops Q ⟨some d, .load t x, ty, pos, af, g⟩ K a w :=
 tF hS hd hg (by simp [execOp, hS.eval hx, Instr.loadAt, Instr.sureAddr, zL8 (tW hO hr (List.mem_singleton.2 rfl)) hv]) k
theorem zR2 (i : Nat) {x y : Operand} {t b o : Nat} {c : Array Value} {te : TypeId} {v : Value} (hS : wK a n S) (hg : wE ops S g = some true) (hO : Own A w Ls)
  (hx : qJ S x = some (.pointer (some ⟨b, o, none⟩))) (hy : qJ S y = some v) (hr : Ls[i]? = some [(b, .cells c te (0, 0))]) (hv : zLD P t c o v = true)
  (k : ∀ w', Own A w' (Ls.set i [(b, .cells (xZ c o v.cells.toList) te (0, 0))]) → qY qd Ls w (Ls.set i [(b, .cells (xZ c o v.cells.toList) te (0, 0))]) w' → ∀ a', wK a' n S → K a' w') :
  vO P ops Q ⟨none, .store t x y, ty, pos, af, g⟩ K a w := by
 have hb := tW hO hr (List.mem_singleton.2 rfl)
 refine zWn hS hg (w' := w.setRow b (xZ c o v.cells.toList)) (by simp [execOp, hS.eval hx, hS.eval hy, Instr.storeAt, Instr.sureAddr, zNX hb hv]) (k _ ?_ ?_)
 ·refine hO.set hr (by simp) (fun k _ hk => setRow_other w b k _ (fun e => hk (by simp [e]))) (fun p hp => ?_) (by simp) (fun p hp => .inl ?_)
  ·simp only [List.mem_singleton] at hp; subst hp; exact setRow_heap w b c _ te (0, 0) hb
  ·simp only [List.mem_singleton] at hp; subst hp; simp
 ·refine qY.set hr rfl rfl rfl (by simp) (fun k _ hk => setRow_other w b k _ (fun e => hk (by simp [e]))) (fun p hp => .inl ?_)
  simp only [List.mem_singleton] at hp; subst hp; simp
theorem zYZ {op : Op} {v : Nat → Value} {o : Obj} (hS : wK a n S) (hd : Nat.blt d n = true) (hg : wE ops S g = some true) (hO : Own A w Ls)
  (hr : (execOp a.eval ⟨some d, op, ty, pos, af, g⟩).run P w = .ok (.value (v w.heap.size)) (w.alloc o))
  (k : ∀ b w', Own A w' (Ls ++ [[(b, o)]]) → qY qd Ls w (Ls ++ [[(b, o)]]) w' → ∀ a', wK a' n ((d, v b) :: S) → K a' w') :
  vO P ops Q ⟨some d, op, ty, pos, af, g⟩ K a w :=
 tF hS hd hg hr (k _ _ (hO.alloc o rfl) (qY.alloc Ls o rfl rfl rfl rfl))
theorem op_box {x : Operand} {t : TypeId} {v : Value} (hS : wK a n S) (hd : Nat.blt d n = true) (hg : wE ops S g = some true) (hO : Own A w Ls) (hx : qJ S x = some v)
  (k : ∀ b w', Own A w' (Ls ++ [[(b, .cells v.cells t (0, 0))]]) → qY qd Ls w (Ls ++ [[(b, .cells v.cells t (0, 0))]]) w' → ∀ a', wK a' n ((d, .pointer (some ⟨b, 0, none⟩)) :: S) → K a' w') :
  vO P ops Q ⟨some d, .box t x, ty, pos, af, g⟩ K a w :=
 zYZ (v := fun b => .pointer (some ⟨b, 0, none⟩)) hS hd hg hO (by simp [execOp, hS.eval hx, Instr.box, newVar, newRow]) k
theorem zXa {t : TypeId} {z : Value} (hS : wK a n S) (hd : Nat.blt d n = true) (hg : wE ops S g = some true) (hO : Own A w Ls) (hz : zHc P t = some z)
  (k : ∀ b w', Own A w' (Ls ++ [[(b, .cells z.cells t (0, 0))]]) → qY qd Ls w (Ls ++ [[(b, .cells z.cells t (0, 0))]]) w' → ∀ a', wK a' n ((d, .pointer (some ⟨b, 0, none⟩)) :: S) → K a' w') :
  vO P ops Q ⟨some d, .alloc t, ty, pos, af, g⟩ K a w :=
 zYZ (v := fun b => .pointer (some ⟨b, 0, none⟩)) hS hd hg hO (by simp [execOp, Instr.alloc, zLi hz, newVar, newRow]) k
def zU2 (P : Program) (S : List (Nat × Value)) (w : World) : List ResultVar → List Value → Prop
 | [], vs => vs = []
 | .tmp t :: r, vs => ∃ v us, vs = v :: us ∧ yI S t = some v ∧ zU2 P S w r us
 | .cell t ty :: r, vs => ∃ v us b c te fr, vs = v :: us ∧ yI S t = some (.pointer (some ⟨b, 0, none⟩)) ∧ w.heap[b]? = some (.cells c te fr) ∧ zMH P ty c 0 = some v ∧ zU2 P S w r us
theorem resN : zU2 P S w [] [] := rfl
theorem resT {t : Nat} {v : Value} {r : List ResultVar} {vs : List Value} (h : yI S t = some v) (k : zU2 P S w r vs) : zU2 P S w (.tmp t :: r) (v :: vs) := ⟨v, vs, rfl, h, k⟩
theorem resC {t ty b : Nat} {v : Value} {c : Array Value} {te : TypeId} {fr : Nat × Nat} {r : List ResultVar} {vs : List Value} (hO : Own A w Ls) (i : Nat) (h : yI S t = some (.pointer (some ⟨b, 0, none⟩))) (hr : Ls[i]? = some [(b, .cells c te fr)])
  (hl : zMH P ty c 0 = some v) (k : zU2 P S w r vs) : zU2 P S w (.cell t ty :: r) (v :: vs) := ⟨v, vs, b, c, te, fr, rfl, h, tW hO hr (List.mem_singleton.2 rfl), hl, k⟩
theorem zRE (F : ResultVar → Sem Value) (f1 : ∀ t, F (.tmp t) = pure (a.tmps.getD t undef)) (f2 : ∀ x t, F (.cell x t) = (asAddr (a.tmps.getD x undef) >>= fun p => loadVar t p)) (hS : wK a n S) :
  ∀ {rs : List ResultVar} {vs : List Value}, zU2 P S w rs vs → (rs.mapM F).run P w = .ok vs w
 | [], vs, h => by simp only [zU2] at h; subst h; simp
 | .tmp t :: r, vs, h => by
  obtain ⟨v, us, rfl, h1, h2⟩ := h
  have ih := zRE F f1 f2 hS h2
  rw [List.mapM_cons, f1]
  simp only [Sem.run_bind, Sem.run_pure, Result.andThen_ok, hS.getD h1]
  rw [ih]
  rfl
 | .cell t ty :: r, vs, h => by
  obtain ⟨v, us, b, c, te, fr, rfl, h1, h2, h3, h4⟩ := h
  have ih := zRE F f1 f2 hS h4
  have ha : (asAddr (a.tmps.getD t undef)).run P w = .ok ⟨b, 0, none⟩ w := by rw [hS.getD h1]; rfl
  rw [List.mapM_cons, f2]
  simp only [Sem.run_bind, Sem.run_pure, ha, Result.andThen_ok, zL8 h2 h3]
  rw [ih]
  rfl
theorem ret_g {fn : Func} {rs : List ResultVar} {vs : List Value} {R : Value → World → Prop} (hS : wK a n S) (hf : fn.results = rs.toArray) (h : zU2 P S w rs vs)
  (hR : R (if h : vs.length = 1 then vs[0] else .tuple vs.toArray) w) : bodyPost P fn (Ret R) .ret a w := by
 refine ⟨hS.defers, _, ?_, hR⟩
 simp only [results, hf, Sem.run_bind, List.mapM_toArray, Sem.run_map]
 rw [zRE _ (fun _ => rfl) (fun _ _ => rfl) hS h]
 by_cases hl : vs.length = 1 <;> simp [hl]
def yL (P : Program) (t : TypeId) : Option Nat :=
 match P.underlying t with
 | some (.slice e) => (P.info? e).map (·.size)
 | _ => none
theorem zIx {t k : Nat} {b off m c : Nat} {i : Int} (h : yL P t = some k) (h0 : 0 ≤ i) (h1 : i < m) (kd : IntKind) :
  (Instr.indexAt t (.slice (some ⟨b, off, none⟩) m c) (.int kd i)).run P w = .ok (.pointer (some ⟨b, off + i.toNat * k, none⟩)) w := by
 unfold yL at h
 split at h
 ·rename_i e hu
  cases hq : P.info? e with
  | none => simp [hq] at h
  | some inf =>
   have hs : inf.size = k := by simpa [hq] using h
   simp [Instr.indexAt, asIntOf, run_underlying hu, h0, h1, sizeOf, typeInfo, hq, hs, zCV]
 ·cases h
theorem zTg {τ : Type} {e : E τ} {Z : List Nat} {p : Option Addr} {c : Nat} {l : List τ} {i : Int} {v : τ} {t : TypeId} {x y : Operand} {kd : IntKind}
  (hS : wK a n S) (hd : Nat.blt d n = true) (hg : wE ops S g = some true) (hR : uO e Z w p c l) (hx : qJ S x = some (.slice p l.length c)) (hy : qJ S y = some (.int kd i)) (ht : yL P t = some e.n) (hm : zH l i = some v)
  (k : ∀ b o, zQt e Z w ⟨b, o, none⟩ v → ∀ a', wK a' n ((d, .pointer (some ⟨b, o, none⟩)) :: S) → K a' w) :
  vO P ops Q ⟨some d, .indexAddr t x y, ty, pos, af, g⟩ K a w := by
 unfold zH at hm
 split at hm
 ·rename_i h0
  obtain ⟨hlt, hv⟩ := List.getElem?_eq_some_iff.1 hm
  rcases hR.2 with rfl | ⟨b, off, cs, rfl, hb, hbl, hl, hc⟩
  ·simp at hlt
  ·obtain ⟨ci, h1, h2⟩ := e.rdL_get hl hm
   refine tF hS hd hg (v := .pointer (some ⟨b, off + i.toNat * e.n, none⟩)) (w' := w) ?_ (k b _ ⟨b, _, ci, rfl, hb, hbl, h1, fun j u hu => ?_⟩)
   ·simp [execOp, hS.eval hx, hS.eval hy, zIx (m := l.length) ht h0 (by omega)]
   ·rw [Nat.add_assoc]; exact hc _ u (h2 j u hu)
 ·cases hm
theorem zUy {τ : Type} {e : E τ} {Z : List Nat} {b o : Nat} {y : τ} {t : TypeId} {x : Operand} (ag : Bool)
  (hS : wK a n S) (hd : Nat.blt d n = true) (hg : wE ops S g = some true) (hP : zQt e Z w ⟨b, o, none⟩ y) (hx : qJ S x = some (.pointer (some ⟨b, o, none⟩))) (ht : xB P t = some (ag, e.n))
  (k : ∀ ci, e.rd Z w ci y → ∀ v, tY ag ci = some v → ∀ a', wK a' n ((d, v) :: S) → K a' w) (hag : ag = true ∨ e.n = 1) :
  vO P ops Q ⟨some d, .load t x, ty, pos, af, g⟩ K a w := by
 obtain ⟨b', o', ci, he, hb, hbl, h1, h2⟩ := hP
 cases he
 have hl := e.len h1
 have hv : ∃ v, tY ag ci = some v := by
  rcases hag with rfl | hn
  ·exact ⟨_, rfl⟩
  ·cases ag with
   | true => exact ⟨_, rfl⟩
   | false => match ci, hl.trans hn with | [u], _ => exact ⟨u, rfl⟩
 obtain ⟨v, hv⟩ := hv
 refine tF hS hd hg (v := v) (w' := w) ?_ (k ci h1 v hv)
 simp [execOp, hS.eval hx, Instr.loadAt, Instr.sureAddr, zDa (cs := ci) (by rw [hl]; exact ht) h2 hv]
theorem ba_get {s : wZ} {k : Nat} {u : UInt8} (h : s[k]? = some u) : (ByteArray.mk s.toArray)[k]? = some u := by
 obtain ⟨hlt, hv⟩ := List.getElem?_eq_some_iff.1 h
 have hsz : k < (ByteArray.mk s.toArray).size := by simpa [ByteArray.size] using hlt
 rw [getElem?_pos (ByteArray.mk s.toArray) k hsz]
 show some ((s.toArray)[k]'(by simpa using hlt)) = some u
 simp [hv]
theorem zJy {x y : Operand} {t : TypeId} {s : wZ} {i b : Int} {kd : IntKind} {d : Option Tmp} (hS : wK a n S) (hx : qJ S x = some (vs s)) (hy : qJ S y = some (.int kd i)) (hu : P.underlying t = some .string) (hm : zRN s i = some b) (w : World) :
  (execOp a.eval ⟨d, .index t x y, ty, pos, af, g⟩).run P w = .ok (.value (.int .u8 b)) w := by
 unfold zRN at hm
 split at hm
 ·rename_i h0
  cases hs : s[i.toNat]? with
  | none => simp [hs] at hm
  | some u =>
   simp only [hs, Option.map_some, Option.some.injEq] at hm
   subst hm
   have hb : (ByteArray.mk s.toArray)[i.toNat]? = some u := ba_get hs
   simp [execOp, hS.eval hx, hS.eval hy, Instr.index, asIntOf, run_underlying hu, h0, hb]
 ·cases hm
theorem r_cat {x y : Operand} {t u : TypeId} {p q r : wZ} {d : Option Tmp} (hS : wK a n S) (hx : qJ S x = some (vs p)) (hy : qJ S y = some (vs q)) (hm : cat p q = some r) (w : World) :
  (execOp a.eval ⟨d, .binOp .add t x y u, ty, pos, af, g⟩).run P w = .ok (.value (vs r)) w := by
 unfold cat at hm
 split at hm
 ·rename_i h0
  simp only [Option.some.injEq] at hm
  subst hm
  have hsz : ¬ (IntKind.i64.max < (((ByteArray.mk p.toArray).size + (ByteArray.mk q.toArray).size : Nat) : Int)) := by
   have : IntKind.i64.max = 9223372036854775807 := rfl
   simp only [this, ByteArray.size, List.size_toArray]
   omega
  have happ : (ByteArray.mk p.toArray) ++ (ByteArray.mk q.toArray) = ByteArray.mk (p ++ q).toArray := by
   apply ByteArray.ext
   simp [ByteArray.data_append]
  have hrun : (binOp .add t (vs p) (vs q)).run P w = .ok (vs (p ++ q)) w := by
   simp only [binOp, Op.stringOp, vs]
   rw [if_neg hsz, happ]
   rfl
  simp [execOp, hS.eval hx, hS.eval hy, zMy, hrun]
 ·cases hm
def Bd (v : Option Value) (i dflt : Int) : Prop := (v = none ∧ i = dflt) ∨ ∃ k, v = some (.int k i)
theorem zLn {b : Bool} {m c : Nat} {lo hi : Option Value} {i j : Int} (h1 : Bd lo i 0) (h2 : Bd hi j m) (h0 : 0 ≤ i) (hij : i ≤ j) (hj : j ≤ c) :
  (Instr.sliceBounds b m c lo hi none).run P w = .ok (i.toNat, j.toNat, c) w := by
 have h0j : 0 ≤ j := by omega
 rcases h1 with ⟨rfl, rfl⟩ | ⟨k1, rfl⟩ <;> rcases h2 with ⟨rfl, rfl⟩ | ⟨k2, rfl⟩ <;>
  simp [Instr.sliceBounds, Instr.sliceBound, asIntOf, h0, hj, h0j]
 ·omega
 ·omega
def zRb (S : List (Nat × Value)) : Option Operand → Option (Option Value)
 | none => some none
 | some x => (qJ S x).map some
theorem wK.evalO {a : Act} {n : Nat} {S : List (Nat × Value)} (h : wK a n S) {x : Option Operand} {v : Option Value} (hx : zRb S x = some v) : x.map a.eval = v := by
 cases x with
 | none => simpa [zRb] using hx
 | some x =>
  simp only [zRb, Option.map_eq_some_iff] at hx
  obtain ⟨u, hu, rfl⟩ := hx
  simp [h.eval hu]
end
end Go.GD
