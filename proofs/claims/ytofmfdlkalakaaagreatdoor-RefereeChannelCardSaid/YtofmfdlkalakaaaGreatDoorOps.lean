/- Steps for operations that read or write memory, or that can fail. Conditions: none. -/
import Derived.Test.YtofmfdlkalakaaaGreatDoorHeap
import Derived.Laws.OwnMore
import Derived.Laws.Concat
namespace Go.GD
open Go Go.RowKit
set_option autoImplicit false
variable {qd : Prop}

/-! ### Loads and stores -/

def mkV : Bool → List Value → Option Value
  | true, cs => some (.agg cs.toArray)
  | false, [v] => some v
  | false, _ => none

section
variable {P : Program} {w : World}

theorem add_plain (b o j : Nat) : (⟨b, o, none⟩ : Addr).add j = ⟨b, o + j, none⟩ := by unfold Addr.add; split <;> simp_all

theorem run_loadVar_cells {t : TypeId} {b o : Nat} {ag : Bool} {cs : List Value} {v : Value} (hs : shapeOf P t = some (ag, cs.length)) (hc : ∀ j u, cs[j]? = some u → w.cell? ⟨b, o + j, none⟩ = some u)
    (hv : mkV ag cs = some v) : (loadVar t ⟨b, o, none⟩).run P w = .ok v w := by
  obtain ⟨h1, h2⟩ := run_shape_agg (w := w) hs
  cases ag with
  | true =>
    simp only [mkV, Option.some.injEq] at hv
    subst hv
    have := run_loadCells_list (P := P) w ⟨b, o, none⟩ cs (fun j u hu => by rw [add_plain]; exact hc j u hu)
    simp [loadVar, h1, h2, this]
  | false =>
    match cs, hv with
    | [u], hv =>
      simp only [mkV, Option.some.injEq] at hv
      subst hv
      have := hc 0 u rfl
      simp only [Nat.add_zero] at this
      simp [loadVar, h1, run_load, this]

/-- n cells from o on -/
def getL (c : Array Value) (o n : Nat) : List Value := (c.toList.drop o).take n
def putL (c : Array Value) (o : Nat) (v : List Value) : Array Value := (c.toList.take o ++ v ++ c.toList.drop (o + v.length)).toArray

theorem getL_get {c : Array Value} {o n j : Nat} {u : Value} (h : (getL c o n)[j]? = some u) : c[o + j]? = some u := by
  unfold getL at h
  rw [List.getElem?_take] at h
  split at h
  · rw [List.getElem?_drop] at h; simpa using h
  · cases h

/-- the value of type t that lies in a row of cells -/
def loadR (P : Program) (t : TypeId) (c : Array Value) (o : Nat) : Option Value :=
  match shapeOf P t with
  | none => none
  | some (ag, n) => if Nat.ble (o + n) c.size then mkV ag (getL c o n) else none

theorem run_load_row {t : TypeId} {b o : Nat} {c : Array Value} {te : TypeId} {fr : Nat × Nat} {v : Value} (hg : w.heap[b]? = some (.cells c te fr)) (hv : loadR P t c o = some v) :
    (loadVar t ⟨b, o, none⟩).run P w = .ok v w := by
  unfold loadR at hv
  split at hv
  · cases hv
  · rename_i ag n hs
    split at hv
    · rename_i hle
      have hle' : o + n ≤ c.size := Nat.le_of_ble_eq_true hle
      have hlen : (getL c o n).length = n := by simp [getL]; omega
      exact run_loadVar_cells (cs := getL c o n) (by rw [hlen]; exact hs) (fun j u hu => by rw [cell_of_row w b (o + j) c te fr hg]; exact getL_get hu) hv
    · cases hv

def storeOk (P : Program) (t : TypeId) (c : Array Value) (o : Nat) (v : Value) : Bool :=
  match shapeOf P t with
  | none => false
  | some (_, n) => v.cells.size == n && Nat.ble (o + n) c.size && v.cells.toList.all (fun x => x.oneCell')

theorem run_store_row {t : TypeId} {b o : Nat} {c : Array Value} {te : TypeId} {v : Value} (hg : w.heap[b]? = some (.cells c te (0, 0))) (hv : storeOk P t c o v = true) :
    (storeVar t ⟨b, o, none⟩ v).run P w = .ok () (w.setRow b (putL c o v.cells.toList)) := by
  unfold storeOk at hv
  split at hv
  · cases hv
  · rename_i ag n hs
    simp only [Bool.and_eq_true, beq_iff_eq, List.all_eq_true] at hv
    obtain ⟨⟨h1, h2⟩, h3⟩ := hv
    have h2' : o + n ≤ c.size := Nat.le_of_ble_eq_true h2
    obtain ⟨k1, k2⟩ := run_shape_agg (w := w) hs
    have hst := run_storeCells_at P b o te v.cells.toList 0 c w hg (by simp; omega) h3
    simp only [Nat.add_zero] at hst
    simp [storeVar, k2, h1, hst, putL]

end

section
variable {P : Program} {ops : Array Oper} {Q : Exit → Act → World → Prop} {a : Act} {n : Nat} {S : List (Nat × Value)} {w : World} {K : Act → World → Prop}
variable {A : List Nat} {Ls : List Res} {d : Nat} {ty : TypeId} {pos : String} {af : Array Edge} {g : Option (Nat × Bool)}

theorem heap_of_own (hO : Own A w Ls) {i : Nat} {r : Res} (hr : Ls[i]? = some r) {p : Nat × Obj} (hp : p ∈ r) : w.heap[p.1]? = some p.2 :=
  hO.has r (List.mem_iff_getElem?.2 ⟨i, hr⟩) p hp

theorem op_load_own (i : Nat) {x : Operand} {t b o : Nat} {c : Array Value} {te : TypeId} {fr : Nat × Nat} {v : Value} (hS : Slots a n S) (hd : Nat.blt d n = true) (hg : wantedS ops S g = some true) (hO : Own A w Ls)
    (hx : opd S x = some (.pointer (some ⟨b, o, none⟩))) (hr : Ls[i]? = some [(b, .cells c te fr)]) (hv : loadR P t c o = some v)
    (k : ∀ a', Slots a' n ((d, v) :: S) → K a' w) : Stp P ops Q ⟨some d, .load t x, ty, pos, af, g⟩ K a w :=
  op_val hS hd hg (by simp [execOp, hS.eval hx, Instr.loadAt, Instr.sureAddr, run_load_row (heap_of_own hO hr (List.mem_singleton.2 rfl)) hv]) k

theorem op_store_own (i : Nat) {x y : Operand} {t b o : Nat} {c : Array Value} {te : TypeId} {v : Value} (hS : Slots a n S) (hg : wantedS ops S g = some true) (hO : Own A w Ls)
    (hx : opd S x = some (.pointer (some ⟨b, o, none⟩))) (hy : opd S y = some v) (hr : Ls[i]? = some [(b, .cells c te (0, 0))]) (hv : storeOk P t c o v = true)
    (k : ∀ w', Own A w' (Ls.set i [(b, .cells (putL c o v.cells.toList) te (0, 0))]) → Ext qd Ls w (Ls.set i [(b, .cells (putL c o v.cells.toList) te (0, 0))]) w' → ∀ a', Slots a' n S → K a' w') :
    Stp P ops Q ⟨none, .store t x y, ty, pos, af, g⟩ K a w := by
  have hb := heap_of_own hO hr (List.mem_singleton.2 rfl)
  refine op_unit hS hg (w' := w.setRow b (putL c o v.cells.toList)) (by simp [execOp, hS.eval hx, hS.eval hy, Instr.storeAt, Instr.sureAddr, run_store_row hb hv]) (k _ ?_ ?_)
  · refine hO.set hr (by simp) (fun k _ hk => setRow_other w b k _ (fun e => hk (by simp [e]))) (fun p hp => ?_) (by simp) (fun p hp => .inl ?_)
    · simp only [List.mem_singleton] at hp; subst hp; exact setRow_heap w b c _ te (0, 0) hb
    · simp only [List.mem_singleton] at hp; subst hp; simp
  · refine Ext.set hr rfl rfl rfl (by simp) (fun k _ hk => setRow_other w b k _ (fun e => hk (by simp [e]))) (fun p hp => .inl ?_)
    simp only [List.mem_singleton] at hp; subst hp; simp

/-- a new block -/
theorem op_new {op : Op} {v : Nat → Value} {o : Obj} (hS : Slots a n S) (hd : Nat.blt d n = true) (hg : wantedS ops S g = some true) (hO : Own A w Ls)
    (hr : (execOp a.eval ⟨some d, op, ty, pos, af, g⟩).run P w = .ok (.value (v w.heap.size)) (w.alloc o))
    (k : ∀ b w', Own A w' (Ls ++ [[(b, o)]]) → Ext qd Ls w (Ls ++ [[(b, o)]]) w' → ∀ a', Slots a' n ((d, v b) :: S) → K a' w') :
    Stp P ops Q ⟨some d, op, ty, pos, af, g⟩ K a w :=
  op_val hS hd hg hr (k _ _ (hO.alloc o rfl) (Ext.alloc Ls o rfl rfl rfl rfl))

theorem op_box {x : Operand} {t : TypeId} {v : Value} (hS : Slots a n S) (hd : Nat.blt d n = true) (hg : wantedS ops S g = some true) (hO : Own A w Ls) (hx : opd S x = some v)
    (k : ∀ b w', Own A w' (Ls ++ [[(b, .cells v.cells t (0, 0))]]) → Ext qd Ls w (Ls ++ [[(b, .cells v.cells t (0, 0))]]) w' → ∀ a', Slots a' n ((d, .pointer (some ⟨b, 0, none⟩)) :: S) → K a' w') :
    Stp P ops Q ⟨some d, .box t x, ty, pos, af, g⟩ K a w :=
  op_new (v := fun b => .pointer (some ⟨b, 0, none⟩)) hS hd hg hO (by simp [execOp, hS.eval hx, Instr.box, newVar, newRow]) k

theorem op_alloc {t : TypeId} {z : Value} (hS : Slots a n S) (hd : Nat.blt d n = true) (hg : wantedS ops S g = some true) (hO : Own A w Ls) (hz : zeroOf P t = some z)
    (k : ∀ b w', Own A w' (Ls ++ [[(b, .cells z.cells t (0, 0))]]) → Ext qd Ls w (Ls ++ [[(b, .cells z.cells t (0, 0))]]) w' → ∀ a', Slots a' n ((d, .pointer (some ⟨b, 0, none⟩)) :: S) → K a' w') :
    Stp P ops Q ⟨some d, .alloc t, ty, pos, af, g⟩ K a w :=
  op_new (v := fun b => .pointer (some ⟨b, 0, none⟩)) hS hd hg hO (by simp [execOp, Instr.alloc, run_zeroOf hz, newVar, newRow]) k

/-! ### Results -/

/-- what a function's results read as -/
def ResL (P : Program) (S : List (Nat × Value)) (w : World) : List ResultVar → List Value → Prop
  | [], vs => vs = []
  | .tmp t :: r, vs => ∃ v us, vs = v :: us ∧ look S t = some v ∧ ResL P S w r us
  | .cell t ty :: r, vs => ∃ v us b c te fr, vs = v :: us ∧ look S t = some (.pointer (some ⟨b, 0, none⟩)) ∧ w.heap[b]? = some (.cells c te fr) ∧ loadR P ty c 0 = some v ∧ ResL P S w r us

theorem resN : ResL P S w [] [] := rfl
theorem resT {t : Nat} {v : Value} {r : List ResultVar} {vs : List Value} (h : look S t = some v) (k : ResL P S w r vs) : ResL P S w (.tmp t :: r) (v :: vs) := ⟨v, vs, rfl, h, k⟩
theorem resC {t ty b : Nat} {v : Value} {c : Array Value} {te : TypeId} {fr : Nat × Nat} {r : List ResultVar} {vs : List Value} (hO : Own A w Ls) (i : Nat) (h : look S t = some (.pointer (some ⟨b, 0, none⟩))) (hr : Ls[i]? = some [(b, .cells c te fr)])
    (hl : loadR P ty c 0 = some v) (k : ResL P S w r vs) : ResL P S w (.cell t ty :: r) (v :: vs) := ⟨v, vs, b, c, te, fr, rfl, h, heap_of_own hO hr (List.mem_singleton.2 rfl), hl, k⟩

theorem run_resL (F : ResultVar → Sem Value) (f1 : ∀ t, F (.tmp t) = pure (a.tmps.getD t undef)) (f2 : ∀ x t, F (.cell x t) = (asAddr (a.tmps.getD x undef) >>= fun p => loadVar t p)) (hS : Slots a n S) :
    ∀ {rs : List ResultVar} {vs : List Value}, ResL P S w rs vs → (rs.mapM F).run P w = .ok vs w
  | [], vs, h => by simp only [ResL] at h; subst h; simp
  | .tmp t :: r, vs, h => by
    obtain ⟨v, us, rfl, h1, h2⟩ := h
    have ih := run_resL F f1 f2 hS h2
    rw [List.mapM_cons, f1]
    simp only [Sem.run_bind, Sem.run_pure, Result.andThen_ok, hS.getD h1]
    rw [ih]
    rfl
  | .cell t ty :: r, vs, h => by
    obtain ⟨v, us, b, c, te, fr, rfl, h1, h2, h3, h4⟩ := h
    have ih := run_resL F f1 f2 hS h4
    have ha : (asAddr (a.tmps.getD t undef)).run P w = .ok ⟨b, 0, none⟩ w := by rw [hS.getD h1]; rfl
    rw [List.mapM_cons, f2]
    simp only [Sem.run_bind, Sem.run_pure, ha, Result.andThen_ok, run_load_row h2 h3]
    rw [ih]
    rfl

theorem ret_g {fn : Func} {rs : List ResultVar} {vs : List Value} {R : Value → World → Prop} (hS : Slots a n S) (hf : fn.results = rs.toArray) (h : ResL P S w rs vs)
    (hR : R (if h : vs.length = 1 then vs[0] else .tuple vs.toArray) w) : bodyPost P fn (Ret R) .ret a w := by
  refine ⟨hS.defers, _, ?_, hR⟩
  simp only [results, hf, Sem.run_bind, List.mapM_toArray, Sem.run_map]
  rw [run_resL _ (fun _ => rfl) (fun _ _ => rfl) hS h]
  by_cases hl : vs.length = 1 <;> simp [hl]

/-! ### Elements of a slice that is only read -/

def elemSize (P : Program) (t : TypeId) : Option Nat :=
  match P.underlying t with
  | some (.slice e) => (P.info? e).map (·.size)
  | _ => none

theorem run_indexAt {t k : Nat} {b off m c : Nat} {i : Int} (h : elemSize P t = some k) (h0 : 0 ≤ i) (h1 : i < m) (kd : IntKind) :
    (Instr.indexAt t (.slice (some ⟨b, off, none⟩) m c) (.int kd i)).run P w = .ok (.pointer (some ⟨b, off + i.toNat * k, none⟩)) w := by
  unfold elemSize at h
  split at h
  · rename_i e hu
    cases hq : P.info? e with
    | none => simp [hq] at h
    | some inf =>
      have hs : inf.size = k := by simpa [hq] using h
      simp [Instr.indexAt, asIntOf, run_underlying hu, h0, h1, sizeOf, typeInfo, hq, hs, add_plain]
  · cases h

theorem op_index_rd {τ : Type} {e : E τ} {Z : List Nat} {p : Option Addr} {c : Nat} {l : List τ} {i : Int} {v : τ} {t : TypeId} {x y : Operand} {kd : IntKind}
    (hS : Slots a n S) (hd : Nat.blt d n = true) (hg : wantedS ops S g = some true) (hR : RdS e Z w p c l) (hx : opd S x = some (.slice p l.length c)) (hy : opd S y = some (.int kd i)) (ht : elemSize P t = some e.n) (hm : idx l i = some v)
    (k : ∀ b o, PtTo e Z w ⟨b, o, none⟩ v → ∀ a', Slots a' n ((d, .pointer (some ⟨b, o, none⟩)) :: S) → K a' w) :
    Stp P ops Q ⟨some d, .indexAddr t x y, ty, pos, af, g⟩ K a w := by
  unfold idx at hm
  split at hm
  · rename_i h0
    obtain ⟨hlt, hv⟩ := List.getElem?_eq_some_iff.1 hm
    rcases hR.2 with rfl | ⟨b, off, cs, rfl, hb, hbl, hl, hc⟩
    · simp at hlt
    · obtain ⟨ci, h1, h2⟩ := e.rdL_get hl hm
      refine op_val hS hd hg (v := .pointer (some ⟨b, off + i.toNat * e.n, none⟩)) (w' := w) ?_ (k b _ ⟨b, _, ci, rfl, hb, hbl, h1, fun j u hu => ?_⟩)
      · simp [execOp, hS.eval hx, hS.eval hy, run_indexAt (m := l.length) ht h0 (by omega)]
      · rw [Nat.add_assoc]; exact hc _ u (h2 j u hu)
  · cases hm

theorem op_load_pt {τ : Type} {e : E τ} {Z : List Nat} {b o : Nat} {y : τ} {t : TypeId} {x : Operand} (ag : Bool)
    (hS : Slots a n S) (hd : Nat.blt d n = true) (hg : wantedS ops S g = some true) (hP : PtTo e Z w ⟨b, o, none⟩ y) (hx : opd S x = some (.pointer (some ⟨b, o, none⟩))) (ht : shapeOf P t = some (ag, e.n))
    (k : ∀ ci, e.rd Z w ci y → ∀ v, mkV ag ci = some v → ∀ a', Slots a' n ((d, v) :: S) → K a' w) (hag : ag = true ∨ e.n = 1) :
    Stp P ops Q ⟨some d, .load t x, ty, pos, af, g⟩ K a w := by
  obtain ⟨b', o', ci, he, hb, hbl, h1, h2⟩ := hP
  cases he
  have hl := e.len h1
  have hv : ∃ v, mkV ag ci = some v := by
    rcases hag with rfl | hn
    · exact ⟨_, rfl⟩
    · cases ag with
      | true => exact ⟨_, rfl⟩
      | false => match ci, hl.trans hn with | [u], _ => exact ⟨u, rfl⟩
  obtain ⟨v, hv⟩ := hv
  refine op_val hS hd hg (v := v) (w' := w) ?_ (k ci h1 v hv)
  simp [execOp, hS.eval hx, Instr.loadAt, Instr.sureAddr, run_loadVar_cells (cs := ci) (by rw [hl]; exact ht) h2 hv]

/-! ### Numbers and strings that can fail -/

theorem r_quo {x y : Operand} {t u : TypeId} {p q r : Int} {d : Option Tmp} (hS : Slots a n S) (hx : opd S x = some (vi p)) (hy : opd S y = some (vi q)) (hm : quo p q = some r) (w : World) :
    (execOp a.eval ⟨d, .binOp .quo t x y u, ty, pos, af, g⟩).run P w = .ok (.value (vi r)) w := by
  unfold quo at hm
  split at hm
  · cases hm
  · rename_i h0
    simp only [Option.some.injEq] at hm
    subst hm
    simp [execOp, hS.eval hx, hS.eval hy, run_guard_int, binOp, Op.intDiv, h0, w64]

theorem r_rem {x y : Operand} {t u : TypeId} {p q r : Int} {d : Option Tmp} (hS : Slots a n S) (hx : opd S x = some (vi p)) (hy : opd S y = some (vi q)) (hm : rem p q = some r) (w : World) :
    (execOp a.eval ⟨d, .binOp .rem t x y u, ty, pos, af, g⟩).run P w = .ok (.value (vi r)) w := by
  unfold rem at hm
  split at hm
  · cases hm
  · rename_i h0
    simp only [Option.some.injEq] at hm
    subst hm
    simp [execOp, hS.eval hx, hS.eval hy, run_guard_int, binOp, Op.intDiv, h0]

theorem ba_get {s : Str} {k : Nat} {u : UInt8} (h : s[k]? = some u) : (ByteArray.mk s.toArray)[k]? = some u := by
  obtain ⟨hlt, hv⟩ := List.getElem?_eq_some_iff.1 h
  have hsz : k < (ByteArray.mk s.toArray).size := by simpa [ByteArray.size] using hlt
  rw [getElem?_pos (ByteArray.mk s.toArray) k hsz]
  show some ((s.toArray)[k]'(by simpa using hlt)) = some u
  simp [hv]

theorem r_sidx {x y : Operand} {t : TypeId} {s : Str} {i b : Int} {kd : IntKind} {d : Option Tmp} (hS : Slots a n S) (hx : opd S x = some (vs s)) (hy : opd S y = some (.int kd i)) (hu : P.underlying t = some .string) (hm : sidx s i = some b) (w : World) :
    (execOp a.eval ⟨d, .index t x y, ty, pos, af, g⟩).run P w = .ok (.value (.int .u8 b)) w := by
  unfold sidx at hm
  split at hm
  · rename_i h0
    cases hs : s[i.toNat]? with
    | none => simp [hs] at hm
    | some u =>
      simp only [hs, Option.map_some, Option.some.injEq] at hm
      subst hm
      have hb : (ByteArray.mk s.toArray)[i.toNat]? = some u := ba_get hs
      simp [execOp, hS.eval hx, hS.eval hy, Instr.index, asIntOf, run_underlying hu, h0, hb]
  · cases hm

theorem r_cat {x y : Operand} {t u : TypeId} {p q r : Str} {d : Option Tmp} (hS : Slots a n S) (hx : opd S x = some (vs p)) (hy : opd S y = some (vs q)) (hm : cat p q = some r) (w : World) :
    (execOp a.eval ⟨d, .binOp .add t x y u, ty, pos, af, g⟩).run P w = .ok (.value (vs r)) w := by
  unfold cat at hm
  split at hm
  · rename_i h0
    simp only [Option.some.injEq] at hm
    subst hm
    have hsz : ¬ (IntKind.i64.max < (((ByteArray.mk p.toArray).size + (ByteArray.mk q.toArray).size : Nat) : Int)) := by
      have : IntKind.i64.max = 9223372036854775807 := rfl
      simp only [this, ByteArray.size, List.size_toArray]
      omega
    have happ : (ByteArray.mk p.toArray) ++ (ByteArray.mk q.toArray) = ByteArray.mk (p ++ q).toArray := by
      apply ByteArray.ext
      simp [ByteArray.data_append]
    have hrun : (binOp .add t (vs p) (vs q)).run P w = .ok (vs (p ++ q)) w := by
      simp only [binOp, Op.stringOp, vs]
      rw [if_neg hsz, happ]
      rfl
    simp [execOp, hS.eval hx, hS.eval hy, run_guard_str, hrun]
  · cases hm

/-- a bound of a slice expression: written, or the one that stands for it -/
def Bd (v : Option Value) (i dflt : Int) : Prop := (v = none ∧ i = dflt) ∨ ∃ k, v = some (.int k i)

theorem run_bounds {b : Bool} {m c : Nat} {lo hi : Option Value} {i j : Int} (h1 : Bd lo i 0) (h2 : Bd hi j m) (h0 : 0 ≤ i) (hij : i ≤ j) (hj : j ≤ c) :
    (Instr.sliceBounds b m c lo hi none).run P w = .ok (i.toNat, j.toNat, c) w := by
  have h0j : 0 ≤ j := by omega
  rcases h1 with ⟨rfl, rfl⟩ | ⟨k1, rfl⟩ <;> rcases h2 with ⟨rfl, rfl⟩ | ⟨k2, rfl⟩ <;>
    simp [Instr.sliceBounds, Instr.sliceBound, asIntOf, h0, hj, h0j]
  · omega
  · omega

def opdO (S : List (Nat × Value)) : Option Operand → Option (Option Value)
  | none => some none
  | some x => (opd S x).map some

theorem Slots.evalO {a : Act} {n : Nat} {S : List (Nat × Value)} (h : Slots a n S) {x : Option Operand} {v : Option Value} (hx : opdO S x = some v) : x.map a.eval = v := by
  cases x with
  | none => simpa [opdO] using hx
  | some x =>
    simp only [opdO, Option.map_eq_some_iff] at hx
    obtain ⟨u, hu, rfl⟩ := hx
    simp [h.eval hu]

theorem ba_extract (s : Str) (i j : Nat) : (ByteArray.mk s.toArray).extract i j = ByteArray.mk ((s.take j).drop i).toArray := by
  apply ByteArray.ext
  simp [List.drop_take]

/-- s[i:j] of a string -/
theorem r_ssub {x : Operand} {lo hi : Option Operand} {vlo vhi : Option Value} {t : TypeId} {s r : Str} {i j : Int} {d : Option Tmp} (hS : Slots a n S) (hx : opd S x = some (vs s)) (hu : P.underlying t = some .string)
    (hlo : opdO S lo = some vlo) (hhi : opdO S hi = some vhi) (bl : Bd vlo i 0) (bh : Bd vhi j s.length) (hm : sub s i j = some r) (w : World) :
    (execOp a.eval ⟨d, .slice t x lo hi none, ty, pos, af, g⟩).run P w = .ok (.value (vs r)) w := by
  unfold sub at hm
  split at hm
  · rename_i h0
    simp only [Option.some.injEq] at hm
    obtain ⟨h1, h2, h3⟩ := h0
    subst hm
    have hsz : (ByteArray.mk s.toArray).size = s.length := by simp [ByteArray.size]
    have hb := run_bounds (P := P) (w := w) (b := false) (m := s.length) (c := s.length) bl bh h1 h2 h3
    simp [execOp, hS.eval hx, hS.evalO hlo, hS.evalO hhi, Instr.sliceAt, Instr.slice, run_underlying hu, hsz, hb, ba_extract]
  · cases hm

end

end Go.GD
