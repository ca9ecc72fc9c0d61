/- slices.Delete, slices.Insert: parts of an array of one's own that move within it. Conditions: none. -/
import Derived.Test.YtofmfdlkalakaaaGreatDoorGro
import Derived.Lib.AppendZerosOnto
import Derived.Lib.Overlaps
namespace Go.GD
open Go Go.RowKit
set_option autoImplicit false
variable {qd : Prop}
set_option linter.unusedVariables false

section
variable {P : Program} {A : List Nat} {Ls : List Res} {w : World} {n : Nat} {S : Sl} {a : Act}
variable {τ : Type} {e : E τ} {te : TypeId} {r : Res} {p q : Option Addr} {c : Nat} {l z : List τ} {t : TypeId} {x : Operand}
variable {d : Option Tmp} {ty : TypeId} {pos : String} {af : Array Edge} {g : Option (Nat × Bool)}

theorem run_bounds3 {k1 k2 k3 : IntKind} {m c : Nat} {i j k : Int} (h0 : 0 ≤ i) (hij : i ≤ j) (hjk : j ≤ k) (hkc : k ≤ c) :
    (Instr.sliceBounds true m c (some (.int k1 i)) (some (.int k2 j)) (some (.int k3 k))).run P w = .ok (i.toNat, j.toNat, k.toNat) w := by
  have h1 : 0 ≤ j := by omega
  have h2 : 0 ≤ k := by omega
  have h3 : j ≤ max k 0 := by omega
  have h4 : i ≤ max j 0 := by omega
  simp [Instr.sliceBounds, Instr.sliceBound, asIntOf, h0, h1, h2, hkc, h3, h4]

/-- a slice expression, by its bounds -/
theorem r_sl {s : Option Addr} {k0 m1 b1 b2 : Nat} {lo hi mx : Option Operand} {vlo vhi vmx : Option Value} (nn : Nat) (hS : Slots a n S) (hx : opd S x = some (.slice s k0 c)) (ht : elemSize P t = some nn) (hlo : opdO S lo = some vlo) (hhi : opdO S hi = some vhi) (hmx : opdO S mx = some vmx)
    (hb : ∀ w, (Instr.sliceBounds true k0 c vlo vhi vmx).run P w = .ok (b1, b2, m1) w) (w : World) :
    (execOp a.eval ⟨d, .slice t x lo hi mx, ty, pos, af, g⟩).run P w = .ok (.value (.slice (if m1 = b1 then s else s.map (·.add (b1 * nn))) (b2 - b1) (m1 - b1))) w := by
  unfold elemSize at ht
  split at ht
  · rename_i te hu
    cases hq : P.info? te with
    | none => simp [hq] at ht
    | some info =>
      have hs : info.size = nn := by simpa [hq] using ht
      simp [execOp, hS.eval hx, hS.evalO hlo, hS.evalO hhi, hS.evalO hmx, Instr.sliceAt, Instr.slice, run_underlying hu, hb, sizeOf, typeInfo, hq, hs]
  · cases ht

theorem dset_same {i : Nat} (hr : Ls[i]? = some r) : Ls.set i r = Ls := by
  apply List.ext_getElem?; intro j
  by_cases hj : i = j
  · subst hj; rw [List.getElem?_set_self']; simp [hr]
  · rw [List.getElem?_set_ne hj]

/-- cells written over, from the element k on -/
theorem arr_over {i b o k : Nat} {cells : Array Value} {cs : List Value} {zz L' : List τ} (hO : Own A w Ls) (hr : Ls[i]? = some [(b, .cells cells te (0, 0))]) (h4 : c ≤ maxLen) (h5 : o + c * e.n ≤ cells.size) (h3 : l.length ≤ c)
    (h6 : e.rdL (bl Ls ++ A) w ((cells.toList.drop o).take (l.length * e.n)) l) (hcs : e.rdL (bl Ls ++ A) w cs zz) (hk : k ≤ l.length) (hle : k + zz.length ≤ c) (hL : L' = l.take k ++ zz ++ l.drop (k + zz.length)) :
    Own A (w.setRow b (cells.toList.take (o + k * e.n) ++ cs ++ cells.toList.drop (o + k * e.n + cs.length)).toArray) (Ls.set i [(b, .cells (cells.toList.take (o + k * e.n) ++ cs ++ cells.toList.drop (o + k * e.n + cs.length)).toArray te (0, 0))]) ∧
    Ext qd Ls w (Ls.set i [(b, .cells (cells.toList.take (o + k * e.n) ++ cs ++ cells.toList.drop (o + k * e.n + cs.length)).toArray te (0, 0))]) (w.setRow b (cells.toList.take (o + k * e.n) ++ cs ++ cells.toList.drop (o + k * e.n + cs.length)).toArray) ∧
    Arr e te (bl (Ls.set i [(b, .cells (cells.toList.take (o + k * e.n) ++ cs ++ cells.toList.drop (o + k * e.n + cs.length)).toArray te (0, 0))]) ++ A) (w.setRow b (cells.toList.take (o + k * e.n) ++ cs ++ cells.toList.drop (o + k * e.n + cs.length)).toArray)
      [(b, .cells (cells.toList.take (o + k * e.n) ++ cs ++ cells.toList.drop (o + k * e.n + cs.length)).toArray te (0, 0))] (some ⟨b, o, none⟩) c L' := by
  have hb := heap_of_own hO hr (List.mem_singleton.2 rfl)
  have hother : ∀ cs : Array Value, ∀ k, k < w.heap.size → k ∉ [(b, Obj.cells cells te (0, 0))].map Prod.fst → (w.setRow b cs).heap[k]? = w.heap[k]? := fun cs k _ hk => setRow_other w b k _ (fun e => hk (by simp [e]))
  have hE : Ext qd Ls w (Ls.set i [(b, .cells (cells.toList.take (o + k * e.n) ++ cs ++ cells.toList.drop (o + k * e.n + cs.length)).toArray te (0, 0))]) (w.setRow b (cells.toList.take (o + k * e.n) ++ cs ++ cells.toList.drop (o + k * e.n + cs.length)).toArray) :=
    Ext.set hr rfl rfl rfl (by simp) (hother _) (fun q hq => .inl (by simp only [List.mem_singleton] at hq; subst hq; simp))
  have hlen := e.rdL_len hcs
  have hkc : k * e.n ≤ c * e.n := Nat.mul_le_mul_right _ (by omega)
  have hkz : k * e.n + cs.length ≤ c * e.n := by rw [hlen, ← Nat.add_mul]; exact Nat.mul_le_mul_right _ hle
  refine ⟨hO.set hr (by simp) (hother _) (fun q hq => by simp only [List.mem_singleton] at hq; subst hq; exact setRow_heap w b cells _ te (0, 0) hb) (by simp) (fun q hq => .inl (by simp only [List.mem_singleton] at hq; subst hq; simp)), hE, .inr ⟨b, o, _, rfl, rfl, ?_, h4, ?_, ?_⟩⟩
  · subst hL; simp only [List.length_append, List.length_take, List.length_drop]; omega
  · simp only [List.size_toArray, List.length_append, List.length_take, List.length_drop, Array.length_toList]
    omega
  · have e1 := e.rdL_take k h6
    rw [List.take_take, Nat.min_eq_left (Nat.mul_le_mul_right _ hk)] at e1
    have e2 := e.rdL_drop (k + zz.length) h6
    have e3 := e.rdL_append (e.rdL_append (e.rdL_step (hE.step A) e1) (e.rdL_step (hE.step A) hcs)) (e.rdL_step (hE.step A) e2)
    rw [← hL] at e3
    refine cast ?_ e3
    congr 1
    have hLl : L'.length = k + zz.length + (l.length - (k + zz.length)) := by
      subst hL; simp only [List.length_append, List.length_take, List.length_drop]; omega
    have hD : c * e.n ≤ (cells.toList.drop o).length := by rw [List.length_drop, Array.length_toList]; omega
    show _ = List.take _ (List.drop o (cells.toList.take (o + k * e.n) ++ cs ++ cells.toList.drop (o + k * e.n + cs.length)))
    have hdp := drop_put (c := cells.toList) o (k * e.n) 0 cs (by have := Array.length_toList (xs := cells); omega)
    simp only [Nat.add_zero] at hdp
    rw [hdp]
    have hA1 : ((cells.toList.drop o).take (k * e.n) ++ cs).length = (k + zz.length) * e.n := by
      rw [List.length_append, hlen, List.length_take, Nat.add_mul, Nat.min_eq_left (Nat.le_trans hkc hD)]
    rw [List.take_append, hA1, List.take_of_length_le (l := (cells.toList.drop o).take (k * e.n) ++ cs) (by rw [hA1, hLl]; exact Nat.mul_le_mul_right _ (by omega)), hlen, ← Nat.add_mul, List.drop_take, ← Nat.sub_mul]
    congr 1
    rw [← Nat.sub_mul, hLl]
    congr 2; omega

/-- the elements from k on lie where the view says -/
theorem view_cells {i b o k m : Nat} {cells : Array Value} (hO : Own A w Ls) (hr : Ls[i]? = some [(b, .cells cells te (0, 0))]) (h6 : e.rdL (bl Ls ++ A) w ((cells.toList.drop o).take (l.length * e.n)) l) :
    e.rdL (bl Ls ++ A) w (((cells.toList.drop o).take (l.length * e.n)).drop (k * e.n)) (l.drop k) ∧ ∀ j u, (((cells.toList.drop o).take (l.length * e.n)).drop (k * e.n))[j]? = some u → w.cell? ((⟨b, o + k * e.n, none⟩ : Addr).add j) = some u := by
  have hb := heap_of_own hO hr (List.mem_singleton.2 rfl)
  refine ⟨e.rdL_drop k h6, fun j u hu => ?_⟩
  rw [add_plain, cell_of_row w b (o + k * e.n + j) cells te (0, 0) hb]
  rw [List.getElem?_drop, List.getElem?_take] at hu
  split at hu
  · rw [List.getElem?_drop, ← Nat.add_assoc] at hu; simpa using hu
  · cases hu

/-- append(s[:j], s[k:]...) -/
theorem run_append_within {i j k c2 : Nat} (hO : Own A w Ls) (hr : Ls[i]? = some r) (hA : Arr e te (bl Ls ++ A) w r p c l) (hjk : j ≤ k) (hk : k ≤ l.length) (hq : ∀ b o, p = some ⟨b, o, none⟩ → k < l.length → q = some ⟨b, o + k * e.n, none⟩) (ht : slOk P t te e.n = true) (rty : TypeId) :
    ∃ r' w', (Builtin.append_ #[t, t] rty #[.slice p j c, .slice q (l.length - k) c2]).run P w = .ok (.slice p (j + (l.length - k)) c) w' ∧
      Own A w' (Ls.set i r') ∧ Ext qd Ls w (Ls.set i r') w' ∧ Arr e te (bl (Ls.set i r') ++ A) w' r' p c (l.take j ++ l.drop k ++ l.drop (j + (l.length - k))) := by
  obtain ⟨hu, info, zv, hi, hz', hsize, hby, hpos, hzs⟩ := slOk_spec ht
  have hle := hA.le
  by_cases hn0 : l.length - k = 0
  · have hll : l.take j ++ l.drop k ++ l.drop (j + (l.length - k)) = l := by
      rw [hn0, List.drop_of_length_le (by omega : l.length ≤ k)]; simp
    refine ⟨r, w, ?_, by rw [dset_same hr]; exact hO, by rw [dset_same hr]; exact Ext.refl _ _, by rw [dset_same hr, hll]; exact hA⟩
    rw [hn0]; exact run_append_none (k := c2) (q := q) hu hi (by omega)
  · rcases hA with ⟨rfl, rfl, rfl, rfl⟩ | ⟨b, o, cells, rfl, rfl, h3, h4, h5, h6⟩
    · simp at hn0
    · have hb := heap_of_own hO hr (List.mem_singleton.2 rfl)
      rw [hq b o rfl (by omega)]
      obtain ⟨hcs, hcell⟩ := view_cells (k := k) (m := 0) hO hr h6
      have hlen := e.rdL_len hcs
      rw [show (l.drop k).length = l.length - k from List.length_drop] at hlen
      have hover := arr_over (qd := qd) (k := j) (L' := l.take j ++ l.drop k ++ l.drop (j + (l.length - k))) hO hr h4 h5 h3 h6 hcs (by omega) (by rw [List.length_drop]; omega) (by rw [List.length_drop])
      refine ⟨_, _, ?_, hover⟩
      have hfit : o + j * info.size + (((cells.toList.drop o).take (l.length * e.n)).drop (k * e.n)).length ≤ cells.size := by
        rw [hlen, hsize, Nat.add_assoc, ← Nat.add_mul]; exact Nat.le_trans (Nat.add_le_add_left (Nat.mul_le_mul_right _ (by omega)) _) h5
      have := run_append_room_at (P := P) w t rty te info hu hi b o j c cells hb ⟨b, o + k * e.n, none⟩ (l.length - k) c2 _ (by rw [hlen, hsize]) hcell (e.rdL_one hcs) (by omega) hfit
      rw [this, hsize]

/-- copy(s[k+1:], s[k:]), s longer by one -/
theorem run_copy_up {i k : Nat} {ca cb : Nat} (hO : Own A w Ls) (hr : Ls[i]? = some r) (hA : Arr e te (bl Ls ++ A) w r p c l) (hk : k < l.length) (hroom : l.length + 1 ≤ c) (b o : Nat) (hp : p = some ⟨b, o, none⟩) (ht : slOk P t te e.n = true) (rty : TypeId) :
    ∃ r' w', (Builtin.copy_ #[t, t] rty #[.slice (some ⟨b, o + (k + 1) * e.n, none⟩) (l.length - k) ca, .slice (some ⟨b, o + k * e.n, none⟩) (l.length + 1 - k) cb]).run P w = .ok (goInt (l.length - k : Nat)) w' ∧
      Own A w' (Ls.set i r') ∧ Ext qd Ls w (Ls.set i r') w' ∧ Arr e te (bl (Ls.set i r') ++ A) w' r' p c (l.take (k + 1) ++ l.drop k) := by
  obtain ⟨hu, info, zv, hi, hz', hsize, hby, hpos, hzs⟩ := slOk_spec ht
  rcases hA with ⟨rfl, rfl, rfl, rfl⟩ | ⟨b', o', cells, rfl, hp', h3, h4, h5, h6⟩
  · cases hp
  · subst hp
    simp only [Option.some.injEq, Addr.mk.injEq] at hp'
    obtain ⟨rfl, rfl, _⟩ := hp'
    have hb := heap_of_own hO hr (List.mem_singleton.2 rfl)
    obtain ⟨hcs, hcell⟩ := view_cells (k := k) (m := 0) hO hr h6
    have hlen := e.rdL_len hcs
    rw [show (l.drop k).length = l.length - k from List.length_drop] at hlen
    have hover := arr_over (qd := qd) (k := k + 1) (L' := l.take (k + 1) ++ l.drop k) hO hr h4 h5 h3 h6 hcs (by omega) (by rw [List.length_drop]; omega) (by rw [List.length_drop, List.drop_of_length_le (by omega : l.length ≤ k + 1 + (l.length - k)), List.append_nil])
    refine ⟨_, _, ?_, hover⟩
    have hmin : Nat.min (l.length + 1 - k) (l.length - k) = l.length - k := Nat.min_eq_right (by omega)
    have hfit : o + (k + 1) * e.n + 0 + (((cells.toList.drop o).take (l.length * e.n)).drop (k * e.n)).length ≤ cells.size := by
      rw [hlen, Nat.add_zero, Nat.add_assoc, ← Nat.add_mul]; exact Nat.le_trans (Nat.add_le_add_left (Nat.mul_le_mul_right _ (by omega)) _) h5
    have hload := run_loadCells_list (P := P) w ⟨b, o + k * e.n, none⟩ _ hcell
    rw [hlen] at hload
    have hst := run_storeCells_at P b (o + (k + 1) * e.n) te _ 0 cells w hb hfit (e.rdL_one hcs)
    simp only [Nat.add_zero] at hst
    simp [Builtin.copy_, run_underlying hu, Builtin.lenOf, Builtin.firstCells, sizeOf, typeInfo, hi, hsize, hmin, hload, hst]
end

/-- append(s[:i], make([]T, k)...) where there is no room: a new array -/
theorem run_grow_zeros {i k : Nat} {kq kn : IntKind} {tn : TypeId} {P : Program} {A : List Nat} {Ls : List Res} {w : World} {τ : Type} {e : E τ} {te : TypeId} {r : Res} {p : Option Addr} {c : Nat} {l : List τ} {t : TypeId} {zd : τ} {zv : Value} {q : Nat}
    (hO : Own A w Ls) (hr : Ls[q]? = some r) (hA : Arr e te (bl Ls ++ A) w r p c l) (hi0 : i ≤ l.length) (hk : 0 < k) (hg : c < i + k) (hs : i + k < 4294967296) (hz : zeroOf P te = some zv) (hzr : e.rd (bl Ls ++ A) w zv.cells.toList zd)
    (ht : slOk P t te e.n = true) (h2 : P.underlying tn = some (.int kn)) (rty : TypeId) :
    ∃ r' c' w' b, (Builtin.append_ #[t, tn] rty #[.slice p i c, .int kq (k : Int)]).run P w = .ok (.slice (some ⟨b, 0, none⟩) (i + k) c') w' ∧
      Own A w' (Ls ++ [r']) ∧ Ext qd Ls w (Ls ++ [r']) w' ∧ Arr e te (bl (Ls ++ [r']) ++ A) w' r' (some ⟨b, 0, none⟩) c' (l.take i ++ List.replicate k zd) := by
  obtain ⟨hu, info, zv', hi, hz', hsize, hby, hpos, hzs⟩ := slOk_spec ht
  have hzz : zv' = zv := by simp [zeroOf, hi, hz'] at hz; exact hz
  subst hzz
  have hold : ∃ olds, olds.length = i * info.size ∧ e.rdL (bl Ls ++ A) w olds (l.take i) ∧ (Builtin.firstCells info.size i (.slice p i c)).run P w.drew = .ok olds.toArray w.drew := by
    rcases hA with ⟨rfl, rfl, rfl, rfl⟩ | ⟨b, o, cells, rfl, rfl, h3, h4, h5, h6⟩
    · have : i = 0 := by simpa using hi0
      subst this
      exact ⟨[], by simp, by simp [E.rdL], rfl⟩
    · have hb := heap_of_own hO hr (List.mem_singleton.2 rfl)
      have hrd := e.rdL_take i h6
      rw [List.take_take, Nat.min_eq_left (Nat.mul_le_mul_right _ hi0)] at hrd
      have hlen : ((cells.toList.drop o).take (i * e.n)).length = i * info.size := by rw [e.rdL_len hrd, List.length_take, Nat.min_eq_left hi0, hsize]
      refine ⟨_, hlen, hrd, ?_⟩
      have := run_firstCells_some (P := P) w.drew info.size i ⟨b, o, none⟩ i c ((cells.toList.drop o).take (i * e.n)) hlen (fun j u hu => by
        rw [add_plain]
        have hb' : w.drew.heap[b]? = some (.cells cells te (0, 0)) := hb
        rw [cell_of_row w.drew b (o + j) cells te (0, 0) hb']
        rw [List.getElem?_take] at hu
        split at hu
        · rw [List.getElem?_drop] at hu; simpa using hu
        · cases hu)
      simpa using this
  obtain ⟨olds, ho1, ho2, ho3⟩ := hold
  have hmul : info.bytes * k ≤ 32768 * 4294967296 := Nat.mul_le_mul hby (by omega)
  have hbytes : (i + k) * info.bytes ≤ 140737488355328 := by
    have := Nat.mul_le_mul (Nat.le_of_lt hs) hby
    omega
  have hrun := Lib.run_append_grow_zeros (P := P) w t tn rty te info zv' kq kn hu h2 hi hz' p i c olds ho3 k hk (by omega) hg (by omega) (by rw [Nat.mul_comm]; omega) (growslice_fits (by omega) hbytes)
  have hge := grownCap_ge w (i + k) c te
  have hcm := grownCap_le_maxLen w (i + k) c te (by simp only [maxLen]; omega)
  have hE := Ext.alloc (qd := qd) (w := w) (w' := w.drew.alloc (.cells (olds.toArray ++ Builtin.zeroCells zv'.cells k ++ Builtin.zeroCells zv'.cells (grownCap w (i + k) c te - (i + k))) te)) Ls (.cells (olds.toArray ++ Builtin.zeroCells zv'.cells k ++ Builtin.zeroCells zv'.cells (grownCap w (i + k) c te - (i + k))) te) rfl rfl rfl rfl (fun _ => Nat.le_succ _)
  refine ⟨_, _, _, _, hrun, hO.alloc _ rfl, hE, Arr.mk0 w.heap.size _ rfl rfl ?_ hcm ?_ ?_⟩
  · rw [List.length_append, List.length_take, List.length_replicate, Nat.min_eq_left hi0]; exact hge
  · simp only [Array.size_append, List.size_toArray, size_zeroCells, hzs, ho1, hsize, ← Nat.add_mul]
    congr 1; omega
  · have hrd := e.rdL_append (e.rdL_step (hE.step A) ho2) (e.rdL_step (hE.step A) (E.rdL_replicate hzr k))
    have hl1 : (l.take i ++ List.replicate k zd).length = i + k := by rw [List.length_append, List.length_take, List.length_replicate, Nat.min_eq_left hi0]
    rw [← zeroCells_list] at hrd
    have hl2 : (olds ++ (Builtin.zeroCells zv'.cells k).toList).length = (i + k) * e.n := by
      rw [List.length_append, ho1, hsize, Array.length_toList, size_zeroCells, hzs, Nat.add_mul]
    rw [hl1]
    simp only [Array.toList_append]
    rw [← hl2, List.take_left]
    exact hrd

/-- the address of x[j:] -/
def pV (p : Option Addr) (c j nn : Nat) : Option Addr := if c = j then p else p.map (·.add (j * nn))
theorem pV_some {p : Option Addr} {c j nn b o : Nat} (hp : p = some ⟨b, o, none⟩) (h : j < c) : pV p c j nn = some ⟨b, o + j * nn, none⟩ := by
  subst hp
  rw [pV, if_neg (by omega)]; simp [add_plain]

section
variable {P : Program} {n : Nat} {S : Sl} {a : Act} {p0 : Option Addr} {k0 c : Nat} {t : TypeId} {x lo hi mx : Operand} {d : Option Tmp} {ty : TypeId} {pos : String} {af : Array Edge} {g : Option (Nat × Bool)} {i j k : Int} {k1 k2 k3 : IntKind}
/-- x[:j], x[i:], x[i:j], x[i:j:k] -/
theorem r_slP (nn : Nat) (hS : Slots a n S) (hx : opd S x = some (.slice p0 k0 c)) (hhi : opd S hi = some (.int k1 j)) (hp : (p0 = none ∨ ∃ b o, p0 = some ⟨b, o, none⟩)) (h0 : 0 ≤ j) (hc : j ≤ c) (ht : elemSize P t = some nn) (w : World) :
    (execOp a.eval ⟨d, .slice t x none (some hi) none, ty, pos, af, g⟩).run P w = .ok (.value (.slice p0 j.toNat c)) w := by
  rw [r_sl (P := P) (b1 := 0) (b2 := j.toNat) (m1 := c) nn hS hx ht (lo := none) rfl (by simp [opdO, hhi]; rfl) (mx := none) rfl (fun w => run_bounds (.inl ⟨rfl, rfl⟩) (.inr ⟨_, rfl⟩) (Int.le_refl 0) h0 hc) w]
  rcases hp with rfl | ⟨b, o, rfl⟩ <;> simp [add_plain]
theorem r_slV (nn : Nat) (hS : Slots a n S) (hx : opd S x = some (.slice p0 k0 c)) (hlo : opd S lo = some (.int k1 i)) (h0 : 0 ≤ i) (hc : i ≤ k0) (hk : k0 ≤ c) (ht : elemSize P t = some nn) (w : World) :
    (execOp a.eval ⟨d, .slice t x (some lo) none none, ty, pos, af, g⟩).run P w = .ok (.value (.slice (pV p0 c i.toNat nn) (k0 - i.toNat) (c - i.toNat))) w := by
  rw [r_sl (P := P) (b1 := i.toNat) (b2 := k0) (m1 := c) nn hS hx ht (by simp [opdO, hlo]; rfl) (hi := none) rfl (mx := none) rfl (fun w => run_bounds (j := (k0 : Int)) (.inr ⟨_, rfl⟩) (.inl ⟨rfl, rfl⟩) h0 hc (by omega)) w]
  rfl
theorem r_slW (nn : Nat) (hS : Slots a n S) (hx : opd S x = some (.slice p0 k0 c)) (hlo : opd S lo = some (.int k1 i)) (hhi : opd S hi = some (.int k2 j)) (h0 : 0 ≤ i) (hc : i ≤ j) (hk : j ≤ c) (ht : elemSize P t = some nn) (w : World) :
    (execOp a.eval ⟨d, .slice t x (some lo) (some hi) none, ty, pos, af, g⟩).run P w = .ok (.value (.slice (pV p0 c i.toNat nn) (j.toNat - i.toNat) (c - i.toNat))) w := by
  rw [r_sl (P := P) (b1 := i.toNat) (b2 := j.toNat) (m1 := c) nn hS hx ht (by simp [opdO, hlo]; rfl) (by simp [opdO, hhi]; rfl) (mx := none) rfl (fun w => run_bounds (.inr ⟨_, rfl⟩) (.inr ⟨_, rfl⟩) h0 hc hk) w]
  rfl
theorem r_slC (nn : Nat) (hS : Slots a n S) (hx : opd S x = some (.slice p0 k0 c)) (hlo : opd S lo = some (.int k1 i)) (hhi : opd S hi = some (.int k2 j)) (hmx : opd S mx = some (.int k3 k)) (h0 : 0 ≤ i) (hc : i ≤ j) (hk : j ≤ k) (hkc : k ≤ c) (ht : elemSize P t = some nn) (w : World) :
    (execOp a.eval ⟨d, .slice t x (some lo) (some hi) (some mx), ty, pos, af, g⟩).run P w = .ok (.value (.slice (if k.toNat = i.toNat then p0 else p0.map (·.add (i.toNat * nn))) (j.toNat - i.toNat) (k.toNat - i.toNat))) w :=
  r_sl (P := P) nn hS hx ht (by simp [opdO, hlo]; rfl) (by simp [opdO, hhi]; rfl) (by simp [opdO, hmx]; rfl) (fun w => run_bounds3 h0 hc hk hkc) w
end

section
variable {P : Program} {n : Nat} {X : Hd qd} {ρ : Type} {Q : PQ ρ} {S : Sl} {Ls : List Res} {F : List PP} {m : Option ρ} {os : Array Oper} {ol : List Oper} {x y : Operand} {p p' : Pos}
variable {d t : Nat} {ty : TypeId} {pos : String} {af : Array Edge} {g : Option (Nat × Bool)} {kd : IntKind}
variable {τ : Type} {e : E τ} {te : TypeId} {r r2 : Res} {p0 q0 : Option Addr} {c c2 k0 k2 : Nat} {z z2 : List τ}

/-- what the answer says; the model in other words -/
theorem jgd {q : Prop} (hm : ∀ r, m = some r → q) (h : q → J P n X Q p S Ls F m) : J P n X Q p S Ls F m :=
  ⟨fun hq r hr a w hs => (h (hm r hr)).go hq r hr a w hs⟩
theorem jme {m2 : Option ρ} (e : m = m2) (h : J P n X Q p S Ls F m2) : J P n X Q p S Ls F m := e ▸ h

/-- what the header of an array of one's own says -/
theorem jAc (k : Nat) (hF : nth F k = Ar e te r p0 c k0 z) (h : z.length ≤ c → c ≤ maxLen → (p0 = none ∧ z = [] ∧ c = 0 ∨ ∃ b o, p0 = some ⟨b, o, none⟩) → J P n X Q p S Ls F m) : J P n X Q p S Ls F m :=
  ⟨fun hq r0 hm a w hs => by
    have hA : (Ar e te r p0 c k0 z).h (bl Ls ++ X.A) w := hF ▸ hs.g k
    rcases hA.1 with ⟨_, h1, h2, h3⟩ | ⟨b, o, cells, _, h1, h2, h3, _⟩
    · exact (h (by rw [h3]; exact Nat.zero_le _) (by rw [h2]; exact Nat.zero_le _) (.inl ⟨h1, h3, h2⟩)).go hq r0 hm a w hs
    · exact (h h2 h3 (.inr ⟨b, o, h1⟩)).go hq r0 hm a w hs⟩

/-- append(s[:j], s[k:]...) -/
theorem jaD {j k m2 : Nat} (at0 : At Ls p os ⟨some d, .call { callee := .builtin .append, args := [x, y].toArray, argTypes := [t, t].toArray }, ty, pos, af, g⟩ p') (i f : Nat) (hF : nth F f = Ar e te r p0 c k0 z) (hjk : j ≤ k) (hk : k ≤ z.length) (hq : ∀ b o, p0 = some ⟨b, o, none⟩ → k < z.length → q0 = some ⟨b, o + k * e.n, none⟩) (hx : opd S x = some (.slice p0 j c)) (hy : opd S y = some (.slice q0 m2 c2)) (hm2 : m2 = z.length - k)
    (h : ∀ r', setC Ls i r' fun Ls' => J P n X Q p' ((d, .slice p0 (j + (z.length - k)) c) :: S) Ls' (Al e te r' p0 c (z.take j ++ z.drop k ++ z.drop (j + (z.length - k))) :: F) m) (hr : Ls[i]? = some r := by rfl) (ht : slOk P t te e.n = true := by kernel_rfl) (hd : Nat.blt d n = true := by kernel_rfl) (hg : wantedS os S g = some true := by kernel_rfl) : J P n X Q p S Ls F m :=
  ⟨fun hq' r0 hm a w hs => at0.run fun K hK => by
    subst hm2
    have hA : (Ar e te r p0 c k0 z).h (bl Ls ++ X.A) w := hF ▸ hs.g f
    obtain ⟨r', w', hrun, h1, h2, h3⟩ := run_append_within (P := P) (c2 := c2) hs.o hr hA.1 hjk hk hq ht ty
    refine op_val hs.s hd hg (v := .slice p0 (j + (z.length - k)) c) (w' := w') (by simp [execOp, resolve, invoke, builtin, hs.s.eval hx, hs.s.eval hy, hrun]) fun a' hS => hK h2 ?_
    have h := h r'
    rw [setC_eq] at h
    exact h.go hq' r0 hm a' w' (hs.next h1 h2 hS [Ar e te _ _ _ _ _] ⟨⟨h3, rfl⟩, trivial⟩)⟩

/-- a part from the beginning on -/
theorem gP (h : OKr Ls F (Ar e te r p0 c k0 z)) (j : Nat) (hz : z2 = z.take j) : OKr Ls F (Ar e te r p0 c (List.length z2) z2) := fun A w hO hF => by
  have hA := h A w hO hF
  refine ⟨?_, rfl⟩
  subst hz
  rcases hA.1 with ⟨h0, h1, h2, h3⟩ | ⟨b, o, cells, h1, h2, h3, h4, h5, h6⟩
  · exact .inl ⟨h0, h1, h2, by rw [h3]; simp⟩
  · refine .inr ⟨b, o, cells, h1, h2, by rw [List.length_take]; omega, h4, h5, ?_⟩
    have := e.rdL_take j h6
    rw [List.take_take, Nat.mul_min_mul_right] at this
    rw [List.length_take]
    exact this

/-- append(s[:i], make([]T, k)...), no room -/
theorem jaG {i k : Nat} {kq kn : IntKind} {kz : Int} {tn : TypeId} (at0 : At Ls p os ⟨some d, .call { callee := .builtin .append, args := [x, y].toArray, argTypes := [t, tn].toArray }, ty, pos, af, g⟩ p') (q f : Nat) (zd : τ) (zv : Value) (hF : nth F f = Ar e te r p0 c k0 z) (hi0 : i ≤ z.length) (hk : 0 < k) (hgr : c < i + k) (hs32 : i + k < 4294967296) (hkz : kz = (k : Int))
    (hx : opd S x = some (.slice p0 i c)) (hy : opd S y = some (.int kq kz)) (h2 : P.underlying tn = some (.int kn)) (hzr : RV e Ls F zv.cells.toList zd)
    (h : ∀ r' b c', snocC Ls r' fun Ls' => J P n X Q p' ((d, .slice (some ⟨b, 0, none⟩) (i + k) c') :: S) Ls' (Al e te r' (some ⟨b, 0, none⟩) c' (z.take i ++ List.replicate k zd) :: F) m) (hr : Ls[q]? = some r := by rfl) (hz : zeroOf P te = some zv := by kernel_rfl) (ht : slOk P t te e.n = true := by kernel_rfl) (hd : Nat.blt d n = true := by kernel_rfl) (hg : wantedS os S g = some true := by kernel_rfl) : J P n X Q p S Ls F m :=
  ⟨fun hq' r0 hm a w hs => at0.run fun K hK => by
    subst hkz
    have hA : (Ar e te r p0 c k0 z).h (bl Ls ++ X.A) w := hF ▸ hs.g f
    obtain ⟨r', c', w', b, hrun, h1, h2, h3⟩ := run_grow_zeros (P := P) (kq := kq) hs.o hr hA.1 hi0 hk hgr hs32 hz (hzr _ _ hs.o hs.f) ht h2 ty
    refine op_val hs.s hd hg (v := .slice (some ⟨b, 0, none⟩) (i + k) c') (w' := w') (by simp [execOp, resolve, invoke, builtin, hs.s.eval hx, hs.s.eval hy, hrun]) fun a' hS => hK h2 ?_
    have h := h r' b c'
    rw [snocC_eq] at h
    exact h.go hq' r0 hm a' w' (hs.next h1 h2 hS [Ar e te _ _ _ _ _] ⟨⟨h3, rfl⟩, trivial⟩)⟩

/-- copy(s[k+1:], s[k:]), s longer by one than what is known of it -/
theorem jcU {k m1 m2 ca cb b o : Nat} {q1 q2 : Option Addr} (at0 : At Ls p os ⟨some d, .call { callee := .builtin .copy, args := [x, y].toArray, argTypes := [t, t].toArray }, ty, pos, af, g⟩ p') (i f : Nat) (hF : nth F f = Ar e te r p0 c k0 z) (hp : p0 = some ⟨b, o, none⟩) (hk : k < z.length) (hroom : z.length + 1 ≤ c)
    (hx : opd S x = some (.slice q1 m1 ca)) (hy : opd S y = some (.slice q2 m2 cb)) (hq1 : q1 = some ⟨b, o + (k + 1) * e.n, none⟩) (hq2 : q2 = some ⟨b, o + k * e.n, none⟩) (hm1 : m1 = z.length - k) (hm2 : m2 = z.length + 1 - k)
    (h : ∀ r', setC Ls i r' fun Ls' => J P n X Q p' ((d, vi ((z.length - k : Nat) : Int)) :: S) Ls' (Al e te r' p0 c (z.take (k + 1) ++ z.drop k) :: F) m) (hr : Ls[i]? = some r := by rfl) (ht : slOk P t te e.n = true := by kernel_rfl) (hd : Nat.blt d n = true := by kernel_rfl) (hg : wantedS os S g = some true := by kernel_rfl) : J P n X Q p S Ls F m :=
  ⟨fun hq' r0 hm a w hs => at0.run fun K hK => by
    subst hq1 hq2 hm1 hm2
    have hA : (Ar e te r p0 c k0 z).h (bl Ls ++ X.A) w := hF ▸ hs.g f
    obtain ⟨r', w', hrun, h1, h2, h3⟩ := run_copy_up (P := P) (ca := ca) (cb := cb) hs.o hr hA.1 hk hroom b o hp ht ty
    refine op_val hs.s hd hg (v := vi ((z.length - k : Nat) : Int)) (w' := w') (by simp [execOp, resolve, invoke, builtin, hs.s.eval hx, hs.s.eval hy, hrun, goInt]) fun a' hS => hK h2 ?_
    have h := h r'
    rw [setC_eq] at h
    exact h.go hq' r0 hm a' w' (hs.next h1 h2 hS [Ar e te _ _ _ _ _] ⟨⟨h3, rfl⟩, trivial⟩)⟩

/-- slices.overlaps of two blocks of one's own -/
theorem jov {fo m2 ca cb b o o0 : Nat} {q2 : Option Addr} {fn : Func} {tb : TypeId} (i j f f2 : Nat) (hij : i ≠ j) (hne2 : z2 ≠ []) (hF : nth F f = Ar e te r p0 c k0 z) (hF2 : nth F f2 = Ar e te r2 q0 c2 k2 z2) (hp : p0 = some ⟨b, o0, none⟩) (hc : 0 < c)
    (hx : opd S x = some (.slice q0 k2 ca)) (hy : opd S y = some (.slice q2 m2 cb)) (hq2 : q2 = some ⟨b, o, none⟩) (hf : P.funcs[fo]? = some fn) (he : Extern.find fn = some (Extern.SlicesOverlaps.overlaps #[t, t] #[tb]))
    (h : J P n X Q (.ops os ol) ((d, vb false) :: S) Ls F m) (hr : Ls[i]? = some r := by rfl) (hr2 : Ls[j]? = some r2 := by rfl) (hn : (fn.name == "runtime.NumGoroutine") = false := by kernel_rfl) (hb : fn.body.isNone = true := by kernel_rfl) (hnx : Extern.findNext fn = none := by kernel_rfl)
    (ht : slOk P t te e.n = true := by kernel_rfl) (hd : Nat.blt d n = true := by kernel_rfl) (hg : wantedS os S g = some true := by kernel_rfl) : J P n X Q (.ops os (⟨some d, .call { callee := .value (.func fo), args := [x, y].toArray, argTypes := [t, t].toArray }, ty, pos, af, g⟩ :: ol)) S Ls F m :=
  ⟨fun hq' r0 hm a w hs => by
    subst hq2
    obtain ⟨hu, info, zv, hi, hz', hsize, hby, hpos, hzs⟩ := slOk_spec ht
    have hA : (Ar e te r p0 c k0 z).h (bl Ls ++ X.A) w := hF ▸ hs.g f
    have hB : (Ar e te r2 q0 c2 k2 z2).h (bl Ls ++ X.A) w := hF2 ▸ hs.g f2
    have hov : (callFunc fo #[.slice q0 k2 ca, .slice (some ⟨b, o, none⟩) m2 cb]).run P w = .ok (.value (.bool false)) w := by
      rw [run_callFunc_extern hf hn hb hnx he]
      have hz : ∀ w, (Go.sizeOf te).run P w = .ok info.size w := fun w => by simp [sizeOf, typeInfo, hi]
      rcases hB.1 with ⟨_, rfl, _, rfl⟩ | ⟨b2, o2, cells2, rfl, rfl, g3, g4, g5, g6⟩
      · exact absurd rfl hne2
      · rcases hA.1 with ⟨_, h1, _⟩ | ⟨b', o', cells, rfl, hp', h3, h4, h5, h6⟩
        · rw [hp] at h1; cases h1
        · rw [hp] at hp'
          simp only [Option.some.injEq, Addr.mk.injEq] at hp'
          obtain ⟨rfl, _⟩ := hp'
          have hb1 := heap_of_own hs.o hr (List.mem_singleton.2 rfl)
          have hb2 := heap_of_own hs.o hr2 (List.mem_singleton.2 rfl)
          have hne : b2 ≠ b := fun h => nodup_apart hs.o.nodup hr2 hr (fun h => hij h.symm) _ (List.mem_singleton.2 rfl) _ (List.mem_singleton.2 rfl) h
          rw [Lib.run_overlaps_apart w t tb te hu info.size hz ⟨b2, o2, none⟩ ⟨b, o, none⟩ k2 ca m2 cb hne te te cells2.size cells.size (by simp [World.shape?, hb2]) (by simp [World.shape?, hb1]) (by have := Nat.mul_ne_zero (n := c) (m := e.n) (by omega) (by omega); omega) (by simp [World.frozen?, hb2]) (by simp [World.frozen?, hb2])]
          rfl
    refine wpList_op (v := vb false) (w' := w) hg hs.s ?_ (h.go hq' r0 hm _ w (hs.slot (hs.s.put hd _)))
    have hcal := hs.s.eval (x := .func fo) (v := .func (.func fo) #[] #[]) rfl
    simp [execOp, resolve, Deferred.ofValue, invoke, hs.s.eval hx, hs.s.eval hy, hcal, hov]⟩
end

/-! ### what comes out -/

theorem delM_ok {α : Type} {l : List α} {i j : Int} {r : List α} (h : delM l i j = some r) : 0 ≤ i ∧ i ≤ j ∧ j ≤ l.length := by
  unfold delM at h
  split at h
  · assumption
  · cases h
theorem delM_some {α : Type} {l : List α} {i j : Int} (h : 0 ≤ i ∧ i ≤ j ∧ j ≤ l.length) : delM l i j = some (l.take i.toNat ++ l.drop j.toNat) := if_pos h
theorem insM_ok {α : Type} {l z : List α} {i : Int} {r : List α} (h : insM l i z = some r) : z.length = 1 ∧ 0 ≤ i ∧ i ≤ l.length ∧ l.length + 1 < 4294967296 := by
  unfold insM at h
  split at h
  · assumption
  · cases h
theorem insM_some {α : Type} {l z : List α} {i : Int} (h : z.length = 1 ∧ 0 ≤ i ∧ i ≤ l.length ∧ l.length + 1 < 4294967296) : insM l i z = some (l.take i.toNat ++ z ++ l.drop i.toNat) := if_pos h
theorem del_take {α : Type} {l : List α} {i k : Nat} {zd : α} (h : i ≤ k) (hk : k ≤ l.length) : l.take i ++ l.drop k = (clearFrom (l.take i ++ l.drop k ++ l.drop (i + (l.length - k))) ((i + (l.length - k) : Nat) : Int) zd).take (i + (l.length - k)) := by
  have h1 : (l.take i ++ l.drop k).length = i + (l.length - k) := by simp; omega
  unfold clearFrom
  rw [Int.toNat_natCast]
  generalize List.length (l.take i ++ l.drop k ++ l.drop (i + (l.length - k))) - (i + (l.length - k)) = q
  rw [← h1, List.take_append_of_le_length (Nat.le_refl _), List.take_length, List.take_append_of_le_length (Nat.le_refl _), List.take_length]
theorem ins_up {α : Type} {l z : List α} {i : Nat} (h1 : z.length = 1) (h : i < l.length) : copyAt (l.take (i + 1) ++ l.drop i) (i : Int) z = l.take i ++ z ++ l.drop i := by
  unfold copyAt
  rw [Int.toNat_natCast, h1]
  have h2 : (l.take (i + 1)).length = i + 1 := by simp; omega
  have e1 : (l.take (i + 1) ++ l.drop i).take i = l.take i := by rw [List.take_append_of_le_length (by omega), List.take_take, Nat.min_eq_left (by omega)]
  have e2 : (l.take (i + 1) ++ l.drop i).drop (i + 1) = l.drop i := by
    have := List.drop_left (l₁ := l.take (i + 1)) (l₂ := l.drop i)
    rwa [h2] at this
  have e3 : z.take ((l.take (i + 1) ++ l.drop i).length - i) = z := List.take_of_length_le (by rw [List.length_append, h2, List.length_drop]; omega)
  rw [e1, e2, e3]
theorem ins_new {α : Type} {l z : List α} {i : Nat} {zd : α} (h1 : z.length = 1) (h : i ≤ l.length) : copyAt (copyAt (l.take i ++ List.replicate (l.length + 1 - i) zd) (i : Int) z) ((i + 1 : Nat) : Int) (l.drop i) = l.take i ++ z ++ l.drop i := by
  have h2 : (l.take i).length = i := by simp; omega
  have e1 : copyAt (l.take i ++ List.replicate (l.length + 1 - i) zd) (i : Int) z = l.take i ++ z ++ List.replicate (l.length - i) zd := by
    unfold copyAt
    rw [Int.toNat_natCast, h1, List.take_append_of_le_length (by omega), List.take_of_length_le (by omega), List.take_of_length_le (l := z) (by simp; omega), List.drop_append, h2, List.drop_of_length_le (by omega), List.nil_append, List.drop_replicate]
    congr 2; omega
  rw [e1]
  unfold copyAt
  have h3 : (l.take i ++ z).length = i + 1 := by simp; omega
  rw [Int.toNat_natCast, List.take_append_of_le_length (by omega), List.take_of_length_le (by omega), List.take_of_length_le (l := l.drop i) (by simp; omega), List.drop_of_length_le (l := l.take i ++ z ++ List.replicate (l.length - i) zd) (by simp; omega), List.append_nil]

section
variable {P : Program} {n : Nat} {X : Hd qd} {ρ : Type} {Q : PQ ρ} {S : Sl} {Ls : List Res} {F : List PP} {m : Option ρ} {p : Pos} {τ : Type} {e : E τ} {te : TypeId} {r : Res} {p0 : Option Addr} {c k0 : Nat} {z z2 : List τ}
theorem jAb (k : Nat) (hF : nth F k = Ar e te r p0 c k0 z) (hne : z ≠ []) (h : ∀ b o, p0 = some ⟨b, o, none⟩ → J P n X Q p S Ls F m) : J P n X Q p S Ls F m :=
  jAc k hF fun _ _ hp => by
    rcases hp with ⟨_, h1, _⟩ | ⟨b, o, hb⟩
    · exact absurd h1 hne
    · exact h b o hb
theorem gE (h : OKr Ls F (Ar e te r p0 c k0 z)) (hz : z2 = z) : OKr Ls F (Ar e te r p0 c (List.length z2) z2) := by
  subst hz
  exact fun A w hO hF => ⟨(h A w hO hF).1, rfl⟩
end
section
variable {α : Type} {l z : List α} {i j : Int} {c nn : Nat} {p : Option Addr} {zd : α}
theorem hpp (h : p = none ∧ l = [] ∧ c = 0 ∨ ∃ b o, p = some ⟨b, o, none⟩) : p = none ∨ ∃ b o, p = some ⟨b, o, none⟩ := h.imp (·.1) id
theorem vwP {L m : Nat} (hp : p = none ∨ ∃ b o, p = some ⟨b, o, none⟩) (h0 : 0 ≤ j) (hL : j ≤ (L : Int)) (hc : L ≤ c) (hm : m = L - j.toNat) : Vw nn p c L j (pV p c j.toNat nn) m :=
  ⟨h0, by omega, hc, fun b o hb hm => pV_some hb (by omega)⟩
theorem del_same (hc : 0 ≤ i ∧ i ≤ j ∧ j ≤ l.length) (hb : (i == j) = true) : some (l.take i.toNat ++ l.drop j.toNat) = some l := by
  rw [beq_iff_eq] at hb; subst hb; rw [List.take_append_drop]
theorem len_del (hc : 0 ≤ i ∧ i ≤ j ∧ j ≤ l.length) : (l.take i.toNat ++ l.drop j.toNat ++ l.drop (i.toNat + (l.length - j.toNat))).length = l.length := by
  simp only [List.length_append, List.length_take, List.length_drop]; omega
theorem del_hd (hc : 0 ≤ i ∧ i ≤ j ∧ j ≤ l.length) : Value.slice p (i.toNat + (l.length - j.toNat)) c = sv p (l.take i.toNat ++ l.drop j.toNat) c := by
  have : (l.take i.toNat ++ l.drop j.toNat).length = i.toNat + (l.length - j.toNat) := by simp only [List.length_append, List.length_take, List.length_drop]; omega
  simp only [sv, this]

theorem w64s {x : Int} (h : 0 ≤ x) (h2 : x < 8589934592) : w64 x = x := by
  show IntKind.i64.wrap x = x
  rw [IntKind.wrap_i64]; omega
abbrev InsH (l z : List α) (i : Int) : Prop := z.length = 1 ∧ 0 ≤ i ∧ i ≤ l.length ∧ l.length + 1 < 4294967296
variable (hc : InsH l z i)
include hc
theorem ins_z : z ≠ [] := by rintro rfl; exact absurd hc.1 (by simp)
theorem ins_w : w64 (i + 1) = i + 1 := w64s (by have := hc.2; omega) (by have := hc.2; omega)
theorem ins_v : w64 ((l.length : Int) + 1) = (l.length : Int) + 1 := w64s (by omega) (by have := hc.2; omega)
theorem ins_end (hb : (i == ((l.length : Nat) : Int)) = true) : insM l i z = (app l z).bind some := by
  rw [beq_iff_eq] at hb
  rw [insM_some hc, app, if_pos (by have := hc.2.2.2; have := hc.1; omega)]
  subst hb
  simp
theorem ins_full (hg : decide ((c : Int) < w64 ((l.length : Int) + 1)) = true) : c < i.toNat + (l.length + 1 - i.toNat) := by
  rw [ins_v hc, decide_eq_true_eq] at hg
  have := hc.2; omega
theorem ins_k : w64 (w64 ((l.length : Int) + 1) - i) = ((l.length + 1 - i.toNat : Nat) : Int) := by
  rw [ins_v hc, w64s] <;> (have := hc.2; omega)
theorem ins_len : (l.take i.toNat ++ List.replicate (l.length + 1 - i.toNat) zd).length = l.length + 1 := by
  have := hc.2
  simp only [List.length_append, List.length_take, List.length_replicate]; omega
theorem ins_l2 (h : (l.take i.toNat ++ List.replicate (l.length + 1 - i.toNat) zd).length ≤ c) : i.toNat + (l.length + 1 - i.toNat) ≤ c := by
  rw [ins_len hc] at h; have := hc.2; omega
theorem ins_l3 : i ≤ (((l.take i.toNat ++ List.replicate (l.length + 1 - i.toNat) zd).length : Nat) : Int) := by
  rw [ins_len hc]; have := hc.2; omega
theorem ins_l4 : i.toNat + (l.length + 1 - i.toNat) - i.toNat = (l.take i.toNat ++ List.replicate (l.length + 1 - i.toNat) zd).length - i.toNat := by
  rw [ins_len hc]; have := hc.2; omega
theorem ins_w0 : 0 ≤ w64 (i + 1) := by rw [ins_w hc]; have := hc.2; omega
theorem ins_w1 : w64 (i + 1) ≤ ((i.toNat + (l.length + 1 - i.toNat) : Nat) : Int) := by rw [ins_w hc]; have := hc.2; omega
theorem ins_w2 : w64 (i + 1) ≤ ((l.length + 1 : Nat) : Int) := by rw [ins_w hc]; have := hc.2; omega
theorem ins_vw (hp : p = none ∨ ∃ b o, p = some ⟨b, o, none⟩) (h : (l.take i.toNat ++ List.replicate (l.length + 1 - i.toNat) zd).length ≤ c) : Vw nn p c (l.take i.toNat ++ List.replicate (l.length + 1 - i.toNat) zd).length (w64 (i + 1)) (pV p c (w64 (i + 1)).toNat nn) (i.toNat + (l.length + 1 - i.toNat) - (w64 (i + 1)).toNat) :=
  vwP hp (ins_w0 hc) (by rw [ins_len hc]; exact ins_w2 hc) h (by rw [ins_len hc]; have := hc.2; omega)
theorem ins_hd : Value.slice p (i.toNat + (l.length + 1 - i.toNat)) c = sv p (l.take i.toNat ++ z ++ l.drop i.toNat) c := by
  have h := hc.2
  have : (l.take i.toNat ++ z ++ l.drop i.toNat).length = i.toNat + (l.length + 1 - i.toNat) := by simp only [List.length_append, List.length_take, List.length_drop, hc.1]; omega
  simp only [sv, this]
theorem ins_hd2 : Value.slice p (l.length + 1) c = sv p (l.take i.toNat ++ z ++ l.drop i.toNat) c := by
  have h := hc.2
  have : (l.take i.toNat ++ z ++ l.drop i.toNat).length = l.length + 1 := by simp only [List.length_append, List.length_take, List.length_drop, hc.1]; omega
  simp only [sv, this]
theorem ins_fin : l.take i.toNat ++ z ++ l.drop i.toNat = copyAt (copyAt (l.take i.toNat ++ List.replicate (l.length + 1 - i.toNat) zd) i z) (w64 (i + 1)) (l.drop i.toNat) := by
  have h := hc.2
  have h1 : i = (i.toNat : Int) := by omega
  have h2 : w64 (i + 1) = ((i.toNat + 1 : Nat) : Int) := by rw [ins_w hc]; omega
  rw [h2]
  have := ins_new (zd := zd) hc.1 (show i.toNat ≤ l.length by omega)
  rw [← h1] at this
  exact this.symm
theorem ins_ne (hb : (i == ((l.length : Nat) : Int)) = false) : l ≠ [] := by
  rintro rfl
  have h := hc.2
  simp at h hb
  omega
theorem ins_lt (hb : (i == ((l.length : Nat) : Int)) = false) : i.toNat < l.length := by
  have h := hc.2
  have : i ≠ (l.length : Int) := by simpa using hb
  omega
theorem ins_v0 : 0 ≤ w64 ((l.length : Int) + 1) := by rw [ins_v hc]; omega
theorem ins_v1 (hg : decide ((c : Int) < w64 ((l.length : Int) + 1)) = false) : w64 ((l.length : Int) + 1) ≤ c := by
  have _ := hc; rw [decide_eq_false_iff_not] at hg; omega
theorem ins_room (hg : decide ((c : Int) < w64 ((l.length : Int) + 1)) = false) : l.length + 1 ≤ c := by
  have := ins_v1 hc hg
  rw [ins_v hc] at this; omega
theorem ins_v2 : Value.slice p (w64 ((l.length : Int) + 1)).toNat c = Value.slice p (l.length + 1) c := by
  rw [ins_v hc]; congr 1
theorem ins_c0 (hg : decide ((c : Int) < w64 ((l.length : Int) + 1)) = false) : 0 < c := by have := ins_room hc hg; omega
theorem ins_w3 (hb : (i == ((l.length : Nat) : Int)) = false) (hg : decide ((c : Int) < w64 ((l.length : Int) + 1)) = false) : (w64 (i + 1)).toNat < c := by
  have h1 := ins_lt hc hb; have h2 := ins_room hc hg; have := hc.2
  rw [ins_w hc]; omega
theorem ins_q2 (hb : (i == ((l.length : Nat) : Int)) = false) (hg : decide ((c : Int) < w64 ((l.length : Int) + 1)) = false) : i.toNat < c := by
  have h1 := ins_lt hc hb; have h2 := ins_room hc hg; omega
theorem ins_q1 {b o : Nat} (hb : (i == ((l.length : Nat) : Int)) = false) (hg : decide ((c : Int) < w64 ((l.length : Int) + 1)) = false) (hp : p = some ⟨b, o, none⟩) : pV p c (w64 (i + 1)).toNat nn = some ⟨b, o + (i.toNat + 1) * nn, none⟩ := by
  rw [pV_some hp (ins_w3 hc hb hg), ins_w hc]
  have := hc.2
  rw [show (i + 1).toNat = i.toNat + 1 by omega]
theorem ins_m1 : l.length + 1 - (w64 (i + 1)).toNat = l.length - i.toNat := by
  rw [ins_w hc]; have := hc.2; omega
theorem ins_upl (hb : (i == ((l.length : Nat) : Int)) = false) : (l.take (i.toNat + 1) ++ l.drop i.toNat).length = l.length + 1 := by
  have := ins_lt hc hb
  simp only [List.length_append, List.length_take, List.length_drop]; omega
theorem ins_x1 (hb : (i == ((l.length : Nat) : Int)) = false) : i ≤ (((l.take (i.toNat + 1) ++ l.drop i.toNat).length : Nat) : Int) := by
  rw [ins_upl hc hb]; have := hc.2; omega
theorem ins_x2 (hb : (i == ((l.length : Nat) : Int)) = false) (hg : decide ((c : Int) < w64 ((l.length : Int) + 1)) = false) : (l.take (i.toNat + 1) ++ l.drop i.toNat).length ≤ c := by
  rw [ins_upl hc hb]; exact ins_room hc hg
theorem ins_x3 (hb : (i == ((l.length : Nat) : Int)) = false) : l.length + 1 - i.toNat = (l.take (i.toNat + 1) ++ l.drop i.toNat).length - i.toNat := by
  rw [ins_upl hc hb]
theorem ins_fin2 (hb : (i == ((l.length : Nat) : Int)) = false) : l.take i.toNat ++ z ++ l.drop i.toNat = copyAt (l.take (i.toNat + 1) ++ l.drop i.toNat) i z := by
  have h := hc.2
  have h1 : i = (i.toNat : Int) := by omega
  have := ins_up hc.1 (ins_lt hc hb)
  rw [← h1] at this
  exact this.symm
end
end Go.GD
