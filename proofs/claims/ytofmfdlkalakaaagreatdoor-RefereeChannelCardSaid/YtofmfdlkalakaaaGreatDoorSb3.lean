/- strings.Builder: one byte is written. Conditions: none. -/
import Derived.Test.YtofmfdlkalakaaaGreatDoorNest
namespace Go.GD
open Go Go.RowKit Go.Shelf Go.Proofs
set_option autoImplicit false
set_option linter.unusedVariables false
variable {qd : Prop}

/-- copyCheck leaves a builder what it holds -/
theorem lib_chk {P : Program} {ρ : Ren} (L : Lays.n240 P ρ) (X : Builder.X72 P ρ) {T : TypeId} (hT : liesAt P P.depth T (2 / P.cellsOf T) 0 (ρ.t 72) 1 = true) (hc : ∀ args w, (callFunc (ρ.f 240) args).run P w = .ok (.enter (ρ.f 240) args) w) {te b : Nat} {r : Res} {l : Str} :
    Con qd P (ρ.f 240) [pt b 0] [r] [Bdr T te r b l] (some ()) fun _ K => ∀ r2, K (.tuple #[]) [r2] [Bdr T te r2 b l] := by
  refine ⟨hc, fun A w x hm hO hF => ?_⟩
  obtain ⟨p, ad, c, r2, hp, hb, hA, rfl, hO2, hbA2⟩ := BdR.at hF.1 hO
  refine (bld_check L X hT hp hb).mono fun e w1 ⟨he, k1, k2, k3, k4, k5, k6, k7⟩ => ?_
  subst he
  have hn := hO.nodup
  have hnb : b ∉ r2.map Prod.fst := by simp [bl] at hn ⊢; exact fun x hx => hn.1 x hx
  refine fun G k => k ((b, .cells #[pt b 0, .slice ad l.length c] T (0, 0)) :: r2) ⟨rfl, ⟨fun q hq => by rw [k5]; exact hO.old q hq, fun s hs q hq => ?_, by simpa [bl] using hn, fun q hq => hO.apart q (by simpa [bl] using hq)⟩,
    ⟨k1, k2, k3, fun _ => by rw [k4]; exact Nat.le_refl _, by omega, fun k hk hn => k7 k (fun e => hn (by simp [bl, e])), fun q hq => .inl (by simpa [bl] using hq)⟩, ⟨_, _, _, _, .inr rfl, rfl, hA⟩, trivial⟩
  simp only [List.mem_singleton] at hs
  subst hs
  rcases List.mem_cons.1 hq with rfl | hq
  · exact k6
  · have h1 := hO.has _ (List.mem_singleton.2 rfl) q (List.mem_cons_of_mem _ hq)
    rw [k7 q.1 (fun e => hnb (e ▸ List.mem_map.2 ⟨q, hq, rfl⟩))]
    exact h1

def BA (te : TypeId) (r : Res) (p : Option Addr) (c : Nat) (l : Str) : PP := Pu (BArr te r p c l)

theorem bytes_rd {Z : List Nat} {w : World} : ∀ {l : Str}, (eInt .u8).rdL Z w (Lib.strCells ⟨⟨l⟩⟩) (l.map fun x => (x.toNat : Int))
  | [] => rfl
  | x :: l => ⟨[.int .u8 x.toNat], Lib.strCells ⟨⟨l⟩⟩, by simp [Lib.strCells], rfl, bytes_rd⟩
theorem rd_bytes {Z : List Nat} {w : World} : ∀ {l : List Int} {cs : List Value}, (eInt .u8).rdL Z w cs l → (∀ x ∈ l, 0 ≤ x ∧ x < 256) → cs = Lib.strCells ⟨⟨l.map fun x => UInt8.ofNat x.toNat⟩⟩
  | [], cs, h, _ => by simp only [E.rdL] at h; subst h; rfl
  | x :: l, cs, h, hx => by
    obtain ⟨c1, c2, rfl, h1, h2⟩ := h
    have h1 : c1 = [.int .u8 x] := h1
    subst h1
    have h3 := rd_bytes h2 fun y hy => hx y (List.mem_cons_of_mem _ hy)
    have h4 := hx x List.mem_cons_self
    have h5 : (((UInt8.ofNat x.toNat).toNat : Nat) : Int) = x := by
      rw [UInt8.toNat_ofNat']
      omega
    rw [h3]
    simp [Lib.strCells]
    omega

/-- a slice whose array is one of the blocks of one's own, from its beginning on -/
def Arr0 {τ : Type} (e : E τ) (t : TypeId) (Z : List Nat) (w : World) (r : Res) (p : Option Addr) (c : Nat) (l : List τ) : Prop :=
  (r = [] ∧ p = none ∧ c = 0 ∧ l = []) ∨
  ∃ b cells, r = [(b, .cells cells t (0, 0))] ∧ p = some ⟨b, 0, none⟩ ∧ l.length ≤ c ∧ c ≤ maxLen ∧ cells.size = c * e.n ∧ e.rdL Z w (cells.toList.take (l.length * e.n)) l

section
variable {P : Program} {ops : Array Oper} {Q : Exit → Act → World → Prop} {a : Act} {n : Nat} {S : List (Nat × Value)} {w : World} {K : Act → World → Prop}
variable {A : List Nat} {Ls : List Res} {d : Nat} {ty : TypeId} {pos : String} {af : Array Edge} {g : Option (Nat × Bool)}
/-- append to a slice of one's own -/
theorem run_append_arr0 {τ : Type} {e : E τ} {t te : Nat} {r : Res} {p q : Option Addr} {c k i : Nat} {l m z : List τ} (hO : Own A w Ls) (hr : Ls[i]? = some r) (hA : Arr0 e te (bl Ls ++ A) w r p c l)
    (hR : Src e (bl Ls ++ A) w q m) (ht : slOk P t te e.n = true) (hm : app l m = some z) (rty : TypeId) :
    ∃ r' p' c' w', (Builtin.append_ #[t, t] rty #[.slice p l.length c, .slice q m.length k]).run P w = .ok (.slice p' z.length c') w' ∧
      Own A w' (Ls.set i r') ∧ Ext qd Ls w (Ls.set i r') w' ∧ Arr0 e te (bl (Ls.set i r') ++ A) w' r' p' c' z := by
  obtain ⟨hsm, rfl⟩ := app_lt hm
  obtain ⟨hu, info, zv, hi, hz, hsize, hby, hpos, hzs⟩ := slOk_spec ht
  have hlc : l.length ≤ c := by
    rcases hA with ⟨_, _, _, rfl⟩ | ⟨b, cells, _, _, h3, _⟩
    · exact Nat.zero_le _
    · exact h3
  by_cases hm0 : m = []
  · subst hm0
    refine ⟨r, p, c, w, by simpa using run_append_none (k := k) (q := q) hu hi hlc, ?_, ?_, ?_⟩
    · exact hO.set hr (Nat.le_refl _) (fun _ _ _ => rfl) (fun x hx => heap_of_own hO hr hx) (by simpa [bl] using (hO.pick i hr).nodup) (fun x hx => .inl (List.mem_map.2 ⟨x, hx, rfl⟩))
    · exact Ext.set hr rfl rfl rfl (Nat.le_refl _) (fun _ _ _ => rfl) (fun x hx => .inl (List.mem_map.2 ⟨x, hx, rfl⟩))
    · have hself : Ls.set i r = Ls := by
        apply List.ext_getElem?; intro j
        by_cases hj : i = j
        · subst hj; rw [List.getElem?_set_self']; simp [hr]
        · rw [List.getElem?_set_ne hj]
      rw [hself]; simpa using hA
  · have hmpos : 0 < m.length := List.length_pos_iff.2 hm0
    rcases hR with hR | ⟨b2, off, cs2, rfl, hcs2, hcell⟩
    · exact absurd hR hm0
    · have hl2 : cs2.length = m.length * info.size := by rw [e.rdL_len hcs2, hsize]
      have hnews : ∀ j u, cs2[j]? = some u → w.cell? ((⟨b2, off, none⟩ : Addr).add j) = some u := fun j u hu => by rw [add_plain]; exact hcell j u hu
      have hone := e.rdL_one hcs2
      have hbytes : (l.length + m.length) * info.bytes ≤ 140737488355328 := by
        have := Nat.mul_le_mul (Nat.le_of_lt hsm) hby
        omega
      have h63 : ((l.length + m.length : Nat) : Int) ≤ 9223372036854775807 := by omega
      rcases hA with ⟨rfl, rfl, rfl, rfl⟩ | ⟨b, cells, rfl, rfl, h3, h4, h5, h6⟩
      · -- nil: a new block
        have hrun := run_append_nil (P := P) w t rty te info zv hu hi hz ⟨b2, off, none⟩ m.length k cs2 hl2 hnews hmpos (by omega) (by simp at hbytes; omega)
        have hge := grownCap_ge w m.length 0 te
        have hcm := grownCap_le_maxLen w m.length 0 te (by simp only [maxLen]; omega)
        refine ⟨[(w.heap.size, .cells (cs2.toArray ++ Builtin.zeroCells zv.cells (grownCap w m.length 0 te - m.length)) te (0, 0))], _, _, _, by rw [List.nil_append]; exact hrun, ?_, ?_, ?_⟩
        · exact hO.set hr (by simp) (fun k hk _ => Below.heap_alloc w.drew _ k hk) (fun x hx => by simp only [List.mem_singleton] at hx; subst hx; exact heap_alloc_new w.drew _) (by simp) (fun x hx => by simp only [List.mem_singleton] at hx; subst hx; exact .inr (Nat.le_refl _))
        · exact Ext.set hr rfl rfl rfl (by simp) (fun k hk _ => Below.heap_alloc w.drew _ k hk) (fun x hx => by simp only [List.mem_singleton] at hx; subst hx; exact .inr (Nat.le_refl _))
        · have hE : Ext qd Ls w (Ls.set i [(w.heap.size, .cells (cs2.toArray ++ Builtin.zeroCells zv.cells (grownCap w m.length 0 te - m.length)) te (0, 0))]) (w.drew.alloc (.cells (cs2.toArray ++ Builtin.zeroCells zv.cells (grownCap w m.length 0 te - m.length)) te)) :=
            Ext.set hr rfl rfl rfl (by simp) (fun k hk _ => Below.heap_alloc w.drew _ k hk) (fun x hx => by simp only [List.mem_singleton] at hx; subst hx; exact .inr (Nat.le_refl _))
          refine .inr ⟨w.heap.size, _, rfl, rfl, by simpa using hge, hcm, ?_, ?_⟩
          · simp only [Array.size_append, List.size_toArray, size_zeroCells, hzs, hl2, hsize, ← Nat.add_mul]
            congr 1; omega
          · have : (cs2.toArray ++ Builtin.zeroCells zv.cells (grownCap w m.length 0 te - m.length)).toList.take (([] ++ m).length * e.n) = cs2 := by
              simp only [Array.toList_append, List.nil_append]
              rw [← hsize, ← hl2]; simp
            rw [this]
            exact e.rdL_step (hE.step A) (by simpa using hcs2)
      · have hb := heap_of_own hO hr (List.mem_singleton.2 rfl)
        have hlo : (cells.toList.take (l.length * e.n)).length = l.length * info.size := by rw [e.rdL_len h6, hsize]
        by_cases hroom : l.length + m.length ≤ c
        · -- there is room
          have hfit : l.length * info.size + cs2.length ≤ cells.size := by rw [hl2, h5, ← Nat.add_mul, hsize]; exact Nat.mul_le_mul_right _ hroom
          have hrun := run_append_room (P := P) w t rty te info hu hi b l.length c cells hb ⟨b2, off, none⟩ m.length k cs2 hl2 hnews hone hroom hfit
          have hk : ∀ (cs : Array Value) (k : Nat), k < w.heap.size → k ∉ [(b, Obj.cells cells te (0, 0))].map Prod.fst → (w.setRow b cs).heap[k]? = w.heap[k]? := fun cs k _ hk => setRow_other w b k _ (fun e => hk (by simp [e]))
          refine ⟨[(b, .cells (cells.toList.take (l.length * info.size) ++ cs2 ++ cells.toList.drop (l.length * info.size + cs2.length)).toArray te (0, 0))], _, c, _, by rw [List.length_append]; exact hrun, ?_, ?_, ?_⟩
          · exact hO.set hr (by simp) (hk _) (fun x hx => by simp only [List.mem_singleton] at hx; subst hx; exact setRow_heap w b cells _ te (0, 0) hb) (by simp) (fun x hx => by simp only [List.mem_singleton] at hx; subst hx; exact .inl (by simp))
          · exact Ext.set hr rfl rfl rfl (by simp) (hk _) (fun x hx => by simp only [List.mem_singleton] at hx; subst hx; exact .inl (by simp))
          · have hE : Ext qd Ls w (Ls.set i [(b, .cells (cells.toList.take (l.length * info.size) ++ cs2 ++ cells.toList.drop (l.length * info.size + cs2.length)).toArray te (0, 0))]) (w.setRow b (cells.toList.take (l.length * info.size) ++ cs2 ++ cells.toList.drop (l.length * info.size + cs2.length)).toArray) :=
              Ext.set hr rfl rfl rfl (by simp) (hk _) (fun x hx => by simp only [List.mem_singleton] at hx; subst hx; exact .inl (by simp))
            refine .inr ⟨b, _, rfl, rfl, by simpa using hroom, h4, ?_, ?_⟩
            · simp only [List.size_toArray, List.length_append, List.length_take, List.length_drop, Array.length_toList]
              rw [← h5]; omega
            · have hsz : (l ++ m).length * e.n = (cells.toList.take (l.length * info.size) ++ cs2).length := by
                rw [List.length_append, List.length_append, hsize, hlo, hl2, hsize, Nat.add_mul]
              have : (cells.toList.take (l.length * info.size) ++ cs2 ++ cells.toList.drop (l.length * info.size + cs2.length)).toArray.toList.take ((l ++ m).length * e.n) = cells.toList.take (l.length * e.n) ++ cs2 := by
                rw [hsz]; show List.take _ (cells.toList.take (l.length * info.size) ++ cs2 ++ _) = _; rw [List.take_left, hsize]
              rw [this]
              exact e.rdL_append (e.rdL_step (hE.step A) h6) (e.rdL_step (hE.step A) hcs2)
        · -- a new block
          have holds : ∀ j u, (cells.toList.take (l.length * e.n))[j]? = some u → w.cell? ((⟨b, 0, none⟩ : Addr).add j) = some u := fun j u hu => by
            rw [add_plain, cell_of_row w b (0 + j) cells te (0, 0) hb, Nat.zero_add]
            rw [List.getElem?_take] at hu
            split at hu
            · simpa using hu
            · cases hu
          have hrun := run_append_grow (P := P) w t rty te info zv hu hi hz ⟨b, 0, none⟩ l.length c _ hlo holds ⟨b2, off, none⟩ m.length k cs2 hl2 hnews (by omega) h63 (growslice_fits (by omega) hbytes)
          have hge := grownCap_ge w (l.length + m.length) c te
          have hcm := grownCap_le_maxLen w (l.length + m.length) c te (by simp only [maxLen]; omega)
          refine ⟨[(w.heap.size, .cells ((cells.toList.take (l.length * e.n)).toArray ++ cs2.toArray ++ Builtin.zeroCells zv.cells (grownCap w (l.length + m.length) c te - (l.length + m.length))) te (0, 0))], _, _, _, by rw [List.length_append]; exact hrun, ?_, ?_, ?_⟩
          · exact hO.set hr (by simp) (fun k hk _ => Below.heap_alloc w.drew _ k hk) (fun x hx => by simp only [List.mem_singleton] at hx; subst hx; exact heap_alloc_new w.drew _) (by simp) (fun x hx => by simp only [List.mem_singleton] at hx; subst hx; exact .inr (Nat.le_refl _))
          · exact Ext.set hr rfl rfl rfl (by simp) (fun k hk _ => Below.heap_alloc w.drew _ k hk) (fun x hx => by simp only [List.mem_singleton] at hx; subst hx; exact .inr (Nat.le_refl _))
          · have hE : Ext qd Ls w (Ls.set i [(w.heap.size, .cells ((cells.toList.take (l.length * e.n)).toArray ++ cs2.toArray ++ Builtin.zeroCells zv.cells (grownCap w (l.length + m.length) c te - (l.length + m.length))) te (0, 0))]) (w.drew.alloc (.cells ((cells.toList.take (l.length * e.n)).toArray ++ cs2.toArray ++ Builtin.zeroCells zv.cells (grownCap w (l.length + m.length) c te - (l.length + m.length))) te)) :=
              Ext.set hr rfl rfl rfl (by simp) (fun k hk _ => Below.heap_alloc w.drew _ k hk) (fun x hx => by simp only [List.mem_singleton] at hx; subst hx; exact .inr (Nat.le_refl _))
            refine .inr ⟨w.heap.size, _, rfl, rfl, by simpa using hge, hcm, ?_, ?_⟩
            · simp only [Array.size_append, List.size_toArray, size_zeroCells, hzs, hlo, hl2, hsize, ← Nat.add_mul]
              congr 1; omega
            · have hsz : (l ++ m).length * e.n = (cells.toList.take (l.length * e.n) ++ cs2).length := by
                rw [List.length_append, List.length_append, hlo, hl2, hsize, Nat.add_mul]
              have : ((cells.toList.take (l.length * e.n)).toArray ++ cs2.toArray ++ Builtin.zeroCells zv.cells (grownCap w (l.length + m.length) c te - (l.length + m.length))).toList.take ((l ++ m).length * e.n) = cells.toList.take (l.length * e.n) ++ cs2 := by
                rw [hsz]; simp only [Array.toList_append]; exact List.take_left
              rw [this]
              exact e.rdL_append (e.rdL_step (hE.step A) h6) (e.rdL_step (hE.step A) hcs2)

/-- append(s, x...) -/
theorem op_append0 (i : Nat) {τ : Type} {e : E τ} {t : TypeId} (te : TypeId) {r : Res} {p q : Option Addr} {c k : Nat} {l m z : List τ} {x y : Operand} (hS : Slots a n S) (hd : Nat.blt d n = true) (hg : wantedS ops S g = some true) (hO : Own A w Ls) (hr : Ls[i]? = some r)
    (hA : Arr0 e te (bl Ls ++ A) w r p c l) (hR : Src e (bl Ls ++ A) w q m) (hx : opd S x = some (.slice p l.length c)) (hy : opd S y = some (.slice q m.length k)) (ht : slOk P t te e.n = true) (hm : app l m = some z)
    (kk : ∀ r' p' c' w', Own A w' (Ls.set i r') → Ext qd Ls w (Ls.set i r') w' → Arr0 e te (bl (Ls.set i r') ++ A) w' r' p' c' z → ∀ a', Slots a' n ((d, .slice p' z.length c') :: S) → K a' w') :
    Stp P ops Q ⟨some d, .call { callee := .builtin .append, args := [x, y].toArray, argTypes := [t, t].toArray }, ty, pos, af, g⟩ K a w := by
  obtain ⟨r', p', c', w', hrun, h1, h2, h3⟩ := run_append_arr0 (P := P) (k := k) hO hr hA hR ht hm ty
  refine op_val hS hd hg (v := .slice p' z.length c') (w' := w') ?_ (kk r' p' c' w' h1 h2 h3)
  simp [execOp, resolve, invoke, builtin, hS.eval hx, hS.eval hy, hrun]

end

theorem BArr.arr {te : TypeId} {Z : List Nat} {w : World} {r : Res} {p : Option Addr} {c : Nat} {l : Str} (h : BArr te r p c l) : Arr0 (eInt .u8) te Z w r p c (l.map fun x => (x.toNat : Int)) := by
  rcases h with ⟨h1, h2, h3, rfl⟩ | ⟨g, cells, h1, h2, h3, h4, h5, h6, h7⟩
  · exact .inl ⟨h1, h2, h3, rfl⟩
  · refine .inr ⟨g, cells, h1, h2, by simpa using h4, h5, by rw [h6]; simp [eInt], ?_⟩
    have e1 : (l.map fun x => ((x.toNat : Nat) : Int)).length * (eInt .u8).n = l.length := by simp [eInt]
    rw [e1, h7]
    exact bytes_rd
theorem Arr0.barr {te : TypeId} {Z : List Nat} {w : World} {r : Res} {p : Option Addr} {c : Nat} {l : List Int} (h : Arr0 (eInt .u8) te Z w r p c l) (hl : l ≠ []) (hx : ∀ x ∈ l, 0 ≤ x ∧ x < 256) : BArr te r p c (l.map fun x => UInt8.ofNat x.toNat) := by
  rcases h with ⟨_, _, _, rfl⟩ | ⟨g, cells, h1, h2, h3, h4, h5, h6⟩
  · exact absurd rfl hl
  · refine .inr ⟨g, cells, h1, h2, by simpa using hl, by simpa using h3, h4, by rw [h5]; simp [eInt], ?_⟩
    have e1 : l.length * (eInt .u8).n = l.length := by simp [eInt]
    rw [e1] at h6
    rw [List.length_map]
    exact rd_bytes h6 hx

section
variable {P : Program} {n : Nat} {X : Hd qd} {ρ : Type} {Q : PQ ρ} {S : Sl} {Ls : List Res} {F : List PP} {m : Option ρ} {os : Array Oper} {ol : List Oper} {x y : Operand} {p p' : Pos}
variable {d t T te b : Nat} {ty : TypeId} {pos : String} {af : Array Edge} {g : Option (Nat × Bool)} {r r2 : Res} {l : Str} {ad q : Option Addr} {c c2 : Nat} {z : Int} {pv : Value}

/-- a builder, taken apart -/
theorem jBo (i k : Nat) (hF : nth F k = Bdr T te r b l) (h : ∀ pv ad c r2, setC Ls i (bx b T [pv, .slice ad l.length c]) fun L1 => snocC L1 r2 fun Ls' => J P n X Q (.ops os ol) S Ls' (BA te r2 ad c l :: Pu (pv = .pointer none ∨ pv = pt b 0) :: F) m)
    (hr : Ls[i]? = some r := by rfl) : J P n X Q (.ops os ol) S Ls F m :=
  ⟨fun hq r0 hm a w hs => by
    have hB : (Bdr T te r b l).h (bl Ls ++ X.A) w := hF ▸ hs.g k
    obtain ⟨pv, ad, c, r2, hp, rfl, hA⟩ := hB
    have hp1 : ((Ls.set i [(b, Obj.cells #[pv, .slice ad l.length c] T (0, 0))] ++ [r2]).flatten ++ []).Perm Ls.flatten := by
      have := set_perm [(b, Obj.cells #[pv, .slice ad l.length c] T (0, 0))] hr
      rw [List.cons_append] at this
      have h2 := List.Perm.cons_inv this
      simp only [List.flatten_append, List.flatten_cons, List.flatten_nil, List.append_nil]
      exact List.perm_append_comm.trans h2
    have h1 := hs.less hp1
    have h := h pv ad c r2
    rw [setC_eq, snocC_eq] at h
    exact h.go hq r0 hm a w ⟨h1.s, h1.o, h1.e, hA, hp, h1.f⟩⟩
/-- and put together again -/
theorem jBc (i j k k2 : Nat) (hF : nth F k = BA te r2 ad c l) (hP : nth F k2 = Pu (pv = .pointer none ∨ pv = pt b 0)) (hi : Ls[i]? = some (bx b T [pv, .slice ad l.length c])) (hj : Ls[j]? = some r2) (h : ∀ r', setC Ls i r' fun L1 => setC L1 j [] fun Ls' => J P n X Q p S Ls' (Bdr T te r' b l :: F) m)
    (hij : Nat.beq i j = false := by rfl) (hl : ∀ r', setC Ls i r' (fun L1 => setC L1 j [] fun Ls' => p.less Ls Ls') := by intro _; first | exact trivial | exact rfl) : J P n X Q p S Ls F m :=
  ⟨fun hq r0 hm a w hs => by
    have hA : BArr te r2 ad c l := (hF ▸ hs.g k : (BA te r2 ad c l).h (bl Ls ++ X.A) w)
    have hp : pv = .pointer none ∨ pv = pt b 0 := (hP ▸ hs.g k2 : (Pu (pv = .pointer none ∨ pv = pt b 0)).h (bl Ls ++ X.A) w)
    have hne : i ≠ j := by intro e; subst e; simp [Nat.beq_refl] at hij
    have hp1 : ((((Ls.set i ((b, Obj.cells #[pv, .slice ad l.length c] T (0, 0)) :: r2)).set j []).flatten) ++ []).Perm Ls.flatten := by
      have e1 := set_perm ((b, Obj.cells #[pv, .slice ad l.length c] T (0, 0)) :: r2) hi
      have e2 := set_perm (Ls := Ls.set i ((b, Obj.cells #[pv, .slice ad l.length c] T (0, 0)) :: r2)) [] (show _ = some r2 by rw [List.getElem?_set_ne hne]; exact hj)
      simp only [List.append_nil, List.nil_append] at e2 ⊢
      have e3 : ((b, Obj.cells #[pv, .slice ad l.length c] T (0, 0)) :: (Ls.set i ((b, Obj.cells #[pv, .slice ad l.length c] T (0, 0)) :: r2)).flatten).Perm ((b, Obj.cells #[pv, .slice ad l.length c] T (0, 0)) :: (r2 ++ Ls.flatten)) := by simpa [bx] using e1
      exact (List.perm_append_left_iff r2).1 (e2.trans (List.Perm.cons_inv e3))
    have h1 := hs.less hp1
    have h := h ((b, .cells #[pv, .slice ad l.length c] T (0, 0)) :: r2)
    have hl := hl ((b, .cells #[pv, .slice ad l.length c] T (0, 0)) :: r2)
    simp only [setC_eq] at h hl
    have hss : SS qd X.A X.L0 X.w0 n S ((Ls.set i ((b, .cells #[pv, .slice ad l.length c] T (0, 0)) :: r2)).set j []) (Bdr T te ((b, .cells #[pv, .slice ad l.length c] T (0, 0)) :: r2) b l :: F) a w := ⟨h1.s, h1.o, h1.e, ⟨_, _, _, _, hp, rfl, hA⟩, h1.f⟩
    exact Pos.less_go hl (bl_less hp1) hss (h.go hq r0 hm a w hss)⟩

/-- one byte is appended -/
theorem jwb {f : Unit → Option ρ} (at0 : At Ls p os ⟨some d, .call { callee := .builtin .append, args := [x, y].toArray, argTypes := [t, t].toArray }, ty, pos, af, g⟩ p') (i k : Nat) (hF : nth F k = BA te r ad c l) (g2 : OKr Ls F (R (eInt .u8) q c2 1 [z])) (hx : opd S x = some (.slice ad l.length c)) (hy : opd S y = some (.slice q 1 c2))
    (h : ∀ r' p1 c', setC Ls i r' fun Ls' => J P n X Q p' ((d, .slice p1 (l ++ [UInt8.ofNat z.toNat]).length c') :: S) Ls' (BA te r' p1 c' (l ++ [UInt8.ofNat z.toNat]) :: F) (f ())) (hr : Ls[i]? = some r := by rfl) (ht : slOk P t te 1 = true := by kernel_rfl) (hd : Nat.blt d n = true := by kernel_rfl) (hg : wantedS os S g = some true := by kernel_rfl) :
    J P n X Q p S Ls F ((chk (decide (0 ≤ z) && decide (z < 256) && decide (len l + 1 < 4294967296))).bind f) :=
  ⟨fun hq r0 hm a w hs => by
    obtain ⟨u, h1, h2⟩ := bnd hm
    have hc : (decide (0 ≤ z) && decide (z < 256) && decide (len l + 1 < 4294967296)) = true := by
      unfold chk at h1
      split at h1
      · assumption
      · cases h1
    simp only [Bool.and_eq_true, decide_eq_true_eq] at hc
    obtain ⟨⟨hz0, hz1⟩, hlen⟩ := hc
    have hlen : (l.length : Int) + 1 < 4294967296 := hlen
    have hA : BArr te r ad c l := (hF ▸ hs.g k : (BA te r ad c l).h (bl Ls ++ X.A) w)
    refine at0.run fun K hK => op_append0 i (e := eInt .u8) te (l := l.map fun x => (x.toNat : Int)) (m := [z]) (k := c2) hs.s hd hg hs.o hr hA.arr (g2 _ _ hs.o hs.f).1.src (by simpa using hx) hy ht (show app _ _ = some _ by unfold app; rw [if_pos (by simp; omega)]) fun r' p1 c' w' hO' hE' hA' a' hS => hK hE' ?_
    have hne : (l.map fun x => ((x.toNat : Nat) : Int)) ++ [z] ≠ [] := by simp
    have hall : ∀ x ∈ (l.map fun x => ((x.toNat : Nat) : Int)) ++ [z], 0 ≤ x ∧ x < 256 := by
      intro x hx
      rcases List.mem_append.1 hx with hx | hx
      · obtain ⟨v, _, rfl⟩ := List.mem_map.1 hx
        have := v.toNat_lt
        omega
      · simp at hx; subst hx; exact ⟨hz0, hz1⟩
    have e1 : (((l.map fun x => ((x.toNat : Nat) : Int)) ++ [z]).map fun x => UInt8.ofNat x.toNat) = l ++ [UInt8.ofNat z.toNat] := by
      rw [List.map_append, List.map_map]
      congr 1
      rw [List.map_congr_left (g := id) fun x _ => by simp]
      simp
    have hB := Arr0.barr hA' hne hall
    rw [e1] at hB
    have h := h r' p1 c'
    rw [setC_eq] at h
    cases u
    rw [show ((l.map fun x => ((x.toNat : Nat) : Int)) ++ [z]).length = (l ++ [UInt8.ofNat z.toNat]).length by simp] at hS
    exact h.go hq r0 h2 a' w' (hs.next hO' hE' hS [BA te r' p1 c' _] ⟨hB, trivial⟩)⟩
end
end Go.GD
