/- strings.Builder: one byte is written. Conditions: none. -/
import Derived.Test.YtegdfdnjenffnaaGreatDoorNest
namespace Go.GD
open Go Go.RowKit Go.Shelf Go.Proofs
set_option autoImplicit false
set_option linter.unusedVariables false
variable {qd : Prop}

/-- copyCheck leaves a builder what it holds -/
theorem lib_chk {P : Program} {ρ : Ren} (L : Lays.n240 P ρ) (X : Builder.X72 P ρ) {T : TypeId} (hT : liesAt P P.depth T (2 / P.cellsOf T) 0 (ρ.t 72) 1 = true) (hc : ∀ args w, (callFunc (ρ.f 240) args).run P w = .ok (.enter (ρ.f 240) args) w) {te b : Nat} {r : Res} {l : Str} :
    Con qd P (ρ.f 240) [pt b 0] [r] [Bdr T te r b l] (some ()) fun _ K => ∀ r2, K (.tuple #[]) [r2] [Bdr T te r2 b l] := by
  refine ⟨hc, fun A w x hm hO hF => ?_⟩
  obtain ⟨p, ad, c, r2, hp, hb, hA, rfl, hO2, hbA2⟩ := BdR.at hF.1 hO
  refine (bld_check L X hT hp hb).mono fun e w1 ⟨he, k1, k2, k3, k4, k5, k6, k7⟩ => ?_
  subst he
  have hn := hO.nodup
  have hnb : b ∉ r2.map Prod.fst := by simp [bl] at hn ⊢; exact fun x hx => hn.1 x hx
  refine fun G k => k ((b, .cells #[pt b 0, .slice ad l.length c] T (0, 0)) :: r2) ⟨rfl, ⟨fun q hq => by rw [k5]; exact hO.old q hq, fun s hs q hq => ?_, by simpa [bl] using hn, fun q hq => hO.apart q (by simpa [bl] using hq)⟩,
    ⟨k1, k2, k3, fun _ => by rw [k4]; exact Nat.le_refl _, by omega, fun k hk hn => k7 k (fun e => hn (by simp [bl, e])), fun q hq => .inl (by simpa [bl] using hq)⟩, ⟨_, _, _, _, .inr rfl, rfl, hA⟩, trivial⟩
  simp only [List.mem_singleton] at hs
  subst hs
  rcases List.mem_cons.1 hq with rfl | hq
  · exact k6
  · have h1 := hO.has _ (List.mem_singleton.2 rfl) q (List.mem_cons_of_mem _ hq)
    rw [k7 q.1 (fun e => hnb (e ▸ List.mem_map.2 ⟨q, hq, rfl⟩))]
    exact h1

def BA (te : TypeId) (r : Res) (p : Option Addr) (c : Nat) (l : Str) : PP := Pu (BArr te r p c l)

theorem bytes_rd {Z : List Nat} {w : World} : ∀ {l : Str}, (eInt .u8).rdL Z w (Lib.strCells ⟨⟨l⟩⟩) (l.map fun x => (x.toNat : Int))
  | [] => rfl
  | x :: l => ⟨[.int .u8 x.toNat], Lib.strCells ⟨⟨l⟩⟩, by simp [Lib.strCells], rfl, bytes_rd⟩
theorem rd_bytes {Z : List Nat} {w : World} : ∀ {l : List Int} {cs : List Value}, (eInt .u8).rdL Z w cs l → (∀ x ∈ l, 0 ≤ x ∧ x < 256) → cs = Lib.strCells ⟨⟨l.map fun x => UInt8.ofNat x.toNat⟩⟩
  | [], cs, h, _ => by simp only [E.rdL] at h; subst h; rfl
  | x :: l, cs, h, hx => by
    obtain ⟨c1, c2, rfl, h1, h2⟩ := h
    have h1 : c1 = [.int .u8 x] := h1
    subst h1
    have h3 := rd_bytes h2 fun y hy => hx y (List.mem_cons_of_mem _ hy)
    have h4 := hx x List.mem_cons_self
    have h5 : (((UInt8.ofNat x.toNat).toNat : Nat) : Int) = x := by
      rw [UInt8.toNat_ofNat']
      omega
    rw [h3]
    simp [Lib.strCells]
    omega

theorem BArr.arr {te : TypeId} {Z : List Nat} {w : World} {r : Res} {p : Option Addr} {c : Nat} {l : Str} (h : BArr te r p c l) : Arr (eInt .u8) te Z w r p c (l.map fun x => (x.toNat : Int)) := by
  rcases h with ⟨h1, h2, h3, rfl⟩ | ⟨g, cells, h1, h2, h3, h4, h5, h6, h7⟩
  · exact .inl ⟨h1, h2, h3, rfl⟩
  · refine .inr ⟨g, cells, h1, h2, by simpa using h4, h5, by rw [h6]; simp [eInt], ?_⟩
    have e1 : (l.map fun x => ((x.toNat : Nat) : Int)).length * (eInt .u8).n = l.length := by simp [eInt]
    rw [e1, h7]
    exact bytes_rd
theorem Arr.barr {te : TypeId} {Z : List Nat} {w : World} {r : Res} {p : Option Addr} {c : Nat} {l : List Int} (h : Arr (eInt .u8) te Z w r p c l) (hl : l ≠ []) (hx : ∀ x ∈ l, 0 ≤ x ∧ x < 256) : BArr te r p c (l.map fun x => UInt8.ofNat x.toNat) := by
  rcases h with ⟨_, _, _, rfl⟩ | ⟨g, cells, h1, h2, h3, h4, h5, h6⟩
  · exact absurd rfl hl
  · refine .inr ⟨g, cells, h1, h2, by simpa using hl, by simpa using h3, h4, by rw [h5]; simp [eInt], ?_⟩
    have e1 : l.length * (eInt .u8).n = l.length := by simp [eInt]
    rw [e1] at h6
    rw [List.length_map]
    exact rd_bytes h6 hx

section
variable {P : Program} {n : Nat} {X : Hd qd} {ρ : Type} {Q : PQ ρ} {S : Sl} {Ls : List Res} {F : List PP} {m : Option ρ} {os : Array Oper} {ol : List Oper} {x y : Operand} {p p' : Pos}
variable {d t T te b : Nat} {ty : TypeId} {pos : String} {af : Array Edge} {g : Option (Nat × Bool)} {r r2 : Res} {l : Str} {ad q : Option Addr} {c c2 : Nat} {z : Int} {pv : Value}

/-- a builder, taken apart -/
theorem jBo (i k : Nat) (hF : nth F k = Bdr T te r b l) (h : ∀ pv ad c r2, setC Ls i (bx b T [pv, .slice ad l.length c]) fun L1 => snocC L1 r2 fun Ls' => J P n X Q (.ops os ol) S Ls' (BA te r2 ad c l :: Pu (pv = .pointer none ∨ pv = pt b 0) :: F) m)
    (hr : Ls[i]? = some r := by rfl) : J P n X Q (.ops os ol) S Ls F m :=
  ⟨fun hq r0 hm a w hs => by
    have hB : (Bdr T te r b l).h (bl Ls ++ X.A) w := hF ▸ hs.g k
    obtain ⟨pv, ad, c, r2, hp, rfl, hA⟩ := hB
    have hp1 : ((Ls.set i [(b, Obj.cells #[pv, .slice ad l.length c] T (0, 0))] ++ [r2]).flatten ++ []).Perm Ls.flatten := by
      have := set_perm [(b, Obj.cells #[pv, .slice ad l.length c] T (0, 0))] hr
      rw [List.cons_append] at this
      have h2 := List.Perm.cons_inv this
      simp only [List.flatten_append, List.flatten_cons, List.flatten_nil, List.append_nil]
      exact List.perm_append_comm.trans h2
    have h1 := hs.less hp1
    have h := h pv ad c r2
    rw [setC_eq, snocC_eq] at h
    exact h.go hq r0 hm a w ⟨h1.s, h1.o, h1.e, hA, hp, h1.f⟩⟩
/-- and put together again -/
theorem jBc (i j k k2 : Nat) (hF : nth F k = BA te r2 ad c l) (hP : nth F k2 = Pu (pv = .pointer none ∨ pv = pt b 0)) (hi : Ls[i]? = some (bx b T [pv, .slice ad l.length c])) (hj : Ls[j]? = some r2) (h : ∀ r', setC Ls i r' fun L1 => setC L1 j [] fun Ls' => J P n X Q p S Ls' (Bdr T te r' b l :: F) m)
    (hij : Nat.beq i j = false := by rfl) (hl : ∀ r', setC Ls i r' (fun L1 => setC L1 j [] fun Ls' => p.less Ls Ls') := by intro _; first | exact trivial | exact rfl) : J P n X Q p S Ls F m :=
  ⟨fun hq r0 hm a w hs => by
    have hA : BArr te r2 ad c l := (hF ▸ hs.g k : (BA te r2 ad c l).h (bl Ls ++ X.A) w)
    have hp : pv = .pointer none ∨ pv = pt b 0 := (hP ▸ hs.g k2 : (Pu (pv = .pointer none ∨ pv = pt b 0)).h (bl Ls ++ X.A) w)
    have hne : i ≠ j := by intro e; subst e; simp [Nat.beq_refl] at hij
    have hp1 : ((((Ls.set i ((b, Obj.cells #[pv, .slice ad l.length c] T (0, 0)) :: r2)).set j []).flatten) ++ []).Perm Ls.flatten := by
      have e1 := set_perm ((b, Obj.cells #[pv, .slice ad l.length c] T (0, 0)) :: r2) hi
      have e2 := set_perm (Ls := Ls.set i ((b, Obj.cells #[pv, .slice ad l.length c] T (0, 0)) :: r2)) [] (show _ = some r2 by rw [List.getElem?_set_ne hne]; exact hj)
      simp only [List.append_nil, List.nil_append] at e2 ⊢
      have e3 : ((b, Obj.cells #[pv, .slice ad l.length c] T (0, 0)) :: (Ls.set i ((b, Obj.cells #[pv, .slice ad l.length c] T (0, 0)) :: r2)).flatten).Perm ((b, Obj.cells #[pv, .slice ad l.length c] T (0, 0)) :: (r2 ++ Ls.flatten)) := by simpa [bx] using e1
      exact (List.perm_append_left_iff r2).1 (e2.trans (List.Perm.cons_inv e3))
    have h1 := hs.less hp1
    have h := h ((b, .cells #[pv, .slice ad l.length c] T (0, 0)) :: r2)
    have hl := hl ((b, .cells #[pv, .slice ad l.length c] T (0, 0)) :: r2)
    simp only [setC_eq] at h hl
    have hss : SS qd X.A X.L0 X.w0 n S ((Ls.set i ((b, .cells #[pv, .slice ad l.length c] T (0, 0)) :: r2)).set j []) (Bdr T te ((b, .cells #[pv, .slice ad l.length c] T (0, 0)) :: r2) b l :: F) a w := ⟨h1.s, h1.o, h1.e, ⟨_, _, _, _, hp, rfl, hA⟩, h1.f⟩
    exact Pos.less_go hl (bl_less hp1) hss (h.go hq r0 hm a w hss)⟩

/-- one byte is appended -/
theorem jwb {f : Unit → Option ρ} (at0 : At Ls p os ⟨some d, .call { callee := .builtin .append, args := [x, y].toArray, argTypes := [t, t].toArray }, ty, pos, af, g⟩ p') (i k : Nat) (hF : nth F k = BA te r ad c l) (g2 : OKr Ls F (R (eInt .u8) q c2 1 [z])) (hx : opd S x = some (.slice ad l.length c)) (hy : opd S y = some (.slice q 1 c2))
    (h : ∀ r' p1 c', setC Ls i r' fun Ls' => J P n X Q p' ((d, .slice p1 (l ++ [UInt8.ofNat z.toNat]).length c') :: S) Ls' (BA te r' p1 c' (l ++ [UInt8.ofNat z.toNat]) :: F) (f ())) (hr : Ls[i]? = some r := by rfl) (ht : slOk P t te 1 = true := by kernel_rfl) (hd : Nat.blt d n = true := by kernel_rfl) (hg : wantedS os S g = some true := by kernel_rfl) :
    J P n X Q p S Ls F ((chk (decide (0 ≤ z) && decide (z < 256) && decide (len l + 1 < 4294967296))).bind f) :=
  ⟨fun hq r0 hm a w hs => by
    obtain ⟨u, h1, h2⟩ := bnd hm
    have hc : (decide (0 ≤ z) && decide (z < 256) && decide (len l + 1 < 4294967296)) = true := by
      unfold chk at h1
      split at h1
      · assumption
      · cases h1
    simp only [Bool.and_eq_true, decide_eq_true_eq] at hc
    obtain ⟨⟨hz0, hz1⟩, hlen⟩ := hc
    have hlen : (l.length : Int) + 1 < 4294967296 := hlen
    have hA : BArr te r ad c l := (hF ▸ hs.g k : (BA te r ad c l).h (bl Ls ++ X.A) w)
    refine at0.run fun K hK => b_append_r i hs (e := eInt .u8) (l := l.map fun x => (x.toNat : Int)) (m := l.length) ⟨hA.arr, by simp⟩ (g2 _ _ hs.o hs.f) hx hy (show app _ _ = some _ by unfold app; rw [if_pos (by simp; omega)]) (fun r' p1 c' a' w' h' e' => hK e' ?_) hr ht hd hg
    have hne : (l.map fun x => ((x.toNat : Nat) : Int)) ++ [z] ≠ [] := by simp
    have hall : ∀ x ∈ (l.map fun x => ((x.toNat : Nat) : Int)) ++ [z], 0 ≤ x ∧ x < 256 := by
      intro x hx
      rcases List.mem_append.1 hx with hx | hx
      · obtain ⟨v, _, rfl⟩ := List.mem_map.1 hx
        have := v.toNat_lt
        omega
      · simp at hx; subst hx; exact ⟨hz0, hz1⟩
    have e1 : (((l.map fun x => ((x.toNat : Nat) : Int)) ++ [z]).map fun x => UInt8.ofNat x.toNat) = l ++ [UInt8.ofNat z.toNat] := by
      rw [List.map_append, List.map_map]
      congr 1
      rw [List.map_congr_left (g := id) fun x _ => by simp]
      simp
    have hB := Arr.barr (h'.f.1.1 : Arr (eInt .u8) te _ _ _ _ _ _) hne hall
    rw [e1] at hB
    have h := h r' p1 c'
    rw [setC_eq] at h
    cases u
    have hS := h'.s
    rw [show ((l.map fun x => ((x.toNat : Nat) : Int)) ++ [z]).length = (l ++ [UInt8.ofNat z.toNat]).length by simp] at hS
    exact h.go hq r0 h2 a' w' ⟨hS, h'.o, h'.e, hB, h'.f.2⟩⟩
end
end Go.GD
