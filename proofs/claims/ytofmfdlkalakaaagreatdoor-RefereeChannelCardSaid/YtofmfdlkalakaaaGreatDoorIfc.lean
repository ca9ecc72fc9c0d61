/- Values of type any (numbers and texts), and errors of the library. Conditions: none. -/
import Derived.Test.YtofmfdlkalakaaaGreatDoorOps5
namespace Go.GD
open Go Go.RowKit
set_option autoImplicit false
set_option linter.unusedVariables false
variable {qd : Prop}

/-- how a value of type any lies: ti, ts the types of numbers and of texts -/
def anV (ti ts : TypeId) : An → Value
  | .i x => .iface ti (vi x)
  | .s x => .iface ts (vs x)
def eAny (ti ts : TypeId) : E An := ⟨1, fun _ _ cs x => cs = [anV ti ts x], by rintro _ _ _ _ rfl; rfl, by rintro _ _ _ _ _ _ _ rfl; rfl, by rintro _ _ _ x rfl c hc; simp at hc; subst hc; cases x <;> rfl⟩
def oA {ti ts : TypeId} : Opn (eAny ti ts) := ⟨fun x tl fs k => k (anV ti ts x :: tl) fs, by rintro _ _ _ _ _ _ _ rfl h1 h2; exact ⟨_, h2, h1⟩⟩
section
variable {Ls : List Res} {F : List PP}
theorem vA {ti ts : TypeId} {x : An} : RV (eAny ti ts) Ls F [anV ti ts x] x := fun _ _ _ _ => rfl
end

section
variable {P : Program} {a : Act} {n : Nat} {S : List (Nat × Value)} {ty : TypeId} {pos : String} {af : Array Edge} {g : Option (Nat × Bool)} {d : Option Tmp}
theorem r_mkI {x : Operand} {t : TypeId} {v : Value} {u : TypeDesc} (hS : Slots a n S) (hx : opd S x = some v) (hu : P.underlying t = some u) (hn : ∀ k, u ≠ .interface k) (w : World) :
    (execOp a.eval ⟨d, .makeInterface t x, ty, pos, af, g⟩).run P w = .ok (.value (.iface t v)) w := by
  simp only [execOp, hS.eval hx, Instr.makeInterface, run_underlying hu, Sem.run_bind, Result.andThen_ok]
  cases u <;> first | exact absurd rfl (hn _) | rfl

/-- is it a number; is it a text -/
theorem r_taI {x : Operand} {xt ti ts : TypeId} {z : An} (hS : Slots a n S) (hx : opd S x = some (anV ti ts z)) (hu : P.underlying ti = some (.int .i64)) (hz : ∀ w, (zeroValue ti).run P w = .ok (vi 0) w) (hne : ti ≠ ts) (w : World) :
    (execOp a.eval ⟨d, .typeAssert x xt ti true, ty, pos, af, g⟩).run P w = .ok (.value (.tuple #[vi z.int, vb z.isI])) w := by
  cases z with
  | i y => simp [execOp, hS.eval hx, Instr.typeAssert, run_underlying hu, anV, An.int, An.isI]
  | s y =>
    have : ¬ ts = ti := fun e => hne e.symm
    simp [execOp, hS.eval hx, Instr.typeAssert, run_underlying hu, anV, An.int, An.isI, this, hz]
theorem r_taS {x : Operand} {xt ti ts : TypeId} {z : An} (hS : Slots a n S) (hx : opd S x = some (anV ti ts z)) (hu : P.underlying ts = some .string) (hz : ∀ w, (zeroValue ts).run P w = .ok (vs []) w) (hne : ti ≠ ts) (w : World) :
    (execOp a.eval ⟨d, .typeAssert x xt ts true, ty, pos, af, g⟩).run P w = .ok (.value (.tuple #[vs z.str, vb z.isS])) w := by
  cases z with
  | s y => simp [execOp, hS.eval hx, Instr.typeAssert, run_underlying hu, anV, An.str, An.isS]
  | i y => simp [execOp, hS.eval hx, Instr.typeAssert, run_underlying hu, anV, An.str, An.isS, hne, hz]
end

/-! ### Errors: nil, or something -/
def ErB (v : Value) (b : Bool) : Prop := (v = .nilIface ∧ b = false) ∨ (∃ t u, v = .iface t u) ∧ b = true
def Erv (v : Value) (b : Bool) : PP := Pu (ErB v b)
section
variable {P : Program} {a : Act} {n : Nat} {S : List (Nat × Value)} {ty : TypeId} {pos : String} {af : Array Edge} {g : Option (Nat × Bool)} {d : Option Tmp}
theorem run_eqerr (k : Nat) {t : TypeId} {v : Value} {b : Bool} {ms : Array (String × TypeId)} (hv : ErB v b) (hu : P.underlying t = some (.interface ms)) (w : World) : (Op.equalIn (k + 1) t v .nilIface).run P w = .ok (!b) w := by
  rcases hv with ⟨rfl, rfl⟩ | ⟨⟨t', u', rfl⟩, rfl⟩
  · simp [Op.equalIn, run_underlying hu]
  · simp [Op.equalIn, run_underlying hu]
theorem r_erN {x : Operand} {t u : TypeId} {v : Value} {b : Bool} {ms : Array (String × TypeId)} (hS : Slots a n S) (hx : opd S x = some v) (hv : ErB v b) (hu : P.underlying t = some (.interface ms)) (w : World) :
    (execOp a.eval ⟨d, .binOp .neq t x (.const .nilIface) u, ty, pos, af, g⟩).run P w = .ok (.value (vb b)) w := by
  have hy : opd S (.const .nilIface) = some .nilIface := rfl
  have h1 : (eqGuard .neq t x (.const .nilIface) v .nilIface).run P w = .ok () w := by
    unfold eqGuard
    rcases hv with ⟨rfl, rfl⟩ | ⟨⟨t', u', rfl⟩, rfl⟩ <;> simp
  have h2 : (binOp .neq t v .nilIface).run P w = .ok (vb b) w := by
    have h3 : (Op.equal t v .nilIface).run P w = .ok (!b) w := run_eqerr 9999 hv hu w
    simp [binOp, h3]
  simp [execOp, hS.eval hx, hS.eval hy, h1, h2]
end
section
variable {P : Program} {n : Nat} {X : Hd qd} {ρ : Type} {Q : PQ ρ} {S : Sl} {Ls : List Res} {F : List PP} {m : Option ρ} {os : Array Oper} {l : List Oper} {x : Operand}
variable {d t u : Nat} {ty : TypeId} {pos : String} {af : Array Edge} {g : Option (Nat × Bool)} {v : Value} {b : Bool} {ms : Array (String × TypeId)} {B Jj : List Nat} {li : Array Bool} {fuel : Nat}
theorem jen (k : Nat) (hF : nth F k = Erv v b) (hx : opd S x = some v) (hu : P.underlying t = some (.interface ms)) (h : J P n X Q (.ops os l) ((d, vb b) :: S) Ls F m)
    (hd : Nat.blt d n = true := by kernel_rfl) (hg : wantedS os S g = some true := by kernel_rfl) : J P n X Q (.ops os (⟨some d, .binOp .neq t x (.const .nilIface) u, ty, pos, af, g⟩ :: l)) S Ls F m :=
  ⟨fun hq r hm a w hs => sl (b_val hs (r_erN hs.s hx (hF ▸ hs.g k : (Erv v b).h (bl Ls ++ X.A) w) hu) (fun a h' => h.go hq r hm a w h') hd hg)⟩
theorem jden (i k : Nat) (hi : os[i]? = some ⟨some d, .binOp .neq t x (.const .nilIface) u, ty, pos, af, g⟩) (hF : nth F k = Erv v b) (hx : opd S x = some v) (hu : P.underlying t = some (.interface ms)) (h : J P n X Q (.dr os B Jj fuel (li.setIfInBounds i true)) ((d, vb b) :: S) Ls F m)
    (hk : takeOk os B li i = true := by kernel_rfl) (hd : Nat.blt d n = true := by kernel_rfl) (hg : wantedS os S g = some true := by kernel_rfl) : J P n X Q (.dr os B Jj (fuel + 1) li) S Ls F m :=
  ⟨fun hq r hm a w hs => dv i hs hi (r_erN hs.s hx (hF ▸ hs.g k : (Erv v b).h (bl Ls ++ X.A) w) hu) (fun a' hs' => h.go hq r hm a' w hs') (fun c v a w hp => (hq r c _ _ hp).elim) hk hd hg⟩
end

/-! ### append(x[:i], x[j:]...) -/
section
variable {P : Program} {n : Nat} {X : Hd qd} {ρ : Type} {Q : PQ ρ} {S : Sl} {Ls : List Res} {F : List PP} {m : Option ρ} {os : Array Oper} {x y : Operand} {p p' : Pos}
variable {d t te : Nat} {ty : TypeId} {pos : String} {af : Array Edge} {g : Option (Nat × Bool)} {τ : Type} {e : E τ} {r : Res} {p0 : Option Addr} {c k0 : Nat} {z z2 : List τ}
theorem jav {f : List τ → Option ρ} {q2 : Option Addr} {k2 c2 : Nat} (at0 : At Ls p os ⟨some d, .call { callee := .builtin .append, args := [x, y].toArray, argTypes := [t, t].toArray }, ty, pos, af, g⟩ p') (i k : Nat) (hF : nth F k = Ar e te r p0 c k0 z) (hR : SR e Ls F q2 z2 k2) (hx : opd S x = some (.slice p0 k0 c)) (hy : opd S y = some (.slice q2 k2 c2))
    (h : ∀ u r' p1 c', setC Ls i r' fun Ls' => J P n X Q p' ((d, sv p1 u c') :: S) Ls' (Al e te r' p1 c' u :: F) (f u)) (hr : Ls[i]? = some r := by rfl) (ht : slOk P t te e.n = true := by kernel_rfl) (hd : Nat.blt d n = true := by kernel_rfl) (hg : wantedS os S g = some true := by kernel_rfl) :
    J P n X Q p S Ls F ((app z z2).bind f) :=
  ⟨fun hq r0 hm a w hs => by
    obtain ⟨u, h1, h2⟩ := bnd hm
    have hA : (Ar e te r p0 c k0 z).h (bl Ls ++ X.A) w := hF ▸ hs.g k
    obtain ⟨hA, rfl⟩ := hA
    obtain ⟨hS, rfl⟩ := hR _ _ hs.o hs.f
    exact at0.run fun K hK => op_append i te hs.s hd hg hs.o hr hA hS hx hy ht h1 fun r' p' c' w' hO e hA' a hS => hK e (by
      have h := h u r' p' c'
      rw [setC_eq] at h
      exact h.go hq r0 h2 a w' (hs.next hO e hS [_] ⟨⟨hA', rfl⟩, trivial⟩))⟩
end

/-! ### a byte of []byte(s) is read -/
section
variable {P : Program} {n : Nat} {X : Hd qd} {ρ : Type} {Q : PQ ρ} {S : Sl} {Ls : List Res} {F : List PP} {m : Option ρ} {os : Array Oper} {ol : List Oper} {x y : Operand} {p p' : Pos}
variable {d t t2 te : TypeId} {ty : TypeId} {pos : String} {af : Array Edge} {g : Option (Nat × Bool)} {l : Str} {r : Res} {p0 : Option Addr} {c k0 : Nat} {kd : IntKind} {ix : Int}
theorem jbyJ {f : UInt8 → Option ρ} (k : Nat) (hF : nth F k = Byr te r p0 k0 l) (hx : opd S x = some (.slice p0 k0 c)) (hy : opd S y = some (.int kd ix))
    (h : ∀ u, idx l ix = some u → ∀ b, p0 = some ⟨b, 0, none⟩ → J P n X Q (.ops os ol) ((d, pt b (0 + ix.toNat * 1)) :: S) Ls F (f u))
    (ht : elemSize P t = some 1 := by kernel_rfl) (hd : Nat.blt d n = true := by kernel_rfl) (hg : wantedS os S g = some true := by kernel_rfl) :
    J P n X Q (.ops os (⟨some d, .indexAddr t x y, ty, pos, af, g⟩ :: ol)) S Ls F ((idx l ix).bind f) :=
  ⟨fun hq r0 hm a w hs => by
    obtain ⟨u, h1, h2⟩ := bnd hm
    have hB0 : (Byr te r p0 k0 l).h (bl Ls ++ X.A) w := hF ▸ hs.g k
    have hB : ByR te r p0 k0 l := hB0
    obtain ⟨rfl, b, cells, _, rfl, _, _⟩ := hB
    have h1' := h1
    unfold idx at h1
    split at h1
    · rename_i h0
      have hlt := (List.getElem?_eq_some_iff.1 h1).1
      exact sl (b_val hs (v := pt b (0 + ix.toNat * 1)) (fun w' => by simp [execOp, hs.s.eval hx, hs.s.eval hy, run_indexAt (m := l.length) ht h0 (by omega)]) (fun a h' => (h u h1' b rfl).go hq r0 h2 a w h') hd hg)
    · cases h1⟩
theorem jbyl {u : UInt8} {b : Nat} (i k : Nat) (hF : nth F k = Byr te r p0 k0 l) (hr : Ls[i]? = some r) (hp : p0 = some ⟨b, 0, none⟩) (hu : idx l ix = some u) (hx : opd S x = some (pt b (0 + ix.toNat * 1)))
    (h : J P n X Q (.ops os ol) ((d, .int .u8 ((u.toNat : Nat) : Int)) :: S) Ls F m)
    (ht : shapeOf P t = some (false, 1) := by kernel_rfl) (hd : Nat.blt d n = true := by kernel_rfl) (hg : wantedS os S g = some true := by kernel_rfl) : J P n X Q (.ops os (⟨some d, .load t x, ty, pos, af, g⟩ :: ol)) S Ls F m :=
  ⟨fun hq r0 hm a w hs => by
    have hB0 : (Byr te r p0 k0 l).h (bl Ls ++ X.A) w := hF ▸ hs.g k
    have hB : ByR te r p0 k0 l := hB0
    obtain ⟨rfl, b', cells, rfl, hp', hle, htk⟩ := hB
    rw [hp] at hp'
    cases hp'
    obtain ⟨h0, h1, _⟩ := idx_spec hu
    have hlt : ix.toNat < l.length := (List.getElem?_eq_some_iff.1 h1).1
    have hc : cells[ix.toNat]? = some (.int .u8 ((u.toNat : Nat) : Int)) := by
      have h2 : (cells.toList.take l.length)[ix.toNat]? = some (.int .u8 ((u.toNat : Nat) : Int)) := by rw [htk]; simp [Lib.strCells, h1]
      rw [List.getElem?_take, if_pos hlt] at h2
      simpa using h2
    refine sl (b_load_own i (.int .u8 ((u.toNat : Nat) : Int)) hs hx hr (fun a h' => h.go hq r0 hm a w h') ?_ hd hg)
    have hsz : ix.toNat < cells.size := (Array.getElem?_eq_some_iff.1 hc).1
    unfold loadR
    rw [ht]
    simp only [getL, Nat.zero_add, Nat.mul_one]
    rw [List.drop_eq_getElem_cons (by simpa using hsz)]
    have : cells.toList[ix.toNat]'(by simpa using hsz) = .int .u8 ((u.toNat : Nat) : Int) := by
      have := hc
      rw [Array.getElem?_eq_getElem hsz] at this
      simpa using Option.some.inj this
    simp [mkV, this]
    omega⟩
end
end Go.GD
