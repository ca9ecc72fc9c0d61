/- The steps of a walk, in one judgement: appends, new slices, maps, calls, returns. Conditions: none. -/
import Derived.Test.YtofmfdlkalakaaaGreatDoorJ3
namespace Go.GD
open Go Go.RowKit
set_option autoImplicit false
variable {qd : Prop}
set_option linter.unusedVariables false

section
variable {P : Program} {n : Nat} {X : Hd qd} {ρ σ : Type} {Q : PQ ρ} {S : Sl} {Ls : List Res} {F : List PP} {m m1 m2 : Option ρ} {os : Array Oper} {l : List Oper} {x y : Operand} {p p' : Pos}
variable {d t : Nat} {ty ty2 : TypeId} {pos pos2 : String} {af af2 : Array Edge} {g g2 : Option (Nat × Bool)} {kd : IntKind}

section
variable {τ ω : Type} {e : E τ} {ef : E ω} {te : TypeId} {r r2 : Res} {p0 q : Option Addr} {c k0 c2 k2 : Nat} {z z2 u : List τ} {ix : Int}
/-- append to a slice of one's own: of what is only read, of another of one's own -/
theorem jar {f : List τ → Option ρ} (at0 : At Ls p os ⟨some d, .call { callee := .builtin .append, args := [x, y].toArray, argTypes := [t, t].toArray }, ty, pos, af, g⟩ p') (i k : Nat) (hF : nth F k = Ar e te r p0 c k0 z) (g2 : OKr Ls F (R e q c2 k2 z2)) (hx : opd S x = some (.slice p0 k0 c)) (hy : opd S y = some (.slice q k2 c2))
    (h : ∀ u r' p1 c', setC Ls i r' fun Ls' => J P n X Q p' ((d, sv p1 u c') :: S) Ls' (Al e te r' p1 c' u :: F) (f u)) (hr : Ls[i]? = some r := by rfl) (ht : slOk P t te e.n = true := by kernel_rfl) (hd : Nat.blt d n = true := by kernel_rfl) (hg : wantedS os S g = some true := by kernel_rfl) :
    J P n X Q p S Ls F ((app z z2).bind f) :=
  ⟨fun hq r0 hm a w hs => by
    obtain ⟨u, h1, h2⟩ := bnd hm
    exact at0.run fun K hK => b_append_r i hs (hF ▸ hs.g k) (g2 _ _ hs.o hs.f) hx hy h1 (fun r' p1 c' a w' h' e => hK e (by
      have h := h u r' p1 c'
      rw [setC_eq] at h
      exact h.go hq r0 h2 a w' h')) hr ht hd hg⟩
theorem jao {f : List τ → Option ρ} (at0 : At Ls p os ⟨some d, .call { callee := .builtin .append, args := [x, y].toArray, argTypes := [t, t].toArray }, ty, pos, af, g⟩ p') (i j k k' : Nat) (hF : nth F k = Ar e te r p0 c k0 z) (hF2 : nth F k' = Ar e te r2 q c2 k2 z2) (hx : opd S x = some (.slice p0 k0 c)) (hy : opd S y = some (.slice q k2 c2))
    (h : ∀ u r' p1 c', setC Ls i r' fun Ls' => J P n X Q p' ((d, sv p1 u c') :: S) Ls' (Al e te r' p1 c' u :: F) (f u)) (hr : Ls[i]? = some r := by rfl) (hr2 : Ls[j]? = some r2 := by rfl) (ht : slOk P t te e.n = true := by kernel_rfl) (hd : Nat.blt d n = true := by kernel_rfl) (hg : wantedS os S g = some true := by kernel_rfl) :
    J P n X Q p S Ls F ((app z z2).bind f) :=
  ⟨fun hq r0 hm a w hs => by
    obtain ⟨u, h1, h2⟩ := bnd hm
    exact at0.run fun K hK => b_append_o i j hs (hF ▸ hs.g k) (hF2 ▸ hs.g k') hx hy h1 (fun r' p1 c' a w' h' e => hK e (by
      have h := h u r' p1 c'
      rw [setC_eq] at h
      exact h.go hq r0 h2 a w' h')) hr hr2 ht hd hg⟩
theorem jaf {f : List τ → Option ρ} (at0 : At Ls p os ⟨some d, .call { callee := .builtin .append, args := [x, y].toArray, argTypes := [t, t].toArray }, ty, pos, af, g⟩ p') (te : TypeId) (g1 : OKr Ls F (R e p0 k0 k0 z)) (g2 : OKr Ls F (R e q c2 k2 z2)) (hx : opd S x = some (.slice p0 k0 k0)) (hy : opd S y = some (.slice q k2 c2))
    (h : ∀ u p1 c', J P n X Q p' ((d, sv p1 u c') :: S) Ls (Rl e p1 c' u :: F) (f u)) (ht : slOk P t te e.n = true := by kernel_rfl) (hd : Nat.blt d n = true := by kernel_rfl) (hg : wantedS os S g = some true := by kernel_rfl) :
    J P n X Q p S Ls F ((app z z2).bind f) :=
  ⟨fun hq r0 hm a w hs => by
    obtain ⟨u, h1, h2⟩ := bnd hm
    exact at0.run fun K hK => b_append_f hs (g1 _ _ hs.o hs.f) (g2 _ _ hs.o hs.f) hx hy h1 (fun p1 c' a w' h' e => hK e ((h u p1 c').go hq r0 h2 a w' h')) te ht hd hg⟩

theorem rN : RD e Ls F [] [] := fun _ _ _ _ => rfl
theorem rC {cs : List Value} {x : τ} {l : List τ} (h : RV e Ls F (cs.take e.n) x) (k : RD e Ls F (cs.drop e.n) l) : RD e Ls F cs (x :: l) := fun A w hO hF => ⟨_, _, (List.take_append_drop e.n cs).symm, h A w hO hF, k A w hO hF⟩
theorem vI {k : IntKind} {x : Int} : RV (eInt k) Ls F [.int k x] x := fun _ _ _ _ => rfl
theorem vB {x : Bool} : RV eBool Ls F [vb x] x := fun _ _ _ _ => rfl
theorem vS {x : Str} : RV eStr Ls F [vs x] x := fun _ _ _ _ => rfl
theorem vU : RV eUnit Ls F [] () := fun _ _ _ _ => rfl
theorem vP {α β : Type} {a : E α} {b : E β} {cs : List Value} {x : α × β} (h : RV a Ls F (cs.take a.n) x.1) (k : RV b Ls F (cs.drop a.n) x.2) : RV (eProd a b) Ls F cs x := fun A w hO hF => ⟨_, _, (List.take_append_drop a.n cs).symm, h A w hO hF, k A w hO hF⟩
theorem vL {c' m' : Nat} (h : OKr Ls F (R e p0 c' m' z)) : RV (eSlice e) Ls F [.slice p0 m' c'] z := fun A w hO hF => R.cell (h A w hO hF)

/-- []T{..}, only read; of one's own -/
theorem jbs {parts : List (Nat × Operand)} (at0 : At Ls p os ⟨some d, .buildSlice t k0 parts.toArray, ty, pos, af, g⟩ p') (te : TypeId) (cs : List Value) (z : List τ) (hrd : RD e Ls F cs z)
    (h : ∀ p1 c', J P n X Q p' ((d, sv p1 z c') :: S) Ls (Rl e p1 c' z :: F) m) (ht : slOk P t te e.n = true := by kernel_rfl) (hc : bsCells P S t k0 parts = some cs := by kernel_rfl) (hl : z.length = k0 := by rfl)
    (hd : Nat.blt d n = true := by kernel_rfl) (hg : wantedS os S g = some true := by kernel_rfl) : J P n X Q p S Ls F m :=
  ⟨fun hq r0 hm a w hs => at0.run fun K hK => b_bs_rd cs z hs (hrd _ _ hs.o hs.f) (fun p1 c' a w' h' e => hK e ((h p1 c').go hq r0 hm a w' h')) te ht hc hl hd hg⟩
theorem jbo {parts : List (Nat × Operand)} (at0 : At Ls p os ⟨some d, .buildSlice t k0 parts.toArray, ty, pos, af, g⟩ p') (te : TypeId) (cs : List Value) (z : List τ) (hrd : RD e Ls F cs z)
    (h : ∀ r' p1 c', snocC Ls r' fun Ls' => J P n X Q p' ((d, sv p1 z c') :: S) Ls' (Al e te r' p1 c' z :: F) m) (ht : slOk P t te e.n = true := by kernel_rfl) (hc : bsCells P S t k0 parts = some cs := by kernel_rfl) (hl : z.length = k0 := by rfl) (hm : Nat.ble k0 16777216 = true := by kernel_rfl)
    (hd : Nat.blt d n = true := by kernel_rfl) (hg : wantedS os S g = some true := by kernel_rfl) : J P n X Q p S Ls F m :=
  ⟨fun hq r0 hm' a w hs => at0.run fun K hK => b_bs_own cs z hs (hrd _ _ hs.o hs.f) (fun r' p1 c' a w' h' e => hK e (by
    have h := h r' p1 c'
    rw [snocC_eq] at h
    exact h.go hq r0 hm' a w' h')) ht hc hl hm hd hg⟩

/-- string(b) -/
theorem jsb {s t2 te : TypeId} {z : List Int} (at0 : At Ls p os ⟨some d, .convert s t2 x, ty, pos, af, g⟩ p') (g1 : OKr Ls F (R (eInt .u8) p0 c k0 z)) (hx : opd S x = some (.slice p0 k0 c)) (hs : P.underlying s = some (.slice te)) (he : P.underlying te = some (.int .u8)) (ht : P.underlying t2 = some .string)
    (h : J P n X Q p' ((d, vs (strOf z)) :: S) Ls F m) (hd : Nat.blt d n = true := by kernel_rfl) (hg : wantedS os S g = some true := by kernel_rfl) : J P n X Q p S Ls F m :=
  ⟨fun hq r0 hm a w hS => at0.run fun K hK => b_strOf hS (g1 _ _ hS.o hS.f) hx hs he ht (fun a h' => hK (Ext.refl _ _) (h.go hq r0 hm a w h')) hd hg⟩

/-- clear, copy -/
theorem jcv {p1 : Option Addr} {m' c' : Nat} {kk : Int} (at0 : At Ls p os ⟨none, .call { callee := .builtin .clear, args := [x].toArray, argTypes := [t].toArray }, ty, pos, af, g⟩ p') (i k : Nat) (zd : τ) (zv : Value) (hF : nth F k = Ar e te r p0 c k0 z) (hV : Vw e.n p0 c k0 kk p1 m') (hx : opd S x = some (.slice p1 m' c')) (hzr : RV e Ls F zv.cells.toList zd)
    (h : ∀ r', setC Ls i r' fun Ls' => J P n X Q p' S Ls' (Ar e te r' p0 c k0 (clearFrom z kk zd) :: F) m) (hz : zeroOf P te = some zv := by kernel_rfl) (hr : Ls[i]? = some r := by rfl) (ht : slOk P t te e.n = true := by kernel_rfl) (hg : wantedS os S g = some true := by kernel_rfl) : J P n X Q p S Ls F m :=
  ⟨fun hq r0 hm a w hs => at0.run fun K hK => b_clear_view i hs (hF ▸ hs.g k) hV hx hz (hzr _ _ hs.o hs.f) (fun r' a w' h' e => hK e (by
    have h := h r'
    rw [setC_eq] at h
    exact h.go hq r0 hm a w' h')) hr ht hg⟩
/-- where copy reads -/
def SR (e : E τ) (Ls : List Res) (F : List PP) (q : Option Addr) (z : List τ) (k : Nat) : Prop := ∀ A w, Own A w Ls → All F (bl Ls ++ A) w → Src e (bl Ls ++ A) w q z ∧ z.length = k
theorem srR (h : OKr Ls F (R e p0 c k0 z)) : SR e Ls F p0 z k0 := fun A w hO hF => R.srcs (h A w hO hF)
theorem srA (i k : Nat) (hF : nth F k = Ar e te r p0 c k0 z) (hr : Ls[i]? = some r := by rfl) : SR e Ls F p0 z k0 := fun A w hO hA => Ar.srcs (by rw [← hF]; exact hA.at k) hO hr
theorem srV (i k : Nat) {kk : Int} {m' : Nat} (hV : Vw e.n p0 c k0 kk q m') (hF : nth F k = Ar e te r p0 c k0 z) (hr : Ls[i]? = some r := by rfl) : SR e Ls F q (z.drop kk.toNat) m' := fun A w hO hA => by
  have h : (Ar e te r p0 c k0 z).h (bl Ls ++ A) w := by rw [← hF]; exact hA.at k
  exact hV.src h.1 h.2.symm hO hr
/-- a view, or the whole -/
def VW (e : E τ) (Ls : List Res) (F : List PP) (p0 : Option Addr) (c k0 : Nat) (kk : Int) (q : Option Addr) (m' : Nat) : Prop := ∀ A w, Own A w Ls → All F (bl Ls ++ A) w → Vw e.n p0 c k0 kk q m'
theorem vwV {kk : Int} {m' : Nat} (hV : Vw e.n p0 c k0 kk q m') : VW e Ls F p0 c k0 kk q m' := fun _ _ _ _ => hV
theorem vwW (k : Nat) (hF : nth F k = Ar e te r p0 c k0 z) : VW e Ls F p0 c k0 0 p0 k0 := fun A w _ hA => by
  have h : (Ar e te r p0 c k0 z).h (bl Ls ++ A) w := by rw [← hF]; exact hA.at k
  exact Vw.whole h.1 h.2
theorem jcp {q2 : Option Addr} {m' c' : Nat} {kk : Int} (at0 : At Ls p os ⟨some d, .call { callee := .builtin .copy, args := [x, y].toArray, argTypes := [t, t].toArray }, ty, pos, af, g⟩ p') (i k : Nat) (hF : nth F k = Ar e te r p0 c k0 z) (hV : VW e Ls F p0 c k0 kk q m') (hR : SR e Ls F q2 z2 k2) (hx : opd S x = some (.slice q m' c')) (hy : opd S y = some (.slice q2 k2 c2))
    (h : ∀ r', setC Ls i r' fun Ls' => J P n X Q p' ((d, vi ((Nat.min k2 m' : Nat) : Int)) :: S) Ls' (Ar e te r' p0 c k0 (copyAt z kk z2) :: F) m) (hr : Ls[i]? = some r := by rfl) (ht : slOk P t te e.n = true := by kernel_rfl) (hd : Nat.blt d n = true := by kernel_rfl) (hg : wantedS os S g = some true := by kernel_rfl) : J P n X Q p S Ls F m :=
  ⟨fun hq r0 hm a w hs => at0.run fun K hK => b_copy_view i hs (hF ▸ hs.g k) (hV _ _ hs.o hs.f) (hR _ _ hs.o hs.f) hx hy (fun r' a w' h' e => hK e (by
    have h := h r'
    rw [setC_eq] at h
    exact h.go hq r0 hm a w' h')) hr ht hd hg⟩
end

/-! maps -/
section
variable {κ ν : Type} [BEq κ] {kt vt : TypeId} {kv : κ → Value} {vv : ν → Value} {r : Res} {b : Nat} {z : List (κ × ν)} {k : κ} {v : ν} {x3 : Operand}
theorem jmm {rs : Option Operand} {rv : Option Value} (at0 : At Ls p os ⟨some d, .makeMap t rs, ty, pos, af, g⟩ p') (kv : κ → Value) (vv : ν → Value) (H : KeyOk P t kt vt kv) (hr : opdO S rs = some rv) (hi : rv = none ∨ ∃ kd i, rv = some (.int kd i))
    (h : ∀ b r', snocC Ls r' fun Ls' => J P n X Q p' ((d, .map (some b)) :: S) Ls' (Ma kv vv r' b [] :: F) m) (hd : Nat.blt d n = true := by kernel_rfl) (hg : wantedS os S g = some true := by kernel_rfl) : J P n X Q p S Ls F m :=
  ⟨fun hq r0 hm a w hs => at0.run fun K hK => b_makeMap kv vv hs H hr hi (fun b r' a w' h' e => hK e (by
    have h := h b r'
    rw [snocC_eq] at h
    exact h.go hq r0 hm a w' h')) hd hg⟩
theorem jmg [LawfulBEq κ] (at0 : At Ls p os ⟨some d, .lookup t x y false, ty, pos, af, g⟩ p') (i q : Nat) (zv : ν) (H : KeyOk P t kt vt kv) (hF : nth F q = Ma kv vv r b z) (hx : opd S x = some (.map (some b))) (hy : opd S y = some (kv k))
    (h : J P n X Q p' ((d, vv ((mget z k).getD zv)) :: S) Ls F m) (hz : zeroOf P vt = some (vv zv) := by kernel_rfl) (hr : Ls[i]? = some r := by rfl) (hd : Nat.blt d n = true := by kernel_rfl) (hg : wantedS os S g = some true := by kernel_rfl) : J P n X Q p S Ls F m :=
  ⟨fun hq r0 hm a w hs => at0.run fun K hK => b_lookup false hs H (hF ▸ hs.g q) hx hy hz hr (fun a h' => hK (Ext.refl _ _) (h.go hq r0 hm a w h')) hd hg⟩
theorem jmG [LawfulBEq κ] (at0 : At Ls p os ⟨some d, .lookup t x y true, ty, pos, af, g⟩ p') (i q : Nat) (zv : ν) (H : KeyOk P t kt vt kv) (hF : nth F q = Ma kv vv r b z) (hx : opd S x = some (.map (some b))) (hy : opd S y = some (kv k))
    (h : J P n X Q p' ((d, .tuple #[vv ((mget z k).getD zv), vb (mget z k).isSome]) :: S) Ls F m) (hz : zeroOf P vt = some (vv zv) := by kernel_rfl) (hr : Ls[i]? = some r := by rfl) (hd : Nat.blt d n = true := by kernel_rfl) (hg : wantedS os S g = some true := by kernel_rfl) : J P n X Q p S Ls F m :=
  ⟨fun hq r0 hm a w hs => at0.run fun K hK => b_lookup true hs H (hF ▸ hs.g q) hx hy hz hr (fun a h' => hK (Ext.refl _ _) (h.go hq r0 hm a w h')) hd hg⟩
theorem jmp [LawfulBEq κ] (at0 : At Ls p os ⟨none, .mapUpdate t x y x3, ty, pos, af, g⟩ p') (i q : Nat) (H : KeyOk P t kt vt kv) (hF : nth F q = Ma kv vv r b z) (hx : opd S x = some (.map (some b))) (hy : opd S y = some (kv k)) (hz : opd S x3 = some (vv v))
    (h : ∀ r', setC Ls i r' fun Ls' => J P n X Q p' S Ls' (Ma kv vv r' b (mput z k v) :: F) m) (hr : Ls[i]? = some r := by rfl) (hg : wantedS os S g = some true := by kernel_rfl) : J P n X Q p S Ls F m :=
  ⟨fun hq r0 hm a w hs => at0.run fun K hK => b_mapUpdate i hs H (hF ▸ hs.g q) hx hy hz hr (fun r' a w' h' e => hK e (by
    have h := h r'
    rw [setC_eq] at h
    exact h.go hq r0 hm a w' h')) hg⟩
end

/-! ### Blocks given up for reading, room for nil slices -/

def Pos.less (Ls Ls' : List Res) : Pos → Prop
  | .dr _ _ J _ _ => J.map (Ls'[·]?) = J.map (Ls[·]?)
  | .fo _ _ _ _ _ _ => False
  | .af _ _ _ _ _ _ => False
  | _ => True
theorem Pos.less_go {Ls' : List Res} (hl : p.less Ls Ls') (hs : ∀ b ∈ bl Ls', b ∈ bl Ls) {A : List Nat} {Q : Exit → Act → World → Prop} {a : Act} {w : World} {L0 : List Res} {w0 : World}
    (h : SS qd A L0 w0 n S Ls' F a w) (k : p.go qd P A Ls' Q a w) : p.go qd P A Ls Q a w := by
  cases p with
  | dr os B J f li => exact dless h k hs hl
  | fo _ _ _ _ _ _ => exact hl.elim
  | af _ _ _ _ _ _ => exact hl.elim
  | _ => exact k

section
variable {τ : Type} {e : E τ} {te : TypeId} {r : Res} {p0 : Option Addr} {c k0 : Nat} {z : List τ}
/-- from now on it is only read -/
theorem jsh (i k : Nat) (hF : nth F k = Ar e te r p0 c k0 z) (hr : Ls[i]? = some r) (h : setC Ls i [] fun Ls' => J P n X Q p S Ls' (R e p0 c k0 z :: F) m) (hl : setC Ls i [] (fun Ls' => p.less Ls Ls') := by first | exact trivial | exact rfl) : J P n X Q p S Ls F m :=
  ⟨fun hq r0 hm a w hs => by
    rw [setC_eq] at h hl
    have h1 := hs.share i (hF ▸ hs.g k : (Ar e te r p0 c k0 z).h (bl Ls ++ X.A) w) hr
    exact Pos.less_go hl set_less h1 (h.go hq r0 hm a w h1)⟩
/-- a nil slice that is to be one's own -/
theorem jro (e : E τ) (te : TypeId) (h : snocC Ls [] fun Ls' => J P n X Q p S Ls' (Ar e te [] none 0 0 [] :: F) m) (hl : snocC Ls [] (fun Ls' => p.less Ls Ls') := by first | exact trivial | exact rfl) : J P n X Q p S Ls F m :=
  ⟨fun hq r0 hm a w hs => by
    rw [snocC_eq] at h hl
    have h1 := hs.room e te
    exact Pos.less_go hl room_less h1 (h.go hq r0 hm a w h1)⟩
/-- a nil slice that is only read -/
theorem jnf (e : E τ) (h : J P n X Q p S Ls (R e none 0 0 [] :: F) m) : J P n X Q p S Ls F m :=
  ⟨fun hq r0 hm a w hs => h.go hq r0 hm a w (hs.add (rnil e _ _ none 0))⟩
end

/-! ### Calls -/

structure Con (qd : Prop) (P : Program) (f : FuncId) (vs : List Value) (L : List Res) (F : List PP) {ρ : Type} (m : Option ρ) (post : ρ → (Value → List Res → List PP → Prop) → Prop) : Prop where
  hf : ∀ args w, (callFunc f args).run P w = .ok (.enter f args) w
  go : ∀ A w0 r, m = some r → Own A w0 L → All F (bl L ++ A) w0 → Calls P f vs.toArray w0 (Ret fun v w => Ex (post r) fun v1 L1 F1 => v = v1 ∧ Bk qd A L w0 L1 F1 w)

/-- the same, the blocks at the beginning named -/
abbrev CoL (qd : Prop) (P : Program) (f : FuncId) (vs : List Value) (L : List Res) (F : List PP) {ρ : Type} (m : Option ρ) (post : List Res → ρ → (Value → List Res → List PP → Prop) → Prop) : Prop := Con qd P f vs L F m (post L)

def callK (ls js : List Nat) (L1 Ls : List Res) (F1 F : List PP) (k : List Res → List PP → Prop) : Prop := match ls with
  | [] => callC js L1 Ls fun Ls' => appC F1 F fun F' => k Ls' F'
  | _ :: _ => match F1 with
    | [] => callC js L1 Ls fun Ls' => k Ls' F
    | _ :: _ => False

theorem callK_on {ls js : List Nat} {L1 : List Res} {F1 : List PP} {A : List Nat} {L0 : List Res} {w0 w w' : World} {a' : Act} {S' : Sl} {kk : List Res → List PP → Prop} (h : callK ls js L1 Ls F1 F kk)
    (c : AC qd A L0 w0 n S' Ls F js ls w a' w') (q : Bk qd (Ac A Ls js ls) (selR Ls js) w L1 F1 w') (hk : okJs (js ++ ls) Ls.length = true) : ∃ Ls' F', kk Ls' F' ∧ SS qd A L0 w0 n S' Ls' F' a' w' ∧ Ext qd Ls w Ls' w' := by
  cases ls with
  | nil =>
    obtain ⟨hl, h⟩ := callC_spec h
    rw [appC_eq] at h
    exact ⟨_, _, h, c.on q _ hk hl rfl (.inl rfl), c.st q _ hk hl rfl⟩
  | cons a ls =>
    cases F1 with
    | cons f F1 => exact h.elim
    | nil =>
      obtain ⟨hl, h⟩ := callC_spec h
      exact ⟨_, _, h, c.on q _ hk hl rfl (.inr rfl), c.st q _ hk hl rfl⟩

/-- a call of a function by its contract; js: blocks handed over, ls: lent for reading -/
theorem jca {fd : FuncId} {cal : Operand} {xs : List Operand} {bs0 caps : List Value} {ats : Array TypeId} {us vs : List Value} {L : List Res} {F1 : List PP} {m1 : Option σ} {post : σ → (Value → List Res → List PP → Prop) → Prop} {f : σ → Option ρ}
    (at0 : At Ls p os ⟨some d, .call { callee := .value cal, args := xs.toArray, argTypes := ats }, ty, pos, af, g⟩ p') (js ls : List Nat) (c : Con qd P fd vs L F1 m1 post) (hcal : opd S cal = some (.func (.func fd) bs0.toArray caps.toArray)) (hx : opds S xs = some us) (hv : bs0 ++ us ++ caps = vs)
    (hF : OKs (OKc Ls F js ls) F1) (h : ∀ r K, (∀ {v L1 F1}, callK ls js L1 Ls F1 F (fun Ls' F' => J P n X Q p' ((d, v) :: S) Ls' F' (f r)) → K v L1 F1) → post r K)
    (hL : selR Ls js = L := by rfl) (hk : okJs (js ++ ls) Ls.length = true := by kernel_rfl) (hd : Nat.blt d n = true := by kernel_rfl) (hg : wantedS os S g = some true := by kernel_rfl) : J P n X Q p S Ls F (m1.bind f) :=
  ⟨fun hq r0 hm a w hs => by
    obtain ⟨r, h1, h2⟩ := bnd hm
    subst hL hv
    refine at0.run fun K hK => b_call js ls hs c.hf hcal hx (c.go _ _ _ h1 (hs.po js ls hk) (OKs.all (fun _ hf => hf _ _ hs.o hs.f) hF)) (fun v a' w' hR hc => ?_) hd hg
    refine hR _ (h r _ ?_)
    rintro v1 L1 F1 hj ⟨rfl, q⟩
    obtain ⟨Ls', F', k1, k2, k3⟩ := callK_on hj hc q hk
    exact hK k3 (k1.go hq r0 h2 a' w' k2)⟩

/-- the same for a function's number, nothing handed over -/
theorem jcl {fd : FuncId} {xs : List Operand} {ats : Array TypeId} {vs : List Value} {F1 : List PP} {m1 : Option σ} {post : σ → (Value → List Res → List PP → Prop) → Prop} {f : σ → Option ρ}
    (c : Con qd P fd vs [] F1 m1 post) (hx : opds S xs = some vs)
    (hF : OKs (OKc Ls F [] []) F1) (h : ∀ r K, (∀ {v L1 F1}, callK [] [] L1 Ls F1 F (fun Ls' F' => J P n X Q (.ops os l) ((d, v) :: S) Ls' F' (f r)) → K v L1 F1) → post r K)
    (hd : Nat.blt d n = true := by kernel_rfl) (hg : wantedS os S g = some true := by kernel_rfl) : J P n X Q (.ops os (⟨some d, .call { callee := .value (.func fd), args := xs.toArray, argTypes := ats }, ty, pos, af, g⟩ :: l)) S Ls F (m1.bind f) :=
  jca (bs0 := []) (caps := []) .s [] [] c rfl hx (List.append_nil vs) hF h rfl rfl hd hg

/-- a function's walk -/
theorem ent3 {fd : FuncId} {fn : Func} {c : Code} {vs : List Value} {L : List Res} {m1 : Option σ} {post : σ → (Value → List Res → List PP → Prop) → Prop} (hc : ∀ args w, (callFunc fd args).run P w = .ok (.enter fd args) w) (hf : P.funcs[fd]? = some fn) (hb : fn.body = some c)
    (h : ∀ X : Hd qd, J P fn.ntmps X (rootQ P fn X post) (.code c) (argSlots vs 0) L F m1) (hn : Nat.ble vs.length fn.ntmps = true := by kernel_rfl) : Con qd P fd vs L F m1 post :=
  ⟨hc, fun A w0 r hm hO hF => ent hf hb hO hF (fun a hs => (h ⟨A, L, w0⟩).go rootQ.np r hm a w0 hs) hn⟩

theorem conLim {fd : FuncId} {vs : List Value} {L : List Res} {M : Nat → Option σ} {post : σ → (Value → List Res → List PP → Prop) → Prop} (h : ∀ k, Con qd P fd vs L F (M k) post) : Con qd P fd vs L F (limM M) post :=
  ⟨(h 0).hf, fun A w0 r hm => by obtain ⟨k, hk⟩ := limM_some hm; exact (h k).go A w0 r hk⟩
theorem con0 {fd : FuncId} {vs : List Value} {L : List Res} {post : σ → (Value → List Res → List PP → Prop) → Prop} (hc : ∀ args w, (callFunc fd args).run P w = .ok (.enter fd args) w) : Con qd P fd vs L F none post := ⟨hc, fun _ _ _ hm => nomatch hm⟩

/-! ### Returns -/

theorem jr1 {fn : Func} {post : ρ → (Value → List Res → List PP → Prop) → Prop} {r : ρ} {v v1 : Value} {L1 : List Res} {F1 : List PP} (hf : fn.results = #[.tmp t]) (hv : look S t = some v) (hk : ∀ K, post r K → K v1 L1 F1) (js : List Nat) (hF : OKs (OKr Ls F) F1)
    (he : v = v1 := by first | rfl | (simp only [sv, List.length_set] <;> rfl)) (hL : selR Ls js = L1 := by rfl) (hn : js.Nodup := by decide) : J P n X (rootQ P fn X post) (.ex .ret) S Ls F (some r) :=
  ⟨fun _ r0 hm a w hs => by
    cases hm
    subst hL he
    exact rt1 hs hf hv fun G hG => hk _ hG ⟨rfl, bk_sel hs js (OKs.all (fun _ hf => hf _ _ hs.o hs.f) hF) hn⟩⟩
/-- results from slots and blocks -/
def RL (P : Program) (S : Sl) (Ls : List Res) (rs : List ResultVar) (vs : List Value) : Prop := ∀ {qd A L0 w0 n F a w}, SS qd A L0 w0 n S Ls F a w → ResL P S w rs vs
theorem lN : RL P S Ls [] [] := fun _ => resN
theorem lT {v : Value} {rs : List ResultVar} {vs : List Value} (h : look S t = some v) (k : RL P S Ls rs vs) : RL P S Ls (.tmp t :: rs) (v :: vs) := fun hs => resT h (k hs)
theorem lC {b : Nat} {c : Array Value} {te : TypeId} {fr : Nat × Nat} {rs : List ResultVar} {vs : List Value} (i : Nat) (v : Value) (hl : look S t = some (pt b 0)) (hr : Ls[i]? = some [(b, .cells c te fr)]) (k : RL P S Ls rs vs) (hv : loadR P ty c 0 = some v := by kernel_rfl) : RL P S Ls (.cell t ty :: rs) (v :: vs) :=
  fun hs => rtc i hs hl hr (k hs) hv
theorem jrg' {fn : Func} {rs : List ResultVar} {vs : List Value} {post : ρ → (Value → List Res → List PP → Prop) → Prop} {r : ρ} {v1 : Value} {L1 : List Res} {F1 : List PP} (hf : fn.results = rs.toArray) (hr : RL P S Ls rs vs) (hk : ∀ K, post r K → K v1 L1 F1) (js : List Nat) (hF : OKs (OKr Ls F) F1)
    (he : (if h : vs.length = 1 then vs[0] else .tuple vs.toArray) = v1 := by first | rfl | (simp only [sv, List.length_set] <;> rfl)) (hL : selR Ls js = L1 := by rfl) (hn : js.Nodup := by decide) : J P n X (rootQ P fn X post) (.ex .ret) S Ls F (some r) :=
  ⟨fun _ r0 hm a w hs => by
    cases hm
    subst hL he
    exact rtg hs hf (hr hs) fun G hG => hk _ hG ⟨rfl, bk_sel hs js (OKs.all (fun _ hf => hf _ _ hs.o hs.f) hF) hn⟩⟩
/-- an end without a return -/
theorem jrn {fn : Func} {post : ρ → (Value → List Res → List PP → Prop) → Prop} (h : J P n X (rootQ P fn X post) (.ex .ret) S Ls F m) : J P n X (rootQ P fn X post) (.ex .normal) S Ls F m :=
  ⟨fun hq r hm a w hs => h.go hq r hm a w hs⟩
end
end Go.GD
