/- A part. Conditions: none. -/
import Derived.Test.YtplpdfimlnppcaaGreatDoorDun
namespace Go.GD
open Go Go.RowKit
set_option autoImplicit false
variable {qd : Prop}
theorem SS.tos {A : List Nat} {L0 Ls : List zW} {w0 w : World} {n : Nat} {S S2 : List (Nat × Value)} {F F2 : List PP} {a : Act} (h : SS qd A L0 w0 n S Ls F a w) (js : List Nat) (hF : uX F2 (bl Ls ++ A) w) (hS : zVD S (S2.map Prod.fst) = some S2 := by kernel_rfl) (hk : js.Nodup := by decide) : SS qd A L0 w0 n S2 (xK Ls js) F2 a w :=
 ⟨h.s.only _ hS, h.o.sel js hk, h.e.sel js, hF.mv (yK.sel js _ _ _)⟩
section
variable {P : Program} {ops : Array Oper} {Q : Exit → Act → World → Prop} {K : Act → World → Prop} {rest : List Oper}
variable {A : List Nat} {L0 Ls : List zW} {w0 w : World} {n : Nat} {S : List (Nat × Value)} {F : List PP} {a : Act}
variable {d : Nat} {ty : TypeId} {pos : String} {af : Array Edge} {g : Option (Nat × Bool)} {B J : List Nat} {listed : Array Bool} {fuel : Nat}
theorem z5e {x y : Operand} {t u : TypeId} {k : IntKind} {p q r : Int} {d : Option Tmp} (hS : wH a n S) (hx : qE S x = some (.int k p)) (hy : qE S y = some (.int k q)) (hm : z5U k p q = some r) (w : World) :
  (execOp a.eval ⟨d, .binOp .quo t x y u, ty, pos, af, g⟩).run P w = .ok (.value (.int k r)) w := by
 unfold z5U at hm
 split at hm
 ·cases hm
 ·rename_i h0
  simp only [Option.some.injEq] at hm
  subst hm
  simp [execOp, hS.eval hx, hS.eval hy, zGV, binOp, Op.intDiv, h0]
theorem z2Y {x y : Operand} {t u : TypeId} {k : IntKind} {p q r : Int} {d : Option Tmp} (hS : wH a n S) (hx : qE S x = some (.int k p)) (hy : qE S y = some (.int k q)) (hm : z5L p q = some r) (w : World) :
  (execOp a.eval ⟨d, .binOp .rem t x y u, ty, pos, af, g⟩).run P w = .ok (.value (.int k r)) w := by
 unfold z5L at hm
 split at hm
 ·cases hm
 ·rename_i h0
  simp only [Option.some.injEq] at hm
  subst hm
  simp [execOp, hS.eval hx, hS.eval hy, zGV, binOp, Op.intDiv, h0]
theorem z0Y {x y : Operand} {t u : TypeId} {k k' : IntKind} {p q r : Int} {d : Option Tmp} (hS : wH a n S) (hx : qE S x = some (.int k p)) (hy : qE S y = some (.int k' q)) (hm : z3b k p q = some r) (w : World) :
  (execOp a.eval ⟨d, .binOp .shl t x y u, ty, pos, af, g⟩).run P w = .ok (.value (.int k r)) w := by
 unfold z3b at hm
 split at hm
 ·cases hm
 ·rename_i h0
  simp only [Option.some.injEq] at hm
  subst hm
  simp [execOp, hS.eval hx, hS.eval hy, zGV, zPw (op := .shl) (k := k) (a := p) (b := q) (v := .int k (shl k p q)) (by simp [zV7]; omega)]
theorem r_shrK {x y : Operand} {t u : TypeId} {k k' : IntKind} {p q r : Int} {d : Option Tmp} (hS : wH a n S) (hx : qE S x = some (.int k p)) (hy : qE S y = some (.int k' q)) (hm : shrK k p q = some r) (w : World) :
  (execOp a.eval ⟨d, .binOp .shr t x y u, ty, pos, af, g⟩).run P w = .ok (.value (.int k r)) w := by
 unfold shrK at hm
 split at hm
 ·cases hm
 ·rename_i h0
  simp only [Option.some.injEq] at hm
  subst hm
  simp [execOp, hS.eval hx, hS.eval hy, zGV, zPw (op := .shr) (k := k) (a := p) (b := q) (v := .int k (xH k p q)) (by simp [zV7]; omega)]
section
variable {τ : Type} {e : E τ} {te : TypeId} {r : zW} {p : Option Addr} {c m : Nat} {l z : List τ} {i j : Int} {t : TypeId} {x hi' : Operand} {lo hi : Option Operand} {vlo vhi : Option Value} {kd : IntKind} {k0 : Int}
theorem z09 (h : SS qd A L0 w0 n S Ls F a w) (hR : (R e p c m l).h (bl Ls ++ A) w) (hx : qE S x = some (.slice p m c)) (hlo : zWJ S lo = some vlo) (hhi : zWJ S hi = some vhi) (b1 : Bd vlo i 0) (b2 : Bd vhi j l.length) (hm : sub l i j = some z)
  (k : ∀ p' c' a, SS qd A L0 w0 n ((d, .slice p' (List.length z) c') :: S) Ls (R e p' c' (List.length z) z :: F) a w → K a w)
  (ht : yV P t = some e.n := by kernel_rfl) (hd : Nat.blt d n = true := by kernel_rfl) (hg : wB ops S g = some true := by kernel_rfl) : vW P ops Q ⟨some d, .slice t x lo hi none, ty, pos, af, g⟩ K a w := by
 obtain ⟨hR, rfl⟩ := hR
 obtain ⟨p', c', hr, hf⟩ := z2x (P := P) (d := some d) (ty := ty) (pos := pos) (af := af) (g := g) h.s hR hx ht hlo hhi b1 b2 hm
 exact tZ h.s hd hg (hr w) fun a hS => k p' c' a ((h.slot hS).add (f := R e p' c' (List.length z) z) ⟨hf, rfl⟩)
theorem z2v (q : Nat) (h : SS qd A L0 w0 n S Ls F a w) (hi0 : ops[q]? = some ⟨some d, .slice t x lo hi none, ty, pos, af, g⟩) (hR : (R e p c m l).h (bl Ls ++ A) w) (hx : qE S x = some (.slice p m c)) (hlo : zWJ S lo = some vlo) (hhi : zWJ S hi = some vhi) (b1 : Bd vlo i 0) (b2 : Bd vhi j l.length) (hm : sub l i j = some z)
  (k : ∀ p' c' a, SS qd A L0 w0 n ((d, .slice p' (List.length z) c') :: S) Ls (R e p' c' (List.length z) z :: F) a w → vA P ops Q (SB B (CC qd A Ls w J)) fuel (listed.setIfInBounds q true) a w)
  (ht : yV P t = some e.n := by kernel_rfl) (hQ : ∀ c (v : Value) a w, Q (.panic c) (a.put (some d) v) w → Q (.panic c) a w := by exact fun _ _ _ _ h => h)
  (hk : uE ops B listed q = true := by kernel_rfl) (hd : Nat.blt d n = true := by kernel_rfl) (hg : wB ops S g = some true := by kernel_rfl) : vA P ops Q (SB B (CC qd A Ls w J)) (fuel + 1) listed a w := by
 obtain ⟨hR, rfl⟩ := hR
 obtain ⟨p', c', hr, hf⟩ := z2x (P := P) (d := some d) (ty := ty) (pos := pos) (af := af) (g := g) h.s hR hx ht hlo hhi b1 b2 hm
 exact z1R q h.o h.s hi0 hk hd (fun c => hQ c _) hg hr fun a hS => k p' c' a ((h.slot hS).add (f := R e p' c' (List.length z) z) ⟨hf, rfl⟩)
theorem zZM (h : SS qd A L0 w0 n S Ls F a w) (hA : (Ar e te r p c m l).h (bl Ls ++ A) w) (hx : qE S x = some (.slice p m c)) (hhi : qE S hi' = some (.int kd k0)) (hm : sub l 0 k0 = some z)
  (k : ∀ a, SS qd A L0 w0 n ((d, .slice p (List.length z) c) :: S) Ls (Ar e te r p c (List.length z) z :: F) a w → K a w)
  (ht : yV P t = some e.n := by kernel_rfl) (hd : Nat.blt d n = true := by kernel_rfl) (hg : wB ops S g = some true := by kernel_rfl) : vW P ops Q ⟨some d, .slice t x none (some hi') none, ty, pos, af, g⟩ K a w := by
 obtain ⟨hA, rfl⟩ := hA
 obtain ⟨hf, hr⟩ := zTi (P := P) (d := some d) (ty := ty) (pos := pos) (af := af) (g := g) h.s hA hx ht hhi hm
 exact tZ h.s hd hg (hr w) fun a hS => k a ((h.slot hS).add (f := Ar e te r p c (List.length z) z) ⟨hf, rfl⟩)
theorem zXy {lo' : Operand} {q : Unit} (h : SS qd A L0 w0 n S Ls F a w) (hA : (Ar e te r p c m l).h (bl Ls ++ A) w) (hx : qE S x = some (.slice p m c)) (hlo : qE S lo' = some (.int kd k0))
  (hm : yC (decide (0 ≤ k0) && decide (k0 ≤ (l.length : Int))) = some q)
  (k : ∀ p' c', Vw e.n p c m k0 p' (Int.toNat ((m : Int) - k0)) → ∀ a, SS qd A L0 w0 n ((d, .slice p' (Int.toNat ((m : Int) - k0)) c') :: S) Ls F a w → K a w)
  (ht : yV P t = some e.n := by kernel_rfl) (hd : Nat.blt d n = true := by kernel_rfl) (hg : wB ops S g = some true := by kernel_rfl) : vW P ops Q ⟨some d, .slice t x (some lo') none none, ty, pos, af, g⟩ K a w := by
 obtain ⟨hA, rfl⟩ := hA
 obtain ⟨p', c', hv, hr⟩ := zSu (P := P) (d := some d) (ty := ty) (pos := pos) (af := af) (g := g) h.s hA hx ht hlo hm
 exact tZ h.s hd hg (hr w) fun a hS => k p' c' hv a (h.slot hS)
theorem zX0 {p' : Option Addr} {m' c' : Nat} {k j : Int} {u : τ} {y : Operand} (h : SS qd A L0 w0 n S Ls F a w) (hA : (Ar e te r p c m l).h (bl Ls ++ A) w) (hV : Vw e.n p c m k p' m') (hx : qE S x = some (.slice p' m' c')) (hy : qE S y = some (.int kd j)) (hm : zUz l k j = some u)
  (kk : ∀ b, p = some ⟨b, 0, none⟩ → zF l (k + j) = some u → ∀ a, SS qd A L0 w0 n ((d, .pointer (some ⟨b, (k + j).toNat * e.n, none⟩)) :: S) Ls F a w → K a w)
  (ht : yV P t = some e.n := by kernel_rfl) (hd : Nat.blt d n = true := by kernel_rfl) (hg : wB ops S g = some true := by kernel_rfl) : vW P ops Q ⟨some d, .indexAddr t x y, ty, pos, af, g⟩ K a w := by
 obtain ⟨hA, hm'⟩ := hA
 obtain ⟨h2, b, hp, hr⟩ := zSs (P := P) (d := some d) (ty := ty) (pos := pos) (af := af) (g := g) h.s hA hV hm'.symm hx hy ht hm
 exact tZ h.s hd hg (hr w) fun a hS => kk b hp h2 a (h.slot hS)
theorem zZc (q : Nat) {p' : Option Addr} {m' c' : Nat} {k j : Int} {u : τ} {y : Operand} (h : SS qd A L0 w0 n S Ls F a w) (hi0 : ops[q]? = some ⟨some d, .indexAddr t x y, ty, pos, af, g⟩) (hA : (Ar e te r p c m l).h (bl Ls ++ A) w) (hV : Vw e.n p c m k p' m') (hx : qE S x = some (.slice p' m' c')) (hy : qE S y = some (.int kd j)) (hm : zUz l k j = some u)
  (kk : ∀ b, p = some ⟨b, 0, none⟩ → zF l (k + j) = some u → ∀ a, SS qd A L0 w0 n ((d, .pointer (some ⟨b, (k + j).toNat * e.n, none⟩)) :: S) Ls F a w → vA P ops Q (SB B (CC qd A Ls w J)) fuel (listed.setIfInBounds q true) a w)
  (ht : yV P t = some e.n := by kernel_rfl) (hQ : ∀ c (v : Value) a w, Q (.panic c) (a.put (some d) v) w → Q (.panic c) a w := by exact fun _ _ _ _ h => h)
  (hk : uE ops B listed q = true := by kernel_rfl) (hd : Nat.blt d n = true := by kernel_rfl) (hg : wB ops S g = some true := by kernel_rfl) : vA P ops Q (SB B (CC qd A Ls w J)) (fuel + 1) listed a w := by
 obtain ⟨hA, hm'⟩ := hA
 obtain ⟨h2, b, hp, hr⟩ := zSs (P := P) (d := some d) (ty := ty) (pos := pos) (af := af) (g := g) h.s hA hV hm'.symm hx hy ht hm
 exact z1R q h.o h.s hi0 hk hd (fun c => hQ c _) hg hr fun a hS => kk b hp h2 a (h.slot hS)
theorem zYY (q : Nat) {zd : τ} {zv : Value} {p' : Option Addr} {m' c' : Nat} {k : Int} (h : SS qd A L0 w0 n S Ls F a w) (hA : (Ar e te r p c m l).h (bl Ls ++ A) w) (hV : Vw e.n p c m k p' m') (hx : qE S x = some (.slice p' m' c')) (hz : zKF P te = some zv) (hzr : e.rd (bl Ls ++ A) w zv.cells.toList zd)
  (kk : ∀ r' a' w', SS qd A L0 w0 n S (Ls.set q r') (Ar e te r' p c m (zDI l k zd) :: F) a' w' → qT qd Ls w (Ls.set q r') w' → K a' w') (hr : Ls[q]? = some r := by rfl)
  (ht : xQ P t te e.n = true := by kernel_rfl) (hg : wB ops S g = some true := by kernel_rfl) : vW P ops Q ⟨none, .call { callee := .builtin .clear, args := [x].toArray, argTypes := [t].toArray }, ty, pos, af, g⟩ K a w := by
 obtain ⟨hA, hm'⟩ := hA
 exact zWU q h.s hg h.o hr hA hV hm'.symm hx ht hz hzr fun r' w' hO e hA' a hS => kk r' a w' (h.next hO e hS [Ar _ _ _ _ _ m _] ⟨⟨hA', by rw [zIs]; exact hm'⟩, trivial⟩) e
theorem z3A {u : TypeId} {d : Option Tmp} (hS : wH a n S) (hx : qE S x = some (.slice p m c)) (hu : P.underlying t = some (.slice te)) (w : World) :
  (execOp a.eval ⟨d, .binOp .eql t x (.const (.slice none 0 0)) u, ty, pos, af, g⟩).run P w = .ok (.value (vb p.isNone)) w := z68 hS hx hu w
theorem R.ln {Z : List Nat} {w : World} (h : (R e p c m l).h Z w) : m = l.length := h.2
theorem Ar.ln {Z : List Nat} {w : World} (h : (Ar e te r p c m l).h Z w) : m = l.length := h.2
theorem R.re {Z : List Nat} {w : World} (h : (R e p c m l).h Z w) : (R e p c (List.length l) l).h Z w := ⟨h.1, rfl⟩
theorem Ar.re {Z : List Nat} {w : World} (h : (Ar e te r p c m l).h Z w) : (Ar e te r p c (List.length l) l).h Z w := ⟨h.1, rfl⟩
theorem R.isNil {Z : List Nat} {w : World} (h : (R e p c m l).h Z w) (hp : p.isNone = true) : l = [] := xF.isNil h.1 hp
end
end
end Go.GD
