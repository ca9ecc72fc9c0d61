/- Array values at a place that turns; a builder that is begun. Conditions: none. -/
import Derived.Test.YtofmfdlkalakaaaGreatDoorSb2
namespace Go.GD
open Go Go.RowKit
set_option autoImplicit false
set_option linter.unusedVariables false
variable {qd : Prop}

section
variable {P : Program} {a : Act} {n : Nat} {S : List (Nat × Value)} {ty : TypeId} {pos : String} {af : Array Edge} {g : Option (Nat × Bool)}
/-- an element of an array value, one cell an element -/
theorem r_aidx {τ : Type} (f : τ → Value) {x y : Operand} {t el : TypeId} {kd : IntKind} {i : Int} {k : Nat} {d : Option Tmp} {l : List τ} {u : τ} {v : Value} (hS : Slots a n S) (hx : opd S x = some v) (hy : opd S y = some (.int kd i)) (hv : v = .agg (l.map f).toArray)
    (hu : P.underlying t = some (.array k el)) (hl : l.length = k) (hs : shapeOf P el = some (false, 1)) (hm : idx l i = some u) (w : World) :
    (execOp a.eval ⟨d, .index t x y, ty, pos, af, g⟩).run P w = .ok (.value (f u)) w := by
  subst hv
  unfold idx at hm
  split at hm
  · rename_i h0
    have hlt : i.toNat < l.length := (List.getElem?_eq_some_iff.1 hm).1
    have hlt2 : i < (k : Int) := by omega
    obtain ⟨h1, h2⟩ := run_shape_agg (w := w) hs
    have hc : (l.map f).toArray[i.toNat * 1]? = some (f u) := by simp [hm]
    simp only [Nat.mul_one] at hc
    simp [execOp, hS.eval hx, hS.eval hy, Instr.index, asIntOf, run_underlying hu, h0, hlt2, h1, h2, part, hm]
  · cases hm
end
/-- a builder that holds nothing yet -/
theorem jbq {P : Program} {n : Nat} {X : Hd qd} {ρ : Type} {Q : PQ ρ} {S : Sl} {Ls : List Res} {F : List PP} {m : Option ρ} {p : Pos} (T te b : Nat)
    (h : J P n X Q p S Ls (Bdr T te (bx b T [.pointer none, .slice none 0 0]) b [] :: F) m) : J P n X Q p S Ls F m :=
  ⟨fun hq r hm a w hs => h.go hq r hm a w (hs.add (f := Bdr T te _ b []) ⟨.pointer none, none, 0, [], .inl rfl, rfl, .inl ⟨rfl, rfl, rfl, rfl⟩⟩)⟩

/-! ### An array that is only read, loaded whole: one cell an element -/

theorem rdL_one {τ : Type} {e : E τ} (f : τ → Value) (hf : ∀ Z w c x, e.rd Z w c x → c = [f x]) {Z : List Nat} {w : World} : ∀ {cs : List Value} {l : List τ}, e.rdL Z w cs l → cs = l.map f
  | _, [], h => h
  | _, x :: l, ⟨c1, c2, h0, h1, h2⟩ => by rw [h0, hf _ _ _ _ h1, rdL_one f hf h2]; rfl

section
variable {P : Program} {n : Nat} {X : Hd qd} {ρ : Type} {Q : PQ ρ} {S : Sl} {Ls : List Res} {F : List PP} {m : Option ρ} {os : Array Oper} {l : List Oper} {x : Operand}
variable {d t : Nat} {ty : TypeId} {pos : String} {af : Array Edge} {g : Option (Nat × Bool)} {τ : Type} {e : E τ} {k : Nat} {z : List τ} {b o : Nat} {B Jj : List Nat} {li : Array Bool} {fuel : Nat}
theorem jlT (f : τ → Value) (hf : ∀ Z w c x, e.rd Z w c x → c = [f x]) (hP : OKr Ls F (Pt (eArr k e) b o z)) (hx : opd S x = some (pt b o)) (h : J P n X Q (.ops os l) ((d, .agg (List.map f z).toArray) :: S) Ls F m)
    (ht : shapeOf P t = some (true, (eArr k e).n) := by kernel_rfl) (hd : Nat.blt d n = true := by kernel_rfl) (hg : wantedS os S g = some true := by kernel_rfl) : J P n X Q (.ops os (⟨some d, .load t x, ty, pos, af, g⟩ :: l)) S Ls F m :=
  ⟨fun hq r hm a w hs => sl (b_load_pt true hs (hP _ _ hs.o hs.f) hx (fun ci hc v hv a h' => by
    obtain rfl := rdL_one f hf hc.2
    obtain rfl : Value.agg (List.map f z).toArray = v := Option.some.inj hv
    exact h.go hq r hm a w h') ht (.inl rfl) hd hg)⟩
theorem jdT (i : Nat) (f : τ → Value) (hf : ∀ Z w c x, e.rd Z w c x → c = [f x]) (hi : os[i]? = some ⟨some d, .load t x, ty, pos, af, g⟩) (hP : OKr Ls F (Pt (eArr k e) b o z)) (hx : opd S x = some (pt b o))
    (h : J P n X Q (.dr os B Jj fuel (li.setIfInBounds i true)) ((d, .agg (List.map f z).toArray) :: S) Ls F m)
    (ht : shapeOf P t = some (true, (eArr k e).n) := by kernel_rfl) (hb : B.all (fun j => behind os i os.size j) = true := by kernel_rfl) (hk : takeOk os B li i = true := by kernel_rfl) (hd : Nat.blt d n = true := by kernel_rfl) (hg : wantedS os S g = some true := by kernel_rfl) :
    J P n X Q (.dr os B Jj (fuel + 1) li) S Ls F m :=
  ⟨fun hq r hm a w hs => dlp i true hs hi (hP _ _ hs.o hs.f) hx (fun ci hc v hv a h' => by
    obtain rfl := rdL_one f hf hc.2
    obtain rfl : Value.agg (List.map f z).toArray = v := Option.some.inj hv
    exact h.go hq r hm a w h') ht (.inl rfl) hb (fun c v a w hp => (hq r c _ _ hp).elim) hk hd hg⟩
end
end Go.GD
