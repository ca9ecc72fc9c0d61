/- A part. Conditions: none. -/
import Derived.Test.YtplpdfimlnppcaaGreatDoorArrv
namespace Go.GD
open Go Go.RowKit
set_option autoImplicit false
variable {qd : Prop}
set_option linter.unusedVariables false
section
variable {P : Program} {n : Nat} {X : Hd qd} {ρ : Type} {Q : PQ ρ} {S : Sl} {Ls : List zW} {F : List PP} {m m1 m2 : Option ρ} {os : Array Oper} {ol : List Oper} {x y : Operand} {p p' : uZ} {a : Act}
variable {d t : Nat} {ty : TypeId} {pos : String} {af : Array Edge} {g : Option (Nat × Bool)} {kd : IntKind} {k0 : Nat}
theorem jbF {parts : List (Nat × Operand)} (at0 : At Ls p os ⟨some d, .buildSlice t k0 parts.toArray, ty, pos, af, g⟩ p') (te : TypeId) (cs : List Value)
  (h : ∀ b, zUK Ls (bx b te cs) fun Ls' => J P n X Q p' ((d, .slice (some ⟨b, 0, none⟩) k0 k0) :: S) Ls' F m) (ht : xQ P t te 1 = true := by kernel_rfl) (hc : zOM P S t k0 parts = some cs := by kernel_rfl)
  (hd : Nat.blt d n = true := by kernel_rfl) (hg : wB os S g = some true := by kernel_rfl) : J P n X Q p S Ls F m :=
 ⟨fun hq r hm a w hs => at0.run fun K hK => by
  have hE := qT.alloc (qd := qd) (w := w) (w' := w.alloc (.cells cs.toArray te)) Ls (.cells cs.toArray te) rfl rfl rfl rfl
  refine tZ hs.s hd hg (zNA hs.s ht (by simpa using hc)) fun a hS => hK hE ?_
  have h := h w.heap.size
  rw [zMk] at h
  exact h.go hq r hm a _ (hs.next (hs.o.alloc _ rfl) hE hS [] trivial)⟩
theorem zRi {b m c : Nat} {i : Int} {d : Option Tmp} (hS : wH a n S) (hx : qE S x = some (.slice (some ⟨b, 0, none⟩) m c)) (hy : qE S y = some (.int kd i)) (h0 : 0 ≤ i ∧ i < (m : Int)) (ht : yV P t = some 1) {o : Nat} (ho : 0 + i.toNat * 1 = o) (w : World) :
  (execOp a.eval ⟨d, .indexAddr t x y, ty, pos, af, g⟩).run P w = .ok (.value (pt b o)) w := by
 subst ho
 simp [execOp, hS.eval hx, hS.eval hy, zMH ht h0.1 h0.2]
theorem z5F {ix c : Int} (h1 : ix = c → J P n X Q p S Ls F m1) (h2 : J P n X Q p S Ls F m2) : J P n X Q p S Ls F (if (ix == c) = true then m1 else m2) :=
 ⟨fun hq r hm a w hs => by
  by_cases h : ix = c
  ·rw [if_pos (by simpa using h)] at hm
   exact (h1 h).go hq r hm a w hs
  ·rw [if_neg (by simpa using h)] at hm
   exact h2.go hq r hm a w hs⟩
end
end Go.GD
