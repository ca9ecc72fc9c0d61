/- A part. Conditions: none. -/
import Derived.Test.YtplpdfimlnppcaaGreatDoorBase
import Derived.Lib.SpaceU
import Derived.Lib.Bytealg
import Derived.Lib.ItoaNum
import Derived.Lib.AtoiAll
namespace Go.GD
set_option autoImplicit false
def uK {α : Type} (f : α → α → Option Int) (x y : α) : Bool := decide ((f x y).getD 0 < 0)
structure OrdF {α : Type} (f : α → α → Option Int) : Prop where
 tot : ∀ x y, ∃ n, f x y = some n
 irrefl : ∀ x, uK f x x = false
 trans : ∀ x y z, uK f x y = true → uK f y z = true → uK f x z = true
 ntrans : ∀ x y z, uK f x y = false → uK f y z = false → uK f x z = false
 eq : ∀ x y, uK f x y = false → uK f y x = false → x = y
open Classical in
noncomputable def zWf {α : Type} (f : α → α → Option Int) (l : List α) : Option (List α) :=
 if OrdF f ∧ l.length < 4294967296 then some (l.mergeSort fun x y => !uK f y x) else none
structure OrdOn {α : Type} (f : α → α → Option Int) (l : List α) : Prop where
 tot : ∀ x ∈ l, ∀ y ∈ l, ∃ n, f x y = some n
 irrefl : ∀ x ∈ l, uK f x x = false
 trans : ∀ x ∈ l, ∀ y ∈ l, ∀ z ∈ l, uK f x y = true → uK f y z = true → uK f x z = true
 ntrans : ∀ x ∈ l, ∀ y ∈ l, ∀ z ∈ l, uK f x y = false → uK f y z = false → uK f x z = false
 eq : ∀ x ∈ l, ∀ y ∈ l, uK f x y = false → uK f y x = false → x = y
def yC (b : Bool) : Option Unit := if b then some () else none
def zUz {α : Type} (l : List α) (k j : Int) : Option α := if 0 ≤ j then zF l (k + j) else none
def zDI {α : Type} (l : List α) (k : Int) (z : α) : List α := l.take k.toNat ++ List.replicate (l.length - k.toNat) z
theorem zIs {α : Type} (l : List α) (k : Int) (z : α) : (zDI l k z).length = l.length := by
 simp [zDI]; omega
def zJF {α : Type} (l : List α) (k : Int) (z : List α) : List α := l.take k.toNat ++ z.take (l.length - k.toNat) ++ l.drop (k.toNat + z.length)
theorem zOI {α : Type} (l : List α) (k : Int) (z : List α) : (zJF l k z).length = l.length := by
 simp [zJF]; omega
def z4q (l : List Int) : Option (List Int) := if l.length < 4294967296 then some (l.mergeSort fun x y => decide (x ≤ y)) else none
def mkS {α : Type} (n c : Int) (z : α) : Option (List α) := if 0 ≤ n ∧ n ≤ c ∧ c ≤ 4294967296 then some (List.replicate n.toNat z) else none
def z5m (l : List qD) (s : qD) : Option qD := if l.length ≤ 140737488355328 ∧ (s.intercalate l).length ≤ 140737488355328 then some (s.intercalate l) else none
def zZF (s : qD) : Option (List qD) := if s.length < 4294967281 then some (Lib.fieldsD s) else none
def z2u (s u : qD) : Option Int := match u with
 | [c] => some (Lib.indexByte s c)
 | _ => none
def yR (l : List Int) (i : Int) : Int := l.getD i.toNat 0
def xR (k : Nat) (l : List Int) (i v : Int) : List Int := (List.range k).map fun j => if j = i.toNat then v else l.getD j 0
def z4y (k : Nat) (l : List Int) (j : Int) : Option (List Int) := if 0 ≤ j ∧ j ≤ k then some ((List.range j.toNat).map fun i => l.getD i 0) else none
def aeq (k : Nat) (l m : List Int) : Bool := (List.range k).all fun j => l.getD j 0 == m.getD j 0
inductive An
 | i (n : Int)
 | s (x : qD)
def An.int : An → Int
 | .i n => n
 | .s _ => 0
def An.str : An → qD
 | .s x => x
 | .i _ => []
def z6H (n z : Int) : Option qD := if z = 10 ∧ -9223372036854775808 ≤ n ∧ n ≤ 9223372036854775807 then some (Lib.itoa n) else none
end Go.GD
