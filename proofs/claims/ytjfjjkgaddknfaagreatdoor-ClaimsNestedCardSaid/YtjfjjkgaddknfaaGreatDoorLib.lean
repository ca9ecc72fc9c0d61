/- A part. Conditions: none. -/
import Derived.Test.YtjfjjkgaddknfaaGreatDoorBase
import Derived.Lib.SpaceU
import Derived.Lib.Bytealg
import Derived.Lib.ItoaNum
import Derived.Lib.AtoiAll
namespace Go.GD
set_option autoImplicit false
def uI {α : Type} (f : α → α → Option Int) (x y : α) : Bool := decide ((f x y).getD 0 < 0)
structure OrdF {α : Type} (f : α → α → Option Int) : Prop where
 tot : ∀ x y, ∃ n, f x y = some n
 irrefl : ∀ x, uI f x x = false
 trans : ∀ x y z, uI f x y = true → uI f y z = true → uI f x z = true
 ntrans : ∀ x y z, uI f x y = false → uI f y z = false → uI f x z = false
 eq : ∀ x y, uI f x y = false → uI f y x = false → x = y
open Classical in
noncomputable def zWH {α : Type} (f : α → α → Option Int) (l : List α) : Option (List α) :=
 if OrdF f ∧ l.length < 4294967296 then some (l.mergeSort fun x y => !uI f y x) else none
structure OrdOn {α : Type} (f : α → α → Option Int) (l : List α) : Prop where
 tot : ∀ x ∈ l, ∀ y ∈ l, ∃ n, f x y = some n
 irrefl : ∀ x ∈ l, uI f x x = false
 trans : ∀ x ∈ l, ∀ y ∈ l, ∀ z ∈ l, uI f x y = true → uI f y z = true → uI f x z = true
 ntrans : ∀ x ∈ l, ∀ y ∈ l, ∀ z ∈ l, uI f x y = false → uI f y z = false → uI f x z = false
 eq : ∀ x ∈ l, ∀ y ∈ l, uI f x y = false → uI f y x = false → x = y
def yG (b : Bool) : Option Unit := if b then some () else none
def tY {α : Type} (l : List α) (k j : Int) : Option α := if 0 ≤ j then zI l (k + j) else none
def zCk {α : Type} (l : List α) (k : Int) (z : α) : List α := l.take k.toNat ++ List.replicate (l.length - k.toNat) z
theorem zIS {α : Type} (l : List α) (k : Int) (z : α) : (zCk l k z).length = l.length := by
 simp [zCk]; omega
def zIk {α : Type} (l : List α) (k : Int) (z : List α) : List α := l.take k.toNat ++ z.take (l.length - k.toNat) ++ l.drop (k.toNat + z.length)
theorem zN0 {α : Type} (l : List α) (k : Int) (z : List α) : (zIk l k z).length = l.length := by
 simp [zIk]; omega
def z3p (l : List Int) : Option (List Int) := if l.length < 4294967296 then some (l.mergeSort fun x y => decide (x ≤ y)) else none
def mkS {α : Type} (n c : Int) (z : α) : Option (List α) := if 0 ≤ n ∧ n ≤ c ∧ c ≤ 4294967296 then some (List.replicate n.toNat z) else none
def z5H (l : List qI) (s : qI) : Option qI := if l.length ≤ 140737488355328 ∧ (s.intercalate l).length ≤ 140737488355328 then some (s.intercalate l) else none
def zYk (s : qI) : Option (List qI) := if s.length < 4294967281 then some (Lib.fieldsD s) else none
def z1e (s u : qI) : Option Int := match u with
 | [c] => some (Lib.indexByte s c)
 | _ => none
def yT (l : List Int) (i : Int) : Int := l.getD i.toNat 0
def xS (k : Nat) (l : List Int) (i v : Int) : List Int := (List.range k).map fun j => if j = i.toNat then v else l.getD j 0
def z3Y (k : Nat) (l : List Int) (j : Int) : Option (List Int) := if 0 ≤ j ∧ j ≤ k then some ((List.range j.toNat).map fun i => l.getD i 0) else none
def aeq (k : Nat) (l m : List Int) : Bool := (List.range k).all fun j => l.getD j 0 == m.getD j 0
inductive An
 | i (n : Int)
 | s (x : qI)
def An.int : An → Int
 | .i n => n
 | .s _ => 0
def An.str : An → qI
 | .s x => x
 | .i _ => []
def z5I (n z : Int) : Option qI := if z = 10 ∧ -9223372036854775808 ≤ n ∧ n ≤ 9223372036854775807 then some (Lib.itoa n) else none
end Go.GD
