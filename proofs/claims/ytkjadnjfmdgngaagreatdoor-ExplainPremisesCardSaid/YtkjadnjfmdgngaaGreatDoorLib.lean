/- Part of the proof. Conditions: none. -/
import Derived.Test.YtkjadnjfmdgngaaGreatDoorBase
import Derived.Lib.SpaceU
import Derived.Lib.Bytealg
import Derived.Lib.ItoaNum
import Derived.Lib.AtoiAll
namespace Go.GD
set_option autoImplicit false
def yI {α : Type} (f : α → α → Option Int) (x y : α) : Bool := decide ((f x y).getD 0 < 0)
structure OrdF {α : Type} (f : α → α → Option Int) : Prop where
 tot : ∀ x y, ∃ n, f x y = some n
 irrefl : ∀ x, yI f x x = false
 trans : ∀ x y z, yI f x y = true → yI f y z = true → yI f x z = true
 ntrans : ∀ x y z, yI f x y = false → yI f y z = false → yI f x z = false
 eq : ∀ x y, yI f x y = false → yI f y x = false → x = y
open Classical in
noncomputable def zRg {α : Type} (f : α → α → Option Int) (l : List α) : Option (List α) :=
 if OrdF f ∧ l.length < 4294967296 then some (l.mergeSort fun x y => !yI f y x) else none
structure OrdOn {α : Type} (f : α → α → Option Int) (l : List α) : Prop where
 tot : ∀ x ∈ l, ∀ y ∈ l, ∃ n, f x y = some n
 irrefl : ∀ x ∈ l, yI f x x = false
 trans : ∀ x ∈ l, ∀ y ∈ l, ∀ z ∈ l, yI f x y = true → yI f y z = true → yI f x z = true
 ntrans : ∀ x ∈ l, ∀ y ∈ l, ∀ z ∈ l, yI f x y = false → yI f y z = false → yI f x z = false
 eq : ∀ x ∈ l, ∀ y ∈ l, yI f x y = false → yI f y x = false → x = y
open Classical in
noncomputable def zSn {α : Type} (f : α → α → Option Int) (l : List α) : Option (List α) :=
 if OrdOn f l ∧ l.length < 4294967296 then some (l.mergeSort fun x y => !yI f y x) else none
def uH (b : Bool) : Option Unit := if b then some () else none
def tU {α : Type} (l : List α) (k j : Int) : Option α := if 0 ≤ j then zG l (k + j) else none
def zB1 {α : Type} (l : List α) (k : Int) (z : α) : List α := l.take k.toNat ++ List.replicate (l.length - k.toNat) z
theorem zG7 {α : Type} (l : List α) (k : Int) (z : α) : (zB1 l k z).length = l.length := by
 simp [zB1]; omega
def zGq {α : Type} (l : List α) (k : Int) (z : List α) : List α := l.take k.toNat ++ z.take (l.length - k.toNat) ++ l.drop (k.toNat + z.length)
theorem zKp {α : Type} (l : List α) (k : Int) (z : List α) : (zGq l k z).length = l.length := by
 simp [zGq]; omega
def zY4 (l : List Int) : Option (List Int) := if l.length < 4294967296 then some (l.mergeSort fun x y => decide (x ≤ y)) else none
def mkS {α : Type} (n c : Int) (z : α) : Option (List α) := if 0 ≤ n ∧ n ≤ c ∧ c ≤ 4294967296 then some (List.replicate n.toNat z) else none
def zUh (l : List Int) (i : Int) : Int := l.getD i.toNat 0
def zTy (k : Nat) (l : List Int) (i v : Int) : List Int := (List.range k).map fun j => if j = i.toNat then v else l.getD j 0
inductive An
 | i (n : Int)
 | s (x : vD)
def An.int : An → Int
 | .i n => n
 | .s _ => 0
def An.str : An → vD
 | .s x => x
 | .i _ => []
end Go.GD
