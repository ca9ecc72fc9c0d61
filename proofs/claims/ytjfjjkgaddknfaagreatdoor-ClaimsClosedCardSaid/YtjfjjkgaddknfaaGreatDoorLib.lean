/- Part of the proof. Conditions: none. -/
import Derived.Test.YtjfjjkgaddknfaaGreatDoorBase
import Derived.Lib.SpaceU
import Derived.Lib.Bytealg
import Derived.Lib.ItoaNum
import Derived.Lib.AtoiAll
namespace Go.GD
set_option autoImplicit false
def uG {α : Type} (f : α → α → Option Int) (x y : α) : Bool := decide ((f x y).getD 0 < 0)
structure OrdF {α : Type} (f : α → α → Option Int) : Prop where
 tot : ∀ x y, ∃ n, f x y = some n
 irrefl : ∀ x, uG f x x = false
 trans : ∀ x y z, uG f x y = true → uG f y z = true → uG f x z = true
 ntrans : ∀ x y z, uG f x y = false → uG f y z = false → uG f x z = false
 eq : ∀ x y, uG f x y = false → uG f y x = false → x = y
open Classical in
noncomputable def zT2 {α : Type} (f : α → α → Option Int) (l : List α) : Option (List α) :=
 if OrdF f ∧ l.length < 4294967296 then some (l.mergeSort fun x y => !uG f y x) else none
structure OrdOn {α : Type} (f : α → α → Option Int) (l : List α) : Prop where
 tot : ∀ x ∈ l, ∀ y ∈ l, ∃ n, f x y = some n
 irrefl : ∀ x ∈ l, uG f x x = false
 trans : ∀ x ∈ l, ∀ y ∈ l, ∀ z ∈ l, uG f x y = true → uG f y z = true → uG f x z = true
 ntrans : ∀ x ∈ l, ∀ y ∈ l, ∀ z ∈ l, uG f x y = false → uG f y z = false → uG f x z = false
 eq : ∀ x ∈ l, ∀ y ∈ l, uG f x y = false → uG f y x = false → x = y
def vY (b : Bool) : Option Unit := if b then some () else none
def zSK {α : Type} (l : List α) (k j : Int) : Option α := if 0 ≤ j then zD l (k + j) else none
def zC4 {α : Type} (l : List α) (k : Int) (z : α) : List α := l.take k.toNat ++ List.replicate (l.length - k.toNat) z
theorem zHK {α : Type} (l : List α) (k : Int) (z : α) : (zC4 l k z).length = l.length := by
 simp [zC4]; omega
def zH0 {α : Type} (l : List α) (k : Int) (z : List α) : List α := l.take k.toNat ++ z.take (l.length - k.toNat) ++ l.drop (k.toNat + z.length)
theorem zMB {α : Type} (l : List α) (k : Int) (z : List α) : (zH0 l k z).length = l.length := by
 simp [zH0]; omega
def z1T (l : List Int) : Option (List Int) := if l.length < 4294967296 then some (l.mergeSort fun x y => decide (x ≤ y)) else none
def mkS {α : Type} (n c : Int) (z : α) : Option (List α) := if 0 ≤ n ∧ n ≤ c ∧ c ≤ 4294967296 then some (List.replicate n.toNat z) else none
def z2p (l : List qC) (s : qC) : Option qC := if l.length ≤ 140737488355328 ∧ (s.intercalate l).length ≤ 140737488355328 then some (s.intercalate l) else none
def zVz (s : qC) : Option (List qC) := if s.length < 4294967281 then some (Lib.fieldsD s) else none
def zZC (s u : qC) : Option Int := match u with
 | [c] => some (Lib.indexByte s c)
 | _ => none
def yM (l : List Int) (i : Int) : Int := l.getD i.toNat 0
def xO (k : Nat) (l : List Int) (i v : Int) : List Int := (List.range k).map fun j => if j = i.toNat then v else l.getD j 0
def z1W (k : Nat) (l : List Int) (j : Int) : Option (List Int) := if 0 ≤ j ∧ j ≤ k then some ((List.range j.toNat).map fun i => l.getD i 0) else none
def aeq (k : Nat) (l m : List Int) : Bool := (List.range k).all fun j => l.getD j 0 == m.getD j 0
inductive An
 | i (n : Int)
 | s (x : qC)
def An.int : An → Int
 | .i n => n
 | .s _ => 0
def An.str : An → qC
 | .s x => x
 | .i _ => []
def z2l (n z : Int) : Option qC := if z = 10 ∧ -9223372036854775808 ≤ n ∧ n ≤ 9223372036854775807 then some (Lib.itoa n) else none
end Go.GD
