/- Models of library functions whose proofs are not printed by program. Conditions: none. -/
import Derived.Test.YtbonnndhoidbdaaGreatDoorBase
import Derived.Lib.SpaceU
import Derived.Lib.Bytealg
import Derived.Lib.ItoaNum
import Derived.Lib.AtoiAll
namespace Go.GD
set_option autoImplicit false
def ltF {α : Type} (f : α → α → Option Int) (x y : α) : Bool := decide ((f x y).getD 0 < 0)
structure OrdF {α : Type} (f : α → α → Option Int) : Prop where
  tot : ∀ x y, ∃ n, f x y = some n
  irrefl : ∀ x, ltF f x x = false
  trans : ∀ x y z, ltF f x y = true → ltF f y z = true → ltF f x z = true
  ntrans : ∀ x y z, ltF f x y = false → ltF f y z = false → ltF f x z = false
  eq : ∀ x y, ltF f x y = false → ltF f y x = false → x = y
open Classical in
noncomputable def zSh {α : Type} (f : α → α → Option Int) (l : List α) : Option (List α) :=
  if OrdF f ∧ l.length < 4294967296 then some (l.mergeSort fun x y => !ltF f y x) else none
structure OrdOn {α : Type} (f : α → α → Option Int) (l : List α) : Prop where
  tot : ∀ x ∈ l, ∀ y ∈ l, ∃ n, f x y = some n
  irrefl : ∀ x ∈ l, ltF f x x = false
  trans : ∀ x ∈ l, ∀ y ∈ l, ∀ z ∈ l, ltF f x y = true → ltF f y z = true → ltF f x z = true
  ntrans : ∀ x ∈ l, ∀ y ∈ l, ∀ z ∈ l, ltF f x y = false → ltF f y z = false → ltF f x z = false
  eq : ∀ x ∈ l, ∀ y ∈ l, ltF f x y = false → ltF f y x = false → x = y
def chk (b : Bool) : Option Unit := if b then some () else none
def zQf {α : Type} (l : List α) (k j : Int) : Option α := if 0 ≤ j then idx l (k + j) else none
def zCf {α : Type} (l : List α) (k : Int) (z : α) : List α := l.take k.toNat ++ List.replicate (l.length - k.toNat) z
theorem zGd {α : Type} (l : List α) (k : Int) (z : α) : (zCf l k z).length = l.length := by
  simp [zCf]; omega
def zGv {α : Type} (l : List α) (k : Int) (z : List α) : List α := l.take k.toNat ++ z.take (l.length - k.toNat) ++ l.drop (k.toNat + z.length)
theorem zKa {α : Type} (l : List α) (k : Int) (z : List α) : (zGv l k z).length = l.length := by
  simp [zGv]; omega
def zXo (l : List Int) : Option (List Int) := if l.length < 4294967296 then some (l.mergeSort fun x y => decide (x ≤ y)) else none
def mkS {α : Type} (n c : Int) (z : α) : Option (List α) := if 0 ≤ n ∧ n ≤ c ∧ c ≤ 4294967296 then some (List.replicate n.toNat z) else none
def zYf (l : List Str) (s : Str) : Option Str := if l.length ≤ 140737488355328 ∧ (s.intercalate l).length ≤ 140737488355328 then some (s.intercalate l) else none
def zTx (s : Str) : Option (List Str) := if s.length < 4294967281 then some (Lib.fieldsD s) else none
def zWO (s u : Str) : Option Int := match u with
  | [c] => some (Lib.indexByte s c)
  | _ => none
def zT8 (l : List Int) (i : Int) : Int := l.getD i.toNat 0
def zT6 (k : Nat) (l : List Int) (i v : Int) : List Int := (List.range k).map fun j => if j = i.toNat then v else l.getD j 0
inductive An
  | i (n : Int)
  | s (x : Str)
def An.int : An → Int
  | .i n => n
  | .s _ => 0
def An.str : An → Str
  | .s x => x
  | .i _ => []
def zZD (n z : Int) : Option Str := if z = 10 ∧ -9223372036854775808 ≤ n ∧ n ≤ 9223372036854775807 then some (Lib.itoa n) else none
end Go.GD
