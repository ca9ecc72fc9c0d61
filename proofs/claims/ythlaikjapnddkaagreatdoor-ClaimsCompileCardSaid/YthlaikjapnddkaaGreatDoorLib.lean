/- Part of the proof. Conditions: none. -/
import Derived.Test.YthlaikjapnddkaaGreatDoorBase
import Derived.Lib.SpaceU
import Derived.Lib.Bytealg
import Derived.Lib.ItoaNum
import Derived.Lib.AtoiAll
namespace Go.GD
set_option autoImplicit false
def yZ {α : Type} (f : α → α → Option Int) (x y : α) : Bool := decide ((f x y).getD 0 < 0)
structure OrdF {α : Type} (f : α → α → Option Int) : Prop where
 tot : ∀ x y, ∃ n, f x y = some n
 irrefl : ∀ x, yZ f x x = false
 trans : ∀ x y z, yZ f x y = true → yZ f y z = true → yZ f x z = true
 ntrans : ∀ x y z, yZ f x y = false → yZ f y z = false → yZ f x z = false
 eq : ∀ x y, yZ f x y = false → yZ f y x = false → x = y
open Classical in
noncomputable def zSa {α : Type} (f : α → α → Option Int) (l : List α) : Option (List α) :=
 if OrdF f ∧ l.length < 4294967296 then some (l.mergeSort fun x y => !yZ f y x) else none
structure OrdOn {α : Type} (f : α → α → Option Int) (l : List α) : Prop where
 tot : ∀ x ∈ l, ∀ y ∈ l, ∃ n, f x y = some n
 irrefl : ∀ x ∈ l, yZ f x x = false
 trans : ∀ x ∈ l, ∀ y ∈ l, ∀ z ∈ l, yZ f x y = true → yZ f y z = true → yZ f x z = true
 ntrans : ∀ x ∈ l, ∀ y ∈ l, ∀ z ∈ l, yZ f x y = false → yZ f y z = false → yZ f x z = false
 eq : ∀ x ∈ l, ∀ y ∈ l, yZ f x y = false → yZ f y x = false → x = y
def uI (b : Bool) : Option Unit := if b then some () else none
def tT {α : Type} (l : List α) (k j : Int) : Option α := if 0 ≤ j then zF l (k + j) else none
def zBv {α : Type} (l : List α) (k : Int) (z : α) : List α := l.take k.toNat ++ List.replicate (l.length - k.toNat) z
theorem zGW {α : Type} (l : List α) (k : Int) (z : α) : (zBv l k z).length = l.length := by
 simp [zBv]; omega
def tX {α : Type} (l : List α) (k : Int) (z : List α) : List α := l.take k.toNat ++ z.take (l.length - k.toNat) ++ l.drop (k.toNat + z.length)
theorem zLC {α : Type} (l : List α) (k : Int) (z : List α) : (tX l k z).length = l.length := by
 simp [tX]; omega
def zYm (l : List Int) : Option (List Int) := if l.length < 4294967296 then some (l.mergeSort fun x y => decide (x ≤ y)) else none
def mkS {α : Type} (n c : Int) (z : α) : Option (List α) := if 0 ≤ n ∧ n ≤ c ∧ c ≤ 4294967296 then some (List.replicate n.toNat z) else none
def z0L (l : List qC) (s : qC) : Option qC := if l.length ≤ 140737488355328 ∧ (s.intercalate l).length ≤ 140737488355328 then some (s.intercalate l) else none
def zU1 (s : qC) : Option (List qC) := if s.length < 4294967281 then some (Lib.fieldsD s) else none
def zWn (s u : qC) : Option Int := match u with
 | [c] => some (Lib.indexByte s c)
 | _ => none
def zVP (l : List Int) (i : Int) : Int := l.getD i.toNat 0
def zV6 (k : Nat) (l : List Int) (i v : Int) : List Int := (List.range k).map fun j => if j = i.toNat then v else l.getD j 0
inductive An
 | i (n : Int)
 | s (x : qC)
def An.int : An → Int
 | .i n => n
 | .s _ => 0
def An.str : An → qC
 | .s x => x
 | .i _ => []
def zZ5 (n z : Int) : Option qC := if z = 10 ∧ -9223372036854775808 ≤ n ∧ n ≤ 9223372036854775807 then some (Lib.itoa n) else none
end Go.GD
