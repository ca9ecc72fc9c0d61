/- Models of library functions whose proofs are not printed by program. Conditions: none. -/
import Derived.Test.YtofmfdlkalakaaaGreatDoorBase
import Derived.Lib.SpaceU
import Derived.Lib.Bytealg
import Derived.Lib.ItoaNum
import Derived.Lib.AtoiAll
namespace Go.GD
set_option autoImplicit false

/-- less, by a comparison -/
def ltF {α : Type} (f : α → α → Option Int) (x y : α) : Bool := decide ((f x y).getD 0 < 0)

/-- a comparison that always answers, is a strict order, and tells apart what is not one -/
structure OrdF {α : Type} (f : α → α → Option Int) : Prop where
  tot : ∀ x y, ∃ n, f x y = some n
  irrefl : ∀ x, ltF f x x = false
  trans : ∀ x y z, ltF f x y = true → ltF f y z = true → ltF f x z = true
  ntrans : ∀ x y z, ltF f x y = false → ltF f y z = false → ltF f x z = false
  eq : ∀ x y, ltF f x y = false → ltF f y x = false → x = y

open Classical in
/-- slices.SortFunc -/
noncomputable def sortF {α : Type} (f : α → α → Option Int) (l : List α) : Option (List α) :=
  if OrdF f ∧ l.length < 4294967296 then some (l.mergeSort fun x y => !ltF f y x) else none

/-- the same on the elements of a list -/
structure OrdOn {α : Type} (f : α → α → Option Int) (l : List α) : Prop where
  tot : ∀ x ∈ l, ∀ y ∈ l, ∃ n, f x y = some n
  irrefl : ∀ x ∈ l, ltF f x x = false
  trans : ∀ x ∈ l, ∀ y ∈ l, ∀ z ∈ l, ltF f x y = true → ltF f y z = true → ltF f x z = true
  ntrans : ∀ x ∈ l, ∀ y ∈ l, ∀ z ∈ l, ltF f x y = false → ltF f y z = false → ltF f x z = false
  eq : ∀ x ∈ l, ∀ y ∈ l, ltF f x y = false → ltF f y x = false → x = y
open Classical in
/-- slices.SortFunc at slices -/
noncomputable def sortO {α : Type} (f : α → α → Option Int) (l : List α) : Option (List α) :=
  if OrdOn f l ∧ l.length < 4294967296 then some (l.mergeSort fun x y => !ltF f y x) else none

/-- slices.Compact -/
def compactL {α : Type} [BEq α] : List α → List α
  | [] => []
  | [x] => [x]
  | x :: y :: r => if x == y then compactL (x :: r) else x :: compactL (y :: r)

def chk (b : Bool) : Option Unit := if b then some () else none
/-- v[j] of v = l[k:] -/
def idxV {α : Type} (l : List α) (k j : Int) : Option α := if 0 ≤ j then idx l (k + j) else none
/-- clear(l[k:]) -/
def clearFrom {α : Type} (l : List α) (k : Int) (z : α) : List α := l.take k.toNat ++ List.replicate (l.length - k.toNat) z
theorem length_clearFrom {α : Type} (l : List α) (k : Int) (z : α) : (clearFrom l k z).length = l.length := by
  simp [clearFrom]; omega

/-- copy(l[k:], z) -/
def copyAt {α : Type} (l : List α) (k : Int) (z : List α) : List α := l.take k.toNat ++ z.take (l.length - k.toNat) ++ l.drop (k.toNat + z.length)
theorem length_copyAt {α : Type} (l : List α) (k : Int) (z : List α) : (copyAt l k z).length = l.length := by
  simp [copyAt]; omega

/-- slices.Delete; slices.Insert of one element -/
def delM {α : Type} (l : List α) (i j : Int) : Option (List α) := if 0 ≤ i ∧ i ≤ j ∧ j ≤ l.length then some (l.take i.toNat ++ l.drop j.toNat) else none
def insM {α : Type} (l : List α) (i : Int) (z : List α) : Option (List α) := if z.length = 1 ∧ 0 ≤ i ∧ i ≤ l.length ∧ l.length + 1 < 4294967296 then some (l.take i.toNat ++ z ++ l.drop i.toNat) else none

/-- slices.Sort of ints, of strings -/
def sortI (l : List Int) : Option (List Int) := if l.length < 4294967296 then some (l.mergeSort fun x y => decide (x ≤ y)) else none
def sortS (l : List Str) : Option (List Str) := if l.length < 4294967296 then some (l.mergeSort fun x y => decide (x ≤ y)) else none

/-- make([]T, n, c) -/
def mkS {α : Type} (n c : Int) (z : α) : Option (List α) := if 0 ≤ n ∧ n ≤ c ∧ c ≤ 4294967296 then some (List.replicate n.toNat z) else none

/-- strings.Join -/
def joinM (l : List Str) (s : Str) : Option Str := if l.length ≤ 140737488355328 ∧ (s.intercalate l).length ≤ 140737488355328 then some (s.intercalate l) else none
/-- strings.Fields -/
def fieldsM (s : Str) : Option (List Str) := if s.length < 4294967281 then some (Lib.fieldsD s) else none
/-- strings.Index, strings.Count at one byte -/
def index1 (s u : Str) : Option Int := match u with
  | [c] => some (Lib.indexByte s c)
  | _ => none
def count1 (s u : Str) : Option Int := match u with
  | [c] => some (s.count c : Nat)
  | _ => none
/-- strings.Builder: what is written, what it holds -/
def wstrM (l s : Str) : Option (Int × Unit × Str) := if l.length + s.length < 4294967296 then some (len s, (), l ++ s) else none
/-- a byte is written to a builder -/
def wbyte1 (l : Str) (z : Int) : Option (Unit × Str) := (some () : Option Unit).bind fun _ => (chk (decide (0 ≤ z) && decide (z < 256) && decide (len l + 1 < 4294967296))).bind fun _ => some ((), l ++ [UInt8.ofNat z.toNat])
def wbyteM (l : Str) (c : Int) : Option (Unit × Str) := if l.length + 1 < 4294967296 then some ((), l ++ [c.toNat.toUInt8]) else none

/-- b[i] = v, bytes -/
def bset (l : Str) (i v : Int) : Option Str := if (0 ≤ i ∧ i.toNat < l.length) ∧ 0 ≤ v ∧ v < 256 then some (l.set i.toNat (UInt8.ofNat v.toNat)) else none

/-- arrays of numbers as lists: an element, and the array in which it is another -/
def aget (l : List Int) (i : Int) : Int := l.getD i.toNat 0
def aput (k : Nat) (l : List Int) (i v : Int) : List Int := (List.range k).map fun j => if j = i.toNat then v else l.getD j 0

/-- a part from the beginning on; arrays compared -/
def asub (k : Nat) (l : List Int) (j : Int) : Option (List Int) := if 0 ≤ j ∧ j ≤ k then some ((List.range j.toNat).map fun i => l.getD i 0) else none
def aeq (k : Nat) (l m : List Int) : Bool := (List.range k).all fun j => l.getD j 0 == m.getD j 0

/-- values of type any: numbers and texts -/
inductive An
  | i (n : Int)
  | s (x : Str)
def An.isI : An → Bool
  | .i _ => true
  | .s _ => false
def An.int : An → Int
  | .i n => n
  | .s _ => 0
def An.isS : An → Bool
  | .s _ => true
  | .i _ => false
def An.str : An → Str
  | .s x => x
  | .i _ => []

/-- numerals at base 10; strconv.Atoi -/
def fmt10 (n z : Int) : Option Str := if z = 10 ∧ -9223372036854775808 ≤ n ∧ n ≤ 9223372036854775807 then some (Lib.itoa n) else none
def atoiM (s : Str) : Option (Int × Bool) := if s.length ≤ 281474976710656 then (match Lib.atoiAll s with
    | .ok v => some (v, false)
    | .«syntax» => some (0, true)
    | .range => some (Lib.atoiSat s, true)) else none


/-- strings.IndexFunc at a question that all runes beyond ASCII meet: the place of the first byte that meets it, or that is not ASCII -/
def idxB (f : Int → Option Bool) : List UInt8 → Nat → Int
  | [], _ => -1
  | b :: l, i => if 128 ≤ b.toNat ∨ f (b.toNat : Int) = some true then (i : Int) else idxB f l (i + 1)
open Classical in
noncomputable def idxF (f : Int → Option Bool) (t : Bool) (s : List UInt8) : Option Int :=
  if t = true ∧ (∀ n : Nat, n < 128 → (f (n : Int)).isSome = true) ∧ (∀ n : Nat, 128 ≤ n → n ≤ 1114111 → f (n : Int) = some true) then some (idxB f s 0) else none

end Go.GD
