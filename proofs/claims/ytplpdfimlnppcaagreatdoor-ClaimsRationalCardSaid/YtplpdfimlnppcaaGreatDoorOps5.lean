/- A part. Conditions: none. -/
import Derived.Test.YtplpdfimlnppcaaGreatDoorOps4
import Derived.Lib.ConvBytes
import Derived.Laws.IdiomStrings
import Derived.Lib.FrozenHead
namespace Go.GD
open Go Go.RowKit
set_option autoImplicit false
set_option linter.unusedVariables false
variable {qd : Prop}
section
variable {P : Program} {n : Nat} {X : Hd qd} {ρ : Type} {Q : PQ ρ} {S : Sl} {Ls : List zW} {F : List PP} {m : Option ρ} {os : Array Oper} {ol : List Oper} {x y : Operand} {p p' : uZ}
variable {d t t2 te : TypeId} {ty : TypeId} {pos : String} {af : Array Edge} {g : Option (Nat × Bool)} {l : qD} {r : zW} {p0 : Option Addr} {c k0 : Nat} {kd : IntKind} {ix : Int}
end
end Go.GD
