/- A part. Conditions: none. -/
import Derived.Test.YtjfjjkgaddknfaaGreatDoorOps4
import Derived.Lib.ConvBytes
import Derived.Laws.IdiomStrings
import Derived.Lib.FrozenHead
namespace Go.GD
open Go Go.RowKit
set_option autoImplicit false
set_option linter.unusedVariables false
variable {qd : Prop}
section
variable {P : Program} {n : Nat} {X : Hd qd} {ρ : Type} {Q : PQ ρ} {S : Sl} {Ls : List zY} {F : List PP} {m : Option ρ} {os : Array Oper} {ol : List Oper} {x y : Operand} {p p' : uY}
variable {d t t2 te : TypeId} {ty : TypeId} {pos : String} {af : Array Edge} {g : Option (Nat × Bool)} {l : qI} {r : zY} {p0 : Option Addr} {c k0 : Nat} {kd : IntKind} {ix : Int}
end
end Go.GD
