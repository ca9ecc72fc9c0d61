/- Part of the proof. Conditions: none. -/
import Derived.Test.YtkjadnjfmdgngaaGreatDoorSb2
namespace Go.GD
open Go Go.RowKit
set_option autoImplicit false
set_option linter.unusedVariables false
variable {qd : Prop}
section
variable {P : Program} {a : Act} {n : Nat} {S : List (Nat × Value)} {ty : TypeId} {pos : String} {af : Array Edge} {g : Option (Nat × Bool)}
end
section
variable {P : Program} {n : Nat} {X : Hd qd} {ρ : Type} {Q : PQ ρ} {S : Sl} {Ls : List qB} {F : List PP} {m : Option ρ} {os : Array Oper} {l : List Oper} {x : Operand}
variable {d t : Nat} {ty : TypeId} {pos : String} {af : Array Edge} {g : Option (Nat × Bool)} {τ : Type} {e : E τ} {k : Nat} {z : List τ} {b o : Nat} {B Jj : List Nat} {li : Array Bool} {fuel : Nat}
end
end Go.GD
