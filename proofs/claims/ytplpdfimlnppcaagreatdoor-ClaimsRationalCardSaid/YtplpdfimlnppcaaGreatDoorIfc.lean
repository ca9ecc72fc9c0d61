/- A part. Conditions: none. -/
import Derived.Test.YtplpdfimlnppcaaGreatDoorOps5
namespace Go.GD
open Go Go.RowKit
set_option autoImplicit false
set_option linter.unusedVariables false
variable {qd : Prop}
section
variable {Ls : List zW} {F : List PP}
end
section
variable {P : Program} {a : Act} {n : Nat} {S : List (Nat × Value)} {ty : TypeId} {pos : String} {af : Array Edge} {g : Option (Nat × Bool)} {d : Option Tmp}
end
section
variable {P : Program} {a : Act} {n : Nat} {S : List (Nat × Value)} {ty : TypeId} {pos : String} {af : Array Edge} {g : Option (Nat × Bool)} {d : Option Tmp}
end
section
variable {P : Program} {n : Nat} {X : Hd qd} {ρ : Type} {Q : PQ ρ} {S : Sl} {Ls : List zW} {F : List PP} {m : Option ρ} {os : Array Oper} {l : List Oper} {x : Operand}
variable {d t u : Nat} {ty : TypeId} {pos : String} {af : Array Edge} {g : Option (Nat × Bool)} {v : Value} {b : Bool} {ms : Array (String × TypeId)} {B Jj : List Nat} {li : Array Bool} {fuel : Nat}
end
section
variable {P : Program} {n : Nat} {X : Hd qd} {ρ : Type} {Q : PQ ρ} {S : Sl} {Ls : List zW} {F : List PP} {m : Option ρ} {os : Array Oper} {x y : Operand} {p p' : uZ}
variable {d t te : Nat} {ty : TypeId} {pos : String} {af : Array Edge} {g : Option (Nat × Bool)} {τ : Type} {e : E τ} {r : zW} {p0 : Option Addr} {c k0 : Nat} {z z2 : List τ}
end
section
variable {P : Program} {n : Nat} {X : Hd qd} {ρ : Type} {Q : PQ ρ} {S : Sl} {Ls : List zW} {F : List PP} {m : Option ρ} {os : Array Oper} {ol : List Oper} {x y : Operand} {p p' : uZ}
variable {d t t2 te : TypeId} {ty : TypeId} {pos : String} {af : Array Edge} {g : Option (Nat × Bool)} {l : qD} {r : zW} {p0 : Option Addr} {c k0 : Nat} {kd : IntKind} {ix : Int}
end
end Go.GD
