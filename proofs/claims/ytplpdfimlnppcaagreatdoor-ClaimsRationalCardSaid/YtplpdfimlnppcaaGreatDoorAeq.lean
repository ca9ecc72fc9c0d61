/- A part. Conditions: none. -/
import Derived.Test.YtplpdfimlnppcaaGreatDoorArrv
import Derived.ChangeKeysEq
namespace Go.GD
open Go Go.RowKit
set_option autoImplicit false
section
variable {P : Program} {n : Nat} {S : Sl} {x y : Operand} {a : Act} {t te : Nat} {ty u : TypeId} {pos : String} {af : Array Edge} {g : Option (Nat × Bool)} {kd : IntKind} {i1 i2 j1 j2 : Int} {d : Option Tmp}
theorem z24 {cs : Array Value} {o : Nat} {v : Value} (hsh : uM P te = some (false, 1)) (h : cs[o]? = some v) (w : World) : (part te cs o).run P w = .ok v w :=
 zPH (by unfold z3f; rw [hsh]; exact h)
end
end Go.GD
