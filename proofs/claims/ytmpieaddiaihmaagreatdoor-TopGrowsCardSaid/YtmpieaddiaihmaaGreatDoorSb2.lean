/- A part. Conditions: none. -/
import Derived.Test.YtmpieaddiaihmaaGreatDoorSb
import Derived.Shelf.Strings.Builder1
namespace Go.GD
open Go Go.RowKit Go.Shelf Go.Proofs
set_option autoImplicit false
variable {qd:Prop}
section
variable {P:Program}{w:World}{A:List Nat}
end
section
variable {P:Program}{ρ:Ren}
end
end Go.GD
