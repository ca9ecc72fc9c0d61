/- Part of the proof. Conditions: none. -/
import Derived.Test.YtkjadnjfmdgngaaGreatDoorGlob
import Derived.Shelf.Strings.OnBuilder
import Derived.Shelf.Strings.FieldsAny
import Derived.Shelf.Strings.Search3
import Derived.Shelf.Strings.Count
namespace Go.GD
open Go Go.RowKit Go.Shelf Go.Proofs
set_option autoImplicit false
variable {qd : Prop}
section
variable {P : Program} {f : FuncId} {vs : List Value} {F : List PP} {σ τ : Type} {m : Option σ}
end
section
variable {P : Program} {ρ : Ren}
end
end Go.GD
