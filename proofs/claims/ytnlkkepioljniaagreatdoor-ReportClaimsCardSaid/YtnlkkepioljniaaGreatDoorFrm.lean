/- Formulas: a type that contains itself. Conditions: none. -/
import Derived.Test.YtnlkkepioljniaaGreatDoorLib
namespace Go.GD
set_option autoImplicit false

inductive T_Formula
  | mk (op : Int) (name : Str) (args : List T_Formula)
/-- a formula's parts, and a formula of parts -/
def fv : T_Formula → Int × Str × List T_Formula
  | .mk a b c => (a, b, c)
def fm (x : Int × Str × List T_Formula) : T_Formula := .mk x.1 x.2.1 x.2.2
theorem fv_fm (x : Int × Str × List T_Formula) : fv (fm x) = x := rfl
theorem fm_fv (x : T_Formula) : fm (fv x) = x := by cases x; rfl

end Go.GD
