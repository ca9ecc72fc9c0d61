/- A part. Conditions: none. -/
import Derived.Test.YtcoildnkgkbjfaaGreatDoorLib
namespace Go.GD
set_option autoImplicit false
inductive zC
 | mk (op:Int) (name:zA) (args:List zC)
def fv:zC->Int×zA×List zC
 | .mk a b c=>(a,b,c)
def fm (x:Int×zA×List zC): zC:=.mk x.1 x.2.1 x.2.2
end Go.GD
