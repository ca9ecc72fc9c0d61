/- A part. Conditions: none. -/
import Derived.Test.YtgdgcdmdogdmgaaGreatDoorNest
namespace Go.GD
open Go Go.RowKit
set_option autoImplicit false
variable {qd:Prop}
set_option linter.unusedVariables false
section
variable {P:Program}{n:Nat}{X:Hd qd}{ρ:Type}{Q:PQ ρ}{S:Sl}{Ls:List zG}{F:List PP}{m:Option ρ}{os:Array Oper}{ol:List Oper}{x y:Operand}{p p':yO}{a:Act}
variable {d t:Nat}{ty:TypeId}{pos:String}{af:Array Edge}{g:Option (Nat×Bool)}{kd:IntKind}{B Jj:List Nat}{li:Array Bool}{fuel:Nat}
theorem z6y{b o o' k sz:Nat}{i:Int}{d:Option Tmp}(hS:zY a n S)(hx:zK S x=some (pt b o))(hy:zK S y=some (.int kd i))(ht:zNU P t=some (k,sz))(h0:0≤i∧i<(k:Int))(ho:o+i.toNat*sz=o')(w:World):
  (execOp a.eval ⟨d,.indexAddr t x y,ty,pos,af,g⟩).run P w=.ok (.value (pt b o')) w:=by
 subst ho
 simp[execOp,hS.eval hx,hS.eval hy,zPd ht h0.1 (show i.toNat<k by omega)]
section
variable {τ:Type}{l:List τ}{ix:Int}{u:τ}{b o:Nat}{c:List Value}{te:TypeId}{fr:Nat×Nat}
end
end
end Go.GD
