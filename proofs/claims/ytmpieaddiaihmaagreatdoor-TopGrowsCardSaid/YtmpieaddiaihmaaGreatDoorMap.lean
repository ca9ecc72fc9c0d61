/- A part. Conditions: none. -/
import Derived.Test.YtmpieaddiaihmaaGreatDoorOps3
namespace Go.GD
open Go Go.RowKit
set_option autoImplicit false
variable {qd:Prop}
structure KeyOk (P:Program)(t kt vt:TypeId){κ:Type}[BEq κ](kv:κ->Value): Prop where
 hu:P.underlying t=some (.map kt vt)
 ck:∀ b x w,(Instr.checkKey b 10000 kt (kv x)).run P w=.ok () w
 eq:∀ x y w,(Op.equal kt (kv x) (kv y)).run P w=.ok (x==y) w
 now:∃ d,P.underlying kt=some d∧∀ x y,Instr.sameNow d (kv x) (kv y)=none∨Instr.sameNow d (kv x) (kv y)=some (x==y)
 sb:∀ x,Instr.sameBits 10000 (kv x) (kv x)=true
section
variable {P:Program}{w:World}{t kt vt:TypeId}{κ ν:Type}[BEq κ]{kv:κ->Value}{vv:ν->Value}
end
section
variable {P:Program}{ops:Array Oper}{Q:Exit->Act->World->Prop}{K:Act->World->Prop}
variable {A:List Nat}{L0 Ls:List zJ}{w0 w:World}{n:Nat}{S:List (Nat×Value)}{F:List PP}{a:Act}
variable {d:Nat}{ty:TypeId}{pos:String}{af:Array Edge}{g:Option (Nat×Bool)}
variable {t kt vt:TypeId}{κ ν:Type}[BEq κ]{kv:κ->Value}{vv:ν->Value}{x y z:Operand}{r:zJ}{b:Nat}{l:List (κ×ν)}{k:κ}{v:ν}
end
end Go.GD
