/- A part. Conditions: none. -/
import Derived.Test.YtcoildnkgkbjfaaGreatDoorSb2
namespace Go.GD
open Go Go.RowKit
set_option autoImplicit false
set_option linter.unusedVariables false
variable {qd:Prop}
section
variable {P:Program}{a:Act}{n:Nat}{S:List (Nat×Value)}{ty:TypeId}{pos:String}{af:Array Edge}{g:Option (Nat×Bool)}
end
theorem jbq{P:Program}{n:Nat}{X:Hd qd}{ρ:Type}{Q:PQ ρ}{S:Sl}{Ls:List zH}{F:List PP}{m:Option ρ}{p:yY}(T te b:Nat)
  (h:J P n X Q p S Ls (tM T te (bx b T [.pointer none,.slice none 0 0]) b []::F) m):J P n X Q p S Ls F m :=
 ⟨fun hq r hm a w hs=>h.go hq r hm a w (hs.add (f:=tM T te _ b []) ⟨.pointer none,none,0,[],.inl rfl,rfl,.inl ⟨rfl,rfl,rfl,rfl⟩⟩)⟩
theorem zNb{τ:Type}{e:E τ}(f:τ->Value)(hf:∀ Z w c x,e.rd Z w c x->c=[f x]){Z:List Nat}{w:World}: ∀ {cs:List Value} {l:List τ},e.rdL Z w cs l->cs=l.map f
 | _,[],h=>h
 | _,x::l,⟨c1,c2,h0,h1,h2⟩=>by rw[h0,hf _ _ _ _ h1,zNb f hf h2];rfl
section
variable {P:Program}{n:Nat}{X:Hd qd}{ρ:Type}{Q:PQ ρ}{S:Sl}{Ls:List zH}{F:List PP}{m:Option ρ}{os:Array Oper}{l:List Oper}{x:Operand}
variable {d t:Nat}{ty:TypeId}{pos:String}{af:Array Edge}{g:Option (Nat×Bool)}{τ:Type}{e:E τ}{k:Nat}{z:List τ}{b o:Nat}{B Jj:List Nat}{li:Array Bool}{fuel:Nat}
end
end Go.GD
