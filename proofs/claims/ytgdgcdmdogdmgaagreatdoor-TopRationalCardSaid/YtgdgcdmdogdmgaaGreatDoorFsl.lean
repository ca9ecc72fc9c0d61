/- A part. Conditions: none. -/
import Derived.Test.YtgdgcdmdogdmgaaGreatDoorArrv
import Derived.ChangeKeysEq
namespace Go.GD
open Go Go.RowKit
set_option autoImplicit false
variable {qd:Prop}
set_option linter.unusedVariables false
section
variable {P:Program}{n:Nat}{X:Hd qd}{ρ:Type}{Q:PQ ρ}{S:Sl}{Ls:List zG}{F:List PP}{m m1 m2:Option ρ}{os:Array Oper}{ol:List Oper}{x y:Operand}{p p':yO}{a:Act}
variable {d t:Nat}{ty:TypeId}{pos:String}{af:Array Edge}{g:Option (Nat×Bool)}{kd:IntKind}{k0:Nat}
theorem jbF{parts:List (Nat×Operand)}(at0:At Ls p os ⟨some d,.buildSlice t k0 parts.toArray,ty,pos,af,g⟩ p')(te:TypeId)(cs:List Value)
  (h:∀ b,zM5 Ls (bx b te cs) fun Ls'=>J P n X Q p' ((d,.slice (some ⟨b,0,none⟩) k0 k0)::S) Ls' F m) (ht:yW P t te 1=true:=by kernel_rfl) (hc:zKl P S t k0 parts=some cs:=by kernel_rfl)
  (hd:Nat.blt d n=true:=by kernel_rfl) (hg:zQ os S g=some true:=by kernel_rfl):J P n X Q p S Ls F m :=
 ⟨fun hq r hm a w hs=>at0.run fun K hK=>by
  have hE:=zT.alloc (qd:=qd) (w:=w) (w':=w.alloc (.cells cs.toArray te)) Ls (.cells cs.toArray te) rfl rfl rfl rfl
  refine uX hs.s hd hg (zNY hs.s ht (by grind)) fun a hS=>hK hE ?_
  have h:=h w.heap.size
  rw[zJS] at h
  exact h.go hq r hm a _ (hs.next (hs.o.alloc _ rfl) hE hS [] trivial)⟩
theorem zTW{b m c:Nat}{i:Int}{d:Option Tmp}(hS:zY a n S)(hx:zK S x=some (.slice (some ⟨b,0,none⟩) m c))(hy:zK S y=some (.int kd i))(h0:0≤i∧i<(m:Int))(ht:wY P t=some 1){o:Nat}(ho:0+i.toNat*1=o)(w:World):
  (execOp a.eval ⟨d,.indexAddr t x y,ty,pos,af,g⟩).run P w=.ok (.value (pt b o)) w:=by
 subst ho
 simp[execOp,hS.eval hx,hS.eval hy,zKj ht h0.1 h0.2]
theorem z9F{ix c:Int}(h1:ix=c->J P n X Q p S Ls F m1)(h2:J P n X Q p S Ls F m2): J P n X Q p S Ls F (if(ix==c)=true then m1 else m2) :=
 by grind
end
end Go.GD
namespace Go.GD
open Go Go.RowKit
set_option autoImplicit false
section
variable {P:Program}{n:Nat}{S:Sl}{x y:Operand}{a:Act}{t te:Nat}{ty u:TypeId}{pos:String}{af:Array Edge}{g:Option (Nat×Bool)}{kd:IntKind}{i1 i2 j1 j2:Int}{d:Option Tmp}
theorem z7L{cs:Array Value}{o:Nat}{v:Value}(hsh:wX P te=some (false,1))(h:cs[o]?=some v)(w:World): (part te cs o).run P w=.ok v w :=
 by grind [zPs,z6p]
end
end Go.GD
