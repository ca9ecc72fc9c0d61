/- A part. Conditions: none. -/
import Derived.Test.YtgdgcdmdogdmgaaGreatDoorOps5
namespace Go.GD
open Go Go.RowKit
set_option autoImplicit false
set_option linter.unusedVariables false
variable {qd:Prop}
section
variable {Ls:List zG}{F:List PP}
end
section
variable {P:Program}{a:Act}{n:Nat}{S:List (Nat×Value)}{ty:TypeId}{pos:String}{af:Array Edge}{g:Option (Nat×Bool)}{d:Option Tmp}
end
section
variable {P:Program}{a:Act}{n:Nat}{S:List (Nat×Value)}{ty:TypeId}{pos:String}{af:Array Edge}{g:Option (Nat×Bool)}{d:Option Tmp}
end
section
variable {P:Program}{n:Nat}{X:Hd qd}{ρ:Type}{Q:PQ ρ}{S:Sl}{Ls:List zG}{F:List PP}{m:Option ρ}{os:Array Oper}{l:List Oper}{x:Operand}
variable {d t u:Nat}{ty:TypeId}{pos:String}{af:Array Edge}{g:Option (Nat×Bool)}{v:Value}{b:Bool}{ms:Array (String×TypeId)}{B Jj:List Nat}{li:Array Bool}{fuel:Nat}
end
section
variable {P:Program}{n:Nat}{X:Hd qd}{ρ:Type}{Q:PQ ρ}{S:Sl}{Ls:List zG}{F:List PP}{m:Option ρ}{os:Array Oper}{x y:Operand}{p p':yO}
variable {d t te:Nat}{ty:TypeId}{pos:String}{af:Array Edge}{g:Option (Nat×Bool)}{τ:Type}{e:E τ}{r:zG}{p0:Option Addr}{c k0:Nat}{z z2:List τ}
end
section
variable {P:Program}{n:Nat}{X:Hd qd}{ρ:Type}{Q:PQ ρ}{S:Sl}{Ls:List zG}{F:List PP}{m:Option ρ}{os:Array Oper}{ol:List Oper}{x y:Operand}{p p':yO}
variable {d t t2 te:TypeId}{ty:TypeId}{pos:String}{af:Array Edge}{g:Option (Nat×Bool)}{l:zD}{r:zG}{p0:Option Addr}{c k0:Nat}{kd:IntKind}{ix:Int}
theorem jbyJ{f:UInt8->Option ρ}(k:Nat)(hF:vW F k=Byr te r p0 k0 l)(hx:zK S x=some (.slice p0 k0 c))(hy:zK S y=some (.int kd ix))
  (h:∀ u,zB l ix=some u->∀ b,p0=some ⟨b,0,none⟩->J P n X Q (.ops os ol) ((d,pt b (0+ix.toNat*1))::S) Ls F (f u))
  (ht:wY P t=some 1:=by kernel_rfl) (hd:Nat.blt d n=true:=by kernel_rfl) (hg:zQ os S g=some true:=by kernel_rfl) :
  J P n X Q (.ops os (⟨some d,.indexAddr t x y,ty,pos,af,g⟩::ol)) S Ls F ((zB l ix).bind f) :=
 ⟨fun hq r0 hm a w hs=>by
  obtain⟨u,h1,h2⟩:=xQ hm
  have hB0:(Byr te r p0 k0 l).h (bl Ls++X.A) w:=hF▸hs.g k
  have hB:ByR te r p0 k0 l:=hB0
  obtain⟨rfl,b,cells,_,rfl,_,_⟩:=hB
  have h1':=h1
  unfold zB at h1
  split at h1
  ·rename_i h0
   have hlt:=(Qg.1 h1).1
   exact sl (z8O hs (v:=pt b (0+ix.toNat*1)) (fun w'=>by simp[execOp,hs.s.eval hx,hs.s.eval hy,zKj (m:=l.length) ht h0 (by omega)]) (fun a h'=>(h u h1' b rfl).go hq r0 h2 a w h') hd hg)
  ·cases h1⟩
theorem jbyl{u:UInt8}{b:Nat}(i k:Nat)(hF:vW F k=Byr te r p0 k0 l)(hr:Ls[i]?=some r)(hp:p0=some ⟨b,0,none⟩)(hu:zB l ix=some u)(hx:zK S x=some (pt b (0+ix.toNat*1)))
  (h:J P n X Q (.ops os ol) ((d,.int .u8 ((u.toNat:Nat):Int))::S) Ls F m)
  (ht:wX P t=some (false,1):=by kernel_rfl) (hd:Nat.blt d n=true:=by kernel_rfl) (hg:zQ os S g=some true:=by kernel_rfl):J P n X Q (.ops os (⟨some d,.load t x,ty,pos,af,g⟩::ol)) S Ls F m :=
 ⟨fun hq r0 hm a w hs=>by
  have hB0:(Byr te r p0 k0 l).h (bl Ls++X.A) w:=hF▸hs.g k
  have hB:ByR te r p0 k0 l:=hB0
  obtain⟨rfl,b',cells,rfl,hp',hle,htk⟩:=hB
  rw[hp] at hp'
  cases hp'
  obtain⟨h0,h1,_⟩:=zQu hu
  have hlt:ix.toNat<l.length:=(Qg.1 h1).1
  have hc:cells[ix.toNat]?=some (.int .u8 ((u.toNat:Nat):Int)):=by
   have h2:(cells.toList.take l.length)[ix.toNat]?=some (.int .u8 ((u.toNat:Nat):Int)):=by rw[htk];simp[Lib.strCells,h1]
   rw[Ub,Qu hlt] at h2
   simpa using h2
  refine sl (zMJ i (.int .u8 ((u.toNat:Nat):Int)) hs hx hr (fun a h'=>h.go hq r0 hm a w h') ?_ hd hg)
  have hsz:ix.toNat<cells.size:=(Qt.1 hc).1
  unfold zMl
  rw[ht]
  simp only[z54,UF,UN]
  rw[Qx (by grind)]
  have:cells.toList[ix.toNat]'(by grind)=.int .u8 ((u.toNat:Nat):Int):=by
   have:=hc
   rw[Array.getElem?_eq_getElem hsz] at this
   simpa using QC this
  simp[tZ,this]
  omega⟩
end
end Go.GD
