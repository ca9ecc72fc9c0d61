/- A part. Conditions: none. -/
import Derived.Test.YtmpieaddiaihmaaGreatDoorOps5
namespace Go.GD
open Go Go.RowKit
set_option autoImplicit false
set_option linter.unusedVariables false
variable {qd:Prop}
section
variable {Ls:List zJ}{F:List PP}
end
section
variable {P:Program}{a:Act}{n:Nat}{S:List (Nat×Value)}{ty:TypeId}{pos:String}{af:Array Edge}{g:Option (Nat×Bool)}{d:Option Tmp}
end
section
variable {P:Program}{a:Act}{n:Nat}{S:List (Nat×Value)}{ty:TypeId}{pos:String}{af:Array Edge}{g:Option (Nat×Bool)}{d:Option Tmp}
end
section
variable {P:Program}{n:Nat}{X:Hd qd}{ρ:Type}{Q:PQ ρ}{S:Sl}{Ls:List zJ}{F:List PP}{m:Option ρ}{os:Array Oper}{l:List Oper}{x:Operand}
variable {d t u:Nat}{ty:TypeId}{pos:String}{af:Array Edge}{g:Option (Nat×Bool)}{v:Value}{b:Bool}{ms:Array (String×TypeId)}{B Jj:List Nat}{li:Array Bool}{fuel:Nat}
end
section
variable {P:Program}{n:Nat}{X:Hd qd}{ρ:Type}{Q:PQ ρ}{S:Sl}{Ls:List zJ}{F:List PP}{m:Option ρ}{os:Array Oper}{x y:Operand}{p p':uH}
variable {d t te:Nat}{ty:TypeId}{pos:String}{af:Array Edge}{g:Option (Nat×Bool)}{τ:Type}{e:E τ}{r:zJ}{p0:Option Addr}{c k0:Nat}{z z2:List τ}
end
section
variable {P:Program}{n:Nat}{X:Hd qd}{ρ:Type}{Q:PQ ρ}{S:Sl}{Ls:List zJ}{F:List PP}{m:Option ρ}{os:Array Oper}{ol:List Oper}{x y:Operand}{p p':uH}
variable {d t t2 te:TypeId}{ty:TypeId}{pos:String}{af:Array Edge}{g:Option (Nat×Bool)}{l:zG}{r:zJ}{p0:Option Addr}{c k0:Nat}{kd:IntKind}{ix:Int}
theorem jbyJ{f:UInt8->Option ρ}(k:Nat)(hF:yE F k=Byr te r p0 k0 l)(hx:zL S x=some (.slice p0 k0 c))(hy:zL S y=some (.int kd ix))
  (h:∀ u,zB l ix=some u->∀ b,p0=some ⟨b,0,none⟩->J P n X Q (.ops os ol) ((d,pt b (0+ix.toNat*1))::S) Ls F (f u))
  (ht:wP P t=some 1:=by kernel_rfl) (hd:Nat.blt d n=true:=by kernel_rfl) (hg:zR os S g=some true:=by kernel_rfl) :
  J P n X Q (.ops os (⟨some d,.indexAddr t x y,ty,pos,af,g⟩::ol)) S Ls F ((zB l ix).bind f) :=
 ⟨fun hq r0 hm a w hs=>by
  obtain⟨u,h1,h2⟩:=uS hm
  have hB0:(Byr te r p0 k0 l).h (bl Ls++X.A) w:=hF▸hs.g k
  have hB:ByR te r p0 k0 l:=hB0
  obtain⟨rfl,b,cells,_,rfl,_,_⟩:=hB
  have h1':=h1
  unfold zB at h1
  split at h1
  ·rename_i h0
   have hlt:=(Qf.1 h1).1
   exact sl (z62 hs (v:=pt b (0+ix.toNat*1)) (fun w'=>by simp[execOp,hs.s.eval hx,hs.s.eval hy,zLR (m:=l.length) ht h0 (by omega)]) (fun a h'=>(h u h1' b rfl).go hq r0 h2 a w h') hd hg)
  ·cases h1⟩
theorem jbyl{u:UInt8}{b:Nat}(i k:Nat)(hF:yE F k=Byr te r p0 k0 l)(hr:Ls[i]?=some r)(hp:p0=some ⟨b,0,none⟩)(hu:zB l ix=some u)(hx:zL S x=some (pt b (0+ix.toNat*1)))
  (h:J P n X Q (.ops os ol) ((d,.int .u8 ((u.toNat:Nat):Int))::S) Ls F m)
  (ht:vC P t=some (false,1):=by kernel_rfl) (hd:Nat.blt d n=true:=by kernel_rfl) (hg:zR os S g=some true:=by kernel_rfl):J P n X Q (.ops os (⟨some d,.load t x,ty,pos,af,g⟩::ol)) S Ls F m :=
 ⟨fun hq r0 hm a w hs=>by
  have hB0:(Byr te r p0 k0 l).h (bl Ls++X.A) w:=hF▸hs.g k
  have hB:ByR te r p0 k0 l:=hB0
  obtain⟨rfl,b',cells,rfl,hp',hle,htk⟩:=hB
  rw[hp] at hp'
  cases hp'
  obtain⟨h0,h1,_⟩:=zMk hu
  have hlt:ix.toNat<l.length:=(Qf.1 h1).1
  have hc:cells[ix.toNat]?=some (.int .u8 ((u.toNat:Nat):Int)):=by
   have h2:(cells.toList.take l.length)[ix.toNat]?=some (.int .u8 ((u.toNat:Nat):Int)):=by rw[htk];simp[Lib.strCells,h1]
   rw[Q1,Qp hlt] at h2
   simpa using h2
  refine sl (zLH i (.int .u8 ((u.toNat:Nat):Int)) hs hx hr (fun a h'=>h.go hq r0 hm a w h') ?_ hd hg)
  have hsz:ix.toNat<cells.size:=(Qq.1 hc).1
  unfold xP
  rw[ht]
  simp only[z1K,US,UG]
  rw[Qn (by grind)]
  have:cells.toList[ix.toNat]'(by grind)=.int .u8 ((u.toNat:Nat):Int):=by
   have:=hc
   rw[Array.getElem?_eq_getElem hsz] at this
   simpa using QH this
  simp[xW,this]
  omega⟩
end
end Go.GD
