/- A part. Conditions: none. -/
import Derived.Test.YtcoildnkgkbjfaaGreatDoorOps5
namespace Go.GD
open Go Go.RowKit
set_option autoImplicit false
set_option linter.unusedVariables false
variable {qd:Prop}
section
variable {Ls:List zH}{F:List PP}
end
section
variable {P:Program}{a:Act}{n:Nat}{S:List (Nat×Value)}{ty:TypeId}{pos:String}{af:Array Edge}{g:Option (Nat×Bool)}{d:Option Tmp}
end
def ErB (v:Value)(b:Bool): Prop:=(v=.nilIface∧b=false)∨(∃ t u,v=.iface t u)∧b=true
def Erv (v:Value)(b:Bool): PP:=Pu (ErB v b)
section
variable {P:Program}{a:Act}{n:Nat}{S:List (Nat×Value)}{ty:TypeId}{pos:String}{af:Array Edge}{g:Option (Nat×Bool)}{d:Option Tmp}
theorem z2J (k:Nat){t:TypeId}{v:Value}{b:Bool}{ms:Array (String×TypeId)}(hv:ErB v b)(hu:P.underlying t=some (.interface ms))(w:World): (Op.equalIn (k+1) t v .nilIface).run P w=.ok (!b) w:=by
 rcases hv with⟨rfl,rfl⟩ | ⟨⟨t',u',rfl⟩,rfl⟩
 ·simp[Op.equalIn,run_underlying hu]
 ·simp[Op.equalIn,run_underlying hu]
theorem r_erN{x:Operand}{t u:TypeId}{v:Value}{b:Bool}{ms:Array (String×TypeId)}(hS:qO a n S)(hx:zP S x=some v)(hv:ErB v b)(hu:P.underlying t=some (.interface ms))(w:World):
  (execOp a.eval ⟨d,.binOp .neq t x (.const .nilIface) u,ty,pos,af,g⟩).run P w=.ok (.value (vb b)) w:=by
 have hy:zP S (.const .nilIface)=some .nilIface:=rfl
 have h1:(eqGuard .neq t x (.const .nilIface) v .nilIface).run P w=.ok () w:=by
  unfold eqGuard
  rcases hv with⟨rfl,rfl⟩ | ⟨⟨t',u',rfl⟩,rfl⟩ <;> simp
 have h2:(binOp .neq t v .nilIface).run P w=.ok (vb b) w:=by
  have h3:(Op.equal t v .nilIface).run P w=.ok (!b) w:=z2J 9999 hv hu w
  simp[binOp,h3]
 simp[execOp,hS.eval hx,hS.eval hy,h1,h2]
end
section
variable {P:Program}{n:Nat}{X:Hd qd}{ρ:Type}{Q:PQ ρ}{S:Sl}{Ls:List zH}{F:List PP}{m:Option ρ}{os:Array Oper}{l:List Oper}{x:Operand}
variable {d t u:Nat}{ty:TypeId}{pos:String}{af:Array Edge}{g:Option (Nat×Bool)}{v:Value}{b:Bool}{ms:Array (String×TypeId)}{B Jj:List Nat}{li:Array Bool}{fuel:Nat}
theorem jen (k:Nat)(hF:uL F k=Erv v b)(hx:zP S x=some v)(hu:P.underlying t=some (.interface ms))(h:J P n X Q (.ops os l) ((d,vb b)::S) Ls F m)
  (hd:Nat.blt d n=true:=by kernel_rfl) (hg:qC os S g=some true:=by kernel_rfl):J P n X Q (.ops os (⟨some d,.binOp .neq t x (.const .nilIface) u,ty,pos,af,g⟩::l)) S Ls F m :=
 ⟨fun hq r hm a w hs=>sl (z2h hs (r_erN hs.s hx (hF▸hs.g k:(Erv v b).h (bl Ls++X.A) w) hu) (fun a h'=>h.go hq r hm a w h') hd hg)⟩
end
section
variable {P:Program}{n:Nat}{X:Hd qd}{ρ:Type}{Q:PQ ρ}{S:Sl}{Ls:List zH}{F:List PP}{m:Option ρ}{os:Array Oper}{x y:Operand}{p p':yY}
variable {d t te:Nat}{ty:TypeId}{pos:String}{af:Array Edge}{g:Option (Nat×Bool)}{τ:Type}{e:E τ}{r:zH}{p0:Option Addr}{c k0:Nat}{z z2:List τ}
end
section
variable {P:Program}{n:Nat}{X:Hd qd}{ρ:Type}{Q:PQ ρ}{S:Sl}{Ls:List zH}{F:List PP}{m:Option ρ}{os:Array Oper}{ol:List Oper}{x y:Operand}{p p':yY}
variable {d t t2 te:TypeId}{ty:TypeId}{pos:String}{af:Array Edge}{g:Option (Nat×Bool)}{l:zA}{r:zH}{p0:Option Addr}{c k0:Nat}{kd:IntKind}{ix:Int}
theorem jbyJ{f:UInt8->Option ρ}(k:Nat)(hF:uL F k=Byr te r p0 k0 l)(hx:zP S x=some (.slice p0 k0 c))(hy:zP S y=some (.int kd ix))
  (h:∀ u,zD l ix=some u->∀ b,p0=some ⟨b,0,none⟩->J P n X Q (.ops os ol) ((d,pt b (0+ix.toNat*1))::S) Ls F (f u))
  (ht:uI P t=some 1:=by kernel_rfl) (hd:Nat.blt d n=true:=by kernel_rfl) (hg:qC os S g=some true:=by kernel_rfl) :
  J P n X Q (.ops os (⟨some d,.indexAddr t x y,ty,pos,af,g⟩::ol)) S Ls F ((zD l ix).bind f) :=
 ⟨fun hq r0 hm a w hs=>by
  obtain⟨u,h1,h2⟩:=bnd hm
  have hB0:(Byr te r p0 k0 l).h (bl Ls++X.A) w:=hF▸hs.g k
  have hB:ByR te r p0 k0 l:=hB0
  obtain⟨rfl,b,cells,_,rfl,_,_⟩:=hB
  have h1':=h1
  unfold zD at h1
  split at h1
  ·rename_i h0
   have hlt:=(Qj.1 h1).1
   exact sl (z2h hs (v:=pt b (0+ix.toNat*1)) (fun w'=>by simp[execOp,hs.s.eval hx,hs.s.eval hy,zK0 (m:=l.length) ht h0 (by omega)]) (fun a h'=>(h u h1' b rfl).go hq r0 h2 a w h') hd hg)
  ·cases h1⟩
theorem jbyl{u:UInt8}{b:Nat}(i k:Nat)(hF:uL F k=Byr te r p0 k0 l)(hr:Ls[i]?=some r)(hp:p0=some ⟨b,0,none⟩)(hu:zD l ix=some u)(hx:zP S x=some (pt b (0+ix.toNat*1)))
  (h:J P n X Q (.ops os ol) ((d,.int .u8 ((u.toNat:Nat):Int))::S) Ls F m)
  (ht:uB P t=some (false,1):=by kernel_rfl) (hd:Nat.blt d n=true:=by kernel_rfl) (hg:qC os S g=some true:=by kernel_rfl):J P n X Q (.ops os (⟨some d,.load t x,ty,pos,af,g⟩::ol)) S Ls F m :=
 ⟨fun hq r0 hm a w hs=>by
  have hB0:(Byr te r p0 k0 l).h (bl Ls++X.A) w:=hF▸hs.g k
  have hB:ByR te r p0 k0 l:=hB0
  obtain⟨rfl,b',cells,rfl,hp',hle,htk⟩:=hB
  rw[hp] at hp'
  cases hp'
  obtain⟨h0,h1,_⟩:=zMM hu
  have hlt:ix.toNat<l.length:=(Qj.1 h1).1
  have hc:cells[ix.toNat]?=some (.int .u8 ((u.toNat:Nat):Int)):=by
   have h2:(cells.toList.take l.length)[ix.toNat]?=some (.int .u8 ((u.toNat:Nat):Int)):=by rw[htk];simp[Lib.strCells,h1]
   rw[UI,Qm hlt] at h2
   simpa using h2
  refine sl (zJf i (.int .u8 ((u.toNat:Nat):Int)) hs hx hr (fun a h'=>h.go hq r0 hm a w h') ?_ hd hg)
  have hsz:ix.toNat<cells.size:=(QD.1 hc).1
  unfold zI2
  rw[ht]
  simp only[zXW,Ud,Nat.mul_one]
  rw[Qu (by grind)]
  have:cells.toList[ix.toNat]'(by grind)=.int .u8 ((u.toNat:Nat):Int):=by
   have:=hc
   rw[Array.getElem?_eq_getElem hsz] at this
   simpa using QE this
  simp[tX,this]
  omega⟩
end
end Go.GD
