/- A part. Conditions: none. -/
import Derived.Test.YtcoildnkgkbjfaaGreatDoorNest
namespace Go.GD
open Go Go.RowKit
set_option autoImplicit false
variable {qd:Prop}
set_option linter.unusedVariables false
def pvA (P:Program)(S:List (Nat×Value))(t:TypeId)(parts:List (Nat×Operand)): Option Value:=match P.underlying t with
 | some (.array _ el)=>match P.info? el,zI6 P t,zN7 S parts with
  | some i,some z,some vs=>(Instr.fill (fun j=>some (j*i.size,i.size)) z.cells vs).map .agg
  | _,_,_=>none
 | _=>none
section
variable {P:Program}{n:Nat}{X:Hd qd}{ρ:Type}{Q:PQ ρ}{S:Sl}{Ls:List zH}{F:List PP}{m:Option ρ}{os:Array Oper}{ol:List Oper}{x y:Operand}{p p':yY}{a:Act}
variable {d t:Nat}{ty:TypeId}{pos:String}{af:Array Edge}{g:Option (Nat×Bool)}{kd:IntKind}{B Jj:List Nat}{li:Array Bool}{fuel:Nat}
theorem zUv{parts:Array (Nat×Operand)}{v:Value}{d:Option Tmp}(hS:qO a n S)(h:pvA P S t parts.toList=some v)(w:World):
  (execOp a.eval ⟨d,.build t parts,ty,pos,af,g⟩).run P w=.ok (.value v) w:=by
 unfold pvA at h
 split at h
 ·rename_i k el hu
  split at h
  ·rename_i i z vs hi hz hvs
   simp only[Ul] at h
   obtain⟨cells,hfill,rfl⟩:=h
   have h2:=hS.parts hvs
   have h3:=zJs hz w
   have hsr:(sizeOf el).run P w=.ok i.size w:=by simp[sizeOf,typeInfo,hi]
   simp only[execOp,Instr.build,Sem.run_bind,h3,Result.andThen_ok,run_underlying hu,hsr]
   simp_all
  ·cases h
 ·cases h
theorem zNi{b o o' k sz:Nat}{i:Int}{d:Option Tmp}(hS:qO a n S)(hx:zP S x=some (pt b o))(hy:zP S y=some (.int kd i))(ht:zSE P t=some (k,sz))(h0:0≤i∧i<(k:Int))(ho:o+i.toNat*sz=o')(w:World):
  (execOp a.eval ⟨d,.indexAddr t x y,ty,pos,af,g⟩).run P w=.ok (.value (pt b o')) w:=by
 subst ho
 simp[execOp,hS.eval hx,hS.eval hy,zQM ht h0.1 (show i.toNat<k by omega)]
section
variable {τ:Type}{l:List τ}{ix:Int}{u:τ}{b o:Nat}{c:List Value}{te:TypeId}{fr:Nat×Nat}
theorem idx_bd (h:zD l ix=some u): 0≤ix∧ix<(l.length:Int):=by grind [zD]
theorem jiB{f:τ->Option ρ}(hx:zP S x=some (pt b o))(hy:zP S y=some (.int kd ix))
  (h:∀ u,zD l ix=some u->J P n X Q (.ops os ol) ((d,pt b (o+ix.toNat*1))::S) Ls F (f u))
  (ht:zSE P t=some (l.length,1):=by kernel_rfl) (hd:Nat.blt d n=true:=by kernel_rfl) (hg:qC os S g=some true:=by kernel_rfl) :
  J P n X Q (.ops os (⟨some d,.indexAddr t x y,ty,pos,af,g⟩::ol)) S Ls F ((zD l ix).bind f) :=
 ⟨fun hq r hm a w hs=>by
  obtain⟨u,h1,h2⟩:=bnd hm
  exact sl (z2h hs (v:=pt b (o+ix.toNat*1)) (fun w'=>zNi hs.s hx hy ht (idx_bd h1) rfl w') (fun a h'=>(h u h1).go hq r h2 a w h') hd hg)⟩
theorem z71 (w:τ->Value)(hc:(c.drop o).take l.length=l.map w)(hm:zD l ix=some u): ∃ hlt:o+ix.toNat*1<c.length,c[o+ix.toNat*1]=w u:=by
 obtain⟨h1,h2,h3⟩:=zMM hm
 have h4:((c.drop o).take l.length)[ix.toNat]?=some (w u):=by rw[hc,U1,h2];rfl
 grind
theorem z7O (w:τ->Value)(hc:(c.drop o).take l.length=l.map w)(hm:zD l ix=some u)(ht:uB P t=some (false,1)): zI2 P t c.toArray (o+ix.toNat*1)=some (w u):=by
 obtain⟨hlt,he⟩:=z71 w hc hm
 unfold zI2
 rw[ht]
 have:Nat.ble (o+ix.toNat*1+1) c.toArray.size=true:=by rw[U6,Ua];exact hlt
 simp only[this,Qe,zXW]
 rw[Qu hlt,he]
 rfl
theorem jlI (i:Nat)(w:τ->Value)(hx:zP S x=some (pt b (o+ix.toNat*1)))(hr:Ls[i]?=some [(b,.cells c.toArray te fr)])(hc:(c.drop o).take l.length=l.map w)(hm:zD l ix=some u)
  (h:J P n X Q (.ops os ol) ((d,w u)::S) Ls F m) (ht:uB P t=some (false,1):=by kernel_rfl) (hd:Nat.blt d n=true:=by kernel_rfl) (hg:qC os S g=some true:=by kernel_rfl):J P n X Q (.ops os (⟨some d,.load t x,ty,pos,af,g⟩::ol)) S Ls F m :=
 ⟨fun hq r hm' a w' hs=>sl (zJf i (w u) hs hx hr (fun a h'=>h.go hq r hm' a w' h') (z7O w hc hm ht) hd hg)⟩
end
end
end Go.GD
