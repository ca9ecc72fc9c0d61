/- A part. Conditions: none. -/
import Derived.Test.YtgdgcdmdogdmgaaGreatDoorSb2
namespace Go.GD
open Go Go.RowKit
set_option autoImplicit false
set_option linter.unusedVariables false
variable {qd:Prop}
section
variable {P:Program}{a:Act}{n:Nat}{S:List (Nat×Value)}{ty:TypeId}{pos:String}{af:Array Edge}{g:Option (Nat×Bool)}
theorem r_aidx{τ:Type}(f:τ->Value){x y:Operand}{t el:TypeId}{kd:IntKind}{i:Int}{k:Nat}{d:Option Tmp}{l:List τ}{u:τ}{v:Value}(hS:zY a n S)(hx:zK S x=some v)(hy:zK S y=some (.int kd i))(hv:v=.agg (l.map f).toArray)
  (hu:P.underlying t=some (.array k el)) (hl:l.length=k) (hs:wX P el=some (false,1)) (hm:zB l i=some u) (w:World) :
  (execOp a.eval ⟨d,.index t x y,ty,pos,af,g⟩).run P w=.ok (.value (f u)) w:=by
 subst hv
 unfold zB at hm
 split at hm
 ·rename_i h0
  have hlt:i.toNat<l.length:=(Qg.1 hm).1
  have hlt2:i<(k:Int):=by omega
  obtain⟨h1,h2⟩:=zIh (w:=w) hs
  have hc:(l.map f).toArray[i.toNat*1]?=some (f u):=by simp[hm]
  simp only[UN] at hc
  simp[execOp,hS.eval hx,hS.eval hy,Instr.index,asIntOf,run_underlying hu,h0,hlt2,h1,h2,part,hm]
 ·cases hm
end
theorem jbq{P:Program}{n:Nat}{X:Hd qd}{ρ:Type}{Q:PQ ρ}{S:Sl}{Ls:List zG}{F:List PP}{m:Option ρ}{p:yO}(T te b:Nat)
  (h:J P n X Q p S Ls (Bdr T te (bx b T [.pointer none,.slice none 0 0]) b []::F) m):J P n X Q p S Ls F m :=
 ⟨fun hq r hm a w hs=>h.go hq r hm a w (hs.add (f:=Bdr T te _ b []) ⟨.pointer none,none,0,[],.inl rfl,rfl,.inl ⟨rfl,rfl,rfl,rfl⟩⟩)⟩
theorem zN5{τ:Type}{e:E τ}(f:τ->Value)(hf:∀ Z w c x,e.rd Z w c x->c=[f x]){Z:List Nat}{w:World}: ∀ {cs:List Value} {l:List τ},e.rdL Z w cs l->cs=l.map f
 | _,[],h=>h
 | _,x::l,⟨c1,c2,h0,h1,h2⟩=>by rw[h0,hf _ _ _ _ h1,zN5 f hf h2];rfl
section
variable {P:Program}{n:Nat}{X:Hd qd}{ρ:Type}{Q:PQ ρ}{S:Sl}{Ls:List zG}{F:List PP}{m:Option ρ}{os:Array Oper}{l:List Oper}{x:Operand}
variable {d t:Nat}{ty:TypeId}{pos:String}{af:Array Edge}{g:Option (Nat×Bool)}{τ:Type}{e:E τ}{k:Nat}{z:List τ}{b o:Nat}{B Jj:List Nat}{li:Array Bool}{fuel:Nat}
theorem jlT (f:τ->Value)(hf:∀ Z w c x,e.rd Z w c x->c=[f x])(hP:wO Ls F (Pt (vF k e) b o z))(hx:zK S x=some (pt b o))(h:J P n X Q (.ops os l) ((d,.agg (List.map f z).toArray)::S) Ls F m)
  (ht:wX P t=some (true,(vF k e).n):=by kernel_rfl) (hd:Nat.blt d n=true:=by kernel_rfl) (hg:zQ os S g=some true:=by kernel_rfl):J P n X Q (.ops os (⟨some d,.load t x,ty,pos,af,g⟩::l)) S Ls F m :=
 ⟨fun hq r hm a w hs=>sl (z11 true hs (hP _ _ hs.o hs.f) hx (fun ci hc v hv a h'=>by
  obtain rfl:=zN5 f hf hc.2
  obtain rfl:Value.agg (List.map f z).toArray=v:=QC hv
  exact h.go hq r hm a w h') ht (.inl rfl) hd hg)⟩
end
end Go.GD
