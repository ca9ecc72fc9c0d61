/- A part. Conditions: none. -/
import Derived.Test.YtgdgcdmdogdmgaaGreatDoorMake
namespace Go.GD
open Go Go.RowKit
set_option autoImplicit false
variable {qd:Prop}
set_option linter.unusedVariables false
def vF{τ:Type}(k:Nat)(e:E τ): E (List τ) :=
 ⟨k*e.n,fun Z w cs l=>l.length=k∧e.rdL Z w cs l,
  by rintro _ _ _ _ ⟨h1,h2⟩;rw[e.rdL_len h2,h1],
  by rintro _ _ _ _ _ _ s ⟨h1,h2⟩;exact⟨h1,e.rdL_step s h2⟩,
  by rintro _ _ _ _ ⟨h1,h2⟩ c hc;exact e.rdL_one h2 c hc⟩
def zNU (P:Program)(t:TypeId): Option (Nat×Nat):=match P.underlying t with
 | some (.array k el)=>(P.info? el).map fun i=>(k,i.size)
 | _=>none
theorem zPd{P:Program}{w:World}{t:TypeId}{b o k n:Nat}{kd:IntKind}{i:Int}(h:zNU P t=some (k,n))(h0:0≤i)(h1:i.toNat<k):
  (Instr.indexAt t (.pointer (some ⟨b,o,none⟩)) (.int kd i)).run P w=.ok (.pointer (some ⟨b,o+i.toNat*n,none⟩)) w:=by
 unfold zNU at h
 split at h
 ·rename_i k' el hu
  cases hq:P.info? el with
  | none=>grind
  | some info =>
   have hh:k'=k∧info.size=n:=by simpa [hq] using h
   obtain⟨rfl,rfl⟩:=hh
   have h2:i<(k':Int):=by omega
   simp[Instr.indexAt,asIntOf,run_underlying hu,Instr.sureAddr,h0,h2,sizeOf,typeInfo,hq,zCj]
 ·cases h
section
variable {P:Program}{n:Nat}{X:Hd qd}{ρ σ:Type}{Q:PQ ρ}{S:Sl}{Ls:List zG}{F:List PP}{m m1 m2:Option ρ}{os:Array Oper}{l:List Oper}{x y:Operand}{p p':yO}
variable {d t:Nat}{ty ty2:TypeId}{pos pos2:String}{af af2:Array Edge}{g g2:Option (Nat×Bool)}{kd:IntKind}{ix:Int}
variable {τ:Type}{e:E τ}{k:Nat}{z:List τ}{b o:Nat}{B Jj:List Nat}{li:Array Bool}{fuel:Nat}
theorem arr_at{Z:List Nat}{w:World}{u:τ}(hP:(Pt (vF k e) b o z).h Z w)(hm:zB z ix=some u): 0≤ix∧ix.toNat<k∧(Pt e b (o+ix.toNat*e.n) u).h Z w:=by
 obtain⟨b',o',cs,he,hb,hlt,⟨hk,hl⟩,hc⟩:=hP
 cases he
 unfold zB at hm
 split at hm
 ·rename_i h0
  obtain⟨hlt',hv⟩:=Qg.1 hm
  obtain⟨ci,h1,h2⟩:=e.rdL_get hl hm
  exact⟨h0,by omega,b,_,ci,rfl,hb,hlt,h1,fun j u hu=>by grind⟩
 ·cases hm
theorem jgx{f:τ->Option ρ}(hP:wO Ls F (Pt (vF k e) b o z))(hx:zK S x=some (pt b o))(hy:zK S y=some (.int kd ix))
  (h:∀ u,J P n X Q (.ops os l) ((d,pt b (o+ix.toNat*e.n))::S) Ls (Pt e b (o+ix.toNat*e.n) u::F) (f u))
  (ht:zNU P t=some (k,e.n):=by kernel_rfl) (hd:Nat.blt d n=true:=by kernel_rfl) (hg:zQ os S g=some true:=by kernel_rfl) :
  J P n X Q (.ops os (⟨some d,.indexAddr t x y,ty,pos,af,g⟩::l)) S Ls F ((zB z ix).bind f) :=
 ⟨fun hq r hm a w hs=>by
  obtain⟨u,h1,h2⟩:=xQ hm
  obtain⟨h3,h4,h5⟩:=arr_at (hP _ _ hs.o hs.f) h1
  exact sl (z8O hs (v:=pt b (o+ix.toNat*e.n)) (fun w'=>by simp[execOp,hs.s.eval hx,hs.s.eval hy,zPd ht h3 h4]) (fun a h'=>(h u).go hq r h2 a w (h'.add h5)) hd hg)⟩
theorem jdgx{f:τ->Option ρ}(i:Nat)(hi:os[i]?=some ⟨some d,.indexAddr t x y,ty,pos,af,g⟩)(hP:wO Ls F (Pt (vF k e) b o z))(hx:zK S x=some (pt b o))(hy:zK S y=some (.int kd ix))
  (h:∀ u,J P n X Q (.dr os B Jj fuel (li.setIfInBounds i true)) ((d,pt b (o+ix.toNat*e.n))::S) Ls (Pt e b (o+ix.toNat*e.n) u::F) (f u))
  (ht:zNU P t=some (k,e.n):=by kernel_rfl) (hk:vE os B li i=true:=by kernel_rfl) (hd:Nat.blt d n=true:=by kernel_rfl) (hg:zQ os S g=some true:=by kernel_rfl) :
  J P n X Q (.dr os B Jj (fuel+1) li) S Ls F ((zB z ix).bind f) :=
 ⟨fun hq r hm a w hs=>by
  obtain⟨u,h1,h2⟩:=xQ hm
  obtain⟨h3,h4,h5⟩:=arr_at (hP _ _ hs.o hs.f) h1
  exact dv (v:=pt b (o+ix.toNat*e.n)) i hs hi (fun w'=>by simp[execOp,hs.s.eval hx,hs.s.eval hy,zPd ht h3 h4]) (fun a' hs'=>(h u).go hq r h2 a' w (hs'.add h5)) (fun c v a w hp=>(hq r c _ _ hp).elim) hk hd hg⟩
end
end Go.GD
