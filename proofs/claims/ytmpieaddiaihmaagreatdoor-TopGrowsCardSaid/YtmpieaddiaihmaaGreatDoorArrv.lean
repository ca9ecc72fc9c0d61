/- A part. Conditions: none. -/
import Derived.Test.YtmpieaddiaihmaaGreatDoorNest
namespace Go.GD
open Go Go.RowKit
set_option autoImplicit false
variable {qd:Prop}
set_option linter.unusedVariables false
def z83{α:Type}: List α->Int->Int->α->List α
 | [],_,_,_=>[]
 | a::l,k,i,v=>(if(i==k)=true then v else a)::z83 l (k+1) i v
theorem z48{α:Type}(v:α): ∀(l:List α) (k i:Int),k≤i->z83 l k i v=l.set (i-k).toNat v
 | [],_,_,_=>rfl
 | a::l,k,i,h=>by
  unfold z83
  by_cases e:i=k
  ·subst e
   have h0:∀(l:List α) (k:Int),i<k->z83 l k i v=l:=by
    intro l
    induction l with
    | nil=>intro k _;rfl
    | cons b l ih =>
     grind [z83]
   grind
  ·have h1:(i==k)=false:=by simpa using e
   rw[h1,z48 v l (k+1) i (by omega)]
   have:(i-k).toNat=(i-(k+1)).toNat+1:=by omega
   grind
section
variable {P:Program}{n:Nat}{X:Hd qd}{ρ:Type}{Q:PQ ρ}{S:Sl}{Ls:List zJ}{F:List PP}{m:Option ρ}{os:Array Oper}{ol:List Oper}{x y:Operand}{p p':uH}{a:Act}
variable {d t:Nat}{ty:TypeId}{pos:String}{af:Array Edge}{g:Option (Nat×Bool)}{kd:IntKind}{B Jj:List Nat}{li:Array Bool}{fuel:Nat}
theorem zS4{b o o' k sz:Nat}{i:Int}{d:Option Tmp}(hS:qF a n S)(hx:zL S x=some (pt b o))(hy:zL S y=some (.int kd i))(ht:zNU P t=some (k,sz))(h0:0≤i∧i<(k:Int))(ho:o+i.toNat*sz=o')(w:World):
  (execOp a.eval ⟨d,.indexAddr t x y,ty,pos,af,g⟩).run P w=.ok (.value (pt b o')) w:=by
 subst ho
 simp[execOp,hS.eval hx,hS.eval hy,zQ6 ht h0.1 (show i.toNat<k by omega)]
section
variable {τ:Type}{l:List τ}{ix:Int}{u:τ}{b o:Nat}{c:List Value}{te:TypeId}{fr:Nat×Nat}
theorem idx_bd (h:zB l ix=some u): 0≤ix∧ix<(l.length:Int):=by grind [zB]
theorem jiB{f:τ->Option ρ}(hx:zL S x=some (pt b o))(hy:zL S y=some (.int kd ix))
  (h:∀ u,zB l ix=some u->J P n X Q (.ops os ol) ((d,pt b (o+ix.toNat*1))::S) Ls F (f u))
  (ht:zNU P t=some (l.length,1):=by kernel_rfl) (hd:Nat.blt d n=true:=by kernel_rfl) (hg:zR os S g=some true:=by kernel_rfl) :
  J P n X Q (.ops os (⟨some d,.indexAddr t x y,ty,pos,af,g⟩::ol)) S Ls F ((zB l ix).bind f) :=
 ⟨fun hq r hm a w hs=>by
  obtain⟨u,h1,h2⟩:=uS hm
  exact sl (z62 hs (v:=pt b (o+ix.toNat*1)) (fun w'=>zS4 hs.s hx hy ht (idx_bd h1) rfl w') (fun a h'=>(h u h1).go hq r h2 a w h') hd hg)⟩
theorem cell_at (w:τ->Value)(hc:(c.drop o).take l.length=l.map w)(hm:zB l ix=some u): ∃ hlt:o+ix.toNat*1<c.length,c[o+ix.toNat*1]=w u:=by
 obtain⟨h1,h2,h3⟩:=zMk hm
 have h4:((c.drop o).take l.length)[ix.toNat]?=some (w u):=by rw[hc,Uz,h2];rfl
 grind
theorem load_at (w:τ->Value)(hc:(c.drop o).take l.length=l.map w)(hm:zB l ix=some u)(ht:vC P t=some (false,1)): xP P t c.toArray (o+ix.toNat*1)=some (w u):=by
 obtain⟨hlt,he⟩:=cell_at w hc hm
 unfold xP
 rw[ht]
 have:Nat.ble (o+ix.toNat*1+1) c.toArray.size=true:=by rw[UL,QS];exact hlt
 simp only[this,Qe,z1K]
 rw[Qn hlt,he]
 rfl
theorem jlI (i:Nat)(w:τ->Value)(hx:zL S x=some (pt b (o+ix.toNat*1)))(hr:Ls[i]?=some [(b,.cells c.toArray te fr)])(hc:(c.drop o).take l.length=l.map w)(hm:zB l ix=some u)
  (h:J P n X Q (.ops os ol) ((d,w u)::S) Ls F m) (ht:vC P t=some (false,1):=by kernel_rfl) (hd:Nat.blt d n=true:=by kernel_rfl) (hg:zR os S g=some true:=by kernel_rfl):J P n X Q (.ops os (⟨some d,.load t x,ty,pos,af,g⟩::ol)) S Ls F m :=
 ⟨fun hq r hm' a w' hs=>sl (zLH i (w u) hs hx hr (fun a h'=>h.go hq r hm' a w' h') (load_at w hc hm ht) hd hg)⟩
theorem jsI{z:τ}(w:τ->Value)(at0:At Ls p os ⟨none,.store t x y,ty,pos,af,g⟩ p')(i:Nat)(hx:zL S x=some (pt b (o+ix.toNat*1)))(hy:zL S y=some (w z))(hr:Ls[i]?=some (bx b te c))(hc:(c.drop o).take l.length=l.map w)(hm:zB l ix=some u)
  (h:putC o c ((z83 l 0 ix z).map w) fun c'=>uT Ls i (bx b te c') fun Ls'=>J P n X Q p' S Ls' F m) (ht:vC P t=some (false,1):=by kernel_rfl) (hz:(w z).oneCell'=true:=by rfl) (hg:zR os S g=some true:=by kernel_rfl):J P n X Q p S Ls F m :=
 ⟨fun hq r hm' a w' hs=>at0.run fun K hK=>zP8 i hs hx hy hr (fun a w2 h' e=>hK e (by
  have h:=z4G h
  rw[zJL] at h
  obtain⟨h1,h2,h3⟩:=zMk hm
  have hlen:(z83 l 0 ix z).map w=(l.map w).set ix.toNat (w z):=by
   rw[z48 z l 0 ix h1,Int.sub_zero,List.map_set]
  have hl2:(l.map w).length=l.length:=Ud w
  have hcl:o+l.length≤c.length:=by
   have:=congrArg List.length hc
   simp only[Qt,QY,Ud] at this
   omega
  have hnew:c.take o++(z83 l 0 ix z).map w++c.drop (o+((z83 l 0 ix z).map w).length)=c.set (o+ix.toNat*1) (w z):=by
   rw[hlen,UB,hl2]
   have hd1:c=c.take o++(l.map w++c.drop (o+l.length)):=by
    conv=>lhs;rw[←Qu o c,←Qu l.length (c.drop o),hc,UM]
   conv=>rhs;rw[hd1]
   have ho:(c.take o).length=o:=by rw[Qt];omega
   rw[Wn _ _ (by omega),ho,show o+ix.toNat*1-o=ix.toNat by omega,List.set_append_left _ _ (by omega),QE]
  rw[hnew] at h
  have hz1:(w z).cells.toList=[w z]:=by
   cases hv:w z <;> first | rfl | (rw[hv] at hz;cases hz)
  have hlt:o+ix.toNat*1<c.length:=by omega
  have hput:xR c.toArray (o+ix.toNat*1) (w z).cells.toList=(c.set (o+ix.toNat*1) (w z)).toArray:=by
   unfold xR
   rw[hz1,List.set_eq_take_append_cons_drop,Qp hlt]
   simp
  rw[hput] at h' ⊢
  exact h.go hq r hm' a w2 h')) (by
   obtain⟨h1,h2,h3⟩:=zMk hm
   have hcl:o+l.length≤c.length:=by
    have:=congrArg List.length hc
    simp only[Qt,QY,Ud] at this
    omega
   have hz1:(w z).cells.toList=[w z]:=by
    cases hv:w z <;> first | rfl | (rw[hv] at hz;cases hz)
   have hz2:(w z).cells.size=1:=by rw[←UC,hz1];rfl
   unfold zMT
   rw[ht]
   have hble:Nat.ble (o+ix.toNat*1+1) c.toArray.size=true:=by rw[UL,QS];omega
   grind) hg⟩
end
end
end Go.GD
