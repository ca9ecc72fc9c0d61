/- A part. Conditions: none. -/
import Derived.Test.YtmpieaddiaihmaaGreatDoorJ5
namespace Go.GD
open Go Go.RowKit
set_option autoImplicit false
variable {qd:Prop}
set_option linter.unusedVariables false
section
variable {P:Program}{n:Nat}{X:Hd qd}{ρ σ:Type}{Q:PQ ρ}{S:Sl}{Ls:List zJ}{F:List PP}{m:Option ρ}{os:Array Oper}{x:Operand}{p:uH}{lo:Option Operand}{vlo:Option Value}
variable {d:Nat}{t ty:TypeId}{pos:String}{af:Array Edge}{g:Option (Nat×Bool)}{kd kd2:IntKind}{B Jj:List Nat}{li:Array Bool}{fuel:Nat}
variable {τ:Type}{e:E τ}{te:TypeId}{r:zJ}{p0:Option Addr}{c k0:Nat}{z:List τ}{j:Int}
theorem z3r{A:List Nat}{L0:List zJ}{w0 w:World}{a:Act}{ops:Array Oper}{Q:Exit->Act->World->Prop}{J:List Nat}{listed:Array Bool}{l:List τ}{i:Int}{hi mx:Operand}(q:Nat)(h:SS qd A L0 w0 n S Ls F a w)
  (hi0:ops[q]?=some ⟨some d,.slice t x lo (some hi) (some mx),ty,pos,af,g⟩) (hR:(R e p0 c k0 l).h (bl Ls++A) w) (hx:zL S x=some (.slice p0 k0 c)) (hlo:uX S lo=some vlo) (hhi:zL S hi=some (.int kd j)) (hmx:zL S mx=some (.int kd2 j)) (b1:Bd vlo i 0) (hm:sub l i j=some z)
  (k:∀ p' a,SS qd A L0 w0 n ((d,.slice p' (List.length z) (List.length z))::S) Ls (R e p' (List.length z) (List.length z) z::F) a w->qV P ops Q (SB B (CC qd A Ls w J)) fuel (listed.setIfInBounds q true) a w)
  (ht:wP P t=some e.n) (hQ:∀ c (v:Value) a w,Q (.panic c) (a.put (some d) v) w->Q (.panic c) a w)
  (hk:vF ops B listed q=true) (hd:Nat.blt d n=true) (hg:zR ops S g=some true):qV P ops Q (SB B (CC qd A Ls w J)) (fuel+1) listed a w:=by
 obtain⟨hR,rfl⟩:=hR
 unfold sub at hm
 split at hm
 case isFalse=>cases hm
 rename_i h0
 simp only[Qd] at hm
 obtain⟨h1,h2,h3⟩:=h0
 subst hm
 have hzl:((l.take j.toNat).drop i.toNat).length=j.toNat-i.toNat:=by simp;omega
 have hlc:=hR.1
 unfold wP at ht
 split at ht
 case h_2=>cases ht
 rename_i te hu
 cases hq:P.info? te with
 | none=>grind
 | some info =>
  have hs:info.size=e.n:=by simpa [hq] using ht
  have hb:∀ w:World,(Instr.sliceBounds true l.length c vlo (some (.int kd j)) (some (.int kd2 j))).run P w=.ok (i.toNat,j.toNat,j.toNat) w:=by
   intro w
   have h0j:0≤j:=by omega
   have hmax:max j 0=j:=by omega
   rcases b1 with⟨rfl,rfl⟩ | ⟨k3,rfl⟩
   ·simp[Instr.sliceBounds,Instr.sliceBound,asIntOf,h0j,show j≤(c:Int) by omega,hmax]
   ·simp[Instr.sliceBounds,Instr.sliceBound,asIntOf,h0j,h1,h2,show j≤(c:Int) by omega,hmax]
  refine z4M q h.o h.s hi0 hk hd (fun c=>hQ c _) hg (v:=.slice (if j.toNat=i.toNat then p0 else p0.map (·.add (i.toNat*e.n))) (List.length ((l.take j.toNat).drop i.toNat)) (List.length ((l.take j.toNat).drop i.toNat))) (fun w'=>?_) fun a hS =>
   k _ a ((h.slot hS).add (f:=R e _ _ _ _) ⟨⟨Qs _,?_⟩,rfl⟩)
  ·simp[execOp,h.s.eval hx,h.s.evalO hlo,h.s.eval hhi,h.s.eval hmx,Instr.sliceAt,Instr.slice,run_underlying hu,hb,sizeOf,typeInfo,hq,hs,hzl]
  ·by_cases he:(l.take j.toNat).drop i.toNat=[]
   ·grind
   ·rcases hR.2 with rfl | ⟨b,off,cs,rfl,hb,hlt,hl,hcell⟩
    ·grind
    ·have hne:¬ j.toNat=i.toNat:=fun hci=>he (QK (by grind))
     refine .inr ⟨b,off+i.toNat*e.n,(cs.take (j.toNat*e.n)).drop (i.toNat*e.n),by simp[hne,tV],hb,hlt,e.rdL_drop _ (e.rdL_take _ hl),fun k u hu=>?_⟩
     grind
theorem jdF{f:List τ->Option ρ}{i:Int}{x2 x3:Operand}(q:Nat)(hi0:os[q]?=some ⟨some d,.slice t x lo (some x2) (some x3),ty,pos,af,g⟩)(g0:wL Ls F (R e p0 c k0 z))(hx:zL S x=some (.slice p0 k0 c))(hlo:uX S lo=some vlo)(hhi:zL S x2=some (.int kd j))(hmx:zL S x3=some (.int kd2 j))(b1:Bd vlo i 0)
  (h:∀ u p',J P n X Q (.dr os B Jj fuel (li.setIfInBounds q true)) ((d,.slice p' (List.length u) (List.length u))::S) Ls (R e p' (List.length u) (List.length u) u::F) (f u))
  (ht:wP P t=some e.n:=by kernel_rfl) (hk:vF os B li q=true:=by kernel_rfl) (hd:Nat.blt d n=true:=by kernel_rfl) (hg:zR os S g=some true:=by kernel_rfl) :
  J P n X Q (.dr os B Jj (fuel+1) li) S Ls F ((sub z i j).bind f) :=
 ⟨fun hq r hm a w hs=>by
  obtain⟨u,h1,h2⟩:=uS hm
  exact z3r q hs hi0 (g0 _ _ hs.o hs.f) hx hlo hhi hmx b1 h1 (fun p' a h'=>(h u p').go hq r h2 a w h') ht (fun c v a w hp=>(hq r c _ _ hp).elim) hk hd hg⟩
theorem jbM{r0:zJ}{te0:TypeId}{k:Nat}{z0:List τ}(L':Nat->List zJ)(g0:wL Ls F (Ar e te0 r0 p0 c k z0))(g:wL Ls F (Ar e te r p0 c (List.length z0) z))(hL:L' (List.length z0)=Ls)
  (h:J P n X Q p S (L' k) (Ar e te r p0 c k z::F) m):J P n X Q p S Ls F m:=by
 refine⟨fun hq r1 hm a w hs=>?_⟩
 have h0:=g0 _ _ hs.o hs.f
 have hf:=g _ _ hs.o hs.f
 rw[←Ar.ln h0] at hf hL
 rw[hL] at h
 exact h.go hq r1 hm a w (hs.add hf)
end
end Go.GD
