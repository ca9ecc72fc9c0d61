/- A part. Conditions: none. -/
import Derived.Test.YtmpieaddiaihmaaGreatDoorOps3
import Derived.Laws.CopyRow
import Derived.Scope
namespace Go.GD
open Go Go.RowKit
set_option autoImplicit false
variable {qd:Prop}
section
variable {P:Program}{ops:Array Oper}{Q:Exit->Act->World->Prop}{K:Act->World->Prop}
variable {A:List Nat}{L0 Ls:List zJ}{w0 w:World}{n:Nat}{S:List (Nat×Value)}{F:List PP}{a:Act}{Z:List Nat}
variable {d:Nat}{ty:TypeId}{pos:String}{af:Array Edge}{g:Option (Nat×Bool)}{B J:List Nat}{listed:Array Bool}{fuel:Nat}
variable {τ:Type}{e:E τ}{te:TypeId}{r:zJ}{p q q2:Option Addr}{c m L:Nat}{l z:List τ}{k:Int}{t:TypeId}{x y:Operand}
theorem Vw.src (hV:Vw e.n p c L k q m)(hA:wJ e te Z w r p c l)(hL:l.length=L)(hO:zZ A w Ls){i:Nat}(hr:Ls[i]?=some r): Src e Z w q (l.drop k.toNat)∧(l.drop k.toNat).length=m:=by
 obtain⟨v0,v1,v2,v3⟩:=hV
 have hlen:(l.drop k.toNat).length=m:=by rw[QY];omega
 refine⟨?_,hlen⟩
 by_cases hm:m=0
 ·exact .inl (QK (by grind))
 ·rcases hA with⟨_,_,_,rfl⟩ | ⟨b,o,cells,rfl,rfl,h3,h4,h5,h6⟩
  ·grind
  ·refine .inr ⟨b,o+k.toNat*e.n,_,v3 b o rfl hm,e.rdL_drop k.toNat h6,fun j u hu=>?_⟩
   have hb:=xN hO hr (Qa.2 rfl)
   grind [cell_of_row]
theorem z3X{k2 c' i:Nat}(hO:zZ A w Ls)(hr:Ls[i]?=some r)(hA:wJ e te (bl Ls++A) w r p c l)(hV:Vw e.n p c L k q m)(hL:l.length=L)(hR:Src e (bl Ls++A) w q2 z)(ht:yS P t te e.n=true)(rty:TypeId):
  ∃ r' w',(Builtin.copy_ #[t,t] rty #[.slice q m c',.slice q2 z.length k2]).run P w=.ok (goInt (Nat.min z.length m)) w' ∧
   zZ A w' (Ls.set i r')∧zU qd Ls w (Ls.set i r') w'∧wJ e te (bl (Ls.set i r')++A) w' r' p c (xC l k z):=by
 obtain⟨hu,info,zv,hi,hz',hsize,hby,hpos,hzs⟩:=zJT ht
 obtain⟨v0,v1,v2,v3⟩:=hV
 subst hL
 have hself:Ls.set i r=Ls:=by
  apply QN;intro j
  by_cases hj:i=j
  ·grind
  ·grind
 by_cases hn0:Nat.min z.length m=0
 ·have hll:xC l k z=l:=by
   unfold xC
   rcases Nat.min_eq_zero_iff.1 hn0 with h | h
   ·simp_all
   ·simp_all
  refine⟨r,w,?_,by grind,by rw[hself];exact zU.refl _ _,by grind⟩
  cases q <;> cases q2 <;> simp[Builtin.copy_,run_underlying hu,Builtin.lenOf,Builtin.firstCells,sizeOf,typeInfo,hi,hn0,loadCells,loadCellsFrom,storeCells]
 ·have hm0:m≠0:=fun h=>hn0 (by grind)
  have hz0:z≠[]:=fun h=>hn0 (by grind)
  rcases hA with⟨rfl,rfl,rfl,rfl⟩ | ⟨b,o,cells,rfl,rfl,h3,h4,h5,h6⟩
  ·grind
  ·have hq:=v3 b o rfl hm0
   subst hq
   rcases hR with hR | ⟨b2,off,cs,rfl,hcs,hcell⟩
   ·grind
   ·have hb:=xN hO hr (Qa.2 rfl)
    obtain⟨nn,hnn⟩:∃ nn,nn=Nat.min z.length m:=⟨_,rfl⟩
    have hnz:nn≤z.length:=by rw[hnn];exact Nat.min_le_left _ _
    have hnm:nn≤m:=by rw[hnn];exact Nat.min_le_right _ _
    have hcs2:=e.rdL_take nn hcs
    have hlen:(cs.take (nn*e.n)).length=nn*e.n:=by rw[e.rdL_len hcs2,Qt,QP hnz]
    have hload:=run_loadCells_list (P:=P) w ⟨b2,off,none⟩ (cs.take (nn*e.n)) (fun j u hj=>by
     grind [tV])
    have hfit:o+k.toNat*e.n+0+(cs.take (nn*e.n)).length≤cells.size:=by
     rw[hlen,QM,UV,←QL];exact Qv (UX (QD _ (by omega)) _) h5
    have hst:=run_storeCells_at P b (o+k.toNat*e.n) te (cs.take (nn*e.n)) 0 cells w hb hfit (e.rdL_one hcs2)
    simp only[QM] at hst
    have hother:∀ cs:Array Value,∀ k,k<w.heap.size->k∉[(b,Obj.cells cells te (0,0))].map Prod.fst->(w.setRow b cs).heap[k]?=w.heap[k]?:=fun cs k _ hk=>setRow_other w b k _ (fun e=>hk (by simp[e]))
    have hE:zU qd Ls w (Ls.set i [(b,.cells (cells.toList.take (o+k.toNat*e.n)++cs.take (nn*e.n)++cells.toList.drop (o+k.toNat*e.n+(cs.take (nn*e.n)).length)).toArray te (0,0))]) (w.setRow b (cells.toList.take (o+k.toNat*e.n)++cs.take (nn*e.n)++cells.toList.drop (o+k.toNat*e.n+(cs.take (nn*e.n)).length)).toArray) :=
     zU.set hr rfl rfl rfl (by simp) (hother _) (fun q hq=>.inl (by grind))
    refine⟨[(b,.cells (cells.toList.take (o+k.toNat*e.n)++cs.take (nn*e.n)++cells.toList.drop (o+k.toNat*e.n+(cs.take (nn*e.n)).length)).toArray te (0,0))],_,?_,?_,hE,.inr ⟨b,o,_,rfl,rfl,by rw[zPI];exact h3,h4,?_,?_⟩⟩
    ·rw[hlen] at hload
     simp[Builtin.copy_,run_underlying hu,Builtin.lenOf,Builtin.firstCells,sizeOf,typeInfo,hi,hsize,←hnn,hload,hst]
    ·exact hO.set hr (by simp) (hother _) (fun q hq=>by simp only[Qa] at hq;subst hq;exact setRow_heap w b cells _ te (0,0) hb) (by simp) (fun q hq=>.inl (by grind))
    ·simp only[QS,Qh,Qt,QY,UC,QM] at hfit ⊢
     omega
    ·have hcp:xC l k z=l.take k.toNat++z.take nn++l.drop (k.toNat+nn):=by
      unfold xC
      have h1:z.take (l.length-k.toNat)=z.take nn:=by
       apply QN;intro j
       simp only[Q1]
       by_cases hj:j<z.length
       ·grind
       ·grind
      have h2:l.drop (k.toNat+z.length)=l.drop (k.toNat+nn):=by
       by_cases hj:z.length≤m
       ·simp_all
       ·grind [List.drop_of_length_le]
      rw[h1,h2]
     rw[hcp]
     have e1:=e.rdL_take k.toNat h6
     rw[Ua,QP (QD _ (by omega))] at e1
     have e2:=e.rdL_drop (k.toNat+nn) h6
     have e3:=e.rdL_append (e.rdL_append (e.rdL_step (hE.step A) e1) (e.rdL_step (hE.step A) hcs2)) (e.rdL_step (hE.step A) e2)
     refine cast ?_ e3
     congr 1
     have hlen2:(l.take k.toNat++z.take nn++l.drop (k.toNat+nn)).length=l.length:=by
      simp only[Qh,Qt,QY];omega
     rw[hlen2]
     have hD:c*e.n≤(cells.toList.drop o).length:=by rw[QY,UC];omega
     show _=List.take _ (List.drop o (cells.toList.take (o+k.toNat*e.n)++cs.take (nn*e.n)++cells.toList.drop (o+k.toNat*e.n+(cs.take (nn*e.n)).length)))
     have hdp:=z0F (c:=cells.toList) o (k.toNat*e.n) 0 (cs.take (nn*e.n)) (by grind)
     simp only[QM] at hdp
     rw[hdp]
     have hA1:((cells.toList.drop o).take (k.toNat*e.n)++cs.take (nn*e.n)).length=(k.toNat+nn)*e.n:=by
      rw[Qh,hlen,Qt,QL,QP]
      exact Qv (QD _ (by omega)) hD
     rw[Wc,hA1,Qk (l:=(cells.toList.drop o).take (k.toNat*e.n)++cs.take (nn*e.n)) (by rw[hA1];exact QD _ (by omega)),hlen,←QL,Uw]
theorem Vw.whole (hA:wJ e te Z w r p c l)(hm:m=l.length): Vw e.n p c m 0 p m :=
 ⟨Wq _,by simp,by rw[hm];exact hA.le,fun b o hp _=>by grind⟩
theorem R.srcs{Z:List Nat}(h:(R e p c m l).h Z w): Src e Z w p l∧l.length=m:=⟨h.1.src,h.2.symm⟩
theorem Ar.srcs (h:(Ar e te r p c m l).h (bl Ls++A) w)(hO:zZ A w Ls){i:Nat}(hr:Ls[i]?=some r): Src e (bl Ls++A) w p l∧l.length=m:=⟨h.1.src hO hr,h.2.symm⟩
theorem z3G (i:Nat){m' c' m2 k2:Nat}{q:Option Addr}(h:SS qd A L0 w0 n S Ls F a w)(hA:(Ar e te r p c m l).h (bl Ls++A) w)(hV:Vw e.n p c m k q m')(hR:Src e (bl Ls++A) w q2 z∧z.length=m2)
  (hx:zL S x=some (.slice q m' c')) (hy:zL S y=some (.slice q2 m2 k2))
  (kk:∀ r' a' w',SS qd A L0 w0 n ((d,vi ((Nat.min m2 m':Nat):Int))::S) (Ls.set i r') (Ar e te r' p c m (xC l k z)::F) a' w'->zU qd Ls w (Ls.set i r') w'->K a' w') (hr:Ls[i]?=some r:=by rfl)
  (ht:yS P t te e.n=true:=by kernel_rfl) (hd:Nat.blt d n=true:=by kernel_rfl) (hg:zR ops S g=some true:=by kernel_rfl):wU P ops Q ⟨some d,.call { callee:=.builtin .copy,args:=[x,y].toArray,argTypes:=[t,t].toArray },ty,pos,af,g⟩ K a w:=by
 obtain⟨hA,hm'⟩:=hA
 obtain⟨hR,rfl⟩:=hR
 obtain⟨r',w',hrun,h1,h2,h3⟩:=z3X (P:=P) (k2:=k2) (c':=c') h.o hr hA hV hm'.symm hR ht ty
 refine xS h.s hd hg (v:=vi ((Nat.min z.length m':Nat):Int)) (w':=w') ?_ fun a' hS=>kk r' a' w' (h.next h1 h2 hS [Ar _ _ _ _ _ m _] ⟨⟨h3,by rw[zPI];exact hm'⟩,trivial⟩) h2
 simp[execOp,resolve,invoke,builtin,h.s.eval hx,h.s.eval hy,hrun,goInt]
theorem z5q (q:Nat){hi':Operand}{k0:Int}{kd:IntKind}(h:SS qd A L0 w0 n S Ls F a w)(hi0:ops[q]?=some ⟨some d,.slice t x none (some hi') none,ty,pos,af,g⟩)(hA:(Ar e te r p c m l).h (bl Ls++A) w)(hx:zL S x=some (.slice p m c))(hhi:zL S hi'=some (.int kd k0))(hm:sub l 0 k0=some z)
  (k:∀ a,SS qd A L0 w0 n ((d,.slice p (List.length z) c)::S) Ls (Ar e te r p c (List.length z) z::F) a w->qV P ops Q (SB B (CC qd A Ls w J)) fuel (listed.setIfInBounds q true) a w)
  (ht:wP P t=some e.n:=by kernel_rfl) (hQ:∀ c (v:Value) a w,Q (.panic c) (a.put (some d) v) w->Q (.panic c) a w:=by exact fun _ _ _ _ h=>h)
  (hk:vF ops B listed q=true:=by kernel_rfl) (hd:Nat.blt d n=true:=by kernel_rfl) (hg:zR ops S g=some true:=by kernel_rfl):qV P ops Q (SB B (CC qd A Ls w J)) (fuel+1) listed a w:=by
 obtain⟨hA,rfl⟩:=hA
 obtain⟨hf,hr⟩:=zXb (P:=P) (d:=some d) (ty:=ty) (pos:=pos) (af:=af) (g:=g) h.s hA hx ht hhi hm
 exact z4M q h.o h.s hi0 hk hd (fun c=>hQ c _) hg hr fun a hS=>k a ((h.slot hS).add (f:=Ar e te r p c (List.length z) z) ⟨hf,rfl⟩)
theorem z3i (q:Nat){lo':Operand}{k0:Int}{kd:IntKind}{u:Unit}(h:SS qd A L0 w0 n S Ls F a w)(hi0:ops[q]?=some ⟨some d,.slice t x (some lo') none none,ty,pos,af,g⟩)(hA:(Ar e te r p c m l).h (bl Ls++A) w)(hx:zL S x=some (.slice p m c))(hlo:zL S lo'=some (.int kd k0))
  (hm:vJ (decide (0≤k0)&&decide (k0≤(l.length:Int)))=some u)
  (k:∀ p' c',Vw e.n p c m k0 p' (Int.toNat ((m:Int)-k0))->∀ a,SS qd A L0 w0 n ((d,.slice p' (Int.toNat ((m:Int)-k0)) c')::S) Ls F a w->qV P ops Q (SB B (CC qd A Ls w J)) fuel (listed.setIfInBounds q true) a w)
  (ht:wP P t=some e.n:=by kernel_rfl) (hQ:∀ c (v:Value) a w,Q (.panic c) (a.put (some d) v) w->Q (.panic c) a w:=by exact fun _ _ _ _ h=>h)
  (hk:vF ops B listed q=true:=by kernel_rfl) (hd:Nat.blt d n=true:=by kernel_rfl) (hg:zR ops S g=some true:=by kernel_rfl):qV P ops Q (SB B (CC qd A Ls w J)) (fuel+1) listed a w:=by
 obtain⟨hA,rfl⟩:=hA
 obtain⟨p',c',hv,hr⟩:=zVt (P:=P) (d:=some d) (ty:=ty) (pos:=pos) (af:=af) (g:=g) h.s hA hx ht hlo hm
 exact z4M q h.o h.s hi0 hk hd (fun c=>hQ c _) hg hr fun a hS=>k p' c' hv a (h.slot hS)
end
end Go.GD
