/- A part. Conditions: none. -/
import Derived.Test.YtcoildnkgkbjfaaGreatDoorOps3
import Derived.Laws.CopyRow
import Derived.Scope
namespace Go.GD
open Go Go.RowKit
set_option autoImplicit false
variable {qd:Prop}
section
variable {P:Program}{ops:Array Oper}{Q:Exit->Act->World->Prop}{K:Act->World->Prop}
variable {A:List Nat}{L0 Ls:List zH}{w0 w:World}{n:Nat}{S:List (Nat×Value)}{F:List PP}{a:Act}{Z:List Nat}
variable {d:Nat}{ty:TypeId}{pos:String}{af:Array Edge}{g:Option (Nat×Bool)}{B J:List Nat}{listed:Array Bool}{fuel:Nat}
variable {τ:Type}{e:E τ}{te:TypeId}{r:zH}{p q q2:Option Addr}{c m L:Nat}{l z:List τ}{k:Int}{t:TypeId}{x y:Operand}
theorem Vw.src (hV:Vw e.n p c L k q m)(hA:yJ e te Z w r p c l)(hL:l.length=L)(hO:qF A w Ls){i:Nat}(hr:Ls[i]?=some r): Src e Z w q (l.drop k.toNat)∧(l.drop k.toNat).length=m:=by
 obtain⟨v0,v1,v2,v3⟩:=hV
 have hlen:(l.drop k.toNat).length=m:=by rw[QO];omega
 refine⟨?_,hlen⟩
 by_cases hm:m=0
 ·exact .inl (Uq (by grind))
 ·rcases hA with⟨_,_,_,rfl⟩ | ⟨b,o,cells,rfl,rfl,h3,h4,h5,h6⟩
  ·grind
  ·refine .inr ⟨b,o+k.toNat*e.n,_,v3 b o rfl hm,e.rdL_drop k.toNat h6,fun j u hu=>?_⟩
   have hb:=tJ hO hr (Qf.2 rfl)
   grind [cell_of_row]
theorem zYb{k2 c' i:Nat}(hO:qF A w Ls)(hr:Ls[i]?=some r)(hA:yJ e te (bl Ls++A) w r p c l)(hV:Vw e.n p c L k q m)(hL:l.length=L)(hR:Src e (bl Ls++A) w q2 z)(ht:xL P t te e.n=true)(rty:TypeId):
  ∃ r' w',(Builtin.copy_ #[t,t] rty #[.slice q m c',.slice q2 z.length k2]).run P w=.ok (goInt (Nat.min z.length m)) w' ∧
   qF A w' (Ls.set i r')∧zZ qd Ls w (Ls.set i r') w'∧yJ e te (bl (Ls.set i r')++A) w' r' p c (zIs l k z):=by
 obtain⟨hu,info,zv,hi,hz',hsize,hby,hpos,hzs⟩:=zJj ht
 obtain⟨v0,v1,v2,v3⟩:=hV
 subst hL
 have hself:Ls.set i r=Ls:=by
  apply Uk;intro j
  by_cases hj:i=j
  ·grind
  ·grind
 by_cases hn0:Nat.min z.length m=0
 ·have hll:zIs l k z=l:=by
   unfold zIs
   rcases Nat.min_eq_zero_iff.1 hn0 with h | h
   ·simp_all
   ·simp_all
  refine⟨r,w,?_,by grind,by rw[hself];exact zZ.refl _ _,by grind⟩
  cases q <;> cases q2 <;> simp[Builtin.copy_,run_underlying hu,Builtin.lenOf,Builtin.firstCells,sizeOf,typeInfo,hi,hn0,loadCells,loadCellsFrom,storeCells]
 ·have hm0:m≠0:=fun h=>hn0 (by grind)
  have hz0:z≠[]:=fun h=>hn0 (by grind)
  rcases hA with⟨rfl,rfl,rfl,rfl⟩ | ⟨b,o,cells,rfl,rfl,h3,h4,h5,h6⟩
  ·grind
  ·have hq:=v3 b o rfl hm0
   subst hq
   rcases hR with hR | ⟨b2,off,cs,rfl,hcs,hcell⟩
   ·grind
   ·have hb:=tJ hO hr (Qf.2 rfl)
    obtain⟨nn,hnn⟩:∃ nn,nn=Nat.min z.length m:=⟨_,rfl⟩
    have hnz:nn≤z.length:=by rw[hnn];exact Nat.min_le_left _ _
    have hnm:nn≤m:=by rw[hnn];exact Nat.min_le_right _ _
    have hcs2:=e.rdL_take nn hcs
    have hlen:(cs.take (nn*e.n)).length=nn*e.n:=by rw[e.rdL_len hcs2,Uo,Un hnz]
    have hload:=run_loadCells_list (P:=P) w ⟨b2,off,none⟩ (cs.take (nn*e.n)) (fun j u hj=>by
     grind [zBX])
    have hfit:o+k.toNat*e.n+0+(cs.take (nn*e.n)).length≤cells.size:=by
     rw[hlen,QU,Wa,←Q0];exact Qy (Nat.add_le_add_left (QS _ (by omega)) _) h5
    have hst:=run_storeCells_at P b (o+k.toNat*e.n) te (cs.take (nn*e.n)) 0 cells w hb hfit (e.rdL_one hcs2)
    simp only[QU] at hst
    have hother:∀ cs:Array Value,∀ k,k<w.heap.size->k∉[(b,Obj.cells cells te (0,0))].map Prod.fst->(w.setRow b cs).heap[k]?=w.heap[k]?:=fun cs k _ hk=>setRow_other w b k _ (fun e=>hk (by simp[e]))
    have hE:zZ qd Ls w (Ls.set i [(b,.cells (cells.toList.take (o+k.toNat*e.n)++cs.take (nn*e.n)++cells.toList.drop (o+k.toNat*e.n+(cs.take (nn*e.n)).length)).toArray te (0,0))]) (w.setRow b (cells.toList.take (o+k.toNat*e.n)++cs.take (nn*e.n)++cells.toList.drop (o+k.toNat*e.n+(cs.take (nn*e.n)).length)).toArray) :=
     zZ.set hr rfl rfl rfl (by simp) (hother _) (fun q hq=>.inl (by grind))
    refine⟨[(b,.cells (cells.toList.take (o+k.toNat*e.n)++cs.take (nn*e.n)++cells.toList.drop (o+k.toNat*e.n+(cs.take (nn*e.n)).length)).toArray te (0,0))],_,?_,?_,hE,.inr ⟨b,o,_,rfl,rfl,by rw[zKF];exact h3,h4,?_,?_⟩⟩
    ·rw[hlen] at hload
     simp[Builtin.copy_,run_underlying hu,Builtin.lenOf,Builtin.firstCells,sizeOf,typeInfo,hi,hsize,←hnn,hload,hst]
    ·exact hO.set hr (by simp) (hother _) (fun q hq=>by simp only[Qf] at hq;subst hq;exact setRow_heap w b cells _ te (0,0) hb) (by simp) (fun q hq=>.inl (by grind))
    ·simp only[Ua,Qc,Uo,QO,Array.length_toList,QU] at hfit ⊢
     omega
    ·have hcp:zIs l k z=l.take k.toNat++z.take nn++l.drop (k.toNat+nn):=by
      unfold zIs
      have h1:z.take (l.length-k.toNat)=z.take nn:=by
       apply Uk;intro j
       simp only[UI]
       by_cases hj:j<z.length
       ·grind
       ·grind
      have h2:l.drop (k.toNat+z.length)=l.drop (k.toNat+nn):=by
       by_cases hj:z.length≤m
       ·simp_all
       ·grind [List.drop_of_length_le]
      rw[h1,h2]
     rw[hcp]
     have e1:=e.rdL_take k.toNat h6
     rw[UP,Un (QS _ (by omega))] at e1
     have e2:=e.rdL_drop (k.toNat+nn) h6
     have e3:=e.rdL_append (e.rdL_append (e.rdL_step (hE.step A) e1) (e.rdL_step (hE.step A) hcs2)) (e.rdL_step (hE.step A) e2)
     refine cast ?_ e3
     congr 1
     have hlen2:(l.take k.toNat++z.take nn++l.drop (k.toNat+nn)).length=l.length:=by
      simp only[Qc,Uo,QO];omega
     rw[hlen2]
     have hD:c*e.n≤(cells.toList.drop o).length:=by rw[QO,Array.length_toList];omega
     show _=List.take _ (List.drop o (cells.toList.take (o+k.toNat*e.n)++cs.take (nn*e.n)++cells.toList.drop (o+k.toNat*e.n+(cs.take (nn*e.n)).length)))
     have hdp:=zZ9 (c:=cells.toList) o (k.toNat*e.n) 0 (cs.take (nn*e.n)) (by grind)
     simp only[QU] at hdp
     rw[hdp]
     have hA1:((cells.toList.drop o).take (k.toNat*e.n)++cs.take (nn*e.n)).length=(k.toNat+nn)*e.n:=by
      rw[Qc,hlen,Uo,Q0,Un]
      exact Qy (QS _ (by omega)) hD
     rw[U8,hA1,QX (l:=(cells.toList.drop o).take (k.toNat*e.n)++cs.take (nn*e.n)) (by rw[hA1];exact QS _ (by omega)),hlen,←Q0,Uf]
theorem zYQ (i:Nat){m' c' m2 k2:Nat}{q:Option Addr}(h:SS qd A L0 w0 n S Ls F a w)(hA:(Ar e te r p c m l).h (bl Ls++A) w)(hV:Vw e.n p c m k q m')(hR:Src e (bl Ls++A) w q2 z∧z.length=m2)
  (hx:zP S x=some (.slice q m' c')) (hy:zP S y=some (.slice q2 m2 k2))
  (kk:∀ r' a' w',SS qd A L0 w0 n ((d,vi ((Nat.min m2 m':Nat):Int))::S) (Ls.set i r') (Ar e te r' p c m (zIs l k z)::F) a' w'->zZ qd Ls w (Ls.set i r') w'->K a' w') (hr:Ls[i]?=some r:=by rfl)
  (ht:xL P t te e.n=true:=by kernel_rfl) (hd:Nat.blt d n=true:=by kernel_rfl) (hg:qC ops S g=some true:=by kernel_rfl):vC P ops Q ⟨some d,.call { callee:=.builtin .copy,args:=[x,y].toArray,argTypes:=[t,t].toArray },ty,pos,af,g⟩ K a w:=by
 obtain⟨hA,hm'⟩:=hA
 obtain⟨hR,rfl⟩:=hR
 obtain⟨r',w',hrun,h1,h2,h3⟩:=zYb (P:=P) (k2:=k2) (c':=c') h.o hr hA hV hm'.symm hR ht ty
 refine zF2 h.s hd hg (v:=vi ((Nat.min z.length m':Nat):Int)) (w':=w') ?_ fun a' hS=>kk r' a' w' (h.next h1 h2 hS [Ar _ _ _ _ _ m _] ⟨⟨h3,by rw[zKF];exact hm'⟩,trivial⟩) h2
 simp[execOp,resolve,invoke,builtin,h.s.eval hx,h.s.eval hy,hrun,goInt]
theorem SS.eqL{Ls':List zH}(h:SS qd A L0 w0 n S Ls F a w)(e:Ls=Ls'): SS qd A L0 w0 n S Ls' F a w:=e▸h
theorem zXv (q:Nat){lo':Operand}{k0:Int}{kd:IntKind}{u:Unit}(h:SS qd A L0 w0 n S Ls F a w)(hi0:ops[q]?=some ⟨some d,.slice t x (some lo') none none,ty,pos,af,g⟩)(hA:(Ar e te r p c m l).h (bl Ls++A) w)(hx:zP S x=some (.slice p m c))(hlo:zP S lo'=some (.int kd k0))
  (hm:chk (decide (0≤k0)&&decide (k0≤(l.length:Int)))=some u)
  (k:∀ p' c',Vw e.n p c m k0 p' (Int.toNat ((m:Int)-k0))->∀ a,SS qd A L0 w0 n ((d,.slice p' (Int.toNat ((m:Int)-k0)) c')::S) Ls F a w->wL P ops Q (SB B (CC qd A Ls w J)) fuel (listed.setIfInBounds q true) a w)
  (ht:uI P t=some e.n:=by kernel_rfl) (hQ:∀ c (v:Value) a w,Q (.panic c) (a.put (some d) v) w->Q (.panic c) a w:=by exact fun _ _ _ _ h=>h)
  (hk:yQ ops B listed q=true:=by kernel_rfl) (hd:Nat.blt d n=true:=by kernel_rfl) (hg:qC ops S g=some true:=by kernel_rfl):wL P ops Q (SB B (CC qd A Ls w J)) (fuel+1) listed a w:=by
 obtain⟨hA,rfl⟩:=hA
 obtain⟨p',c',hv,hr⟩:=zVf (P:=P) (d:=some d) (ty:=ty) (pos:=pos) (af:=af) (g:=g) h.s hA hx ht hlo hm
 exact z3p q h.o h.s hi0 hk hd (fun c=>hQ c _) hg hr fun a hS=>k p' c' hv a (h.slot hS)
end
end Go.GD
