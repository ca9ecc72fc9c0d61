/- A part. Conditions: none. -/
import Derived.Test.YtmpieaddiaihmaaGreatDoorOps2
namespace Go.GD
open Go Go.RowKit
set_option autoImplicit false
variable {qd:Prop}
section
variable {P:Program}{ops:Array Oper}{Q:Exit->Act->World->Prop}{K:Act->World->Prop}
variable {A:List Nat}{L0 Ls:List zJ}{w0 w:World}{n:Nat}{S:List (Nat×Value)}{F:List PP}{a:Act}
variable {d:Nat}{ty:TypeId}{pos:String}{af:Array Edge}{g:Option (Nat×Bool)}{B J:List Nat}{listed:Array Bool}{fuel:Nat}
variable {τ:Type}{e:E τ}{te:TypeId}{r:zJ}{p:Option Addr}{c m:Nat}{l z:List τ}{i j:Int}{t:TypeId}{x:Operand}
theorem zZ.allocated{w':World}(hO:zZ A w Ls)(o:Obj)(hw:w'.heap=(w.alloc o).heap): zZ A w' Ls :=
 ⟨fun b hb=>by rw[hw];have:=hO.old b hb;simp;omega,fun r hr p hp=>by rw[hw,Below.heap_alloc w _ p.1 (Qq.1 (hO.has r hr p hp)).1];exact hO.has r hr p hp,hO.nodup,hO.apart⟩
theorem zU.allocated{w':World}(Ls:List zJ)(o:Obj)(hw:w'.heap=(w.alloc o).heap)(ho:w'.os=w.os)(ht:w'.tape=w.tape)(hp:w'.output=w.output)(hd:qd->w.drawn≤w'.drawn): zU qd Ls w Ls w' :=
 ⟨ho,ht,hp,hd,by rw[hw];simp,fun k hk _=>by grind [Below.heap_alloc],fun b hb=>.inl hb⟩
theorem zYK{q:Option Addr}{l2:List τ}{k:Nat}(hO:zZ A w Ls)(hR:uY e (bl Ls++A) w p l.length l)(hY:Src e (bl Ls++A) w q l2)(ht:yS P t te e.n=true)(hm:qD l l2=some z)(rty:TypeId):
  ∃ p' c' w',(Builtin.append_ #[t,t] rty #[.slice p l.length l.length,.slice q l2.length k]).run P w=.ok (.slice p' z.length c') w'∧zZ A w' Ls∧zU qd Ls w Ls w'∧uY e (bl Ls++A) w' p' c' z:=by
 obtain⟨hsm,rfl⟩:=app_lt hm
 obtain⟨hu,info,zv,hi,hz,hsize,hby,hpos,hzs⟩:=zJT ht
 by_cases hm0:l2=[]
 ·subst hm0
  exact⟨p,l.length,w,by simpa using zQe (k:=k) (q:=q) hu hi (Qs _),hO,zU.refl _ _,by grind⟩
 ·have hmpos:0<l2.length:=Q2.2 hm0
  rcases hY with hY | ⟨b2,off,cs2,rfl,hcs2,hcell⟩
  ·grind
  ·have hl2:cs2.length=l2.length*info.size:=by rw[e.rdL_len hcs2,hsize]
   have hnews:∀ j u,cs2[j]?=some u->w.cell? ((⟨b2,off,none⟩:Addr).add j)=some u:=fun j u hu=>by grind [tV]
   have hbytes:(l.length+l2.length)*info.bytes≤140737488355328:=by
    have:=U0 (Nat.le_of_lt hsm) hby
    omega
   have h63:((l.length+l2.length:Nat):Int)≤9223372036854775807:=by omega
   have hold:∃ olds,olds.length=l.length*info.size∧e.rdL (bl Ls++A) w olds l∧(∀ ad,p=some ad->∀ j u,olds[j]?=some u->w.cell? (ad.add j)=some u):=by
    rcases hR.2 with rfl | ⟨b,o,cs,rfl,_,_,h1,h2⟩
    ·exact⟨[],by simp,rfl,by simp⟩
    ·exact⟨cs,by rw[e.rdL_len h1,hsize],h1,fun ad had j u hu=>by grind [tV]⟩
   obtain⟨olds,ho1,ho2,ho3⟩:=hold
   have key:∀(zs:Array Value) (c':Nat),l.length+l2.length≤c'->uY e (bl Ls++A) (w.drew.alloc (.cells (olds.toArray++cs2.toArray++zs) te)) (some ⟨w.heap.size,0,none⟩) c' (l++l2):=by
    intro zs c' hc'
    have hE:zU qd Ls w Ls (w.drew.alloc (.cells (olds.toArray++cs2.toArray++zs) te)):=zU.allocated Ls _ rfl rfl rfl rfl (fun _=>UR _)
    refine⟨by grind,.inr ⟨w.heap.size,0,olds++cs2,rfl,fun hmem=>?_,by simp,e.rdL_append (e.rdL_step (hE.step A) ho2) (e.rdL_step (hE.step A) hcs2),fun j u hu=>?_⟩⟩
    ·rcases Qb.1 hmem with h | h
     ·exact UU _ (hO.lt h)
     ·exact UU _ (hO.old _ h)
    ·rw[cell_of_row _ w.heap.size (0+j) (olds.toArray++cs2.toArray++zs) te (0,0) (heap_alloc_new w.drew _),US]
     grind
   cases p with
   | none =>
    have hl0:l=[]:=by
     rcases hR.2 with h | ⟨_,_,_,h,_⟩
     ·exact h
     ·cases h
    subst hl0
    have ho0:olds=[]:=QK (by grind)
    subst ho0
    have hrun:=run_append_nil (P:=P) w t rty te info zv hu hi hz ⟨b2,off,none⟩ l2.length k cs2 hl2 hnews hmpos (by omega) (by grind)
    have hge:=grownCap_ge w l2.length 0 te
    rw[QI]
    refine⟨_,_,_,hrun,hO.allocated _ rfl,zU.allocated Ls _ rfl rfl rfl rfl (fun _=>UR _),?_⟩
    grind
   | some ad =>
    have hrun:=run_append_grow (P:=P) w t rty te info zv hu hi hz ad l.length l.length olds ho1 (ho3 ad rfl) ⟨b2,off,none⟩ l2.length k cs2 hl2 hnews (by omega) h63 (growslice_fits (by omega) hbytes)
    have hge:=grownCap_ge w (l.length+l2.length) l.length te
    rw[←Qh] at hrun
    refine⟨_,_,_,hrun,hO.allocated _ rfl,zU.allocated Ls _ rfl rfl rfl rfl (fun _=>UR _),key _ _ (by grind)⟩
theorem z6S{q:Option Addr}{c2 m2:Nat}{l2:List τ}{y:Operand}(h:SS qd A L0 w0 n S Ls F a w)(hA:(R e p m m l).h (bl Ls++A) w)(hR:(R e q c2 m2 l2).h (bl Ls++A) w)(hx:zL S x=some (.slice p m m))(hy:zL S y=some (.slice q m2 c2))(hm:qD l l2=some z)
  (k:∀ p' c' a' w',SS qd A L0 w0 n ((d,.slice p' (List.length z) c')::S) Ls (R e p' c' (List.length z) z::F) a' w'->zU qd Ls w Ls w'->K a' w') (te:TypeId) (ht:yS P t te e.n=true:=by kernel_rfl)
  (hd:Nat.blt d n=true:=by kernel_rfl) (hg:zR ops S g=some true:=by kernel_rfl) :
  wU P ops Q ⟨some d,.call { callee:=.builtin .append,args:=[x,y].toArray,argTypes:=[t,t].toArray },ty,pos,af,g⟩ K a w:=by
 obtain⟨hA,rfl⟩:=hA
 obtain⟨hR,rfl⟩:=hR
 obtain⟨p',c',w',hrun,h1,h2,h3⟩:=zYK (P:=P) (k:=c2) h.o hA hR.src ht hm ty
 refine xS h.s hd hg (v:=.slice p' z.length c') (w':=w') ?_ fun a hS=>k p' c' a w' (h.next h1 h2 hS [R e p' c' (List.length z) z] ⟨⟨h3,rfl⟩,trivial⟩) h2
 simp[execOp,resolve,invoke,builtin,h.s.eval hx,h.s.eval hy,hrun]
theorem z26{lo:Option Operand}{hi mx:Operand}{vlo:Option Value}{k1 k2:IntKind}(h:SS qd A L0 w0 n S Ls F a w)(hR:(R e p c m l).h (bl Ls++A) w)(hx:zL S x=some (.slice p m c))(hlo:uX S lo=some vlo)(hhi:zL S hi=some (.int k1 j))(hmx:zL S mx=some (.int k2 j))(b1:Bd vlo i 0)(hm:sub l i j=some z)
  (k:∀ p' a,SS qd A L0 w0 n ((d,.slice p' (List.length z) (List.length z))::S) Ls (R e p' (List.length z) (List.length z) z::F) a w->K a w)
  (ht:wP P t=some e.n:=by kernel_rfl) (hd:Nat.blt d n=true:=by kernel_rfl) (hg:zR ops S g=some true:=by kernel_rfl):wU P ops Q ⟨some d,.slice t x lo (some hi) (some mx),ty,pos,af,g⟩ K a w:=by
 obtain⟨hR,rfl⟩:=hR
 unfold sub at hm
 split at hm
 case isFalse=>cases hm
 rename_i h0
 simp only[Qd] at hm
 obtain⟨h1,h2,h3⟩:=h0
 subst hm
 have hzl:((l.take j.toNat).drop i.toNat).length=j.toNat-i.toNat:=by simp;omega
 have hlc:=hR.1
 unfold wP at ht
 split at ht
 case h_2=>cases ht
 rename_i te hu
 cases hq:P.info? te with
 | none=>grind
 | some info =>
  have hs:info.size=e.n:=by simpa [hq] using ht
  have hb:(Instr.sliceBounds true l.length c vlo (some (.int k1 j)) (some (.int k2 j))).run P w=.ok (i.toNat,j.toNat,j.toNat) w:=by
   have h0j:0≤j:=by omega
   have hmax:max j 0=j:=by omega
   rcases b1 with⟨rfl,rfl⟩ | ⟨k3,rfl⟩
   ·simp[Instr.sliceBounds,Instr.sliceBound,asIntOf,h0j,show j≤(c:Int) by omega,hmax]
   ·simp[Instr.sliceBounds,Instr.sliceBound,asIntOf,h0j,h1,h2,show j≤(c:Int) by omega,hmax]
  refine xS h.s hd hg (v:=.slice (if j.toNat=i.toNat then p else p.map (·.add (i.toNat*e.n))) (List.length ((l.take j.toNat).drop i.toNat)) (List.length ((l.take j.toNat).drop i.toNat))) (w':=w) ?_ fun a hS =>
   k _ a ((h.slot hS).add (f:=R e _ _ _ _) ⟨⟨Qs _,?_⟩,rfl⟩)
  ·simp[execOp,h.s.eval hx,h.s.evalO hlo,h.s.eval hhi,h.s.eval hmx,Instr.sliceAt,Instr.slice,run_underlying hu,hb,sizeOf,typeInfo,hq,hs,hzl]
  ·by_cases he:(l.take j.toNat).drop i.toNat=[]
   ·grind
   ·rcases hR.2 with rfl | ⟨b,off,cs,rfl,hb,hlt,hl,hcell⟩
    ·grind
    ·have hne:¬ j.toNat=i.toNat:=fun hci=>he (QK (by grind))
     refine .inr ⟨b,off+i.toNat*e.n,(cs.take (j.toNat*e.n)).drop (i.toNat*e.n),by simp[hne,tV],hb,hlt,e.rdL_drop _ (e.rdL_take _ hl),fun k u hu=>?_⟩
     grind
end
end Go.GD
