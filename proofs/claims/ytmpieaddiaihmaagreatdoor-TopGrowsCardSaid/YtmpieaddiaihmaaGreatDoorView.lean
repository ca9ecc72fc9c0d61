/- A part. Conditions: none. -/
import Derived.Test.YtmpieaddiaihmaaGreatDoorMore
import Derived.Test.YtmpieaddiaihmaaGreatDoorLib
namespace Go.GD
open Go Go.RowKit
set_option autoImplicit false
variable {qd:Prop}
def Vw (n:Nat)(p:Option Addr)(c L:Nat)(k:Int)(p':Option Addr)(m:Nat): Prop :=
 0≤k∧k.toNat+m=L∧L≤c∧∀ b o,p=some ⟨b,o,none⟩->m≠0->p'=some ⟨b,o+k.toNat*n,none⟩
section
variable {P:Program}{ops:Array Oper}{Q:Exit->Act->World->Prop}{a:Act}{n:Nat}{S:List (Nat×Value)}{w:World}{K:Act->World->Prop}
variable {A:List Nat}{Ls:List zJ}{d:Nat}{ty:TypeId}{pos:String}{af:Array Edge}{g:Option (Nat×Bool)}
variable {τ:Type}{e:E τ}{te:TypeId}{Z:List Nat}{r:zJ}{p p':Option Addr}{c c' m L:Nat}{l z:List τ}{k j:Int}{u:τ}{t:TypeId}{x y lo hi:Operand}{kd:IntKind}
theorem wJ.le (hA:wJ e te Z w r p c l): l.length≤c:=by
 rcases hA with⟨_,_,rfl,rfl⟩ | ⟨_,_,_,_,_,h,_⟩
 ·grind
 ·exact h
theorem zVt{d:Option Tmp}{q:Unit}(hS:qF a n S)(hA:wJ e te Z w r p c l)(hx:zL S x=some (.slice p l.length c))(ht:wP P t=some e.n)(hlo:zL S lo=some (.int kd k))
  (hm:vJ (decide (0≤k)&&decide (k≤(l.length:Int)))=some q) :
  ∃ p' c',Vw e.n p c l.length k p' (Int.toNat ((l.length:Int)-k))∧∀ w',(execOp a.eval ⟨d,.slice t x (some lo) none none,ty,pos,af,g⟩).run P w'=.ok (.value (.slice p' (Int.toNat ((l.length:Int)-k)) c')) w':=by
 have h0:0≤k∧k≤(l.length:Int):=by
  unfold vJ at hm
  split at hm
  ·grind
  ·cases hm
 have hle:=hA.le
 unfold wP at ht
 split at ht
 ·rename_i te' hu
  cases hq:P.info? te' with
  | none=>grind
  | some info =>
   have hs:info.size=e.n:=by simpa [hq] using ht
   refine⟨if c=k.toNat then p else p.map (·.add (k.toNat*e.n)),c-k.toNat,⟨h0.1,by omega,hle,fun b o hp hne=>?_⟩,fun w'=>?_⟩
   ·subst hp
    rw[Qo (by omega)]
    simp[tV]
   ·have hb:=zJs (P:=P) (w:=w') (b:=true) (m:=l.length) (c:=c) (lo:=some (.int kd k)) (hi:=none) (i:=k) (j:=l.length) (.inr ⟨_,rfl⟩) (.inl ⟨rfl,rfl⟩) h0.1 h0.2 (by omega)
    have hsub:l.length-k.toNat=((l.length:Int)-k).toNat:=by omega
    simp[execOp,hS.eval hx,hS.eval hlo,Instr.sliceAt,Instr.slice,run_underlying hu,hb,sizeOf,typeInfo,hq,hs,hsub]
 ·cases ht
theorem z3v{d:Option Tmp}(hS:qF a n S)(hA:wJ e te Z w r p c l)(hx:zL S x=some (.slice p l.length c))(ht:wP P t=some e.n)(hlo:zL S lo=some (.int kd k))(hm:sub l k l.length=some z):
  ∃ p' c',wJ e te Z w r p' c' z∧∀ w',(execOp a.eval ⟨d,.slice t x (some lo) none none,ty,pos,af,g⟩).run P w'=.ok (.value (.slice p' z.length c')) w':=by
 unfold sub at hm
 split at hm
 case isFalse=>cases hm
 rename_i h0
 obtain⟨h1,h2,_⟩:=h0
 simp only[Qd] at hm
 have hz:z=l.drop k.toNat:=by rw[←hm];simp
 have hzl:z.length=l.length-k.toNat:=by rw[hz];simp
 have hle:=hA.le
 unfold wP at ht
 split at ht
 ·rename_i te' hu
  cases hq:P.info? te' with
  | none=>grind
  | some info =>
   have hs:info.size=e.n:=by simpa [hq] using ht
   refine⟨if c=k.toNat then p else p.map (·.add (k.toNat*e.n)),c-k.toNat,?_,fun w'=>?_⟩
   ·rcases hA with⟨rfl,rfl,rfl,rfl⟩ | ⟨b,o,cells,rfl,rfl,h3,h4,h5,h6⟩
    ·rw[hz]
     have:k.toNat=0:=by simp at h2;omega
     simpa [this] using wJ.nil
    ·have h7:=e.rdL_drop k.toNat h6
     by_cases hc:c=k.toNat
     ·have hz0:z=[]:=QK (by omega)
      rw[Qp hc,hz0]
      exact .inr ⟨b,o,cells,rfl,rfl,Ur _,by omega,by grind,by simp[E.rdL]⟩
     ·rw[Qo hc]
      have hkc:k.toNat≤c:=by omega
      have hmul:k.toNat*e.n+(c-k.toNat)*e.n=c*e.n:=by rw[←QL];congr 1;omega
      refine .inr ⟨b,o+k.toNat*e.n,cells,rfl,by simp[tV],by omega,by omega,by omega,?_⟩
      grind [List.drop_drop,List.drop_take,Nat.sub_mul]
   ·have hb:=zJs (P:=P) (w:=w') (b:=true) (m:=l.length) (c:=c) (lo:=some (.int kd k)) (hi:=none) (i:=k) (j:=l.length) (.inr ⟨_,rfl⟩) (.inl ⟨rfl,rfl⟩) h1 h2 (by omega)
    simp[execOp,hS.eval hx,hS.eval hlo,Instr.sliceAt,Instr.slice,run_underlying hu,hb,sizeOf,typeInfo,hq,hs,hzl]
 ·cases ht
theorem zXb{d:Option Tmp}(hS:qF a n S)(hA:wJ e te Z w r p c l)(hx:zL S x=some (.slice p l.length c))(ht:wP P t=some e.n)(hhi:zL S hi=some (.int kd k))(hm:sub l 0 k=some z):
  wJ e te Z w r p c z∧∀ w',(execOp a.eval ⟨d,.slice t x none (some hi) none,ty,pos,af,g⟩).run P w'=.ok (.value (.slice p z.length c)) w':=by
 unfold sub at hm
 split at hm
 case isFalse=>cases hm
 rename_i h0
 obtain⟨_,h1,h2⟩:=h0
 simp only[Qd] at hm
 have hz:z=l.take k.toNat:=by rw[←hm];simp
 have hzl:z.length=k.toNat:=by rw[hz];simp;omega
 have hle:=hA.le
 refine⟨?_,fun w'=>?_⟩
 ·rcases hA with⟨rfl,rfl,rfl,rfl⟩ | ⟨b,o,cells,rfl,rfl,h3,h4,h5,h6⟩
  ·rw[hz];simpa using wJ.nil
  ·refine .inr ⟨b,o,cells,rfl,rfl,by omega,h4,h5,?_⟩
   have:=e.rdL_take k.toNat h6
   rw[Ua,QP (QD _ (by omega))] at this
   grind
 ·unfold wP at ht
  split at ht
  ·rename_i te' hu
   cases hq:P.info? te' with
   | none=>grind
   | some info =>
    have hb:=zJs (P:=P) (w:=w') (b:=true) (m:=l.length) (c:=c) (lo:=none) (hi:=some (.int kd k)) (i:=0) (j:=k) (.inl ⟨rfl,rfl⟩) (.inr ⟨_,rfl⟩) (Wq _) h1 (by omega)
    have hp:p.map (fun a:Addr=>a.add 0)=p:=by
     rcases hA with⟨_,rfl,_,_⟩ | ⟨b,o,cells,_,rfl,_⟩
     ·rfl
     ·simp[tV]
    simp[execOp,hS.eval hx,hS.eval hhi,Instr.sliceAt,Instr.slice,run_underlying hu,hb,sizeOf,typeInfo,hq,hzl,hp]
  ·cases ht
theorem z6p (h:zZQ l k j=some u): 0≤j∧zB l (k+j)=some u:=by grind [zZQ]
theorem zWH{d:Option Tmp}(hS:qF a n S)(hA:wJ e te Z w r p c l)(hV:Vw e.n p c L k p' m)(hL:List.length l=L)(hx:zL S x=some (.slice p' m c'))(hy:zL S y=some (.int kd j))(ht:wP P t=some e.n)(hm:zZQ l k j=some u):
  zB l (k+j)=some u∧∃ b o,p=some ⟨b,o,none⟩∧∀ w',(execOp a.eval ⟨d,.indexAddr t x y,ty,pos,af,g⟩).run P w'=.ok (.value (.pointer (some ⟨b,o+(k+j).toNat*e.n,none⟩))) w':=by
 obtain⟨hj,hi⟩:=z6p hm
 obtain⟨b,o,cells,rfl,rfl,_⟩:=hA.at hi
 obtain⟨h0,_,h2⟩:=zMk hi
 obtain⟨v0,v1,v2,v3⟩:=hV
 have hp':=v3 b o rfl (by omega)
 subst hp'
 refine⟨hi,b,o,rfl,fun w'=>?_⟩
 have:=zLR (P:=P) (w:=w') (t:=t) (k:=e.n) (b:=b) (off:=o+k.toNat*e.n) (m:=m) (c:=c') (i:=j) ht hj (by omega) kd
 have hadd:o+k.toNat*e.n+j.toNat*e.n=o+(k+j).toNat*e.n:=by rw[UV,←QL];congr 2;omega
 rw[hadd] at this
 simp[execOp,hS.eval hx,hS.eval hy,this]
theorem z7N{op:Op}{v:Value}{w':World}(hS:qF a n S)(hg:zR ops S g=some true)(hr:(execOp a.eval ⟨none,op,ty,pos,af,g⟩).run P w=.ok (.value v) w')
  (k:∀ a',qF a' n S->K a' w'):wU P ops Q ⟨none,op,ty,pos,af,g⟩ K a w:=by
 unfold wU
 rw[Qp (zFe (o:=⟨none,op,ty,pos,af,g⟩) hS hg)]
 unfold Oper.wp
 rw[hr]
 exact k a hS
theorem zJZ (z:Array Value): ∀ m,(Builtin.zeroCells z m).toList=(List.replicate m z.toList).flatten
 | 0=>by simp[Builtin.zeroCells]
 | m+1=>by
  rw[List.replicate_succ',UZ,←zJZ z m]
  apply QN
  intro i
  simp only[Builtin.zeroCells,Array.toList_map,Array.toList_range,Uz,List.flatten_singleton]
  by_cases h1:i<m*z.size
  ·grind
  ·rw[UK (by grind)]
   simp only[Ud,List.length_range]
   by_cases h2:i<(m+1)*z.size
   ·rw[List.getElem?_range h2]
    rw[QL,Nat.one_mul] at h2
    have hm:i % z.size=i-m*z.size:=by
     have:i=(i-m*z.size)+m*z.size:=by omega
     rw[this,Nat.add_mul_mod_self_right,U2 (by omega)];omega
    grind
   grind
theorem E.rdL_replicate{w:World}{zc:List Value}{zd:τ}(h:e.rd Z w zc zd): ∀ m,e.rdL Z w (List.replicate m zc).flatten (List.replicate m zd)
 | 0=>rfl
 | m+1=>by
  rw[List.replicate_succ,List.replicate_succ,List.flatten_cons]
  exact⟨_,_,rfl,h,E.rdL_replicate h m⟩
theorem z0K (i:Nat){zd:τ}{zv:Value}{q:Option Addr}(hS:qF a n S)(hg:zR ops S g=some true)(hO:zZ A w Ls)(hr:Ls[i]?=some r)(hA:wJ e te (bl Ls++A) w r p c l)
  (hV:Vw e.n p c L k q m) (hL:List.length l=L) (hx:zL S x=some (.slice q m c')) (ht:yS P t te e.n=true) (hz:tL P te=some zv) (hzr:e.rd (bl Ls++A) w zv.cells.toList zd)
  (kk:∀ r' w',zZ A w' (Ls.set i r')->zU qd Ls w (Ls.set i r') w'->wJ e te (bl (Ls.set i r')++A) w' r' p c (zDV l k zd)->∀ a',qF a' n S->K a' w') :
  wU P ops Q ⟨none,.call { callee:=.builtin .clear,args:=[x].toArray,argTypes:=[t].toArray },ty,pos,af,g⟩ K a w:=by
 obtain⟨hu,info,zv',hi,hz',hsize,hby,hpos,hzs⟩:=zJT ht
 obtain⟨v0,v1,v2,v3⟩:=hV
 subst hL
 have hcl:zDV l k zd=l.take k.toNat++List.replicate m zd:=by unfold zDV;congr 2;omega
 by_cases hm0:m=0
 ·subst hm0
  have hll:zDV l k zd=l:=by rw[hcl,Qk (by omega)];simp
  have hself:Ls.set i r=Ls:=by
   apply QN;intro j
   by_cases hj:i=j
   ·grind
   ·grind
  refine z7N hS hg (v:=.tuple #[]) (w':=w) ?_ (kk r w (by grind) (by rw[hself];exact zU.refl _ _) (by grind))
  cases q <;> simp[execOp,resolve,invoke,builtin,hS.eval hx,Builtin.clear_,run_underlying hu]
 ·rcases hA with⟨rfl,rfl,rfl,rfl⟩ | ⟨b,o,cells,rfl,rfl,h3,h4,h5,h6⟩
  ·grind
  ·have hq:=v3 b o rfl hm0
   subst hq
   have hb:=xN hO hr (Qa.2 rfl)
   have hzl:(tL P te)=info.zero:=by simp[tL,hi]
   have hzz:zv'=zv:=by rw[hz] at hzl;rw[hz'] at hzl;exact(QH hzl).symm
   subst hzz
   have hvl:(Builtin.zeroCells zv'.cells m).toList.length=m*e.n:=by simp[size_zeroCells,hzs]
   have hfit:o+k.toNat*e.n+0+(Builtin.zeroCells zv'.cells m).toList.length≤cells.size:=by
    rw[hvl,QM,UV,←QL,v1];exact Qv (UX (QD _ h3) _) h5
   have hvs:(Builtin.zeroCells zv'.cells m).size=m*e.n:=by rw[size_zeroCells,hzs]
   have hvr:=E.rdL_replicate hzr m
   rw[←zJZ] at hvr
   have hst:=run_storeCells_at P b (o+k.toNat*e.n) te (Builtin.zeroCells zv'.cells m).toList 0 cells w hb hfit (e.rdL_one hvr)
   simp only[QM] at hst
   have hzv:∀ w',(zeroValue te).run P w'=.ok zv' w':=fun w'=>zRa hz w'
   have hother:∀ cs:Array Value,∀ k,k<w.heap.size->k∉[(b,Obj.cells cells te (0,0))].map Prod.fst->(w.setRow b cs).heap[k]?=w.heap[k]?:=fun cs k _ hk=>setRow_other w b k _ (fun e=>hk (by simp[e]))
   have hE:zU qd Ls w (Ls.set i [(b,.cells (xR cells (o+k.toNat*e.n) (Builtin.zeroCells zv'.cells m).toList) te (0,0))]) (w.setRow b (xR cells (o+k.toNat*e.n) (Builtin.zeroCells zv'.cells m).toList)) :=
    zU.set hr rfl rfl rfl (by simp) (hother _) (fun q hq=>.inl (by grind))
   refine z7N hS hg (v:=.tuple #[]) (w':=w.setRow b (xR cells (o+k.toNat*e.n) (Builtin.zeroCells zv'.cells m).toList)) ?_
    (kk [(b,.cells (xR cells (o+k.toNat*e.n) (Builtin.zeroCells zv'.cells m).toList) te (0,0))] _ ?_ hE (.inr ⟨b,o,_,rfl,rfl,by grind,h4,?_,?_⟩))
   ·have hmm:∃ m',m=m' + 1:=⟨m-1,by omega⟩
    obtain⟨m',rfl⟩:=hmm
    simp[execOp,resolve,invoke,builtin,hS.eval hx,Builtin.clear_,run_underlying hu,hzv,hst,xR]
   ·exact hO.set hr (by simp) (hother _) (fun q hq=>by simp only[Qa] at hq;subst hq;exact setRow_heap w b cells _ te (0,0) hb) (by simp) (fun q hq=>.inl (by grind))
   ·grind [xR]
   ·rw[hcl]
    have hlen:(l.take k.toNat++List.replicate m zd).length*e.n=k.toNat*e.n+m*e.n:=by
     rw[Qh,Qt,U7,QP (by omega),QL]
    have h7:=e.rdL_take k.toNat h6
    rw[Ua,QP (QD _ (by omega))] at h7
    have:((xR cells (o+k.toNat*e.n) (Builtin.zeroCells zv'.cells m).toList).toList.drop o).take (k.toNat*e.n+m*e.n)=(cells.toList.drop o).take (k.toNat*e.n)++(Builtin.zeroCells zv'.cells m).toList:=by
     show((cells.toList.take (o+k.toNat*e.n)++(Builtin.zeroCells zv'.cells m).toList++cells.toList.drop (o+k.toNat*e.n+(Builtin.zeroCells zv'.cells m).toList.length)).drop o).take _=_
     rw[←hvl]
     exact zU4 _ _ _ _ (by grind)
    rw[hlen,this]
    exact e.rdL_append (e.rdL_step (hE.step A) h7) (e.rdL_step (hE.step A) hvr)
end
end Go.GD
