/- A part. Conditions: none. -/
import Derived.Test.YtgdgcdmdogdmgaaGreatDoorMore
import Derived.Test.YtgdgcdmdogdmgaaGreatDoorLib
namespace Go.GD
open Go Go.RowKit
set_option autoImplicit false
variable {qd:Prop}
def Vw (n:Nat)(p:Option Addr)(c L:Nat)(k:Int)(p':Option Addr)(m:Nat): Prop :=
 0≤k∧k.toNat+m=L∧L≤c∧∀ b o,p=some ⟨b,o,none⟩->m≠0->p'=some ⟨b,o+k.toNat*n,none⟩
section
variable {P:Program}{ops:Array Oper}{Q:Exit->Act->World->Prop}{a:Act}{n:Nat}{S:List (Nat×Value)}{w:World}{K:Act->World->Prop}
variable {A:List Nat}{Ls:List zG}{d:Nat}{ty:TypeId}{pos:String}{af:Array Edge}{g:Option (Nat×Bool)}
variable {τ:Type}{e:E τ}{te:TypeId}{Z:List Nat}{r:zG}{p p':Option Addr}{c c' m L:Nat}{l z:List τ}{k j:Int}{u:τ}{t:TypeId}{x y lo hi:Operand}{kd:IntKind}
theorem wG.le (hA:wG e te Z w r p c l): l.length≤c:=by
 rcases hA with⟨_,_,rfl,rfl⟩ | ⟨_,_,_,_,_,h,_⟩
 ·grind
 ·exact h
theorem zVG{d:Option Tmp}{q:Unit}(hS:zY a n S)(hA:wG e te Z w r p c l)(hx:zK S x=some (.slice p l.length c))(ht:wY P t=some e.n)(hlo:zK S lo=some (.int kd k))
  (hm:wV (decide (0≤k)&&decide (k≤(l.length:Int)))=some q) :
  ∃ p' c',Vw e.n p c l.length k p' (Int.toNat ((l.length:Int)-k))∧∀ w',(execOp a.eval ⟨d,.slice t x (some lo) none none,ty,pos,af,g⟩).run P w'=.ok (.value (.slice p' (Int.toNat ((l.length:Int)-k)) c')) w':=by
 have h0:0≤k∧k≤(l.length:Int):=by
  unfold wV at hm
  split at hm
  ·grind
  ·cases hm
 have hle:=hA.le
 unfold wY at ht
 split at ht
 ·rename_i te' hu
  cases hq:P.info? te' with
  | none=>grind
  | some info =>
   have hs:info.size=e.n:=by simpa [hq] using ht
   refine⟨if c=k.toNat then p else p.map (·.add (k.toNat*e.n)),c-k.toNat,⟨h0.1,by omega,hle,fun b o hp hne=>?_⟩,fun w'=>?_⟩
   ·subst hp
    rw[Qq (by omega)]
    simp[zCj]
   ·have hb:=zJd (P:=P) (w:=w') (b:=true) (m:=l.length) (c:=c) (lo:=some (.int kd k)) (hi:=none) (i:=k) (j:=l.length) (.inr ⟨_,rfl⟩) (.inl ⟨rfl,rfl⟩) h0.1 h0.2 (by omega)
    have hsub:l.length-k.toNat=((l.length:Int)-k).toNat:=by omega
    simp[execOp,hS.eval hx,hS.eval hlo,Instr.sliceAt,Instr.slice,run_underlying hu,hb,sizeOf,typeInfo,hq,hs,hsub]
 ·cases ht
theorem zXI{d:Option Tmp}(hS:zY a n S)(hA:wG e te Z w r p c l)(hx:zK S x=some (.slice p l.length c))(ht:wY P t=some e.n)(hhi:zK S hi=some (.int kd k))(hm:sub l 0 k=some z):
  wG e te Z w r p c z∧∀ w',(execOp a.eval ⟨d,.slice t x none (some hi) none,ty,pos,af,g⟩).run P w'=.ok (.value (.slice p z.length c)) w':=by
 unfold sub at hm
 split at hm
 case isFalse=>cases hm
 rename_i h0
 obtain⟨_,h1,h2⟩:=h0
 simp only[Qf] at hm
 have hz:z=l.take k.toNat:=by rw[←hm];simp
 have hzl:z.length=k.toNat:=by rw[hz];simp;omega
 have hle:=hA.le
 refine⟨?_,fun w'=>?_⟩
 ·rcases hA with⟨rfl,rfl,rfl,rfl⟩ | ⟨b,o,cells,rfl,rfl,h3,h4,h5,h6⟩
  ·rw[hz];simpa using wG.nil
  ·refine .inr ⟨b,o,cells,rfl,rfl,by omega,h4,h5,?_⟩
   have:=e.rdL_take k.toNat h6
   rw[Uy,Uc (QF _ (by omega))] at this
   grind
 ·unfold wY at ht
  split at ht
  ·rename_i te' hu
   cases hq:P.info? te' with
   | none=>grind
   | some info =>
    have hb:=zJd (P:=P) (w:=w') (b:=true) (m:=l.length) (c:=c) (lo:=none) (hi:=some (.int kd k)) (i:=0) (j:=k) (.inl ⟨rfl,rfl⟩) (.inr ⟨_,rfl⟩) (Wc _) h1 (by omega)
    have hp:p.map (fun a:Addr=>a.add 0)=p:=by
     rcases hA with⟨_,rfl,_,_⟩ | ⟨b,o,cells,_,rfl,_⟩
     ·rfl
     ·simp[zCj]
    simp[execOp,hS.eval hx,hS.eval hhi,Instr.sliceAt,Instr.slice,run_underlying hu,hb,sizeOf,typeInfo,hq,hzl,hp]
  ·cases ht
theorem z7c (h:zYA l k j=some u): 0≤j∧zB l (k+j)=some u:=by grind [zYA]
theorem zUx{d:Option Tmp}(hS:zY a n S)(hA:wG e te Z w r p c l)(hV:Vw e.n p c L k p' m)(hL:List.length l=L)(hx:zK S x=some (.slice p' m c'))(hy:zK S y=some (.int kd j))(ht:wY P t=some e.n)(hm:zYA l k j=some u):
  zB l (k+j)=some u∧∃ b o,p=some ⟨b,o,none⟩∧∀ w',(execOp a.eval ⟨d,.indexAddr t x y,ty,pos,af,g⟩).run P w'=.ok (.value (.pointer (some ⟨b,o+(k+j).toNat*e.n,none⟩))) w':=by
 obtain⟨hj,hi⟩:=z7c hm
 obtain⟨b,o,cells,rfl,rfl,_⟩:=hA.at hi
 obtain⟨h0,_,h2⟩:=zQu hi
 obtain⟨v0,v1,v2,v3⟩:=hV
 have hp':=v3 b o rfl (by omega)
 subst hp'
 refine⟨hi,b,o,rfl,fun w'=>?_⟩
 have:=zKj (P:=P) (w:=w') (t:=t) (k:=e.n) (b:=b) (off:=o+k.toNat*e.n) (m:=m) (c:=c') (i:=j) ht hj (by omega) kd
 have hadd:o+k.toNat*e.n+j.toNat*e.n=o+(k+j).toNat*e.n:=by rw[UZ,←QP];congr 2;omega
 rw[hadd] at this
 simp[execOp,hS.eval hx,hS.eval hy,this]
theorem z6H{op:Op}{v:Value}{w':World}(hS:zY a n S)(hg:zQ ops S g=some true)(hr:(execOp a.eval ⟨none,op,ty,pos,af,g⟩).run P w=.ok (.value v) w')
  (k:∀ a',zY a' n S->K a' w'):wH P ops Q ⟨none,op,ty,pos,af,g⟩ K a w:=by
 unfold wH
 rw[Qu (zGM (o:=⟨none,op,ty,pos,af,g⟩) hS hg)]
 unfold Oper.wp
 rw[hr]
 exact k a hS
theorem zKs (z:Array Value): ∀ m,(Builtin.zeroCells z m).toList=(List.replicate m z.toList).flatten
 | 0=>by simp[Builtin.zeroCells]
 | m+1=>by
  rw[List.replicate_succ',List.flatten_append,←zKs z m]
  apply QG
  intro i
  simp only[Builtin.zeroCells,Array.toList_map,Array.toList_range,Q2,List.flatten_singleton]
  by_cases h1:i<m*z.size
  ·grind
  ·rw[Uf (by grind)]
   simp only[Um,List.length_range]
   by_cases h2:i<(m+1)*z.size
   ·rw[List.getElem?_range h2]
    rw[QP,Nat.one_mul] at h2
    have hm:i % z.size=i-m*z.size:=by
     have:i=(i-m*z.size)+m*z.size:=by omega
     rw[this,Nat.add_mul_mod_self_right,U7 (by omega)];omega
    grind
   grind
theorem E.rdL_replicate{w:World}{zc:List Value}{zd:τ}(h:e.rd Z w zc zd): ∀ m,e.rdL Z w (List.replicate m zc).flatten (List.replicate m zd)
 | 0=>rfl
 | m+1=>by
  rw[List.replicate_succ,List.replicate_succ,List.flatten_cons]
  exact⟨_,_,rfl,h,E.rdL_replicate h m⟩
theorem zZH (i:Nat){zd:τ}{zv:Value}{q:Option Addr}(hS:zY a n S)(hg:zQ ops S g=some true)(hO:zU A w Ls)(hr:Ls[i]?=some r)(hA:wG e te (bl Ls++A) w r p c l)
  (hV:Vw e.n p c L k q m) (hL:List.length l=L) (hx:zK S x=some (.slice q m c')) (ht:yW P t te e.n=true) (hz:tX P te=some zv) (hzr:e.rd (bl Ls++A) w zv.cells.toList zd)
  (kk:∀ r' w',zU A w' (Ls.set i r')->zT qd Ls w (Ls.set i r') w'->wG e te (bl (Ls.set i r')++A) w' r' p c (zDI l k zd)->∀ a',zY a' n S->K a' w') :
  wH P ops Q ⟨none,.call { callee:=.builtin .clear,args:=[x].toArray,argTypes:=[t].toArray },ty,pos,af,g⟩ K a w:=by
 obtain⟨hu,info,zv',hi,hz',hsize,hby,hpos,hzs⟩:=zLR ht
 obtain⟨v0,v1,v2,v3⟩:=hV
 subst hL
 have hcl:zDI l k zd=l.take k.toNat++List.replicate m zd:=by unfold zDI;congr 2;omega
 by_cases hm0:m=0
 ·subst hm0
  have hll:zDI l k zd=l:=by rw[hcl,Qs (by omega)];simp
  have hself:Ls.set i r=Ls:=by
   apply QG;intro j
   by_cases hj:i=j
   ·grind
   ·grind
  refine z6H hS hg (v:=.tuple #[]) (w':=w) ?_ (kk r w (by grind) (by rw[hself];exact zT.refl _ _) (by grind))
  cases q <;> simp[execOp,resolve,invoke,builtin,hS.eval hx,Builtin.clear_,run_underlying hu]
 ·rcases hA with⟨rfl,rfl,rfl,rfl⟩ | ⟨b,o,cells,rfl,rfl,h3,h4,h5,h6⟩
  ·grind
  ·have hq:=v3 b o rfl hm0
   subst hq
   have hb:=yP hO hr (Qa.2 rfl)
   have hzl:(tX P te)=info.zero:=by simp[tX,hi]
   have hzz:zv'=zv:=by rw[hz] at hzl;rw[hz'] at hzl;exact(QC hzl).symm
   subst hzz
   have hvl:(Builtin.zeroCells zv'.cells m).toList.length=m*e.n:=by simp[size_zeroCells,hzs]
   have hfit:o+k.toNat*e.n+0+(Builtin.zeroCells zv'.cells m).toList.length≤cells.size:=by
    rw[hvl,Q4,UZ,←QP,v1];exact QD (U2 (QF _ h3) _) h5
   have hvs:(Builtin.zeroCells zv'.cells m).size=m*e.n:=by rw[size_zeroCells,hzs]
   have hvr:=E.rdL_replicate hzr m
   rw[←zKs] at hvr
   have hst:=run_storeCells_at P b (o+k.toNat*e.n) te (Builtin.zeroCells zv'.cells m).toList 0 cells w hb hfit (e.rdL_one hvr)
   simp only[Q4] at hst
   have hzv:∀ w',(zeroValue te).run P w'=.ok zv' w':=fun w'=>zNd hz w'
   have hother:∀ cs:Array Value,∀ k,k<w.heap.size->k∉[(b,Obj.cells cells te (0,0))].map Prod.fst->(w.setRow b cs).heap[k]?=w.heap[k]?:=fun cs k _ hk=>setRow_other w b k _ (fun e=>hk (by simp[e]))
   have hE:zT qd Ls w (Ls.set i [(b,.cells (tI cells (o+k.toNat*e.n) (Builtin.zeroCells zv'.cells m).toList) te (0,0))]) (w.setRow b (tI cells (o+k.toNat*e.n) (Builtin.zeroCells zv'.cells m).toList)) :=
    zT.set hr rfl rfl rfl (by simp) (hother _) (fun q hq=>.inl (by grind))
   refine z6H hS hg (v:=.tuple #[]) (w':=w.setRow b (tI cells (o+k.toNat*e.n) (Builtin.zeroCells zv'.cells m).toList)) ?_
    (kk [(b,.cells (tI cells (o+k.toNat*e.n) (Builtin.zeroCells zv'.cells m).toList) te (0,0))] _ ?_ hE (.inr ⟨b,o,_,rfl,rfl,by grind,h4,?_,?_⟩))
   ·have hmm:∃ m',m=m' + 1:=⟨m-1,by omega⟩
    obtain⟨m',rfl⟩:=hmm
    simp[execOp,resolve,invoke,builtin,hS.eval hx,Builtin.clear_,run_underlying hu,hzv,hst,tI]
   ·exact hO.set hr (by simp) (hother _) (fun q hq=>by simp only[Qa] at hq;subst hq;exact setRow_heap w b cells _ te (0,0) hb) (by simp) (fun q hq=>.inl (by grind))
   ·grind [tI]
   ·rw[hcl]
    have hlen:(l.take k.toNat++List.replicate m zd).length*e.n=k.toNat*e.n+m*e.n:=by
     rw[Qh,QL,List.length_replicate,Uc (by omega),QP]
    have h7:=e.rdL_take k.toNat h6
    rw[Uy,Uc (QF _ (by omega))] at h7
    have:((tI cells (o+k.toNat*e.n) (Builtin.zeroCells zv'.cells m).toList).toList.drop o).take (k.toNat*e.n+m*e.n)=(cells.toList.drop o).take (k.toNat*e.n)++(Builtin.zeroCells zv'.cells m).toList:=by
     show((cells.toList.take (o+k.toNat*e.n)++(Builtin.zeroCells zv'.cells m).toList++cells.toList.drop (o+k.toNat*e.n+(Builtin.zeroCells zv'.cells m).toList.length)).drop o).take _=_
     rw[←hvl]
     exact zOa _ _ _ _ (by grind)
    rw[hlen,this]
    exact e.rdL_append (e.rdL_step (hE.step A) h7) (e.rdL_step (hE.step A) hvr)
end
end Go.GD
