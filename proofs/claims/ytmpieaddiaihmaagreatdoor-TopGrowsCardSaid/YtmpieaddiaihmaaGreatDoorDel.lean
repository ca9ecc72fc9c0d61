/- A part. Conditions: none. -/
import Derived.Test.YtmpieaddiaihmaaGreatDoorGro
import Derived.Lib.AppendZerosOnto
import Derived.Lib.Overlaps
namespace Go.GD
open Go Go.RowKit
set_option autoImplicit false
variable {qd:Prop}
set_option linter.unusedVariables false
section
variable {P:Program}{A:List Nat}{Ls:List zJ}{w:World}{n:Nat}{S:Sl}{a:Act}
variable {τ:Type}{e:E τ}{te:TypeId}{r:zJ}{p q:Option Addr}{c:Nat}{l z:List τ}{t:TypeId}{x:Operand}
variable {d:Option Tmp}{ty:TypeId}{pos:String}{af:Array Edge}{g:Option (Nat×Bool)}
theorem r_sl{s:Option Addr}{k0 m1 b1 b2:Nat}{lo hi mx:Option Operand}{vlo vhi vmx:Option Value}(nn:Nat)(hS:qF a n S)(hx:zL S x=some (.slice s k0 c))(ht:wP P t=some nn)(hlo:uX S lo=some vlo)(hhi:uX S hi=some vhi)(hmx:uX S mx=some vmx)
  (hb:∀ w,(Instr.sliceBounds true k0 c vlo vhi vmx).run P w=.ok (b1,b2,m1) w) (w:World) :
  (execOp a.eval ⟨d,.slice t x lo hi mx,ty,pos,af,g⟩).run P w=.ok (.value (.slice (if m1=b1 then s else s.map (·.add (b1*nn))) (b2-b1) (m1-b1))) w:=by
 unfold wP at ht
 split at ht
 ·rename_i te hu
  cases hq:P.info? te with
  | none=>grind
  | some info =>
   have hs:info.size=nn:=by simpa [hq] using ht
   simp[execOp,hS.eval hx,hS.evalO hlo,hS.evalO hhi,hS.evalO hmx,Instr.sliceAt,Instr.slice,run_underlying hu,hb,sizeOf,typeInfo,hq,hs]
 ·cases ht
theorem z9U{i b o k:Nat}{cells:Array Value}{cs:List Value}{zz L':List τ}(hO:zZ A w Ls)(hr:Ls[i]?=some [(b,.cells cells te (0,0))])(h4:c≤maxLen)(h5:o+c*e.n≤cells.size)(h3:l.length≤c)
  (h6:e.rdL (bl Ls++A) w ((cells.toList.drop o).take (l.length*e.n)) l) (hcs:e.rdL (bl Ls++A) w cs zz) (hk:k≤l.length) (hle:k+zz.length≤c) (hL:L'=l.take k++zz++l.drop (k+zz.length)) :
  zZ A (w.setRow b (cells.toList.take (o+k*e.n)++cs++cells.toList.drop (o+k*e.n+cs.length)).toArray) (Ls.set i [(b,.cells (cells.toList.take (o+k*e.n)++cs++cells.toList.drop (o+k*e.n+cs.length)).toArray te (0,0))]) ∧
  zU qd Ls w (Ls.set i [(b,.cells (cells.toList.take (o+k*e.n)++cs++cells.toList.drop (o+k*e.n+cs.length)).toArray te (0,0))]) (w.setRow b (cells.toList.take (o+k*e.n)++cs++cells.toList.drop (o+k*e.n+cs.length)).toArray) ∧
  wJ e te (bl (Ls.set i [(b,.cells (cells.toList.take (o+k*e.n)++cs++cells.toList.drop (o+k*e.n+cs.length)).toArray te (0,0))])++A) (w.setRow b (cells.toList.take (o+k*e.n)++cs++cells.toList.drop (o+k*e.n+cs.length)).toArray)
   [(b,.cells (cells.toList.take (o+k*e.n)++cs++cells.toList.drop (o+k*e.n+cs.length)).toArray te (0,0))] (some ⟨b,o,none⟩) c L':=by
 have hb:=xN hO hr (Qa.2 rfl)
 have hother:∀ cs:Array Value,∀ k,k<w.heap.size->k∉[(b,Obj.cells cells te (0,0))].map Prod.fst->(w.setRow b cs).heap[k]?=w.heap[k]?:=fun cs k _ hk=>setRow_other w b k _ (fun e=>hk (by simp[e]))
 have hE:zU qd Ls w (Ls.set i [(b,.cells (cells.toList.take (o+k*e.n)++cs++cells.toList.drop (o+k*e.n+cs.length)).toArray te (0,0))]) (w.setRow b (cells.toList.take (o+k*e.n)++cs++cells.toList.drop (o+k*e.n+cs.length)).toArray) :=
  zU.set hr rfl rfl rfl (by simp) (hother _) (fun q hq=>.inl (by grind))
 have hlen:=e.rdL_len hcs
 have hkc:k*e.n≤c*e.n:=QD _ (by omega)
 have hkz:k*e.n+cs.length≤c*e.n:=by rw[hlen,←QL];exact QD _ hle
 refine⟨hO.set hr (by simp) (hother _) (fun q hq=>by simp only[Qa] at hq;subst hq;exact setRow_heap w b cells _ te (0,0) hb) (by simp) (fun q hq=>.inl (by grind)),hE,.inr ⟨b,o,_,rfl,rfl,?_,h4,?_,?_⟩⟩
 ·grind
 ·grind
 ·have e1:=e.rdL_take k h6
  rw[Ua,QP (QD _ hk)] at e1
  have e2:=e.rdL_drop (k+zz.length) h6
  have e3:=e.rdL_append (e.rdL_append (e.rdL_step (hE.step A) e1) (e.rdL_step (hE.step A) hcs)) (e.rdL_step (hE.step A) e2)
  rw[←hL] at e3
  refine cast ?_ e3
  congr 1
  have hLl:L'.length=k+zz.length+(l.length-(k+zz.length)):=by
   subst hL;simp only[Qh,Qt,QY];omega
  have hD:c*e.n≤(cells.toList.drop o).length:=by rw[QY,UC];omega
  show _=List.take _ (List.drop o (cells.toList.take (o+k*e.n)++cs++cells.toList.drop (o+k*e.n+cs.length)))
  have hdp:=z0F (c:=cells.toList) o (k*e.n) 0 cs (by grind)
  simp only[QM] at hdp
  rw[hdp]
  have hA1:((cells.toList.drop o).take (k*e.n)++cs).length=(k+zz.length)*e.n:=by
   rw[Qh,hlen,Qt,QL,QP (Qv hkc hD)]
  rw[Wc,hA1,Qk (l:=(cells.toList.drop o).take (k*e.n)++cs) (by rw[hA1,hLl];grind),hlen,←QL,Uw,←Nat.sub_mul]
  congr 1
  rw[←Nat.sub_mul,hLl]
  congr 2;omega
theorem z6V{i b o k m:Nat}{cells:Array Value}(hO:zZ A w Ls)(hr:Ls[i]?=some [(b,.cells cells te (0,0))])(h6:e.rdL (bl Ls++A) w ((cells.toList.drop o).take (l.length*e.n)) l):
  e.rdL (bl Ls++A) w (((cells.toList.drop o).take (l.length*e.n)).drop (k*e.n)) (l.drop k)∧∀ j u,(((cells.toList.drop o).take (l.length*e.n)).drop (k*e.n))[j]?=some u->w.cell? ((⟨b,o+k*e.n,none⟩:Addr).add j)=some u:=by
 have hb:=xN hO hr (Qa.2 rfl)
 refine⟨e.rdL_drop k h6,fun j u hu=>?_⟩
 rw[tV,cell_of_row w b (o+k*e.n+j) cells te (0,0) hb]
 grind
theorem z3o{i k:Nat}{ca cb:Nat}(hO:zZ A w Ls)(hr:Ls[i]?=some r)(hA:wJ e te (bl Ls++A) w r p c l)(hk:k<l.length)(hroom:l.length+1≤c)(b o:Nat)(hp:p=some ⟨b,o,none⟩)(ht:yS P t te e.n=true)(rty:TypeId):
  ∃ r' w',(Builtin.copy_ #[t,t] rty #[.slice (some ⟨b,o+(k+1)*e.n,none⟩) (l.length-k) ca,.slice (some ⟨b,o+k*e.n,none⟩) (l.length+1-k) cb]).run P w=.ok (goInt (l.length-k:Nat)) w' ∧
   zZ A w' (Ls.set i r')∧zU qd Ls w (Ls.set i r') w'∧wJ e te (bl (Ls.set i r')++A) w' r' p c (l.take (k+1)++l.drop k):=by
 obtain⟨hu,info,zv,hi,hz',hsize,hby,hpos,hzs⟩:=zJT ht
 rcases hA with⟨rfl,rfl,rfl,rfl⟩ | ⟨b',o',cells,rfl,hp',h3,h4,h5,h6⟩
 ·cases hp
 ·subst hp
  simp only[Qd,Addr.mk.injEq] at hp'
  obtain⟨rfl,rfl,_⟩:=hp'
  have hb:=xN hO hr (Qa.2 rfl)
  obtain⟨hcs,hcell⟩:=z6V (k:=k) (m:=0) hO hr h6
  have hlen:=e.rdL_len hcs
  rw[show(l.drop k).length=l.length-k from QY] at hlen
  have hover:=z9U (qd:=qd) (k:=k+1) (L':=l.take (k+1)++l.drop k) hO hr h4 h5 h3 h6 hcs (by omega) (by grind) (by grind [List.drop_of_length_le])
  refine⟨_,_,?_,hover⟩
  have hmin:Nat.min (l.length+1-k) (l.length-k)=l.length-k:=Nat.min_eq_right (by omega)
  have hfit:o+(k+1)*e.n+0+(((cells.toList.drop o).take (l.length*e.n)).drop (k*e.n)).length≤cells.size:=by
   rw[hlen,QM,UV,←QL];exact Qv (UX (QD _ (by omega)) _) h5
  have hload:=run_loadCells_list (P:=P) w ⟨b,o+k*e.n,none⟩ _ hcell
  rw[hlen] at hload
  have hst:=run_storeCells_at P b (o+(k+1)*e.n) te _ 0 cells w hb hfit (e.rdL_one hcs)
  simp only[QM] at hst
  simp[Builtin.copy_,run_underlying hu,Builtin.lenOf,Builtin.firstCells,sizeOf,typeInfo,hi,hsize,hmin,hload,hst]
end
theorem zZL{i k:Nat}{kq kn:IntKind}{tn:TypeId}{P:Program}{A:List Nat}{Ls:List zJ}{w:World}{τ:Type}{e:E τ}{te:TypeId}{r:zJ}{p:Option Addr}{c:Nat}{l:List τ}{t:TypeId}{zd:τ}{zv:Value}{q:Nat}
  (hO:zZ A w Ls) (hr:Ls[q]?=some r) (hA:wJ e te (bl Ls++A) w r p c l) (hi0:i≤l.length) (hk:0<k) (hg:c<i+k) (hs:i+k<4294967296) (hz:tL P te=some zv) (hzr:e.rd (bl Ls++A) w zv.cells.toList zd)
  (ht:yS P t te e.n=true) (h2:P.underlying tn=some (.int kn)) (rty:TypeId) :
  ∃ r' c' w' b,(Builtin.append_ #[t,tn] rty #[.slice p i c,.int kq (k:Int)]).run P w=.ok (.slice (some ⟨b,0,none⟩) (i+k) c') w' ∧
   zZ A w' (Ls++[r'])∧zU qd Ls w (Ls++[r']) w'∧wJ e te (bl (Ls++[r'])++A) w' r' (some ⟨b,0,none⟩) c' (l.take i++List.replicate k zd):=by
 obtain⟨hu,info,zv',hi,hz',hsize,hby,hpos,hzs⟩:=zJT ht
 have hzz:zv'=zv:=by simp[tL,hi,hz'] at hz;exact hz
 subst hzz
 have hold:∃ olds,olds.length=i*info.size∧e.rdL (bl Ls++A) w olds (l.take i)∧(Builtin.firstCells info.size i (.slice p i c)).run P w.drew=.ok olds.toArray w.drew:=by
  rcases hA with⟨rfl,rfl,rfl,rfl⟩ | ⟨b,o,cells,rfl,rfl,h3,h4,h5,h6⟩
  ·have:i=0:=by simpa using hi0
   subst this
   exact⟨[],by simp,by simp[E.rdL],rfl⟩
  ·have hb:=xN hO hr (Qa.2 rfl)
   have hrd:=e.rdL_take i h6
   rw[Ua,QP (QD _ hi0)] at hrd
   have hlen:((cells.toList.drop o).take (i*e.n)).length=i*info.size:=by rw[e.rdL_len hrd,Qt,QP hi0,hsize]
   refine⟨_,hlen,hrd,?_⟩
   have:=run_firstCells_some (P:=P) w.drew info.size i ⟨b,o,none⟩ i c ((cells.toList.drop o).take (i*e.n)) hlen (fun j u hu=>by
    rw[tV]
    have hb':w.drew.heap[b]?=some (.cells cells te (0,0)):=hb
    grind [cell_of_row])
   grind
 obtain⟨olds,ho1,ho2,ho3⟩:=hold
 have hmul:info.bytes*k≤32768*4294967296:=U0 hby (by omega)
 have hbytes:(i+k)*info.bytes≤140737488355328:=by
  have:=U0 (Nat.le_of_lt hs) hby
  omega
 have hrun:=Lib.run_append_grow_zeros (P:=P) w t tn rty te info zv' kq kn hu h2 hi hz' p i c olds ho3 k hk (by omega) hg (by omega) (by grind) (growslice_fits (by omega) hbytes)
 have hge:=grownCap_ge w (i+k) c te
 have hcm:=grownCap_le_maxLen w (i+k) c te (by grind [maxLen])
 have hE:=zU.alloc (qd:=qd) (w:=w) (w':=w.drew.alloc (.cells (olds.toArray++Builtin.zeroCells zv'.cells k++Builtin.zeroCells zv'.cells (grownCap w (i+k) c te-(i+k))) te)) Ls (.cells (olds.toArray++Builtin.zeroCells zv'.cells k++Builtin.zeroCells zv'.cells (grownCap w (i+k) c te-(i+k))) te) rfl rfl rfl rfl (fun _=>UR _)
 refine⟨_,_,_,_,hrun,hO.alloc _ rfl,hE,wJ.mk0 w.heap.size _ rfl rfl ?_ hcm ?_ ?_⟩
 ·grind
 ·simp only[Wj,QS,size_zeroCells,hzs,ho1,hsize,←QL]
  grind
 ·have hrd:=e.rdL_append (e.rdL_step (hE.step A) ho2) (e.rdL_step (hE.step A) (E.rdL_replicate hzr k))
  have hl1:(l.take i++List.replicate k zd).length=i+k:=by rw[Qh,Qt,U7,QP hi0]
  grind [zJZ,size_zeroCells,Nat.add_mul]
def pV (p:Option Addr)(c j nn:Nat): Option Addr:=if c=j then p else p.map (·.add (j*nn))
theorem z0s{p:Option Addr}{c j nn b o:Nat}(hp:p=some ⟨b,o,none⟩)(h:j<c): pV p c j nn=some ⟨b,o+j*nn,none⟩:=by
 subst hp
 rw[pV,Qo (by omega)];simp[tV]
section
variable {P:Program}{n:Nat}{S:Sl}{a:Act}{p0:Option Addr}{k0 c:Nat}{t:TypeId}{x lo hi mx:Operand}{d:Option Tmp}{ty:TypeId}{pos:String}{af:Array Edge}{g:Option (Nat×Bool)}{i j k:Int}{k1 k2 k3:IntKind}
theorem r_slP (nn:Nat)(hS:qF a n S)(hx:zL S x=some (.slice p0 k0 c))(hhi:zL S hi=some (.int k1 j))(hp:(p0=none∨∃ b o,p0=some ⟨b,o,none⟩))(h0:0≤j)(hc:j≤c)(ht:wP P t=some nn)(w:World):
  (execOp a.eval ⟨d,.slice t x none (some hi) none,ty,pos,af,g⟩).run P w=.ok (.value (.slice p0 j.toNat c)) w:=by
 rw[r_sl (P:=P) (b1:=0) (b2:=j.toNat) (m1:=c) nn hS hx ht (lo:=none) rfl (by simp[uX,hhi];rfl) (mx:=none) rfl (fun w=>zJs (.inl ⟨rfl,rfl⟩) (.inr ⟨_,rfl⟩) (Wq 0) h0 hc) w]
 rcases hp with rfl | ⟨b,o,rfl⟩ <;> simp[tV]
theorem z2f (nn:Nat)(hS:qF a n S)(hx:zL S x=some (.slice p0 k0 c))(hlo:zL S lo=some (.int k1 i))(h0:0≤i)(hc:i≤k0)(hk:k0≤c)(ht:wP P t=some nn)(w:World):
  (execOp a.eval ⟨d,.slice t x (some lo) none none,ty,pos,af,g⟩).run P w=.ok (.value (.slice (pV p0 c i.toNat nn) (k0-i.toNat) (c-i.toNat))) w:=by
 rw[r_sl (P:=P) (b1:=i.toNat) (b2:=k0) (m1:=c) nn hS hx ht (by simp[uX,hlo];rfl) (hi:=none) rfl (mx:=none) rfl (fun w=>zJs (j:=(k0:Int)) (.inr ⟨_,rfl⟩) (.inl ⟨rfl,rfl⟩) h0 hc (by omega)) w]
 rfl
end
section
variable {P:Program}{n:Nat}{X:Hd qd}{ρ:Type}{Q:PQ ρ}{S:Sl}{Ls:List zJ}{F:List PP}{m:Option ρ}{os:Array Oper}{ol:List Oper}{x y:Operand}{p p':uH}
variable {d t:Nat}{ty:TypeId}{pos:String}{af:Array Edge}{g:Option (Nat×Bool)}{kd:IntKind}
variable {τ:Type}{e:E τ}{te:TypeId}{r r2:zJ}{p0 q0:Option Addr}{c c2 k0 k2:Nat}{z z2:List τ}
theorem jgd{q:Prop}(hm:∀ r,m=some r->q)(h:q->J P n X Q p S Ls F m): J P n X Q p S Ls F m :=
 ⟨fun hq r hr a w hs=>(h (hm r hr)).go hq r hr a w hs⟩
theorem jme{m2:Option ρ}(e:m=m2)(h:J P n X Q p S Ls F m2): J P n X Q p S Ls F m:=e▸h
theorem jAc (k:Nat)(hF:yE F k=Ar e te r p0 c k0 z)(h:z.length≤c->c≤maxLen->(p0=none∧z=[]∧c=0∨∃ b o,p0=some ⟨b,o,none⟩)->J P n X Q p S Ls F m): J P n X Q p S Ls F m :=
 ⟨fun hq r0 hm a w hs=>by
  have hA:(Ar e te r p0 c k0 z).h (bl Ls++X.A) w:=hF▸hs.g k
  rcases hA.1 with⟨_,h1,h2,h3⟩ | ⟨b,o,cells,_,h1,h2,h3,_⟩
  ·exact(h (by grind) (by grind) (.inl ⟨h1,h3,h2⟩)).go hq r0 hm a w hs
  ·exact(h h2 h3 (.inr ⟨b,o,h1⟩)).go hq r0 hm a w hs⟩
theorem jaG{i k:Nat}{kq kn:IntKind}{kz:Int}{tn:TypeId}(at0:At Ls p os ⟨some d,.call { callee:=.builtin .append,args:=[x,y].toArray,argTypes:=[t,tn].toArray },ty,pos,af,g⟩ p')(q f:Nat)(zd:τ)(zv:Value)(hF:yE F f=Ar e te r p0 c k0 z)(hi0:i≤z.length)(hk:0<k)(hgr:c<i+k)(hs32:i+k<4294967296)(hkz:kz=(k:Int))
  (hx:zL S x=some (.slice p0 i c)) (hy:zL S y=some (.int kq kz)) (h2:P.underlying tn=some (.int kn)) (hzr:RV e Ls F zv.cells.toList zd)
  (h:∀ r' b c',tZ Ls r' fun Ls'=>J P n X Q p' ((d,.slice (some ⟨b,0,none⟩) (i+k) c')::S) Ls' (Al e te r' (some ⟨b,0,none⟩) c' (z.take i++List.replicate k zd)::F) m) (hr:Ls[q]?=some r:=by rfl) (hz:tL P te=some zv:=by kernel_rfl) (ht:yS P t te e.n=true:=by kernel_rfl) (hd:Nat.blt d n=true:=by kernel_rfl) (hg:zR os S g=some true:=by kernel_rfl):J P n X Q p S Ls F m :=
 ⟨fun hq' r0 hm a w hs=>at0.run fun K hK=>by
  subst hkz
  have hA:(Ar e te r p0 c k0 z).h (bl Ls++X.A) w:=hF▸hs.g f
  obtain⟨r',c',w',b,hrun,h1,h2,h3⟩:=zZL (P:=P) (kq:=kq) hs.o hr hA.1 hi0 hk hgr hs32 hz (hzr _ _ hs.o hs.f) ht h2 ty
  refine xS hs.s hd hg (v:=.slice (some ⟨b,0,none⟩) (i+k) c') (w':=w') (by simp[execOp,resolve,invoke,builtin,hs.s.eval hx,hs.s.eval hy,hrun]) fun a' hS=>hK h2 ?_
  have h:=h r' b c'
  rw[zKb] at h
  exact h.go hq' r0 hm a' w' (hs.next h1 h2 hS [Ar e te _ _ _ _ _] ⟨⟨h3,rfl⟩,trivial⟩)⟩
theorem jcU{k m1 m2 ca cb b o:Nat}{q1 q2:Option Addr}(at0:At Ls p os ⟨some d,.call { callee:=.builtin .copy,args:=[x,y].toArray,argTypes:=[t,t].toArray },ty,pos,af,g⟩ p')(i f:Nat)(hF:yE F f=Ar e te r p0 c k0 z)(hp:p0=some ⟨b,o,none⟩)(hk:k<z.length)(hroom:z.length+1≤c)
  (hx:zL S x=some (.slice q1 m1 ca)) (hy:zL S y=some (.slice q2 m2 cb)) (hq1:q1=some ⟨b,o+(k+1)*e.n,none⟩) (hq2:q2=some ⟨b,o+k*e.n,none⟩) (hm1:m1=z.length-k) (hm2:m2=z.length+1-k)
  (h:∀ r',uT Ls i r' fun Ls'=>J P n X Q p' ((d,vi ((z.length-k:Nat):Int))::S) Ls' (Al e te r' p0 c (z.take (k+1)++z.drop k)::F) m) (hr:Ls[i]?=some r:=by rfl) (ht:yS P t te e.n=true:=by kernel_rfl) (hd:Nat.blt d n=true:=by kernel_rfl) (hg:zR os S g=some true:=by kernel_rfl):J P n X Q p S Ls F m :=
 ⟨fun hq' r0 hm a w hs=>at0.run fun K hK=>by
  subst hq1 hq2 hm1 hm2
  have hA:(Ar e te r p0 c k0 z).h (bl Ls++X.A) w:=hF▸hs.g f
  obtain⟨r',w',hrun,h1,h2,h3⟩:=z3o (P:=P) (ca:=ca) (cb:=cb) hs.o hr hA.1 hk hroom b o hp ht ty
  refine xS hs.s hd hg (v:=vi ((z.length-k:Nat):Int)) (w':=w') (by simp[execOp,resolve,invoke,builtin,hs.s.eval hx,hs.s.eval hy,hrun,goInt]) fun a' hS=>hK h2 ?_
  have h:=h r'
  rw[zJL] at h
  exact h.go hq' r0 hm a' w' (hs.next h1 h2 hS [Ar e te _ _ _ _ _] ⟨⟨h3,rfl⟩,trivial⟩)⟩
theorem jov{fo m2 ca cb b o o0:Nat}{q2:Option Addr}{fn:Func}{tb:TypeId}(i j f f2:Nat)(hij:i≠j)(hne2:z2≠[])(hF:yE F f=Ar e te r p0 c k0 z)(hF2:yE F f2=Ar e te r2 q0 c2 k2 z2)(hp:p0=some ⟨b,o0,none⟩)(hc:0<c)
  (hx:zL S x=some (.slice q0 k2 ca)) (hy:zL S y=some (.slice q2 m2 cb)) (hq2:q2=some ⟨b,o,none⟩) (hf:P.funcs[fo]?=some fn) (he:Extern.find fn=some (Extern.SlicesOverlaps.overlaps #[t,t] #[tb]))
  (h:J P n X Q (.ops os ol) ((d,vb false)::S) Ls F m) (hr:Ls[i]?=some r:=by rfl) (hr2:Ls[j]?=some r2:=by rfl) (hn:(fn.name=="runtime.NumGoroutine")=false:=by kernel_rfl) (hb:fn.body.isNone=true:=by kernel_rfl) (hnx:Extern.findNext fn=none:=by kernel_rfl)
  (ht:yS P t te e.n=true:=by kernel_rfl) (hd:Nat.blt d n=true:=by kernel_rfl) (hg:zR os S g=some true:=by kernel_rfl):J P n X Q (.ops os (⟨some d,.call { callee:=.value (.func fo),args:=[x,y].toArray,argTypes:=[t,t].toArray },ty,pos,af,g⟩::ol)) S Ls F m :=
 ⟨fun hq' r0 hm a w hs=>by
  subst hq2
  obtain⟨hu,info,zv,hi,hz',hsize,hby,hpos,hzs⟩:=zJT ht
  have hA:(Ar e te r p0 c k0 z).h (bl Ls++X.A) w:=hF▸hs.g f
  have hB:(Ar e te r2 q0 c2 k2 z2).h (bl Ls++X.A) w:=hF2▸hs.g f2
  have hov:(callFunc fo #[.slice q0 k2 ca,.slice (some ⟨b,o,none⟩) m2 cb]).run P w=.ok (.value (.bool false)) w:=by
   rw[run_callFunc_extern hf hn hb hnx he]
   have hz:∀ w,(Go.sizeOf te).run P w=.ok info.size w:=fun w=>by simp[sizeOf,typeInfo,hi]
   rcases hB.1 with⟨_,rfl,_,rfl⟩ | ⟨b2,o2,cells2,rfl,rfl,g3,g4,g5,g6⟩
   ·grind
   ·rcases hA.1 with⟨_,h1,_⟩ | ⟨b',o',cells,rfl,hp',h3,h4,h5,h6⟩
    ·grind
    ·rw[hp] at hp'
     simp only[Qd,Addr.mk.injEq] at hp'
     obtain⟨rfl,_⟩:=hp'
     have hb1:=xN hs.o hr (Qa.2 rfl)
     have hb2:=xN hs.o hr2 (Qa.2 rfl)
     have hne:b2≠b:=fun h=>zEV hs.o.nodup hr2 hr (fun h=>hij h.symm) _ (Qa.2 rfl) _ (Qa.2 rfl) h
     rw[Lib.run_overlaps_apart w t tb te hu info.size hz ⟨b2,o2,none⟩ ⟨b,o,none⟩ k2 ca m2 cb hne te te cells2.size cells.size (by simp[World.shape?,hb2]) (by simp[World.shape?,hb1]) (by grind [Nat.mul_ne_zero]) (by simp[World.frozen?,hb2]) (by simp[World.frozen?,hb2])]
     rfl
  refine zOm (v:=vb false) (w':=w) hg hs.s ?_ (h.go hq' r0 hm _ w (hs.slot (hs.s.put hd _)))
  have hcal:=hs.s.eval (x:=.func fo) (v:=.func (.func fo) #[] #[]) rfl
  simp[execOp,resolve,Deferred.ofValue,invoke,hs.s.eval hx,hs.s.eval hy,hcal,hov]⟩
end
theorem insM_ok{α:Type}{l z:List α}{i:Int}{r:List α}(h:insM l i z=some r): z.length=1∧0≤i∧i≤l.length∧l.length+1<4294967296:=by grind [insM]
theorem z2a{α:Type}{l z:List α}{i:Int}(h:z.length=1∧0≤i∧i≤l.length∧l.length+1<4294967296): insM l i z=some (l.take i.toNat++z++l.drop i.toNat):=Qp h
theorem ins_up{α:Type}{l z:List α}{i:Nat}(h1:z.length=1)(h:i<l.length): xC (l.take (i+1)++l.drop i) (i:Int) z=l.take i++z++l.drop i:=by
 unfold xC
 rw[Qi,h1]
 have h2:(l.take (i+1)).length=i+1:=by simp;omega
 have e1:(l.take (i+1)++l.drop i).take i=l.take i:=by rw[QR (by omega),Ua,QP (by omega)]
 have e2:(l.take (i+1)++l.drop i).drop (i+1)=l.drop i:=by
  have:=List.drop_left (l₁:=l.take (i+1)) (l₂:=l.drop i)
  rwa [h2] at this
 have e3:z.take ((l.take (i+1)++l.drop i).length-i)=z:=Qk (by grind)
 grind
theorem ins_new{α:Type}{l z:List α}{i:Nat}{zd:α}(h1:z.length=1)(h:i≤l.length): xC (xC (l.take i++List.replicate (l.length+1-i) zd) (i:Int) z) ((i+1:Nat):Int) (l.drop i)=l.take i++z++l.drop i:=by
 have h2:(l.take i).length=i:=by simp;omega
 have e1:xC (l.take i++List.replicate (l.length+1-i) zd) (i:Int) z=l.take i++z++List.replicate (l.length-i) zd:=by
  unfold xC
  rw[Qi,h1,QR (by omega),Qk (by omega),Qk (l:=z) (by simp;omega),UI,h2,QQ (by omega),QI,List.drop_replicate]
  congr 2;omega
 grind [xC,Int.toNat_natCast]
section
variable {P:Program}{n:Nat}{X:Hd qd}{ρ:Type}{Q:PQ ρ}{S:Sl}{Ls:List zJ}{F:List PP}{m:Option ρ}{p:uH}{τ:Type}{e:E τ}{te:TypeId}{r:zJ}{p0:Option Addr}{c k0:Nat}{z z2:List τ}
theorem jAb (k:Nat)(hF:yE F k=Ar e te r p0 c k0 z)(hne:z≠[])(h:∀ b o,p0=some ⟨b,o,none⟩->J P n X Q p S Ls F m): J P n X Q p S Ls F m :=
 jAc k hF fun _ _ hp=>by
  grind
theorem gE (h:wL Ls F (Ar e te r p0 c k0 z))(hz:z2=z): wL Ls F (Ar e te r p0 c (List.length z2) z2):=by
 subst hz
 exact fun A w hO hF=>⟨(h A w hO hF).1,rfl⟩
end
section
variable {α:Type}{l z:List α}{i j:Int}{c nn:Nat}{p:Option Addr}{zd:α}
theorem hpp (h:p=none∧l=[]∧c=0∨∃ b o,p=some ⟨b,o,none⟩): p=none∨∃ b o,p=some ⟨b,o,none⟩:=by grind
theorem vwP{L m:Nat}(hp:p=none∨∃ b o,p=some ⟨b,o,none⟩)(h0:0≤j)(hL:j≤(L:Int))(hc:L≤c)(hm:m=L-j.toNat): Vw nn p c L j (pV p c j.toNat nn) m :=
 by grind [z0s,Vw]
theorem w64s{x:Int}(h:0≤x)(h2:x<8589934592): zF x=x:=by
 show IntKind.i64.wrap x=x
 rw[IntKind.wrap_i64];omega
abbrev InsH (l z:List α)(i:Int): Prop:=z.length=1∧0≤i∧i≤l.length∧l.length+1<4294967296
variable (hc:InsH l z i)
include hc
theorem ins_z:z≠[]:=by grind
theorem z3E:zF (i+1)=i+1:=w64s (by grind) (by grind)
theorem z8A:zF ((l.length:Int)+1)=(l.length:Int)+1:=w64s (by omega) (by grind)
theorem ins_end (hb:(i==((l.length:Nat):Int))=true): insM l i z=(qD l z).bind some:=by
 rw[Q9] at hb
 rw[z2a hc,qD,Qp (by grind)]
 subst hb
 simp
theorem z9i (hg:decide ((c:Int)<zF ((l.length:Int)+1))=true): c<i.toNat+(l.length+1-i.toNat):=by
 rw[z8A hc,Qy] at hg
 grind
theorem ins_k:zF (zF ((l.length:Int)+1)-i)=((l.length+1-i.toNat:Nat):Int):=by
 rw[z8A hc,w64s] <;> (grind)
theorem ins_len:(l.take i.toNat++List.replicate (l.length+1-i.toNat) zd).length=l.length+1:=by grind
theorem ins_l2 (h:(l.take i.toNat++List.replicate (l.length+1-i.toNat) zd).length≤c): i.toNat+(l.length+1-i.toNat)≤c:=by grind
theorem ins_l3:i≤(((l.take i.toNat++List.replicate (l.length+1-i.toNat) zd).length:Nat):Int):=by grind
theorem ins_l4:i.toNat+(l.length+1-i.toNat)-i.toNat=(l.take i.toNat++List.replicate (l.length+1-i.toNat) zd).length-i.toNat:=by grind
theorem z5D:0≤zF (i+1):=by rw[z3E hc];grind
theorem ins_w1:zF (i+1)≤((i.toNat+(l.length+1-i.toNat):Nat):Int):=by rw[z3E hc];grind
theorem z8X:zF (i+1)≤((l.length+1:Nat):Int):=by rw[z3E hc];grind
theorem ins_vw (hp:p=none∨∃ b o,p=some ⟨b,o,none⟩)(h:(l.take i.toNat++List.replicate (l.length+1-i.toNat) zd).length≤c): Vw nn p c (l.take i.toNat++List.replicate (l.length+1-i.toNat) zd).length (zF (i+1)) (pV p c (zF (i+1)).toNat nn) (i.toNat+(l.length+1-i.toNat)-(zF (i+1)).toNat) :=
 vwP hp (z5D hc) (by rw[ins_len hc];exact z8X hc) h (by grind)
theorem ins_hd:Value.slice p (i.toNat+(l.length+1-i.toNat)) c=sv p (l.take i.toNat++z++l.drop i.toNat) c:=by grind
theorem ins_hd2:Value.slice p (l.length+1) c=sv p (l.take i.toNat++z++l.drop i.toNat) c:=by grind
theorem ins_fin:l.take i.toNat++z++l.drop i.toNat=xC (xC (l.take i.toNat++List.replicate (l.length+1-i.toNat) zd) i z) (zF (i+1)) (l.drop i.toNat):=by
 have h:=hc.2
 have h1:i=(i.toNat:Int):=by omega
 have h2:zF (i+1)=((i.toNat+1:Nat):Int):=by rw[z3E hc];omega
 rw[h2]
 grind [ins_new]
theorem ins_ne (hb:(i==((l.length:Nat):Int))=false): l≠[]:=by grind
theorem z8S (hb:(i==((l.length:Nat):Int))=false): i.toNat<l.length:=by grind
theorem ins_v0:0≤zF ((l.length:Int)+1):=by rw[z8A hc];omega
theorem ins_v1 (hg:decide ((c:Int)<zF ((l.length:Int)+1))=false): zF ((l.length:Int)+1)≤c:=by
 have _:=hc;rw[QX] at hg;omega
theorem zMc (hg:decide ((c:Int)<zF ((l.length:Int)+1))=false): l.length+1≤c:=by
 grind [z8A]
theorem ins_v2:Value.slice p (zF ((l.length:Int)+1)).toNat c=Value.slice p (l.length+1) c:=by
 rw[z8A hc];congr 1
theorem ins_c0 (hg:decide ((c:Int)<zF ((l.length:Int)+1))=false): 0<c:=by have:=zMc hc hg;omega
theorem ins_w3 (hb:(i==((l.length:Nat):Int))=false)(hg:decide ((c:Int)<zF ((l.length:Int)+1))=false): (zF (i+1)).toNat<c:=by
 have h1:=z8S hc hb;have h2:=zMc hc hg;have:=hc.2
 rw[z3E hc];omega
theorem ins_q2 (hb:(i==((l.length:Nat):Int))=false)(hg:decide ((c:Int)<zF ((l.length:Int)+1))=false): i.toNat<c:=by
 have h1:=z8S hc hb;have h2:=zMc hc hg;omega
theorem ins_q1{b o:Nat}(hb:(i==((l.length:Nat):Int))=false)(hg:decide ((c:Int)<zF ((l.length:Int)+1))=false)(hp:p=some ⟨b,o,none⟩): pV p c (zF (i+1)).toNat nn=some ⟨b,o+(i.toNat+1)*nn,none⟩:=by
 rw[z0s hp (ins_w3 hc hb hg),z3E hc]
 grind
theorem ins_m1:l.length+1-(zF (i+1)).toNat=l.length-i.toNat:=by
 rw[z3E hc];grind
theorem ins_upl (hb:(i==((l.length:Nat):Int))=false): (l.take (i.toNat+1)++l.drop i.toNat).length=l.length+1:=by grind
theorem ins_x1 (hb:(i==((l.length:Nat):Int))=false): i≤(((l.take (i.toNat+1)++l.drop i.toNat).length:Nat):Int):=by grind
theorem ins_x2 (hb:(i==((l.length:Nat):Int))=false)(hg:decide ((c:Int)<zF ((l.length:Int)+1))=false): (l.take (i.toNat+1)++l.drop i.toNat).length≤c:=by
 rw[ins_upl hc hb];exact zMc hc hg
theorem ins_x3 (hb:(i==((l.length:Nat):Int))=false): l.length+1-i.toNat=(l.take (i.toNat+1)++l.drop i.toNat).length-i.toNat:=by grind
theorem z8g (hb:(i==((l.length:Nat):Int))=false): l.take i.toNat++z++l.drop i.toNat=xC (l.take (i.toNat+1)++l.drop i.toNat) i z:=by
 have h:=hc.2
 have h1:i=(i.toNat:Int):=by omega
 grind [ins_up]
end
end Go.GD
