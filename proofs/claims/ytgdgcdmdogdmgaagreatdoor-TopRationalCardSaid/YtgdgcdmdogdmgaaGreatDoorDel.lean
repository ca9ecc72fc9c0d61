/- A part. Conditions: none. -/
import Derived.Test.YtgdgcdmdogdmgaaGreatDoorGro
import Derived.Lib.AppendZerosOnto
import Derived.Lib.Overlaps
namespace Go.GD
open Go Go.RowKit
set_option autoImplicit false
variable {qd:Prop}
set_option linter.unusedVariables false
section
variable {P:Program}{A:List Nat}{Ls:List zG}{w:World}{n:Nat}{S:Sl}{a:Act}
variable {τ:Type}{e:E τ}{te:TypeId}{r:zG}{p q:Option Addr}{c:Nat}{l z:List τ}{t:TypeId}{x:Operand}
variable {d:Option Tmp}{ty:TypeId}{pos:String}{af:Array Edge}{g:Option (Nat×Bool)}
theorem z3B{k1 k2 k3:IntKind}{m c:Nat}{i j k:Int}(h0:0≤i)(hij:i≤j)(hjk:j≤k)(hkc:k≤c):
  (Instr.sliceBounds true m c (some (.int k1 i)) (some (.int k2 j)) (some (.int k3 k))).run P w=.ok (i.toNat,j.toNat,k.toNat) w:=by
 have h1:0≤j:=by omega
 have h2:0≤k:=by omega
 have h3:j≤max k 0:=by omega
 have h4:i≤max j 0:=by omega
 simp[Instr.sliceBounds,Instr.sliceBound,asIntOf,h0,h1,h2,hkc,h3,h4]
theorem r_sl{s:Option Addr}{k0 m1 b1 b2:Nat}{lo hi mx:Option Operand}{vlo vhi vmx:Option Value}(nn:Nat)(hS:zY a n S)(hx:zK S x=some (.slice s k0 c))(ht:wY P t=some nn)(hlo:uR S lo=some vlo)(hhi:uR S hi=some vhi)(hmx:uR S mx=some vmx)
  (hb:∀ w,(Instr.sliceBounds true k0 c vlo vhi vmx).run P w=.ok (b1,b2,m1) w) (w:World) :
  (execOp a.eval ⟨d,.slice t x lo hi mx,ty,pos,af,g⟩).run P w=.ok (.value (.slice (if m1=b1 then s else s.map (·.add (b1*nn))) (b2-b1) (m1-b1))) w:=by
 unfold wY at ht
 split at ht
 ·rename_i te hu
  cases hq:P.info? te with
  | none=>grind
  | some info =>
   have hs:info.size=nn:=by simpa [hq] using ht
   simp[execOp,hS.eval hx,hS.evalO hlo,hS.evalO hhi,hS.evalO hmx,Instr.sliceAt,Instr.slice,run_underlying hu,hb,sizeOf,typeInfo,hq,hs]
 ·cases ht
theorem zW8{i:Nat}(hr:Ls[i]?=some r): Ls.set i r=Ls:=by
 apply QG;grind
theorem z8C{i b o k:Nat}{cells:Array Value}{cs:List Value}{zz L':List τ}(hO:zU A w Ls)(hr:Ls[i]?=some [(b,.cells cells te (0,0))])(h4:c≤maxLen)(h5:o+c*e.n≤cells.size)(h3:l.length≤c)
  (h6:e.rdL (bl Ls++A) w ((cells.toList.drop o).take (l.length*e.n)) l) (hcs:e.rdL (bl Ls++A) w cs zz) (hk:k≤l.length) (hle:k+zz.length≤c) (hL:L'=l.take k++zz++l.drop (k+zz.length)) :
  zU A (w.setRow b (cells.toList.take (o+k*e.n)++cs++cells.toList.drop (o+k*e.n+cs.length)).toArray) (Ls.set i [(b,.cells (cells.toList.take (o+k*e.n)++cs++cells.toList.drop (o+k*e.n+cs.length)).toArray te (0,0))]) ∧
  zT qd Ls w (Ls.set i [(b,.cells (cells.toList.take (o+k*e.n)++cs++cells.toList.drop (o+k*e.n+cs.length)).toArray te (0,0))]) (w.setRow b (cells.toList.take (o+k*e.n)++cs++cells.toList.drop (o+k*e.n+cs.length)).toArray) ∧
  wG e te (bl (Ls.set i [(b,.cells (cells.toList.take (o+k*e.n)++cs++cells.toList.drop (o+k*e.n+cs.length)).toArray te (0,0))])++A) (w.setRow b (cells.toList.take (o+k*e.n)++cs++cells.toList.drop (o+k*e.n+cs.length)).toArray)
   [(b,.cells (cells.toList.take (o+k*e.n)++cs++cells.toList.drop (o+k*e.n+cs.length)).toArray te (0,0))] (some ⟨b,o,none⟩) c L':=by
 have hb:=yP hO hr (Qa.2 rfl)
 have hother:∀ cs:Array Value,∀ k,k<w.heap.size->k∉[(b,Obj.cells cells te (0,0))].map Prod.fst->(w.setRow b cs).heap[k]?=w.heap[k]?:=fun cs k _ hk=>setRow_other w b k _ (fun e=>hk (by simp[e]))
 have hE:zT qd Ls w (Ls.set i [(b,.cells (cells.toList.take (o+k*e.n)++cs++cells.toList.drop (o+k*e.n+cs.length)).toArray te (0,0))]) (w.setRow b (cells.toList.take (o+k*e.n)++cs++cells.toList.drop (o+k*e.n+cs.length)).toArray) :=
  zT.set hr rfl rfl rfl (by simp) (hother _) (fun q hq=>.inl (by grind))
 have hlen:=e.rdL_len hcs
 have hkc:k*e.n≤c*e.n:=QF _ (by omega)
 have hkz:k*e.n+cs.length≤c*e.n:=by rw[hlen,←QP];exact QF _ hle
 refine⟨hO.set hr (by simp) (hother _) (fun q hq=>by simp only[Qa] at hq;subst hq;exact setRow_heap w b cells _ te (0,0) hb) (by simp) (fun q hq=>.inl (by grind)),hE,.inr ⟨b,o,_,rfl,rfl,?_,h4,?_,?_⟩⟩
 ·grind
 ·grind
 ·have e1:=e.rdL_take k h6
  rw[Uy,Uc (QF _ hk)] at e1
  have e2:=e.rdL_drop (k+zz.length) h6
  have e3:=e.rdL_append (e.rdL_append (e.rdL_step (hE.step A) e1) (e.rdL_step (hE.step A) hcs)) (e.rdL_step (hE.step A) e2)
  rw[←hL] at e3
  refine cast ?_ e3
  congr 1
  have hLl:L'.length=k+zz.length+(l.length-(k+zz.length)):=by
   subst hL;simp only[Qh,QL,Uj];omega
  have hD:c*e.n≤(cells.toList.drop o).length:=by rw[Uj,UK];omega
  show _=List.take _ (List.drop o (cells.toList.take (o+k*e.n)++cs++cells.toList.drop (o+k*e.n+cs.length)))
  have hdp:=zZx (c:=cells.toList) o (k*e.n) 0 cs (by grind)
  simp only[Q4] at hdp
  rw[hdp]
  have hA1:((cells.toList.drop o).take (k*e.n)++cs).length=(k+zz.length)*e.n:=by
   rw[Qh,hlen,QL,QP,Uc (QD hkc hD)]
  rw[Wj,hA1,Qs (l:=(cells.toList.drop o).take (k*e.n)++cs) (by rw[hA1,hLl];grind),hlen,←QP,US,←Nat.sub_mul]
  congr 1
  rw[←Nat.sub_mul,hLl]
  congr 2;omega
theorem z4Q{i b o k m:Nat}{cells:Array Value}(hO:zU A w Ls)(hr:Ls[i]?=some [(b,.cells cells te (0,0))])(h6:e.rdL (bl Ls++A) w ((cells.toList.drop o).take (l.length*e.n)) l):
  e.rdL (bl Ls++A) w (((cells.toList.drop o).take (l.length*e.n)).drop (k*e.n)) (l.drop k)∧∀ j u,(((cells.toList.drop o).take (l.length*e.n)).drop (k*e.n))[j]?=some u->w.cell? ((⟨b,o+k*e.n,none⟩:Addr).add j)=some u:=by
 have hb:=yP hO hr (Qa.2 rfl)
 refine⟨e.rdL_drop k h6,fun j u hu=>?_⟩
 rw[zCj,cell_of_row w b (o+k*e.n+j) cells te (0,0) hb]
 grind
theorem zUW{i j k c2:Nat}(hO:zU A w Ls)(hr:Ls[i]?=some r)(hA:wG e te (bl Ls++A) w r p c l)(hjk:j≤k)(hk:k≤l.length)(hq:∀ b o,p=some ⟨b,o,none⟩->k<l.length->q=some ⟨b,o+k*e.n,none⟩)(ht:yW P t te e.n=true)(rty:TypeId):
  ∃ r' w',(Builtin.append_ #[t,t] rty #[.slice p j c,.slice q (l.length-k) c2]).run P w=.ok (.slice p (j+(l.length-k)) c) w' ∧
   zU A w' (Ls.set i r')∧zT qd Ls w (Ls.set i r') w'∧wG e te (bl (Ls.set i r')++A) w' r' p c (l.take j++l.drop k++l.drop (j+(l.length-k))):=by
 obtain⟨hu,info,zv,hi,hz',hsize,hby,hpos,hzs⟩:=zLR ht
 have hle:=hA.le
 by_cases hn0:l.length-k=0
 ·have hll:l.take j++l.drop k++l.drop (j+(l.length-k))=l:=by
   rw[hn0,QZ (by omega:l.length≤k)];simp
  refine⟨r,w,?_,by rw[zW8 hr];exact hO,by rw[zW8 hr];exact zT.refl _ _,by rw[zW8 hr,hll];exact hA⟩
  grind [zMS]
 ·rcases hA with⟨rfl,rfl,rfl,rfl⟩ | ⟨b,o,cells,rfl,rfl,h3,h4,h5,h6⟩
  ·simp at hn0
  ·have hb:=yP hO hr (Qa.2 rfl)
   rw[hq b o rfl (by omega)]
   obtain⟨hcs,hcell⟩:=z4Q (k:=k) (m:=0) hO hr h6
   have hlen:=e.rdL_len hcs
   rw[show(l.drop k).length=l.length-k from Uj] at hlen
   have hover:=z8C (qd:=qd) (k:=j) (L':=l.take j++l.drop k++l.drop (j+(l.length-k))) hO hr h4 h5 h3 h6 hcs (by omega) (by grind) (by grind)
   refine⟨_,_,?_,hover⟩
   have hfit:o+j*info.size+(((cells.toList.drop o).take (l.length*e.n)).drop (k*e.n)).length≤cells.size:=by
    rw[hlen,hsize,UZ,←QP];exact QD (U2 (QF _ (by omega)) _) h5
   have:=zKN (P:=P) w t rty te info hu hi b o j c cells hb ⟨b,o+k*e.n,none⟩ (l.length-k) c2 _ (by grind) hcell (e.rdL_one hcs) (by omega) hfit
   grind
end
def pV (p:Option Addr)(c j nn:Nat): Option Addr:=if c=j then p else p.map (·.add (j*nn))
theorem z74{p:Option Addr}{c j nn b o:Nat}(hp:p=some ⟨b,o,none⟩)(h:j<c): pV p c j nn=some ⟨b,o+j*nn,none⟩:=by
 subst hp
 rw[pV,Qq (by omega)];simp[zCj]
section
variable {P:Program}{n:Nat}{S:Sl}{a:Act}{p0:Option Addr}{k0 c:Nat}{t:TypeId}{x lo hi mx:Operand}{d:Option Tmp}{ty:TypeId}{pos:String}{af:Array Edge}{g:Option (Nat×Bool)}{i j k:Int}{k1 k2 k3:IntKind}
theorem r_slP (nn:Nat)(hS:zY a n S)(hx:zK S x=some (.slice p0 k0 c))(hhi:zK S hi=some (.int k1 j))(hp:(p0=none∨∃ b o,p0=some ⟨b,o,none⟩))(h0:0≤j)(hc:j≤c)(ht:wY P t=some nn)(w:World):
  (execOp a.eval ⟨d,.slice t x none (some hi) none,ty,pos,af,g⟩).run P w=.ok (.value (.slice p0 j.toNat c)) w:=by
 rw[r_sl (P:=P) (b1:=0) (b2:=j.toNat) (m1:=c) nn hS hx ht (lo:=none) rfl (by simp[uR,hhi];rfl) (mx:=none) rfl (fun w=>zJd (.inl ⟨rfl,rfl⟩) (.inr ⟨_,rfl⟩) (Wc 0) h0 hc) w]
 rcases hp with rfl | ⟨b,o,rfl⟩ <;> simp[zCj]
theorem r_slV (nn:Nat)(hS:zY a n S)(hx:zK S x=some (.slice p0 k0 c))(hlo:zK S lo=some (.int k1 i))(h0:0≤i)(hc:i≤k0)(hk:k0≤c)(ht:wY P t=some nn)(w:World):
  (execOp a.eval ⟨d,.slice t x (some lo) none none,ty,pos,af,g⟩).run P w=.ok (.value (.slice (pV p0 c i.toNat nn) (k0-i.toNat) (c-i.toNat))) w:=by
 rw[r_sl (P:=P) (b1:=i.toNat) (b2:=k0) (m1:=c) nn hS hx ht (by simp[uR,hlo];rfl) (hi:=none) rfl (mx:=none) rfl (fun w=>zJd (j:=(k0:Int)) (.inr ⟨_,rfl⟩) (.inl ⟨rfl,rfl⟩) h0 hc (by omega)) w]
 rfl
theorem r_slW (nn:Nat)(hS:zY a n S)(hx:zK S x=some (.slice p0 k0 c))(hlo:zK S lo=some (.int k1 i))(hhi:zK S hi=some (.int k2 j))(h0:0≤i)(hc:i≤j)(hk:j≤c)(ht:wY P t=some nn)(w:World):
  (execOp a.eval ⟨d,.slice t x (some lo) (some hi) none,ty,pos,af,g⟩).run P w=.ok (.value (.slice (pV p0 c i.toNat nn) (j.toNat-i.toNat) (c-i.toNat))) w:=by
 rw[r_sl (P:=P) (b1:=i.toNat) (b2:=j.toNat) (m1:=c) nn hS hx ht (by simp[uR,hlo];rfl) (by simp[uR,hhi];rfl) (mx:=none) rfl (fun w=>zJd (.inr ⟨_,rfl⟩) (.inr ⟨_,rfl⟩) h0 hc hk) w]
 rfl
theorem r_slC (nn:Nat)(hS:zY a n S)(hx:zK S x=some (.slice p0 k0 c))(hlo:zK S lo=some (.int k1 i))(hhi:zK S hi=some (.int k2 j))(hmx:zK S mx=some (.int k3 k))(h0:0≤i)(hc:i≤j)(hk:j≤k)(hkc:k≤c)(ht:wY P t=some nn)(w:World):
  (execOp a.eval ⟨d,.slice t x (some lo) (some hi) (some mx),ty,pos,af,g⟩).run P w=.ok (.value (.slice (if k.toNat=i.toNat then p0 else p0.map (·.add (i.toNat*nn))) (j.toNat-i.toNat) (k.toNat-i.toNat))) w :=
 r_sl (P:=P) nn hS hx ht (by simp[uR,hlo];rfl) (by simp[uR,hhi];rfl) (by simp[uR,hmx];rfl) (fun w=>z3B h0 hc hk hkc) w
end
section
variable {P:Program}{n:Nat}{X:Hd qd}{ρ:Type}{Q:PQ ρ}{S:Sl}{Ls:List zG}{F:List PP}{m:Option ρ}{os:Array Oper}{ol:List Oper}{x y:Operand}{p p':yO}
variable {d t:Nat}{ty:TypeId}{pos:String}{af:Array Edge}{g:Option (Nat×Bool)}{kd:IntKind}
variable {τ:Type}{e:E τ}{te:TypeId}{r r2:zG}{p0 q0:Option Addr}{c c2 k0 k2:Nat}{z z2:List τ}
theorem jgd{q:Prop}(hm:∀ r,m=some r->q)(h:q->J P n X Q p S Ls F m): J P n X Q p S Ls F m :=
 ⟨fun hq r hr a w hs=>(h (hm r hr)).go hq r hr a w hs⟩
theorem jme{m2:Option ρ}(e:m=m2)(h:J P n X Q p S Ls F m2): J P n X Q p S Ls F m:=e▸h
theorem jAc (k:Nat)(hF:vW F k=Ar e te r p0 c k0 z)(h:z.length≤c->c≤maxLen->(p0=none∧z=[]∧c=0∨∃ b o,p0=some ⟨b,o,none⟩)->J P n X Q p S Ls F m): J P n X Q p S Ls F m :=
 ⟨fun hq r0 hm a w hs=>by
  have hA:(Ar e te r p0 c k0 z).h (bl Ls++X.A) w:=hF▸hs.g k
  rcases hA.1 with⟨_,h1,h2,h3⟩ | ⟨b,o,cells,_,h1,h2,h3,_⟩
  ·exact(h (by grind) (by grind) (.inl ⟨h1,h3,h2⟩)).go hq r0 hm a w hs
  ·exact(h h2 h3 (.inr ⟨b,o,h1⟩)).go hq r0 hm a w hs⟩
theorem jaD{j k m2:Nat}(at0:At Ls p os ⟨some d,.call { callee:=.builtin .append,args:=[x,y].toArray,argTypes:=[t,t].toArray },ty,pos,af,g⟩ p')(i f:Nat)(hF:vW F f=Ar e te r p0 c k0 z)(hjk:j≤k)(hk:k≤z.length)(hq:∀ b o,p0=some ⟨b,o,none⟩->k<z.length->q0=some ⟨b,o+k*e.n,none⟩)(hx:zK S x=some (.slice p0 j c))(hy:zK S y=some (.slice q0 m2 c2))(hm2:m2=z.length-k)
  (h:∀ r',uE Ls i r' fun Ls'=>J P n X Q p' ((d,.slice p0 (j+(z.length-k)) c)::S) Ls' (Al e te r' p0 c (z.take j++z.drop k++z.drop (j+(z.length-k)))::F) m) (hr:Ls[i]?=some r:=by rfl) (ht:yW P t te e.n=true:=by kernel_rfl) (hd:Nat.blt d n=true:=by kernel_rfl) (hg:zQ os S g=some true:=by kernel_rfl):J P n X Q p S Ls F m :=
 ⟨fun hq' r0 hm a w hs=>at0.run fun K hK=>by
  subst hm2
  have hA:(Ar e te r p0 c k0 z).h (bl Ls++X.A) w:=hF▸hs.g f
  obtain⟨r',w',hrun,h1,h2,h3⟩:=zUW (P:=P) (c2:=c2) hs.o hr hA.1 hjk hk hq ht ty
  refine uX hs.s hd hg (v:=.slice p0 (j+(z.length-k)) c) (w':=w') (by simp[execOp,resolve,invoke,builtin,hs.s.eval hx,hs.s.eval hy,hrun]) fun a' hS=>hK h2 ?_
  have h:=h r'
  rw[zH7] at h
  exact h.go hq' r0 hm a' w' (hs.next h1 h2 hS [Ar e te _ _ _ _ _] ⟨⟨h3,rfl⟩,trivial⟩)⟩
theorem gP (h:wO Ls F (Ar e te r p0 c k0 z))(j:Nat)(hz:z2=z.take j): wO Ls F (Ar e te r p0 c (List.length z2) z2):=fun A w hO hF=>by
 have hA:=h A w hO hF
 refine⟨?_,rfl⟩
 subst hz
 rcases hA.1 with⟨h0,h1,h2,h3⟩ | ⟨b,o,cells,h1,h2,h3,h4,h5,h6⟩
 ·grind [wG]
 ·refine .inr ⟨b,o,cells,h1,h2,by grind,h4,h5,?_⟩
  have:=e.rdL_take j h6
  rw[Uy,Nat.mul_min_mul_right] at this
  grind
end
theorem delM_ok{α:Type}{l:List α}{i j:Int}{r:List α}(h:delM l i j=some r): 0≤i∧i≤j∧j≤l.length:=by grind [delM]
theorem z78{α:Type}{l:List α}{i j:Int}(h:0≤i∧i≤j∧j≤l.length): delM l i j=some (l.take i.toNat++l.drop j.toNat):=Qu h
theorem z9c{α:Type}{l:List α}{i k:Nat}{zd:α}(h:i≤k)(hk:k≤l.length): l.take i++l.drop k=(zDI (l.take i++l.drop k++l.drop (i+(l.length-k))) ((i+(l.length-k):Nat):Int) zd).take (i+(l.length-k)):=by
 have h1:(l.take i++l.drop k).length=i+(l.length-k):=by simp;omega
 unfold zDI
 grind
section
variable {P:Program}{n:Nat}{X:Hd qd}{ρ:Type}{Q:PQ ρ}{S:Sl}{Ls:List zG}{F:List PP}{m:Option ρ}{p:yO}{τ:Type}{e:E τ}{te:TypeId}{r:zG}{p0:Option Addr}{c k0:Nat}{z z2:List τ}
end
section
variable {α:Type}{l z:List α}{i j:Int}{c nn:Nat}{p:Option Addr}{zd:α}
theorem hpp (h:p=none∧l=[]∧c=0∨∃ b o,p=some ⟨b,o,none⟩): p=none∨∃ b o,p=some ⟨b,o,none⟩:=by grind
theorem vwP{L m:Nat}(hp:p=none∨∃ b o,p=some ⟨b,o,none⟩)(h0:0≤j)(hL:j≤(L:Int))(hc:L≤c)(hm:m=L-j.toNat): Vw nn p c L j (pV p c j.toNat nn) m :=
 by grind [z74,Vw]
theorem z8p (hc:0≤i∧i≤j∧j≤l.length)(hb:(i==j)=true): some (l.take i.toNat++l.drop j.toNat)=some l:=by simp_all
theorem z2W (hc:0≤i∧i≤j∧j≤l.length): (l.take i.toNat++l.drop j.toNat++l.drop (i.toNat+(l.length-j.toNat))).length=l.length:=by grind
theorem del_hd (hc:0≤i∧i≤j∧j≤l.length): Value.slice p (i.toNat+(l.length-j.toNat)) c=sv p (l.take i.toNat++l.drop j.toNat) c:=by grind
abbrev InsH (l z:List α)(i:Int): Prop:=z.length=1∧0≤i∧i≤l.length∧l.length+1<4294967296
variable (hc:InsH l z i)
include hc
end
end Go.GD
