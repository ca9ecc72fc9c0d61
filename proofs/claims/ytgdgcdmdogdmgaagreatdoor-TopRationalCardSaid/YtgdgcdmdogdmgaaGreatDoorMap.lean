/- A part. Conditions: none. -/
import Derived.Test.YtgdgcdmdogdmgaaGreatDoorOps3
namespace Go.GD
open Go Go.RowKit
set_option autoImplicit false
variable {qd:Prop}
structure zSb (P:Program)(t kt vt:TypeId){κ:Type}[BEq κ](kv:κ->Value): Prop where
 hu:P.underlying t=some (.map kt vt)
 ck:∀ b x w,(Instr.checkKey b 10000 kt (kv x)).run P w=.ok () w
 eq:∀ x y w,(Op.equal kt (kv x) (kv y)).run P w=.ok (x==y) w
 now:∃ d,P.underlying kt=some d∧∀ x y,Instr.sameNow d (kv x) (kv y)=none∨Instr.sameNow d (kv x) (kv y)=some (x==y)
 sb:∀ x,Instr.sameBits 10000 (kv x) (kv x)=true
theorem ba_beq (s:zD): ((⟨s.toArray⟩:ByteArray)==⟨s.toArray⟩)=true:=by
 show(s.toArray==s.toArray)=true
 simp
def Brn (es:List MapEntry)(c:Nat): Prop:=(es.map (·.born)).Nodup∧∀ e∈es,e.born<c
def Mp{κ ν:Type}(kv:κ->Value)(vv:ν->Value)(r:zG)(b:Nat)(l:List (κ×ν)): Prop :=
 ∃ es c,r=[(b,.map es c)]∧es.toList.map (fun e=>(e.key,e.val))=l.map (fun x=>(kv x.1,vv x.2))∧Brn es.toList c
def Ma{κ ν:Type}(kv:κ->Value)(vv:ν->Value)(r:zG)(b:Nat)(l:List (κ×ν)): PP:=⟨fun _ _=>Mp kv vv r b l,fun _ h=>h⟩
section
variable {P:Program}{w:World}{t kt vt:TypeId}{κ ν:Type}[BEq κ]{kv:κ->Value}{vv:ν->Value}
theorem zR4[LawfulBEq κ](H:zSb P t kt vt kv)(k:κ): ∀(es:List MapEntry) (l:List (κ×ν)) (i:Nat),es.map (fun e=>(e.key,e.val))=l.map (fun x=>(kv x.1,vv x.2))->
  ∃ o,(Instr.findAsking kt (kv k) es i).run P w=.ok o w∧(match o with
   | none=>uW l k=none
   | some (j,v)=>i≤j∧∃ x,l[j-i]?=some x∧k=x.1∧uW l k=some x.2∧v=vv x.2∧∀ q y,q<j-i->l[q]?=some y->(k==y.1)=false)
 | [],[],i,_=>⟨none,by simp[Instr.findAsking],rfl⟩
 | [],_::_,i,h=>by simp at h
 | _::_,[],i,h=>by simp at h
 | e::es,x::l,i,h=>by
  simp only[Ua,List.cons.injEq,Prod.mk.injEq] at h
  obtain⟨⟨h1,h2⟩,h3⟩:=h
  have heq:=H.eq k x.1 w
  by_cases hk:k==x.1
  ·refine⟨some (i,e.val),by simp[Instr.findAsking,h1,heq,hk],Qr _,x,by simp,eq_of_beq hk,by simp[uW,hk],h2,fun q y hq=>by omega⟩
  ·obtain⟨o,ho1,ho2⟩:=zR4 H k es l (i+1) h3
   refine⟨o,by simp[Instr.findAsking,h1,heq,hk,ho1],?_⟩
   cases o with
   | none=>simpa [uW,hk] using ho2
   | some p =>
    obtain⟨j,v⟩:=p
    obtain⟨g1,y,g2,g3,g4,g5,g6⟩:=ho2
    refine⟨by omega,y,?_,g3,by grind [uW],g5,fun q z hq hz=>?_⟩
    ·grind
    grind
theorem zR3{d:TypeDesc}(hn:∀ x y:κ,Instr.sameNow d (kv x) (kv y)=none∨Instr.sameNow d (kv x) (kv y)=some (x==y))(H:zSb P t kt vt kv)(k:κ): ∀(es:List MapEntry) (l:List (κ×ν)) (i:Nat) (o:Option (Nat×Value)),
  es.map (fun e=>(e.key,e.val))=l.map (fun x=>(kv x.1,vv x.2))->Instr.findNow d (kv k) es i=some o->(Instr.findAsking kt (kv k) es i).run P w=.ok o w
 | [],_,i,o,_,h=>by simp only[Instr.findNow,Qf] at h;subst h;simp[Instr.findAsking]
 | _::_,[],i,o,h,_=>by simp at h
 | e::es,x::l,i,o,hm,h=>by
  simp only[Ua,List.cons.injEq,Prod.mk.injEq] at hm
  obtain⟨⟨h1,h2⟩,h3⟩:=hm
  have heq:=H.eq k x.1 w
  simp only[Instr.findNow,h1] at h
  rcases hn k x.1 with hs | hs
  ·grind
  ·by_cases hk:k==x.1
   ·simp[hs,hk] at h
    subst h
    simp[Instr.findAsking,h1,heq,hk]
   ·simp[hs,hk] at h
    have:=zR3 hn H k es l (i+1) o h3 h
    simp[Instr.findAsking,h1,heq,hk,this]
theorem zXG[LawfulBEq κ](H:zSb P t kt vt kv)(k:κ)(es:List MapEntry)(l:List (κ×ν))(h:es.map (fun e=>(e.key,e.val))=l.map (fun x=>(kv x.1,vv x.2))):
  ∃ o,(Instr.findKey kt (kv k) es).run P w=.ok o w∧(match o with
   | none=>uW l k=none
   | some (j,v)=>∃ x,l[j]?=some x∧k=x.1∧uW l k=some x.2∧v=vv x.2∧∀ q y,q<j->l[q]?=some y->(k==y.1)=false):=by
 obtain⟨d,hd,hn⟩:=H.now
 obtain⟨o,h1,h2⟩:=zR4 (w:=w) H k es l 0 h
 refine⟨o,?_,?_⟩
 ·simp only[Instr.findKey,Sem.run_bind,run_underlying hd,Result.andThen_ok]
  cases hf:Instr.findNow d (kv k) es 0 with
  | none=>grind
  | some o' =>
   have:=zR3 (w:=w) hn H k es l 0 o' h hf
   simp_all
 grind
theorem z1c:∀ {l:List (κ×ν)} {k:κ} {v:ν},uW l k=none->uQ l k v=l++[(k,v)]
 | [],_,_,_=>rfl
 | x::r,k,v,h=>by
  by_cases hk:k==x.1
  ·simp[uW,hk] at h
  ·simp only[uW,hk,zbf,Qb] at h
   simp[uQ,hk,z1c h]
theorem z18[LawfulBEq κ]: ∀ {l:List (κ×ν)} {k:κ} {v:ν} {j:Nat} {x:κ×ν},l[j]?=some x->k=x.1->(∀ q y,q<j->l[q]?=some y->(k==y.1)=false)->uQ l k v=l.set j (k,v)
 | [],_,_,_,_,h,_,_=>by simp at h
 | y::r,k,v,0,x,h,hk,_=>by grind [uQ]
 | y::r,k,v,j+1,x,h,hk,hf=>by
  have h0:=hf 0 y (by omega) (by simp)
  have:=z18 (l:=r) (v:=v) (j:=j) (by grind) hk (fun q z hq hz=>hf (q+1) z (by omega) (by grind))
  simp[uQ,h0,this]
end
section
variable {P:Program}{ops:Array Oper}{Q:Exit->Act->World->Prop}{K:Act->World->Prop}
variable {A:List Nat}{L0 Ls:List zG}{w0 w:World}{n:Nat}{S:List (Nat×Value)}{F:List PP}{a:Act}
variable {d:Nat}{ty:TypeId}{pos:String}{af:Array Edge}{g:Option (Nat×Bool)}
variable {t kt vt:TypeId}{κ ν:Type}[BEq κ]{kv:κ->Value}{vv:ν->Value}{x y z:Operand}{r:zG}{b:Nat}{l:List (κ×ν)}{k:κ}{v:ν}
theorem zNa{b:Nat}{es:Array MapEntry}{c:Nat}{w:World}(h:w.heap[b]?=some (.map es c)): (getObj b).run P w=.ok (.map es c) w:=by
 show Sem.run P (Sem.getObj b Sem.pure) w=_
 simp[Sem.run,h]
theorem zYf{b:Nat}{es:Array MapEntry}{c:Nat}(o':Obj){w:World}(h:w.heap[b]?=some (.map es c)): (setObj b o').run P w=.ok () { w with heap:=w.heap.setIfInBounds b o' }:=by
 show Sem.run P (Sem.setObj b o' (Sem.pure ())) w=_
 simp[Sem.run,h]
theorem zYm (o:Obj)(w:World): (newObj o).run P w=.ok w.heap.size (w.alloc o):=rfl
theorem z99 (kd:IntKind)(i:Int)(w:World): (asInt (.int kd i)).run P w=.ok i w:=rfl
theorem z58 (kv:κ->Value)(vv:ν->Value){rs:Option Operand}{rv:Option Value}(h:SS qd A L0 w0 n S Ls F a w)(H:zSb P t kt vt kv)(hr:uR S rs=some rv)(hi:rv=none∨∃ kd i,rv=some (.int kd i))
  (kk:∀ b r a w',SS qd A L0 w0 n ((d,.map (some b))::S) (Ls++[r]) (Ma kv vv r b []::F) a w'->zT qd Ls w (Ls++[r]) w'->K a w')
  (hd:Nat.blt d n=true:=by kernel_rfl) (hg:zQ ops S g=some true:=by kernel_rfl):wH P ops Q ⟨some d,.makeMap t rs,ty,pos,af,g⟩ K a w:=by
 refine uX h.s hd hg (v:=.map (some w.heap.size)) (w':=w.alloc (.map #[] 0)) ?_ fun a hS=>kk w.heap.size [(w.heap.size,.map #[] 0)] a _ (h.next (h.o.alloc _ rfl) (zT.alloc Ls _ rfl rfl rfl rfl) hS [_] ⟨⟨#[],0,rfl,by simp,by simp[Brn]⟩,trivial⟩) (zT.alloc Ls _ rfl rfl rfl rfl)
 have he:=h.s.evalO hr
 rcases hi with rfl | ⟨kd,i,rfl⟩
 ·have hn:=zYm (P:=P) (.map #[] 0) w
  simp only[newObj] at hn
  simp[execOp,he,Instr.makeMap,newObj,hn]
 ·have hn:=zYm (P:=P) (.map #[] 0) w
  simp only[newObj] at hn
  simp[execOp,he,Instr.makeMap,run_underlying H.hu,z99,newObj,hn]
theorem z8F[LawfulBEq κ]{i:Nat}(ok:Bool){zv:ν}(h:SS qd A L0 w0 n S Ls F a w)(H:zSb P t kt vt kv)(hM:(Ma kv vv r b l).h (bl Ls++A) w)(hx:zK S x=some (.map (some b)))(hy:zK S y=some (kv k))(hz:tX P vt=some (vv zv))(hr:Ls[i]?=some r)
  (kk:∀ a,SS qd A L0 w0 n ((d,if ok then .tuple #[vv ((uW l k).getD zv),vb (uW l k).isSome] else vv ((uW l k).getD zv))::S) Ls F a w->K a w)
  (hd:Nat.blt d n=true:=by kernel_rfl) (hg:zQ ops S g=some true:=by kernel_rfl):wH P ops Q ⟨some d,.lookup t x y ok,ty,pos,af,g⟩ K a w:=by
 obtain⟨es,c,rfl,he,_⟩:=hM
 have hb:=yP h.o hr (Qa.2 rfl)
 obtain⟨o,ho1,ho2⟩:=zXG (P:=P) (w:=w) H k es.toList l he
 refine uX h.s hd hg (w':=w) ?_ fun a hS=>kk a (h.slot hS)
 have hzz:=zNd hz w
 cases o with
 | none =>
  have ho2':uW l k=none:=ho2
  cases ok <;> simp[execOp,h.s.eval hx,h.s.eval hy,Instr.lookup,run_underlying H.hu,zNa hb,H.ck,ho1,hzz,ho2']
 | some p =>
  obtain⟨j,u⟩:=p
  obtain⟨x',g1,g2,g3,rfl,_⟩:=ho2
  cases ok <;> simp[execOp,h.s.eval hx,h.s.eval hy,Instr.lookup,run_underlying H.hu,zNa hb,H.ck,ho1,g3]
theorem z2V[LawfulBEq κ](i:Nat)(h:SS qd A L0 w0 n S Ls F a w)(H:zSb P t kt vt kv)(hM:(Ma kv vv r b l).h (bl Ls++A) w)(hx:zK S x=some (.map (some b)))(hy:zK S y=some (kv k))(hz:zK S z=some (vv v))(hr:Ls[i]?=some r)
  (kk:∀ r' a w',SS qd A L0 w0 n S (Ls.set i r') (Ma kv vv r' b (uQ l k v)::F) a w'->zT qd Ls w (Ls.set i r') w'->K a w')
  (hg:zQ ops S g=some true:=by kernel_rfl):wH P ops Q ⟨none,.mapUpdate t x y z,ty,pos,af,g⟩ K a w:=by
 obtain⟨es,c,rfl,he,hB1,hB2⟩:=hM
 have hb:=yP h.o hr (Qa.2 rfl)
 have hlt:b<w.heap.size:=(Qt.1 hb).1
 obtain⟨o,ho1,ho2⟩:=zXG (P:=P) (w:=w) H k es.toList l he
 have key:∀(es':Array MapEntry) (c':Nat),(execOp a.eval ⟨none,.mapUpdate t x y z,ty,pos,af,g⟩).run P w=.ok .skip { w with heap:=w.heap.setIfInBounds b (.map es' c') }->
   es'.toList.map (fun e=>(e.key,e.val))=(uQ l k v).map (fun x=>(kv x.1,vv x.2))->Brn es'.toList c'->wH P ops Q ⟨none,.mapUpdate t x y z,ty,pos,af,g⟩ K a w:=by
  intro es' c' hrun hes hBr
  have hk:∀ q,q<w.heap.size->q∉[(b,Obj.map es c)].map Prod.fst->({ w with heap:=w.heap.setIfInBounds b (.map es' c') }:World).heap[q]?=w.heap[q]?:=fun q _ hq=>by
   grind
  have hh:({ w with heap:=w.heap.setIfInBounds b (.map es' c') }:World).heap[b]?=some (.map es' c'):=by
   show(w.heap.setIfInBounds b _)[b]?=_
   simp[hlt]
  have hO:=h.o.set hr (w':={ w with heap:=w.heap.setIfInBounds b (.map es' c') }) (r':=[(b,.map es' c')]) (by simp) hk (fun p hp=>by grind) (by simp) (fun p hp=>by grind)
  have hE:zT qd Ls w (Ls.set i [(b,.map es' c')]) { w with heap:=w.heap.setIfInBounds b (.map es' c') }:=zT.set hr rfl rfl rfl (by simp) hk (fun p hp=>by grind)
  exact zZN h.s hg hrun fun a hS=>kk [(b,.map es' c')] a _ (h.next hO hE hS [_] ⟨⟨es',c',rfl,hes,hBr⟩,trivial⟩) hE
 cases o with
 | none =>
  refine key (es.push { key:=kv k,val:=vv v,born:=c }) (c+1) ?_ ?_ ?_
  ·simp[execOp,h.s.eval hx,h.s.eval hy,h.s.eval hz,Instr.mapUpdate,run_underlying H.hu,zNa hb,H.ck,ho1,zYf _ hb]
  ·rw[z1c ho2];simp[he]
  ·unfold Brn
   rw[Array.toList_push,We,QK]
   exact⟨⟨hB1,by simp,by simp;intro e he';have:=hB2 e (by simpa using he');omega⟩,fun e he'=>by
    rcases Qd.1 he' with h | h
    ·have:=hB2 e h;omega
    ·rw[Qa.1 h];exact Wk c⟩
 | some p =>
  obtain⟨j,u⟩:=p
  obtain⟨x',g1,g2,g3,rfl,g6⟩:=ho2
  obtain⟨e0,hj,hj2⟩:∃ e0,es.toList[j]?=some e0∧e0.key=kv k:=by
   have:=congrArg (·[j]?) he
   grind
  have hj1:es[j]?=some e0:=by rw[←hj];simp
  have hold:((es[j]?).map (·.key)).getD (kv k)=kv k:=by
   rw[hj1];simp[hj2]
  refine key (es.modify j fun e=>{ e with key:=kv k,val:=vv v }) c ?_ ?_ ?_
  ·simp[execOp,h.s.eval hx,h.s.eval hy,h.s.eval hz,Instr.mapUpdate,run_underlying H.hu,zNa hb,H.ck,ho1,zYf _ hb,hold,Instr.keyThatStays,H.sb]
  ·rw[z18 (v:=v) g1 g2 g6]
   apply QG
   intro q
   have heq:=congrArg (·[q]?) he
   grind
  ·have e0:∀ {α β:Type} (f:α->α) (g:α->β) (_:∀ x,g (f x)=g x) (l:List α) (j:Nat),(l.modify j f).map g=l.map g:=fun f g hg l j=>by
    apply QG
    intro q
    rw[Q2,Q2,List.getElem?_modify]
    cases l[q]? with
    | none=>rfl
    | some x=>by_cases hq:j=q <;> simp[hq,hg]
   have e1:=e0 (fun e:MapEntry=>{ e with key:=kv k,val:=vv v }) (·.born) (fun _=>rfl) es.toList j
   unfold Brn
   rw[Array.toList_modify]
   refine⟨by rw[e1];exact hB1,fun e he'=>?_⟩
   have:e.born∈(es.toList.modify j fun e=>{ e with key:=kv k,val:=vv v }).map (·.born):=Qj.2 ⟨e,he',rfl⟩
   rw[e1] at this
   obtain⟨e2,h1,h2⟩:=Qj.1 this
   rw[←h2]
   exact hB2 e2 h1
end
end Go.GD
