/- A part. Conditions: none. -/
import Derived.Test.YtgjdojihimkgcaaGreatDoorBase
import Derived.Laws.CopyRow
import Derived.Scope
import Derived.Shelf.SlSortCmp.NoneTotal
import Derived.Shelf.SortM.Plain
import Derived.Shelf.SortM.SortNone
import Derived.Shelf.SlSortCmp.Whole1
import Derived.Shelf.Strings.OnBuilder
import Derived.Shelf.Strings.FieldsAny
import Derived.Shelf.Strings.Search3
import Derived.Shelf.Strings.Count
import Derived.Shelf.Strings.Builder1
import Derived.Lib.ConvBytes
import Derived.Laws.IdiomStrings
import Derived.Lib.FrozenHead
namespace Go.GD
set_option autoImplicit false
section
open Go Go.RowKit
variable {qd:Prop}
structure zXq (P:Program)(t kt vt:TypeId){κ:Type}[BEq κ](kv:κ->Value): Prop where
 hu:P.underlying t=some (.map kt vt)
 ck:∀ b x w,(Instr.checkKey b 10000 kt (kv x)).run P w=.ok () w
 eq:∀ x y w,(Op.equal kt (kv x) (kv y)).run P w=.ok (x==y) w
 now:∃ d,P.underlying kt=some d∧∀ x y,Instr.sameNow d (kv x) (kv y)=none∨Instr.sameNow d (kv x) (kv y)=some (x==y)
 sb:∀ x,Instr.sameBits 10000 (kv x) (kv x)=true
theorem ba_beq (s:zD): ((⟨s.toArray⟩:ByteArray)==⟨s.toArray⟩)=true:=by
 show(s.toArray==s.toArray)=true
 simp
def Brn (es:List MapEntry)(c:Nat): Prop:=(es.map (·.born)).Nodup∧∀ e∈es,e.born<c
def Mp{κ ν:Type}(kv:κ->Value)(vv:ν->Value)(r:zJ)(b:Nat)(l:List (κ×ν)): Prop :=
 ∃ es c,r=[(b,.map es c)]∧es.toList.map (λe=>(e.key,e.val))=l.map (λx=>(kv x.1,vv x.2))∧Brn es.toList c
def Ma{κ ν:Type}(kv:κ->Value)(vv:ν->Value)(r:zJ)(b:Nat)(l:List (κ×ν)): PP:=⟨λ_ _=>Mp kv vv r b l,λ_ h=>h⟩
section
variable {P:Program}{w:World}{t kt vt:TypeId}{κ ν:Type}[BEq κ]{kv:κ->Value}{vv:ν->Value}
theorem zUS[LawfulBEq κ](H:zXq P t kt vt kv)(k:κ): ∀(es:List MapEntry) (l:List (κ×ν)) (i:Nat),es.map (λe=>(e.key,e.val))=l.map (λx=>(kv x.1,vv x.2))->
  ∃ o,(Instr.findAsking kt (kv k) es i).run P w=.ok o w∧(match o with
   | none=>xU l k=none
   | some (j,v)=>i≤j∧∃ x,l[j-i]?=some x∧k=x.1∧xU l k=some x.2∧v=vv x.2∧∀ q y,q<j-i->l[q]?=some y->(k==y.1)=false)
 | [],[],i,_=>⟨none,by simp[Instr.findAsking],rfl⟩
 | [],_::_,i,h=>by simp at h
 | _::_,[],i,h=>by simp at h
 | e::es,x::l,i,h=>by
  simp only[Ug,List.cons.injEq,Prod.mk.injEq] at h
  obtain⟨⟨h1,h2⟩,h3⟩:=h
  have heq:=H.eq k x.1 w
  by_cases hk:k==x.1
  ·refine⟨some (i,e.val),by simp[Instr.findAsking,h1,heq,hk],Qr _,x,by simp,eq_of_beq hk,by simp[xU,hk],h2,λq y hq=>by omega⟩
  ·obtain⟨o,ho1,ho2⟩:=zUS H k es l (i+1) h3
   refine⟨o,by simp[Instr.findAsking,h1,heq,hk,ho1],?_⟩
   cases o with
   | none=>simpa [xU,hk] using ho2
   | some p =>
    obtain⟨j,v⟩:=p
    obtain⟨g1,y,g2,g3,g4,g5,g6⟩:=ho2
    refine⟨by omega,y,?_,g3,by grind [xU],g5,λq z hq hz=>?_⟩
    ·grind
    grind
theorem zUK{d:TypeDesc}(hn:∀ x y:κ,Instr.sameNow d (kv x) (kv y)=none∨Instr.sameNow d (kv x) (kv y)=some (x==y))(H:zXq P t kt vt kv)(k:κ): ∀(es:List MapEntry) (l:List (κ×ν)) (i:Nat) (o:Option (Nat×Value)),
  es.map (λe=>(e.key,e.val))=l.map (λx=>(kv x.1,vv x.2))->Instr.findNow d (kv k) es i=some o->(Instr.findAsking kt (kv k) es i).run P w=.ok o w
 | [],_,i,o,_,h=>by simp only[Instr.findNow,Qg] at h;subst h;simp[Instr.findAsking]
 | _::_,[],i,o,h,_=>by simp at h
 | e::es,x::l,i,o,hm,h=>by
  simp only[Ug,List.cons.injEq,Prod.mk.injEq] at hm
  obtain⟨⟨h1,h2⟩,h3⟩:=hm
  have heq:=H.eq k x.1 w
  simp only[Instr.findNow,h1] at h
  rcases hn k x.1 with hs | hs
  ·grind
  ·by_cases hk:k==x.1
   ·simp[hs,hk] at h
    subst h
    simp[Instr.findAsking,h1,heq,hk]
   ·simp[hs,hk] at h
    have:=zUK hn H k es l (i+1) o h3 h
    simp[Instr.findAsking,h1,heq,hk,this]
theorem zZl[LawfulBEq κ](H:zXq P t kt vt kv)(k:κ)(es:List MapEntry)(l:List (κ×ν))(h:es.map (λe=>(e.key,e.val))=l.map (λx=>(kv x.1,vv x.2))):
  ∃ o,(Instr.findKey kt (kv k) es).run P w=.ok o w∧(match o with
   | none=>xU l k=none
   | some (j,v)=>∃ x,l[j]?=some x∧k=x.1∧xU l k=some x.2∧v=vv x.2∧∀ q y,q<j->l[q]?=some y->(k==y.1)=false):=by
 obtain⟨d,hd,hn⟩:=H.now
 obtain⟨o,h1,h2⟩:=zUS (w:=w) H k es l 0 h
 refine⟨o,?_,?_⟩
 ·simp only[Instr.findKey,Sem.run_bind,run_underlying hd,Result.andThen_ok]
  cases hf:Instr.findNow d (kv k) es 0 with
  | none=>grind
  | some o' =>
   have:=zUK (w:=w) hn H k es l 0 o' h hf
   simp_all
 grind
theorem z54:∀ {l:List (κ×ν)} {k:κ} {v:ν},xU l k=none->z8t l k v=l++[(k,v)]
 | [],_,_,_=>rfl
 | x::r,k,v,h=>by
  by_cases hk:k==x.1
  ·simp[xU,hk] at h
  ·simp only[xU,hk,zbf,Qc] at h
   simp[z8t,hk,z54 h]
theorem z4V[LawfulBEq κ]: ∀ {l:List (κ×ν)} {k:κ} {v:ν} {j:Nat} {x:κ×ν},l[j]?=some x->k=x.1->(∀ q y,q<j->l[q]?=some y->(k==y.1)=false)->z8t l k v=l.set j (k,v)
 | [],_,_,_,_,h,_,_=>by simp at h
 | y::r,k,v,0,x,h,hk,_=>by grind [z8t]
 | y::r,k,v,j+1,x,h,hk,hf=>by
  have h0:=hf 0 y (by omega) (by simp)
  have:=z4V (l:=r) (v:=v) (j:=j) (by grind) hk (λq z hq hz=>hf (q+1) z (by omega) (by grind))
  simp[z8t,h0,this]
end
section
variable {P:Program}{ops:Array Oper}{Q:Exit->Act->World->Prop}{K:Act->World->Prop}
variable {A:List Nat}{L0 Ls:List zJ}{w0 w:World}{n:Nat}{S:List (Nat×Value)}{F:List PP}{a:Act}
variable {d:Nat}{ty:TypeId}{pos:String}{af:Array Edge}{g:Option (Nat×Bool)}
variable {t kt vt:TypeId}{κ ν:Type}[BEq κ]{kv:κ->Value}{vv:ν->Value}{x y z:Operand}{r:zJ}{b:Nat}{l:List (κ×ν)}{k:κ}{v:ν}
theorem zT0{b:Nat}{es:Array MapEntry}{c:Nat}{w:World}(h:w.heap[b]?=some (.map es c)): (getObj b).run P w=.ok (.map es c) w:=by
 show Sem.run P (Sem.getObj b Sem.pure) w=_
 simp[Sem.run,h]
theorem z1q{b:Nat}{es:Array MapEntry}{c:Nat}(o':Obj){w:World}(h:w.heap[b]?=some (.map es c)): (setObj b o').run P w=.ok () { w with heap:=w.heap.setIfInBounds b o' }:=by
 show Sem.run P (Sem.setObj b o' (Sem.pure ())) w=_
 simp[Sem.run,h]
theorem z1r (o:Obj)(w:World): (newObj o).run P w=.ok w.heap.size (w.alloc o):=rfl
theorem run_hint (kd:IntKind)(i:Int)(w:World): (asInt (.int kd i)).run P w=.ok i w:=rfl
theorem b_makeMap (kv:κ->Value)(vv:ν->Value){rs:Option Operand}{rv:Option Value}(h:SS qd A L0 w0 n S Ls F a w)(H:zXq P t kt vt kv)(hr:tI S rs=some rv)(hi:rv=none∨∃ kd i,rv=some (.int kd i))
  (kk:∀ b r a w',SS qd A L0 w0 n ((d,.map (some b))::S) (Ls++[r]) (Ma kv vv r b []::F) a w'->zU qd Ls w (Ls++[r]) w'->K a w')
  (hd:Nat.blt d n=true:=by kernel_rfl) (hg:zS ops S g=some true:=by kernel_rfl):vD P ops Q ⟨some d,.makeMap t rs,ty,pos,af,g⟩ K a w:=by
 refine tE h.s hd hg (v:=.map (some w.heap.size)) (w':=w.alloc (.map #[] 0)) ?_ λa hS=>kk w.heap.size [(w.heap.size,.map #[] 0)] a _ (h.next (h.o.alloc _ rfl) (zU.alloc Ls _ rfl rfl rfl rfl) hS [_] ⟨⟨#[],0,rfl,by simp,by simp[Brn]⟩,trivial⟩) (zU.alloc Ls _ rfl rfl rfl rfl)
 have he:=h.s.evalO hr
 rcases hi with rfl | ⟨kd,i,rfl⟩
 ·have hn:=z1r (P:=P) (.map #[] 0) w
  simp only[newObj] at hn
  simp[execOp,he,Instr.makeMap,newObj,hn]
 ·have hn:=z1r (P:=P) (.map #[] 0) w
  simp only[newObj] at hn
  simp[execOp,he,Instr.makeMap,run_underlying H.hu,run_hint,newObj,hn]
theorem b_lookup[LawfulBEq κ]{i:Nat}(ok:Bool){zv:ν}(h:SS qd A L0 w0 n S Ls F a w)(H:zXq P t kt vt kv)(hM:(Ma kv vv r b l).h (bl Ls++A) w)(hx:zL S x=some (.map (some b)))(hy:zL S y=some (kv k))(hz:zJX P vt=some (vv zv))(hr:Ls[i]?=some r)
  (kk:∀ a,SS qd A L0 w0 n ((d,if ok then .tuple #[vv ((xU l k).getD zv),vb (xU l k).isSome] else vv ((xU l k).getD zv))::S) Ls F a w->K a w)
  (hd:Nat.blt d n=true:=by kernel_rfl) (hg:zS ops S g=some true:=by kernel_rfl):vD P ops Q ⟨some d,.lookup t x y ok,ty,pos,af,g⟩ K a w:=by
 obtain⟨es,c,rfl,he,_⟩:=hM
 have hb:=xK h.o hr (Qa.2 rfl)
 obtain⟨o,ho1,ho2⟩:=zZl (P:=P) (w:=w) H k es.toList l he
 refine tE h.s hd hg (w':=w) ?_ λa hS=>kk a (h.slot hS)
 have hzz:=zQK hz w
 cases o with
 | none =>
  have ho2':xU l k=none:=ho2
  cases ok <;> simp[execOp,h.s.eval hx,h.s.eval hy,Instr.lookup,run_underlying H.hu,zT0 hb,H.ck,ho1,hzz,ho2']
 | some p =>
  obtain⟨j,u⟩:=p
  obtain⟨x',g1,g2,g3,rfl,_⟩:=ho2
  cases ok <;> simp[execOp,h.s.eval hx,h.s.eval hy,Instr.lookup,run_underlying H.hu,zT0 hb,H.ck,ho1,g3]
theorem z6J[LawfulBEq κ](i:Nat)(h:SS qd A L0 w0 n S Ls F a w)(H:zXq P t kt vt kv)(hM:(Ma kv vv r b l).h (bl Ls++A) w)(hx:zL S x=some (.map (some b)))(hy:zL S y=some (kv k))(hz:zL S z=some (vv v))(hr:Ls[i]?=some r)
  (kk:∀ r' a w',SS qd A L0 w0 n S (Ls.set i r') (Ma kv vv r' b (z8t l k v)::F) a w'->zU qd Ls w (Ls.set i r') w'->K a w')
  (hg:zS ops S g=some true:=by kernel_rfl):vD P ops Q ⟨none,.mapUpdate t x y z,ty,pos,af,g⟩ K a w:=by
 obtain⟨es,c,rfl,he,hB1,hB2⟩:=hM
 have hb:=xK h.o hr (Qa.2 rfl)
 have hlt:b<w.heap.size:=(Qu.1 hb).1
 obtain⟨o,ho1,ho2⟩:=zZl (P:=P) (w:=w) H k es.toList l he
 have key:∀(es':Array MapEntry) (c':Nat),(execOp a.eval ⟨none,.mapUpdate t x y z,ty,pos,af,g⟩).run P w=.ok .skip { w with heap:=w.heap.setIfInBounds b (.map es' c') }->
   es'.toList.map (λe=>(e.key,e.val))=(z8t l k v).map (λx=>(kv x.1,vv x.2))->Brn es'.toList c'->vD P ops Q ⟨none,.mapUpdate t x y z,ty,pos,af,g⟩ K a w:=by
  intro es' c' hrun hes hBr
  have hk:∀ q,q<w.heap.size->q∉[(b,Obj.map es c)].map Prod.fst->({ w with heap:=w.heap.setIfInBounds b (.map es' c') }:World).heap[q]?=w.heap[q]?:=λq _ hq=>by
   grind
  have hh:({ w with heap:=w.heap.setIfInBounds b (.map es' c') }:World).heap[b]?=some (.map es' c'):=by
   show(w.heap.setIfInBounds b _)[b]?=_
   simp[hlt]
  have hO:=h.o.set hr (w':={ w with heap:=w.heap.setIfInBounds b (.map es' c') }) (r':=[(b,.map es' c')]) (by simp) hk (λp hp=>by grind) (by simp) (λp hp=>by grind)
  have hE:zU qd Ls w (Ls.set i [(b,.map es' c')]) { w with heap:=w.heap.setIfInBounds b (.map es' c') }:=zU.set hr rfl rfl rfl (by simp) hk (λp hp=>by grind)
  exact z2f h.s hg hrun λa hS=>kk [(b,.map es' c')] a _ (h.next hO hE hS [_] ⟨⟨es',c',rfl,hes,hBr⟩,trivial⟩) hE
 cases o with
 | none =>
  refine key (es.push { key:=kv k,val:=vv v,born:=c }) (c+1) ?_ ?_ ?_
  ·simp[execOp,h.s.eval hx,h.s.eval hy,h.s.eval hz,Instr.mapUpdate,run_underlying H.hu,zT0 hb,H.ck,ho1,z1q _ hb]
  ·rw[z54 ho2];simp[he]
  ·unfold Brn
   rw[Array.toList_push,UL,QT]
   exact⟨⟨hB1,by simp,by simp;intro e he';have:=hB2 e (by simpa using he');omega⟩,λe he'=>by
    rcases Qb.1 he' with h | h
    ·have:=hB2 e h;omega
    ·rw[Qa.1 h];exact Nat.lt_succ_self c⟩
 | some p =>
  obtain⟨j,u⟩:=p
  obtain⟨x',g1,g2,g3,rfl,g6⟩:=ho2
  obtain⟨e0,hj,hj2⟩:∃ e0,es.toList[j]?=some e0∧e0.key=kv k:=by
   have:=congrArg (·[j]?) he
   grind
  have hj1:es[j]?=some e0:=by rw[←hj];simp
  have hold:((es[j]?).map (·.key)).getD (kv k)=kv k:=by
   rw[hj1];simp[hj2]
  refine key (es.modify j λe=>{ e with key:=kv k,val:=vv v }) c ?_ ?_ ?_
  ·simp[execOp,h.s.eval hx,h.s.eval hy,h.s.eval hz,Instr.mapUpdate,run_underlying H.hu,zT0 hb,H.ck,ho1,z1q _ hb,hold,Instr.keyThatStays,H.sb]
  ·rw[z4V (v:=v) g1 g2 g6]
   apply QN
   intro q
   have heq:=congrArg (·[q]?) he
   grind
  ·have e0:∀ {α β:Type} (f:α->α) (g:α->β) (_:∀ x,g (f x)=g x) (l:List α) (j:Nat),(l.modify j f).map g=l.map g:=λf g hg l j=>by
    apply QN
    intro q
    rw[Q7,Q7,List.getElem?_modify]
    cases l[q]? with
    | none=>rfl
    | some x=>by_cases hq:j=q <;> simp[hq,hg]
   have e1:=e0 (λe:MapEntry=>{ e with key:=kv k,val:=vv v }) (·.born) (λ_=>rfl) es.toList j
   unfold Brn
   rw[Array.toList_modify]
   refine⟨by rw[e1];exact hB1,λe he'=>?_⟩
   have:e.born∈(es.toList.modify j λe=>{ e with key:=kv k,val:=vv v }).map (·.born):=Qn.2 ⟨e,he',rfl⟩
   rw[e1] at this
   obtain⟨e2,h1,h2⟩:=Qn.1 this
   rw[←h2]
   exact hB2 e2 h1
end
end
section
open Go Go.RowKit
variable {qd:Prop}
section
variable {P:Program}{ops:Array Oper}{Q:Exit->Act->World->Prop}{K:Act->World->Prop}
variable {A:List Nat}{L0 Ls:List zJ}{w0 w:World}{n:Nat}{S:List (Nat×Value)}{F:List PP}{a:Act}{Z:List Nat}
variable {d:Nat}{ty:TypeId}{pos:String}{af:Array Edge}{g:Option (Nat×Bool)}{B J:List Nat}{listed:Array Bool}{fuel:Nat}
variable {τ:Type}{e:E τ}{te:TypeId}{r:zJ}{p q q2:Option Addr}{c m L:Nat}{l z:List τ}{k:Int}{t:TypeId}{x y:Operand}
theorem Vw.src (hV:Vw e.n p c L k q m)(hA:vO e te Z w r p c l)(hL:l.length=L)(hO:zZ A w Ls){i:Nat}(hr:Ls[i]?=some r): Src e Z w q (l.drop k.toNat)∧(l.drop k.toNat).length=m:=by
 obtain⟨v0,v1,v2,v3⟩:=hV
 have hlen:(l.drop k.toNat).length=m:=by rw[UE];omega
 refine⟨?_,hlen⟩
 by_cases hm:m=0
 ·exact .inl (QR (by grind))
 ·rcases hA with⟨_,_,_,rfl⟩ | ⟨b,o,cells,rfl,rfl,h3,h4,h5,h6⟩
  ·grind
  ·refine .inr ⟨b,o+k.toNat*e.n,_,v3 b o rfl hm,e.rdL_drop k.toNat h6,λj u hu=>?_⟩
   have hb:=xK hO hr (Qa.2 rfl)
   grind [cell_of_row]
theorem z6b{k2 c' i:Nat}(hO:zZ A w Ls)(hr:Ls[i]?=some r)(hA:vO e te (bl Ls++A) w r p c l)(hV:Vw e.n p c L k q m)(hL:l.length=L)(hR:Src e (bl Ls++A) w q2 z)(ht:uT P t te e.n=true)(rty:TypeId):
  ∃ r' w',(Builtin.copy_ #[t,t] rty #[.slice q m c',.slice q2 z.length k2]).run P w=.ok (goInt (Nat.min z.length m)) w' ∧
   zZ A w' (Ls.set i r')∧zU qd Ls w (Ls.set i r') w'∧vO e te (bl (Ls.set i r')++A) w' r' p c (zLB l k z):=by
 obtain⟨hu,info,zv,hi,hz',hsize,hby,hpos,hzs⟩:=zMz ht
 obtain⟨v0,v1,v2,v3⟩:=hV
 subst hL
 have hself:Ls.set i r=Ls:=by
  apply QN;intro j
  by_cases hj:i=j
  ·grind
  ·grind
 by_cases hn0:Nat.min z.length m=0
 ·have hll:zLB l k z=l:=by
   unfold zLB
   rcases Nat.min_eq_zero_iff.1 hn0 with h | h
   ·simp_all
   ·simp_all
  refine⟨r,w,?_,by grind,by rw[hself];exact zU.refl _ _,by grind⟩
  cases q <;> cases q2 <;> simp[Builtin.copy_,run_underlying hu,Builtin.lenOf,Builtin.firstCells,sizeOf,typeInfo,hi,hn0,loadCells,loadCellsFrom,storeCells]
 ·have hm0:m≠0:=λh=>hn0 (by grind)
  have hz0:z≠[]:=λh=>hn0 (by grind)
  rcases hA with⟨rfl,rfl,rfl,rfl⟩ | ⟨b,o,cells,rfl,rfl,h3,h4,h5,h6⟩
  ·grind
  ·have hq:=v3 b o rfl hm0
   subst hq
   rcases hR with hR | ⟨b2,off,cs,rfl,hcs,hcell⟩
   ·grind
   ·have hb:=xK hO hr (Qa.2 rfl)
    obtain⟨nn,hnn⟩:∃ nn,nn=Nat.min z.length m:=⟨_,rfl⟩
    have hnz:nn≤z.length:=by rw[hnn];exact Nat.min_le_left _ _
    have hnm:nn≤m:=by rw[hnn];exact Nat.min_le_right _ _
    have hcs2:=e.rdL_take nn hcs
    have hlen:(cs.take (nn*e.n)).length=nn*e.n:=by rw[e.rdL_len hcs2,QB,Uu hnz]
    have hload:=run_loadCells_list (P:=P) w ⟨b2,off,none⟩ (cs.take (nn*e.n)) (λj u hj=>by
     grind [zCt])
    have hfit:o+k.toNat*e.n+0+(cs.take (nn*e.n)).length≤cells.size:=by
     rw[hlen,QM,Wn,←Q1];exact QD (Nat.add_le_add_left (QQ _ (by omega)) _) h5
    have hst:=run_storeCells_at P b (o+k.toNat*e.n) te (cs.take (nn*e.n)) 0 cells w hb hfit (e.rdL_one hcs2)
    simp only[QM] at hst
    have hother:∀ cs:Array Value,∀ k,k<w.heap.size->k∉[(b,Obj.cells cells te (0,0))].map Prod.fst->(w.setRow b cs).heap[k]?=w.heap[k]?:=λcs k _ hk=>setRow_other w b k _ (λe=>hk (by simp[e]))
    have hE:zU qd Ls w (Ls.set i [(b,.cells (cells.toList.take (o+k.toNat*e.n)++cs.take (nn*e.n)++cells.toList.drop (o+k.toNat*e.n+(cs.take (nn*e.n)).length)).toArray te (0,0))]) (w.setRow b (cells.toList.take (o+k.toNat*e.n)++cs.take (nn*e.n)++cells.toList.drop (o+k.toNat*e.n+(cs.take (nn*e.n)).length)).toArray) :=
     zU.set hr rfl rfl rfl (by simp) (hother _) (λq hq=>.inl (by grind))
    refine⟨[(b,.cells (cells.toList.take (o+k.toNat*e.n)++cs.take (nn*e.n)++cells.toList.drop (o+k.toNat*e.n+(cs.take (nn*e.n)).length)).toArray te (0,0))],_,?_,?_,hE,.inr ⟨b,o,_,rfl,rfl,by rw[zQy];exact h3,h4,?_,?_⟩⟩
    ·rw[hlen] at hload
     simp[Builtin.copy_,run_underlying hu,Builtin.lenOf,Builtin.firstCells,sizeOf,typeInfo,hi,hsize,←hnn,hload,hst]
    ·exact hO.set hr (by simp) (hother _) (λq hq=>by simp only[Qa] at hq;subst hq;exact setRow_heap w b cells _ te (0,0) hb) (by simp) (λq hq=>.inl (by grind))
    ·simp only[QS,Qd,QB,UE,Wb,QM] at hfit ⊢
     omega
    ·have hcp:zLB l k z=l.take k.toNat++z.take nn++l.drop (k.toNat+nn):=by
      unfold zLB
      have h1:z.take (l.length-k.toNat)=z.take nn:=by
       apply QN;intro j
       simp only[QX]
       by_cases hj:j<z.length
       ·grind
       ·grind
      have h2:l.drop (k.toNat+z.length)=l.drop (k.toNat+nn):=by
       by_cases hj:z.length≤m
       ·simp_all
       ·grind [List.drop_of_length_le]
      rw[h1,h2]
     rw[hcp]
     have e1:=e.rdL_take k.toNat h6
     rw[UR,Uu (QQ _ (by omega))] at e1
     have e2:=e.rdL_drop (k.toNat+nn) h6
     have e3:=e.rdL_append (e.rdL_append (e.rdL_step (hE.step A) e1) (e.rdL_step (hE.step A) hcs2)) (e.rdL_step (hE.step A) e2)
     refine cast ?_ e3
     congr 1
     have hlen2:(l.take k.toNat++z.take nn++l.drop (k.toNat+nn)).length=l.length:=by
      simp only[Qd,QB,UE];omega
     rw[hlen2]
     have hD:c*e.n≤(cells.toList.drop o).length:=by rw[UE,Wb];omega
     show _=List.take _ (List.drop o (cells.toList.take (o+k.toNat*e.n)++cs.take (nn*e.n)++cells.toList.drop (o+k.toNat*e.n+(cs.take (nn*e.n)).length)))
     have hdp:=z8V (c:=cells.toList) o (k.toNat*e.n) 0 (cs.take (nn*e.n)) (by grind)
     simp only[QM] at hdp
     rw[hdp]
     have hA1:((cells.toList.drop o).take (k.toNat*e.n)++cs.take (nn*e.n)).length=(k.toNat+nn)*e.n:=by
      rw[Qd,hlen,QB,Q1,Uu]
      exact QD (QQ _ (by omega)) hD
     rw[List.take_append,hA1,Qx (l:=(cells.toList.drop o).take (k.toNat*e.n)++cs.take (nn*e.n)) (by rw[hA1];exact QQ _ (by omega)),hlen,←Q1,Wd]
theorem Vw.whole (hA:vO e te Z w r p c l)(hm:m=l.length): Vw e.n p c m 0 p m :=
 ⟨Int.le_refl _,by simp,by rw[hm];exact hA.le,λb o hp _=>by grind⟩
theorem R.srcs{Z:List Nat}(h:(R e p c m l).h Z w): Src e Z w p l∧l.length=m:=⟨h.1.src,h.2.symm⟩
theorem Ar.srcs (h:(Ar e te r p c m l).h (bl Ls++A) w)(hO:zZ A w Ls){i:Nat}(hr:Ls[i]?=some r): Src e (bl Ls++A) w p l∧l.length=m:=⟨h.1.src hO hr,h.2.symm⟩
theorem z68 (i:Nat){m' c' m2 k2:Nat}{q:Option Addr}(h:SS qd A L0 w0 n S Ls F a w)(hA:(Ar e te r p c m l).h (bl Ls++A) w)(hV:Vw e.n p c m k q m')(hR:Src e (bl Ls++A) w q2 z∧z.length=m2)
  (hx:zL S x=some (.slice q m' c')) (hy:zL S y=some (.slice q2 m2 k2))
  (kk:∀ r' a' w',SS qd A L0 w0 n ((d,vi ((Nat.min m2 m':Nat):Int))::S) (Ls.set i r') (Ar e te r' p c m (zLB l k z)::F) a' w'->zU qd Ls w (Ls.set i r') w'->K a' w') (hr:Ls[i]?=some r:=by rfl)
  (ht:uT P t te e.n=true:=by kernel_rfl) (hd:Nat.blt d n=true:=by kernel_rfl) (hg:zS ops S g=some true:=by kernel_rfl):vD P ops Q ⟨some d,.call { callee:=.builtin .copy,args:=[x,y].toArray,argTypes:=[t,t].toArray },ty,pos,af,g⟩ K a w:=by
 obtain⟨hA,hm'⟩:=hA
 obtain⟨hR,rfl⟩:=hR
 obtain⟨r',w',hrun,h1,h2,h3⟩:=z6b (P:=P) (k2:=k2) (c':=c') h.o hr hA hV hm'.symm hR ht ty
 refine tE h.s hd hg (v:=vi ((Nat.min z.length m':Nat):Int)) (w':=w') ?_ λa' hS=>kk r' a' w' (h.next h1 h2 hS [Ar _ _ _ _ _ m _] ⟨⟨h3,by rw[zQy];exact hm'⟩,trivial⟩) h2
 simp[execOp,resolve,invoke,builtin,h.s.eval hx,h.s.eval hy,hrun,goInt]
theorem z9U (q:Nat){hi':Operand}{k0:Int}{kd:IntKind}(h:SS qd A L0 w0 n S Ls F a w)(hi0:ops[q]?=some ⟨some d,.slice t x none (some hi') none,ty,pos,af,g⟩)(hA:(Ar e te r p c m l).h (bl Ls++A) w)(hx:zL S x=some (.slice p m c))(hhi:zL S hi'=some (.int kd k0))(hm:sub l 0 k0=some z)
  (k:∀ a,SS qd A L0 w0 n ((d,.slice p (List.length z) c)::S) Ls (Ar e te r p c (List.length z) z::F) a w->wK P ops Q (SB B (CC qd A Ls w J)) fuel (listed.setIfInBounds q true) a w)
  (ht:yE P t=some e.n:=by kernel_rfl) (hQ:∀ c (v:Value) a w,Q (.panic c) (a.put (some d) v) w->Q (.panic c) a w:=by exact λ_ _ _ _ h=>h)
  (hk:vZ ops B listed q=true:=by kernel_rfl) (hd:Nat.blt d n=true:=by kernel_rfl) (hg:zS ops S g=some true:=by kernel_rfl):wK P ops Q (SB B (CC qd A Ls w J)) (fuel+1) listed a w:=by
 obtain⟨hA,rfl⟩:=hA
 obtain⟨hf,hr⟩:=z0v (P:=P) (d:=some d) (ty:=ty) (pos:=pos) (af:=af) (g:=g) h.s hA hx ht hhi hm
 exact z9C q h.o h.s hi0 hk hd (λc=>hQ c _) hg hr λa hS=>k a ((h.slot hS).add (f:=Ar e te r p c (List.length z) z) ⟨hf,rfl⟩)
theorem z6g (q:Nat){lo':Operand}{k0:Int}{kd:IntKind}{u:Unit}(h:SS qd A L0 w0 n S Ls F a w)(hi0:ops[q]?=some ⟨some d,.slice t x (some lo') none none,ty,pos,af,g⟩)(hA:(Ar e te r p c m l).h (bl Ls++A) w)(hx:zL S x=some (.slice p m c))(hlo:zL S lo'=some (.int kd k0))
  (hm:vT (decide (0≤k0)&&decide (k0≤(l.length:Int)))=some u)
  (k:∀ p' c',Vw e.n p c m k0 p' (Int.toNat ((m:Int)-k0))->∀ a,SS qd A L0 w0 n ((d,.slice p' (Int.toNat ((m:Int)-k0)) c')::S) Ls F a w->wK P ops Q (SB B (CC qd A Ls w J)) fuel (listed.setIfInBounds q true) a w)
  (ht:yE P t=some e.n:=by kernel_rfl) (hQ:∀ c (v:Value) a w,Q (.panic c) (a.put (some d) v) w->Q (.panic c) a w:=by exact λ_ _ _ _ h=>h)
  (hk:vZ ops B listed q=true:=by kernel_rfl) (hd:Nat.blt d n=true:=by kernel_rfl) (hg:zS ops S g=some true:=by kernel_rfl):wK P ops Q (SB B (CC qd A Ls w J)) (fuel+1) listed a w:=by
 obtain⟨hA,rfl⟩:=hA
 obtain⟨p',c',hv,hr⟩:=zYB (P:=P) (d:=some d) (ty:=ty) (pos:=pos) (af:=af) (g:=g) h.s hA hx ht hlo hm
 exact z9C q h.o h.s hi0 hk hd (λc=>hQ c _) hg hr λa hS=>k p' c' hv a (h.slot hS)
end
end
section
open Go Go.RowKit
theorem u{α:Sort _}{a:α}: a=a:=rfl
theorem d:True:=⟨⟩
theorem kk{α:Sort _}{Q:α->Prop}: ∀ K,Q K->Q K:=λ_ k=>k
variable {qd:Prop}
abbrev sv{τ:Type}(p:Option Addr)(l:List τ)(c:Nat): Value:=.slice p (List.length l) c
abbrev Rl{τ:Type}(e:E τ)(p:Option Addr)(c:Nat)(l:List τ): PP:=R e p c (List.length l) l
abbrev Al{τ:Type}(e:E τ)(te:TypeId)(r:zJ)(p:Option Addr)(c:Nat)(l:List τ): PP:=Ar e te r p c (List.length l) l
abbrev pt (b o:Nat): Value:=.pointer (some ⟨b,o,none⟩)
abbrev Sl:=List (Nat×Value)
abbrev PQ (ρ:Type):= ρ->Exit->Act->World->Prop
structure Hd (qd:Prop) where
 A:List Nat
 L0:List zJ
 w0:World
def NP{ρ:Type}(Q:PQ ρ): Prop:=∀ r c a w,Q r (.panic c) a w->False
inductive uM
 | code (c:Code)
 | ops (os:Array Oper) (l:List Oper)
 | dr (os:Array Oper) (B J:List Nat) (fuel:Nat) (li:Array Bool)
 | fo (i:Nat) (os:Array Oper) (B J:List Nat) (fuel:Nat) (li:Array Bool)
 | af (L0:List zJ) (os:Array Oper) (B J:List Nat) (fuel:Nat) (li:Array Bool)
 | ex (e:Exit)
def uM.go (qd:Prop)(P:Program)(A:List Nat)(Ls:List zJ)(Q:Exit->Act->World->Prop)(a:Act)(w:World): uM->Prop
 | .code c=>c.wp P Q a w
 | .ops os l=>wpList P os Q l a w
 | .dr os B J f li=>wK P os Q (SB B (CC qd A Ls w J)) f li a w
 | .fo i os B J f li=>∃ o,os[i]?=some o∧vD P os Q o (λa' w'=>SB B (CC qd A Ls w J) (li.setIfInBounds i true) w'∧wK P os Q (SB B (CC qd A Ls w J)) f (li.setIfInBounds i true) a' w') a w
 | .af L0 os B J f li=>∀ w0,zU qd L0 w0 Ls w->SB B (CC qd A L0 w0 J) li w∧wK P os Q (SB B (CC qd A L0 w0 J)) f li a w
 | .ex e=>Q e a w
structure J (P:Program)(n:Nat)(X:Hd qd){ρ:Type}(Q:PQ ρ)(p:uM)(S:Sl)(Ls:List zJ)(F:List PP)(m:Option ρ): Prop where
 go:NP Q->∀ r,m=some r->∀ a w,SS qd X.A X.L0 X.w0 n S Ls F a w->p.go qd P X.A Ls (Q r) a w
def zOD{α:Type}: List α->α->(List α->Prop)->Prop
 | [],r,k=>k [r]
 | a::l,r,k=>zOD l r λl'=>k (a::l')
theorem zKe{α:Type}: ∀ {l:List α} {r:α} {k:List α->Prop},zOD l r k=k (l++[r])
 | [],_,_=>rfl
 | a::l,r,k=>by simp only[zOD,zKe,Ur]
def appC{α:Type}: List α->List α->(List α->Prop)->Prop
 | [],l,k=>k l
 | a::m,l,k=>appC m l λl'=>k (a::l')
theorem z6X{α:Type}: ∀ {m l:List α} {k:List α->Prop},appC m l k=k (m++l)
 | [],_,_=>rfl
 | a::m,l,k=>by simp only[appC,z6X,Ur]
def uR{α:Type}: List α->Nat->α->(List α->Prop)->Prop
 | [],_,_,k=>k []
 | _::l,0,r,k=>k (r::l)
 | a::l,i+1,r,k=>uR l i r λl'=>k (a::l')
theorem zH0{α:Type}: ∀ {l:List α} {i:Nat} {r:α} {k:List α->Prop},uR l i r k=k (l.set i r)
 | [],_,_,_=>rfl
 | _::_,0,_,_=>rfl
 | a::l,i+1,r,k=>by simp only[uR,zH0,Wk]
def z7R:List Nat->List zJ->List zJ->(List zJ->Prop)->Prop
 | [],L1,Ls,k=>match L1 with
  | []=>k Ls
  | _::_=>appC Ls L1 k
 | _::_,[],_,_=>False
 | j::js,r::L1,Ls,k=>uR Ls j r λLs'=>z7R js L1 Ls' k
theorem zX1:∀ {js:List Nat} {L1 Ls:List zJ} {k:List zJ->Prop},z7R js L1 Ls k->Nat.ble js.length L1.length=true∧k (z1C js (L1.take js.length) Ls++L1.drop js.length)
 | [],L1,Ls,k,h=>by
  refine⟨by simp,?_⟩
  cases L1 with
  | nil=>simpa [z7R,z1C] using h
  | cons r L1=>simpa [z7R,z6X,z1C] using h
 | j::js,[],Ls,k,h=>h.elim
 | j::js,r::L1,Ls,k,h=>by
  simp only[z7R,zH0] at h
  obtain⟨h1,h2⟩:=zX1 h
  refine⟨by simp_all,?_⟩
  simpa [z1C] using h2
section
variable {β:Type}
def lookC:Sl->Nat->(Value->Option β)->Option β
 | [],_,_=>none
 | (i,v)::r,j,k=>bif Nat.beq i j then k v else lookC r j k
theorem z2s:∀ {S:Sl} {j:Nat} {k:Value->Option β},lookC S j k=(vX S j).bind k
 | [],_,_=>rfl
 | (i,v)::r,j,k=>by
  simp only[lookC,vX]
  cases Nat.beq i j with
  | true=>rfl
  | false=>exact z2s
def z1a (S:Sl)(x:Operand)(k:Value->Option β): Option β:=match x with
 | .tmp t=>lookC S t k
 | .const v=>k v
 | .func f=>k (.func (.func f) #[] #[])
 | .global g=>k (.pointer (some ⟨g,0,none⟩))
theorem zL8{S:Sl}{x:Operand}{k:Value->Option β}: z1a S x k=(zL S x).bind k:=by
 cases x <;> simp[z1a,zL,z2s]
def opdsC (S:Sl): List Operand->(List Value->Option β)->Option β
 | [],k=>k []
 | x::r,k=>z1a S x λv=>opdsC S r λvs=>k (v::vs)
theorem z8H{S:Sl}: ∀ {xs:List Operand} {k:List Value->Option β},opdsC S xs k=(z8X S xs).bind k
 | [],_=>rfl
 | x::r,k=>by
  simp only[opdsC,z8X,zL8,z8H]
  cases zL S x with
  | none=>rfl
  | some v=>cases z8X S r <;> rfl
def intC (op:BinOp)(k:IntKind)(a b:Int)(kk:Value->Option β): Option β :=
 match op with
 | .add=>kk (.int k (k.wrap (a+b)))
 | .sub=>kk (.int k (k.wrap (a-b)))
 | .mul=>kk (.int k (k.wrap (a*b)))
 | .and=>kk (.int k (yI k a b))
 | .or=>kk (.int k (bor k a b))
 | .xor=>kk (.int k (bxor k a b))
 | .andNot=>kk (.int k (zSs k a b))
 | .eql=>kk (.bool (a==b))
 | .neq=>kk (.bool (a != b))
 | .lss=>kk (.bool (decide (a<b)))
 | .leq=>kk (.bool (decide (a≤b)))
 | .gtr=>kk (.bool (decide (b<a)))
 | .geq=>kk (.bool (decide (b≤a)))
 | _=>none
theorem intC_eq{op:BinOp}{k:IntKind}{a b:Int}{kk:Value->Option β}: intC op k a b kk=(z8Q op k a b).bind kk:=by cases op <;> rfl
def strC (op:BinOp)(a b:zD)(kk:Value->Option β): Option β :=
 match op with
 | .eql=>kk (.bool (a==b))
 | .neq=>kk (.bool (!(a==b)))
 | .lss=>kk (.bool (uV a b))
 | .leq=>kk (.bool (uV a b||a==b))
 | .gtr=>kk (.bool (!(uV a b||a==b)))
 | .geq=>kk (.bool (!(uV a b)))
 | _=>none
theorem strC_eq{op:BinOp}{a b:zD}{kk:Value->Option β}: strC op a b kk=(z7b op a b).bind kk:=by cases op <;> rfl
def kindC (k k':IntKind)(x:Option β): Option β:=match k,k' with
 | .i8,.i8 | .i16,.i16 | .i32,.i32 | .i64,.i64 | .u8,.u8 | .u16,.u16 | .u32,.u32 | .u64,.u64=>x
 | _,_=>none
theorem z9T{k k':IntKind}{x:Option β}{r:β}(h:kindC k k' x=some r): k=k'∧x=some r:=by
 cases k <;> cases k' <;> first | exact⟨rfl,h⟩ | cases h
def binC (op:BinOp)(u v:Value)(kk:Value->Option β): Option β:=match u,v with
 | .int k a,.int k' b=>kindC k k' (intC op k a b kk)
 | .string ⟨⟨a⟩⟩,.string ⟨⟨b⟩⟩=>strC op a b kk
 | _,_=>none
def lenC (u:Value)(kk:Bool->Value->Option β): Option β:=match u with
 | .string ⟨⟨s⟩⟩=>kk true (vi (len s))
 | .slice _ n _=>kk false (vi (n:Int))
 | _=>none
abbrev Ob:=TypeId×Bool
def z1D (P:Program): List Ob->Bool
 | []=>true
 | (t,true)::r=>(match P.underlying t with | some .string=>true | _=>false)&&z1D P r
 | (t,false)::r=>(match P.underlying t with | some (.slice _)=>true | _=>false)&&z1D P r
def pvC (S:Sl)(op:Op)(ob:List Ob)(kk:List Ob->Value->Option β): Option β:=match op with
 | .move x=>z1a S x (kk ob)
 | .assign x=>z1a S x (kk ob)
 | .binOp op _ x y _=>z1a S x λu=>z1a S y λv=>binC op u v (kk ob)
 | .unOp .not _ x=>z1a S x λu=>match u with
  | .bool b=>kk ob (.bool (!b))
  | _=>none
 | .unOp .neg _ x=>z1a S x λu=>match u with
  | .int k n=>kk ob (.int k (k.wrap (0-n)))
  | _=>none
 | .extract x i=>z1a S x λu=>match u with
  | .tuple ⟨vs⟩=>match vs[i]? with
   | some v=>kk ob v
   | none=>none
  | _=>none
 | .nilCheck x=>z1a S x λu=>match u with
  | .pointer (some a)=>kk ob (.pointer (some a))
  | _=>none
 | .makeFunc fn x y=>opdsC S x.toList λus=>opdsC S y.toList λvs=>kk ob (.func fn us.toArray vs.toArray)
 | .call c=>match c.callee,c.args,c.argTypes with
  | .builtin .len,⟨[x]⟩,⟨[t]⟩=>z1a S x λu=>lenC u λb v=>kk ((t,b)::ob) v
  | .builtin .min,⟨[x,y]⟩,_=>z1a S x λu=>z1a S y λv=>match u,v with
   | .int k a,.int _ b=>kk ob (.int k (if b<a then b else a))
   | _,_=>none
  | .builtin .max,⟨[x,y]⟩,_=>z1a S x λu=>z1a S y λv=>match u,v with
   | .int k a,.int _ b=>kk ob (.int k (if b > a then b else a))
   | _,_=>none
  | _,_,_=>none
 | _=>none
theorem zCF{α γ:Type}{o:Option α}{k:α->Option γ}{r:γ}(h:o.bind k=some r): ∃ x,o=some x∧k x=some r:=by
 cases o with
 | none=>cases h
 | some x=>grind
theorem binC_spec{P:Program}{op:BinOp}{t ty:TypeId}{x y:Operand}{S:Sl}{u v:Value}{kk:Value->Option β}{r:β}(hx:zL S x=some u)(hy:zL S y=some v)(h:binC op u v kk=some r):
  ∃ z,pv P S (.binOp op t x y ty)=some z∧kk z=some r:=by
 unfold binC at h
 split at h
 ·grind [z9T,intC_eq,pv]
 ·rename_i a b
  rw[strC_eq] at h
  obtain⟨z,h1,h2⟩:=zCF h
  grind [pv]
 ·cases h
theorem z2x{P:Program}{S:Sl}{op:Op}{ob:List Ob}{kk:List Ob->Value->Option β}{r:β}(h:pvC S op ob kk=some r):
  ∃ ob' v,kk ob' v=some r∧(z1D P ob'=true->pv P S op=some v∧z1D P ob=true):=by
 cases op with
 | move x=>simp only[pvC,zL8] at h;obtain⟨v,h1,h2⟩:=zCF h;exact⟨ob,v,h2,λh=>⟨h1,h⟩⟩
 | assign x=>simp only[pvC,zL8] at h;obtain⟨v,h1,h2⟩:=zCF h;exact⟨ob,v,h2,λh=>⟨h1,h⟩⟩
 | binOp op t x y ty =>
  simp only[pvC,zL8] at h
  obtain⟨u,hx,h⟩:=zCF h
  obtain⟨v,hy,h⟩:=zCF h
  obtain⟨z,h1,h2⟩:=binC_spec (P:=P) (t:=t) (ty:=ty) hx hy h
  grind
 | unOp op t x =>
  cases op with
  | not =>
   simp only[pvC,zL8] at h
   obtain⟨u,hx,h⟩:=zCF h
   split at h
   ·exact⟨ob,_,h,λh=>⟨by simp[pv,hx],h⟩⟩
   ·cases h
  | neg =>
   simp only[pvC,zL8] at h
   obtain⟨u,hx,h⟩:=zCF h
   split at h
   ·exact⟨ob,_,h,λh=>⟨by simp[pv,hx],h⟩⟩
   ·cases h
  | _=>simp[pvC] at h
 | extract x i =>
  simp only[pvC,zL8] at h
  obtain⟨u,hx,h⟩:=zCF h
  split at h
  ·split at h
   ·rename_i v hv
    exact⟨ob,v,h,λh=>⟨by simp[pv,hx,hv],h⟩⟩
   ·cases h
  ·cases h
 | nilCheck x =>
  simp only[pvC,zL8] at h
  obtain⟨u,hx,h⟩:=zCF h
  split at h
  ·exact⟨ob,_,h,λh=>⟨by simp[pv,hx],h⟩⟩
  ·cases h
 | makeFunc fn x y =>
  simp only[pvC,z8H] at h
  obtain⟨us,hx,h⟩:=zCF h
  obtain⟨vs,hy,h⟩:=zCF h
  exact⟨ob,_,h,λh=>⟨by simp[pv,hx,hy],h⟩⟩
 | call c =>
  obtain⟨cal,args,ats⟩:=c
  simp only[pvC] at h
  split at h
  ·rename_i x t
   simp only[zL8] at h
   obtain⟨u,hx,h⟩:=zCF h
   unfold lenC at h
   split at h
   ·refine⟨_,_,h,λh=>?_⟩
    simp only[z1D,QA] at h
    grind [pv]
   ·refine⟨_,_,h,λh=>?_⟩
    simp only[z1D,QA] at h
    grind [pv]
   ·cases h
  ·simp only[zL8] at h
   obtain⟨u,hx,h⟩:=zCF h
   obtain⟨v,hy,h⟩:=zCF h
   split at h
   ·exact⟨ob,_,h,λh=>⟨by simp[pv,hx,hy],h⟩⟩
   ·cases h
  ·simp only[zL8] at h
   obtain⟨u,hx,h⟩:=zCF h
   obtain⟨v,hy,h⟩:=zCF h
   split at h
   ·exact⟨ob,_,h,λh=>⟨by simp[pv,hx,hy],h⟩⟩
   ·cases h
  ·cases h
 | _=>simp[pvC] at h
def guC (os:Array Oper)(S:Sl)(g:Option (Nat×Bool))(yes no:Option β): Option β:=match g with
 | none=>yes
 | some (j,b)=>match os[j]? with
  | none=>none
  | some o=>match o.dst with
   | none=>none
   | some d=>lookC S d λv=>match v with
    | .bool true=>match b with
     | true=>yes
     | false=>no
    | .bool false=>match b with
     | true=>no
     | false=>yes
    | .tuple _=>no
    | _=>none
theorem z33{os:Array Oper}{S:Sl}{g:Option (Nat×Bool)}{yes no:Option β}{r:β}(h:guC os S g yes no=some r):
  (zS os S g=some true∧yes=some r)∨(zS os S g=some false∧no=some r):=by
 unfold guC at h
 split at h
 ·exact .inl ⟨rfl,h⟩
 ·rename_i j b
  split at h
  ·cases h
  ·rename_i o ho
   split at h
   ·cases h
   ·rename_i d hd
    rw[z2s] at h
    obtain⟨v,hv,h⟩:=zCF h
    grind [zS]
def runC (os:Array Oper): List Oper->Nat->Sl->List Ob->Option (Sl×List Oper×List Ob)
 | l,0,S,ob=>some (S,l,ob)
 | [],_+1,_,_=>none
 | o::l,k+1,S,ob=>match o.dst with
  | none=>none
  | some d=>guC os S o.guard (pvC S o.op ob λob v=>runC os l k ((d,v)::S) ob) (runC os l k ((d,undef)::S) ob)
end
theorem zTY{P:Program}{os:Array Oper}{n:Nat}{Q:Exit->Act->World->Prop}{w:World}: ∀(l:List Oper) (k:Nat) (S S':Sl) (l':List Oper) (ob ob':List Ob) (a:Act),qL a n S->runC os l k S ob=some (S',l',ob')->
  ((z3k (l.take k)).all (λd=>Nat.blt d n)=true)->z1D P ob'=true->(∀ a',qL a' n S'->wpList P os Q l' a' w)->z1D P ob=true∧wpList P os Q l a w
 | l,0,S,S',l',ob,ob',a,hS,h,_,ho,kk=>by
  simp only[runC,Qg,Prod.mk.injEq] at h
  grind
 | [],k+1,S,S',l',ob,ob',a,hS,h,_,_,kk=>by simp[runC] at h
 | o::l,k+1,S,S',l',ob,ob',a,hS,h,hd,ho,kk=>by
  simp only[runC] at h
  split at h
  ·cases h
  ·rename_i d hod
   simp only[List.take_succ_cons,z3k,hod,U8,QA] at hd
   rcases z33 h with⟨hg,h⟩ | ⟨hg,h⟩
   ·obtain⟨ob1,v,h,hv⟩:=z2x (P:=P) h
    have key:∀ a,qL a n ((d,v)::S)->z1D P ob1=true∧wpList P os Q l a w:=λa hS=>zTY l k _ S' l' ob1 ob' a hS h hd.2 ho kk
    have h1:=(zTY (P:=P) (Q:=Q) l k _ S' l' ob1 ob' _ (hS.put hd.1 v) h hd.2 ho kk).1
    obtain⟨h2,h3⟩:=hv h1
    refine⟨h3,zSp (v:=v) (w':=w) hg hS (z2D hS h2 _ _ _ _ _ w) ?_⟩
    rw[hod]
    exact(key _ (hS.put hd.1 v)).2
   ·have h1:=zTY (P:=P) (Q:=Q) l k _ S' l' ob ob' _ (hS.put hd.1 undef) h hd.2 ho kk
    grind [zVM]
end
section
open Go Go.RowKit
variable {qd:Prop}
set_option linter.unusedVariables false
abbrev xY:=Sl->List zJ->List PP->Prop
def Ex{α β γ:Type}(I:(α->β->γ->Prop)->Prop)(K:α->β->γ->Prop): Prop:=∀ G:Prop,I (λa b c=>K a b c->G)->G
def xQ (p:PP->Prop): List PP->Prop
 | []=>True
 | f::r=>p f∧xQ p r
theorem xQ.all{p:PP->Prop}{Z:List Nat}{w:World}(h:∀ f,p f->f.h Z w): ∀ {F:List PP},xQ p F->uW F Z w
 | [],_=>trivial
 | f::_,hp=>⟨h f hp.1,xQ.all h hp.2⟩
def vN (Ls:List zJ)(F:List PP)(f:PP): Prop:=∀ A w,zZ A w Ls->uW F (bl Ls++A) w->f.h (bl Ls++A) w
def OKc (Ls:List zJ)(F:List PP)(js ls:List Nat)(f:PP): Prop:=∀ A w,zZ A w Ls->uW F (bl Ls++A) w->f.h (bl (uY Ls js)++Ac A Ls js ls) w
section
variable {Ls:List zJ}{F:List PP}{js ls:List Nat}{τ:Type}{e:E τ}{te:TypeId}{r:zJ}{p:Option Addr}{c m:Nat}{l:List τ}
theorem gk (k:Nat): vN Ls F (uA F k):=λ_ _ _ h=>h.at k
theorem gn:vN Ls F (R e p c 0 []):=λ_ _ _ _=>rnil _ _ _ _ _
theorem gl (h:vN Ls F (R e p c m l)): vN Ls F (R e p c (List.length l) l):=λA w hO hF=>R.re (h A w hO hF)
theorem gL (h:vN Ls F (Ar e te r p c m l)): vN Ls F (Ar e te r p c (List.length l) l):=λA w hO hF=>Ar.re (h A w hO hF)
theorem gf{α β:Type}{a:E α}{b:E β}{bl o:Nat}{x:α×β}(h:vN Ls F (Pt (wP a b) bl o x)): vN Ls F (Pt a bl o x.1):=λA w hO hF=>tX.fst (h A w hO hF)
theorem gs{α β:Type}{a:E α}{b:E β}{bl o:Nat}{x:α×β}(h:vN Ls F (Pt (wP a b) bl o x)): vN Ls F (Pt b bl (o+a.n) x.2):=λA w hO hF=>tX.snd (h A w hO hF)
theorem ck (k:Nat): OKc Ls F js ls (uA F k):=λA w hO hF=>(uA F k).mv (SS.pstep js ls) (hF.at k)
theorem cn:OKc Ls F js ls (R e p c 0 []):=λ_ _ _ _=>rnil _ _ _ _ _
end
section
variable {P:Program}{n:Nat}{X:Hd qd}{ρ σ:Type}{Q:PQ ρ}{S:Sl}{Ls:List zJ}{F:List PP}{m m1 m2:Option ρ}{os:Array Oper}{l:List Oper}{x y:Code}{id:Nat}
theorem cl{τ:Type}{e:E τ}{te:TypeId}{r:zJ}{p:Option Addr}{c m:Nat}{l:List τ}{js ls:List Nat}(i k:Nat)(hk:z6n (js++ls) Ls.length=true:=by kernel_rfl)(hr:Ls[i]?=some r:=by rfl)
  (hF:uA F k=Ar e te r p c m l:=by rfl) (hi:ls.contains i=true:=by kernel_rfl):OKc Ls F js ls (R e p c m l):=λA w hO hA=>by
 have h:SS True A Ls w 0 [] Ls F { tmps:=#[],defers:=[] } w:=⟨⟨rfl,rfl,λ_ _ h=>by cases h⟩,hO,zU.refl _ _,hA⟩
 exact h.pl js ls i (by rw[←hF];exact h.g k) hr hk hi
structure Gv (Ls:List zJ)(S:Sl)(F:List PP)(I:xY->Prop): Prop where
 go:∀ {qd A L0 w0 n a w},SS qd A L0 w0 n S Ls F a w->Ex I (λS2 L2 F2=>SS qd A L0 w0 n S2 L2 F2 a w)
theorem gv{I:xY->Prop}{S2:Sl}{L2:List zJ}{F2:List PP}(hk:∀ K,I K->K S2 L2 F2)(js:List Nat)(hF:xQ (vN Ls F) F2)(hL:uY Ls js=L2:=by rfl)(hS:zYT S (S2.map Prod.fst)=some S2:=by kernel_rfl)(hn:js.Nodup:=by decide): Gv Ls S F I :=
 ⟨λh _ hG=>hk _ hG (hL▸h.tos js (xQ.all (λ_ hf=>hf _ _ h.o h.f) hF) hS hn)⟩
def zVQ (P:Program)(y:Code)(Q:PQ ρ): PQ ρ:=λr=>Exit.then (y.wp P (Q r)) (Q r)
def inQ (id:Nat)(Q:PQ ρ): PQ ρ:=λr=>Exit.inBlock id (Q r)
def scQ (Q:PQ ρ): PQ ρ:=λr=>Exit.noGoto (Q r)
def jnQ (X:Hd qd)(n:Nat)(I:σ->xY->Prop): PQ σ:=λs e a w=>match e with
 | .normal=>Ex (I s) λS L F=>SS qd X.A X.L0 X.w0 n S L F a w
 | _=>False
def lpQ (X:Hd qd)(n:Nat)(I:σ->xY->Prop)(Q:PQ ρ): PQ (σ⊕ρ):=λo e a w=>match e with
 | .normal=>match o with
  | .inl s=>Ex (I s) λS L F=>SS qd X.A X.L0 X.w0 n S L F a w
  | .inr _=>False
 | e=>match o with
  | .inl _=>False
  | .inr r=>Q r e a w
def zY2 (P:Program)(fn:Func)(X:Hd qd)(post:ρ->(Value->List zJ->List PP->Prop)->Prop): PQ ρ:=λr=>bodyPost P fn (Ret λv w=>Ex (post r) λv1 L1 F1=>v=v1∧Bk qd X.A X.L0 X.w0 L1 F1 w)
theorem zVQ.np (h:NP Q): NP (zVQ P y Q):=λr c a w=>h r c a w
theorem inQ.np (h:NP Q): NP (inQ id Q):=λr c a w=>h r c a w
theorem scQ.np (h:NP Q): NP (scQ Q):=λr c a w=>h r c a w
theorem jnQ.np{I:σ->xY->Prop}: NP (jnQ X n I):=λ_ _ _ _ h=>h
theorem lpQ.np{I:σ->xY->Prop}(h:NP Q): NP (lpQ X n I Q):=λo c a w hh=>by
 cases o with
 | inl s=>exact hh
 | inr r=>exact h r c a w hh
theorem zY2.np{fn:Func}{post:ρ->(Value->List zJ->List PP->Prop)->Prop}: NP (zY2 P fn X post):=λ_ _ _ _ h=>h.2
theorem J.of{p p':uM}{Q':PQ ρ}(h:J P n X Q' p' S Ls F m)(hn:NP Q->NP Q')(k:∀ r a w,p'.go qd P X.A Ls (Q' r) a w->p.go qd P X.A Ls (Q r) a w): J P n X Q p S Ls F m :=
 ⟨λhq r hm a w hs=>k r a w (h.go (hn hq) r hm a w hs)⟩
theorem zG (h:J P n X (zVQ P y Q) (.ops l.toArray l) S Ls F m): J P n X Q (.code (.seq (.region id l.toArray false) y)) S Ls F m:=h.of zVQ.np λ_ _ _ h=>wp_seq (reg h)
theorem wQ (h:J P n X Q (.ops l.toArray l) S Ls F m): J P n X Q (.code (.region id l.toArray false)) S Ls F m:=h.of (λh=>h) λ_ _ _ h=>reg h
theorem zK (h:J P n X Q (.code y) S Ls F m): J P n X (zVQ P y Q) (.ops os []) S Ls F m :=
 ⟨λhq r hm a w hs=>show wpList P os (Exit.then (y.wp P (Q r)) (Q r)) [] a w from ops_end (h.go (λr c a w=>hq r c a w) r hm a w hs)⟩
theorem qN (h:J P n X Q (.ex .normal) S Ls F m): J P n X Q (.ops os []) S Ls F m:=⟨λhq r hm a w hs=>show wpList P os (Q r) [] a w from ops_end (h.go hq r hm a w hs)⟩
theorem qK (h:J P n X Q (.code y) S Ls F m): J P n X (zVQ P y Q) (.ex .normal) S Ls F m :=
 ⟨λhq r hm a w hs=>h.go (λr c a w=>hq r c a w) r hm a w hs⟩
theorem yR (h:J P n X Q (.ex (.exit id)) S Ls F m): J P n X (zVQ P y Q) (.ex (.exit id)) S Ls F m :=
 ⟨λhq r hm a w hs=>h.go (λr c a w=>hq r c a w) r hm a w hs⟩
theorem qS (h:J P n X Q (.ex .ret) S Ls F m): J P n X (zVQ P y Q) (.ex .ret) S Ls F m :=
 ⟨λhq r hm a w hs=>h.go (λr c a w=>hq r c a w) r hm a w hs⟩
theorem zQ (h:J P n X (zVQ P y Q) (.code x) S Ls F m): J P n X Q (.code (.seq x y)) S Ls F m:=h.of zVQ.np λ_ _ _ h=>wp_seq h
theorem vF (h:J P n X Q (.ex .normal) S Ls F m): J P n X Q (.code .skip) S Ls F m:=h.of (λh=>h) λ_ _ _ h=>wp_skip h
theorem jss (h:J P n X Q (.code y) S Ls F m): J P n X Q (.code (.seq .skip y)) S Ls F m:=h.of (λh=>h) λ_ _ _ h=>wp_seq (wp_skip (then_n h))
theorem jst (h:J P n X Q (.code y) S Ls F m): J P n X (zVQ P y Q) (.code .skip) S Ls F m:=vF (qK h)
theorem jlb{s:Nat}(h:J P n X Q (.ex .normal) S Ls F m): J P n X Q (.code (.label s)) S Ls F m:=h.of (λh=>h) λ_ _ _ h=>wp_label h
theorem qA (h:J P n X (inQ id Q) (.code x) S Ls F m): J P n X Q (.code (.block id x)) S Ls F m:=h.of inQ.np λ_ _ _ h=>wp_block h
theorem wT (h:J P n X Q (.ex .normal) S Ls F m): J P n X (inQ id Q) (.ex .normal) S Ls F m:=⟨λhq r hm a w hs=>h.go (λr c a w=>hq r c a w) r hm a w hs⟩
theorem yV (h:J P n X Q (.ex .normal) S Ls F m): J P n X (inQ id Q) (.ex (.exit id)) S Ls F m:=⟨λhq r hm a w hs=>show Exit.inBlock id (Q r) (.exit id) a w from inb_hit (h.go (λr c a w=>hq r c a w) r hm a w hs)⟩
theorem jbm{id':Nat}(h:J P n X Q (.ex (.exit id')) S Ls F m)(hne:Nat.beq id' id=false:=by rfl): J P n X (inQ id Q) (.ex (.exit id')) S Ls F m:=⟨λhq r hm a w hs=>show Exit.inBlock id (Q r) (.exit id') a w from inb_miss hne (h.go (λr c a w=>hq r c a w) r hm a w hs)⟩
theorem yC (h:J P n X Q (.ex .ret) S Ls F m): J P n X (inQ id Q) (.ex .ret) S Ls F m:=⟨λhq r hm a w hs=>h.go (λr c a w=>hq r c a w) r hm a w hs⟩
theorem jcs (h:J P n X (scQ Q) (.code x) S Ls F m): J P n X Q (.code (.scope x)) S Ls F m:=h.of scQ.np λ_ _ _ h=>wp_scope_straight h
theorem jcn (h:J P n X Q (.ex .normal) S Ls F m): J P n X (scQ Q) (.ex .normal) S Ls F m:=⟨λhq r hm a w hs=>h.go (λr c a w=>hq r c a w) r hm a w hs⟩
theorem jce (h:J P n X Q (.ex (.exit id)) S Ls F m): J P n X (scQ Q) (.ex (.exit id)) S Ls F m:=⟨λhq r hm a w hs=>h.go (λr c a w=>hq r c a w) r hm a w hs⟩
theorem jcr (h:J P n X Q (.ex .ret) S Ls F m): J P n X (scQ Q) (.ex .ret) S Ls F m:=⟨λhq r hm a w hs=>h.go (λr c a w=>hq r c a w) r hm a w hs⟩
theorem yX (h:J P n X Q (.ex (.exit id)) S Ls F m): J P n X Q (.code (.exit id)) S Ls F m:=h.of (λh=>h) λ_ _ _ h=>wp_exit h
theorem qC (h:J P n X Q (.ex .ret) S Ls F m): J P n X Q (.code .ret) S Ls F m:=h.of (λh=>h) λ_ _ _ h=>wp_ret h
theorem zR{c:Operand}{b:Bool}(hc:zL S c=some (.bool b))(hx:J P n X Q (.code x) S Ls F m1)(hy:J P n X Q (.code y) S Ls F m2): J P n X Q (.code (.cond c x y)) S Ls F (if b=true then m1 else m2) :=
 ⟨λhq r hm a w hs=>z5A hs.s hc (λhb=>hx.go hq r (ifT hb hm) a w hs) (λhb=>hy.go hq r (ifF hb hm) a w hs)⟩
theorem jct{c:Operand}(hc:zL S c=some (.bool true))(hx:J P n X Q (.code x) S Ls F m): J P n X Q (.code (.cond c x y)) S Ls F m :=
 ⟨λhq r hm a w hs=>z5A hs.s hc (λ_=>hx.go hq r hm a w hs) (λhb=>by cases hb)⟩
theorem jcf{c:Operand}(hc:zL S c=some (.bool false))(hy:J P n X Q (.code y) S Ls F m): J P n X Q (.code (.cond c x y)) S Ls F m :=
 ⟨λhq r hm a w hs=>z5A hs.s hc (λhb=>by cases hb) (λ_=>hy.go hq r hm a w hs)⟩
theorem jnl{τ:Type}{e:E τ}{p:Option Addr}{c0 k:Nat}{l:List τ}{c:Operand}(hc:zL S c=some (.bool p.isNone))(g:vN Ls F (R e p c0 k l))(hl:l=[]->m1=m)
  (hx:J P n X Q (.code x) S Ls F m1) (hy:J P n X Q (.code y) S Ls F m):J P n X Q (.code (.cond c x y)) S Ls F m :=
 ⟨λhq r hm a w hs=>z5A hs.s hc (λhb=>hx.go hq r ((hl (R.isNil (g _ _ hs.o hs.f) hb)).trans hm) a w hs) (λ_=>hy.go hq r hm a w hs)⟩
theorem vG{s:σ}{I:σ->xY->Prop}(g:Gv Ls S F (I s)): J P n X (lpQ X n I Q) (.ex .normal) S Ls F (some (.inl s)) :=
 ⟨λ_ r hm a w hs=>by cases hm;exact g.go hs⟩
theorem yQ{r:ρ}{I:σ->xY->Prop}(h:J P n X Q (.ex (.exit id)) S Ls F (some r)): J P n X (lpQ X n I Q) (.ex (.exit id)) S Ls F (some (.inr r)) :=
 ⟨λhq o hm a w hs=>by cases hm;exact h.go (λr c a w hh=>hq (.inr r) c a w hh) r rfl a w hs⟩
theorem tF{r:ρ}{I:σ->xY->Prop}(h:J P n X Q (.ex .ret) S Ls F (some r)): J P n X (lpQ X n I Q) (.ex .ret) S Ls F (some (.inr r)) :=
 ⟨λhq o hm a w hs=>by cases hm;exact h.go (λr c a w hh=>hq (.inr r) c a w hh) r rfl a w hs⟩
theorem qB{s:σ}{I:σ->xY->Prop}(g:Gv Ls S F (I s)): J P n X (jnQ X n I) (.ex .normal) S Ls F (some s) :=
 ⟨λ_ r hm a w hs=>by cases hm;exact g.go hs⟩
theorem jlp{ρ σ:Type}{Q:PQ ρ}{B:σ->Option (σ⊕ρ)}{s0:σ}{c:Code}(I:σ->xY->Prop)(g:Gv Ls S F (I s0))
  (hb:∀ s K,(∀ {S L F},J P n X (lpQ X n I Q) (.code c) S L F (B s)->K S L F)->I s K):J P n X Q (.code (.loop c)) S Ls F (zN B s0):=by
 refine⟨λhq r hm a w hs=>?_⟩
 refine loop_m (λs a w=>Ex (I s) λS L F=>SS qd X.A X.L0 X.w0 n S L F a w) hm (g.go hs) λs a w o hI hB hr=>?_
 refine hI _ (hb s _ λ{S L F} hj hs=>?_)
 refine wp_mono (hj.go (lpQ.np hq) o hB a w hs) λe a w h=>?_
 cases o with
 | inl s'=>cases e <;> first | exact⟨s',rfl,h⟩ | exact h.elim
 | inr r' =>
  cases hr r' rfl
  cases e <;> first | exact h.elim | exact h
theorem jjn{σ ρ:Type}{Q:PQ ρ}{m1:Option σ}{f:σ->Option ρ}(I:σ->xY->Prop)(hx:J P n X (jnQ X n I) (.code x) S Ls F m1)
  (hy:∀ s K,(∀ {S L F},J P n X Q (.code y) S L F (f s)->K S L F)->I s K):J P n X Q (.code (.seq x y)) S Ls F (m1.bind f):=by
 refine⟨λhq r hm a w hs=>?_⟩
 obtain⟨s,h1,h2⟩:=xG hm
 refine seq_j (λa w=>Ex (I s) λS L F=>SS qd X.A X.L0 X.w0 n S L F a w) (wp_mono (hx.go jnQ.np s h1 a w hs) λe a w h=>?_) λa w hI=>hI _ (hy s _ λ{S L F} hj hs=>hj.go hq r h2 a w hs)
 cases e <;> first | exact h | exact h.elim
theorem jjo{σ ρ:Type}{Q:PQ ρ}{m1:Option (σ⊕ρ)}{f:σ->Option ρ}(I:σ->xY->Prop)(hx:J P n X (lpQ X n I Q) (.code x) S Ls F m1)
  (hy:∀ s K,(∀ {S L F},J P n X Q (.code y) S L F (f s)->K S L F)->I s K):J P n X Q (.code (.seq x y)) S Ls F (vH m1 f):=by
 refine⟨λhq r hm a w hs=>?_⟩
 obtain⟨o,h1,h2⟩:=xG hm
 refine seq_j (λa w=>∃ s,o=.inl s∧Ex (I s) λS L F=>SS qd X.A X.L0 X.w0 n S L F a w) (wp_mono (hx.go (lpQ.np hq) o h1 a w hs) λe a w h=>?_) λa w hI=>?_
 ·cases o with
  | inl s=>cases e <;> first | exact⟨s,rfl,h⟩ | exact h.elim
  | inr r' =>
   cases h2
   cases e <;> first | exact h.elim | exact h
 ·obtain⟨s,rfl,hI⟩:=hI
  exact hI _ (hy s _ λ{S L F} hj hs=>hj.go hq r h2 a w hs)
theorem jjc{σ ρ:Type}{Q:PQ ρ}{m1:Option σ}{f:σ->Option ρ}(I:σ->xY->Prop)(hx:J P n X (jnQ X n I) (.code x) S Ls F m1)
  (hy:∀ s K,(∀ {S L F},J P n X Q (.ex .normal) S L F (f s)->K S L F)->I s K):J P n X Q (.code x) S Ls F (m1.bind f):=by
 refine⟨λhq r hm a w hs=>?_⟩
 obtain⟨s,h1,h2⟩:=xG hm
 refine code_j (λa w=>Ex (I s) λS L F=>SS qd X.A X.L0 X.w0 n S L F a w) (wp_mono (hx.go jnQ.np s h1 a w hs) λe a w h=>?_) λa w hI=>hI _ (hy s _ λ{S L F} hj hs=>hj.go hq r h2 a w hs)
 cases e <;> first | exact h | exact h.elim
theorem jjp (I:xY->Prop)(hx:J P n X (jnQ X n λ_:Unit=>I) (.code x) S Ls F (some ()))
  (hy:∀ K:xY,(∀ {S L F},J P n X Q (.code y) S L F m->K S L F)->I K):J P n X Q (.code (.seq x y)) S Ls F m:=by
 refine⟨λhq r hm a w hs=>?_⟩
 refine seq_j (λa w=>Ex I λS L F=>SS qd X.A X.L0 X.w0 n S L F a w) (wp_mono (hx.go jnQ.np () rfl a w hs) λe a w h=>?_) λa w hI=>hI _ (hy _ λ{S L F} hj hs=>hj.go hq r hm a w hs)
 cases e <;> first | exact h | exact h.elim
theorem jjq (I:xY->Prop)(hx:J P n X (jnQ X n λ_:Unit=>I) (.code x) S Ls F (some ()))
  (hy:∀ K:xY,(∀ {S L F},J P n X Q (.ex .normal) S L F m->K S L F)->I K):J P n X Q (.code x) S Ls F m:=by
 refine⟨λhq r hm a w hs=>?_⟩
 refine code_j (λa w=>Ex I λS L F=>SS qd X.A X.L0 X.w0 n S L F a w) (wp_mono (hx.go jnQ.np () rfl a w hs) λe a w h=>?_) λa w hI=>hI _ (hy _ λ{S L F} hj hs=>hj.go hq r hm a w hs)
 cases e <;> first | exact h | exact h.elim
theorem uO{p:uM}{b:Bool}(t:Nat)(hl:vX S t=some (.bool b))(h1:J P n X Q p ((t,.bool true)::S) Ls F m1)(h2:J P n X Q p ((t,.bool false)::S) Ls F m2): J P n X Q p S Ls F (if b=true then m1 else m2) :=
 ⟨λhq r hm a w hs=>by
  cases b with
  | true=>exact h1.go hq r hm a w (hs.upd _ hl rfl)
  | false=>exact h2.go hq r hm a w (hs.upd _ hl rfl)⟩
theorem xO{p:uM}{b:Bool}(t:Nat)(hl:vX S t=some (.bool b))(h1:b=true->J P n X Q p ((t,.bool true)::S) Ls F m)(h2:b=false->J P n X Q p ((t,.bool false)::S) Ls F m): J P n X Q p S Ls F m :=
 ⟨λhq r hm a w hs=>by
  cases b with
  | true=>exact(h1 rfl).go hq r hm a w (hs.upd _ hl rfl)
  | false=>exact(h2 rfl).go hq r hm a w (hs.upd _ hl rfl)⟩
theorem yG{p:uM}{v:Value}(t:Nat)(v':Value)(hl:vX S t=some v)(e:v=v')(h:J P n X Q p ((t,v')::S) Ls F m): J P n X Q p S Ls F m :=
 ⟨λhq r hm a w hs=>h.go hq r hm a w (hs.upd v' hl e)⟩
theorem tL{p:uM}{m1:Option σ}{f:σ->Option ρ}(h:∀ x,m1=some x->J P n X Q p S Ls F (f x)): J P n X Q p S Ls F (m1.bind f) :=
 ⟨λhq r hm a w hs=>by obtain⟨x,h1,h2⟩:=xG hm;exact(h x h1).go hq r h2 a w hs⟩
theorem jno{p:uM}: J P n X Q p S Ls F (none:Option ρ):=⟨λ_ _ hm=>by cases hm⟩
section
variable {τ:Type}{e:E τ}{te:TypeId}{r:zJ}{p0:Option Addr}{c k:Nat}{z:List τ}{p:uM}
theorem jre (q t:Nat)(hF:uA F q=R e p0 c k z)(hl:vX S t=some (.slice p0 k c))(h:J P n X Q p ((t,sv p0 z c)::S) Ls (Rl e p0 c z::F) m): J P n X Q p S Ls F m :=
 ⟨λhq r hm a w hs=>by
  have hf:(R e p0 c k z).h (bl Ls++X.A) w:=hF▸hs.g q
  exact h.go hq r hm a w ((hs.upd (sv p0 z c) hl (congrArg (λq:Nat=>Value.slice p0 q c) (R.ln hf))).add (R.re hf))⟩
theorem jrE (q t:Nat)(hF:uA F q=Ar e te r p0 c k z)(hl:vX S t=some (.slice p0 k c))(h:J P n X Q p ((t,sv p0 z c)::S) Ls (Al e te r p0 c z::F) m): J P n X Q p S Ls F m :=
 ⟨λhq r0 hm a w hs=>by
  have hf:(Ar e te r p0 c k z).h (bl Ls++X.A) w:=hF▸hs.g q
  exact h.go hq r0 hm a w ((hs.upd (sv p0 z c) hl (congrArg (λq:Nat=>Value.slice p0 q c) (Ar.ln hf))).add (Ar.re hf))⟩
theorem jbL (L':Nat->List zJ)(g:vN Ls F (Ar e te r p0 c k z))(hL:L' k=Ls)(h:J P n X Q p S (L' z.length) (Al e te r p0 c z::F) m): J P n X Q p S Ls F m:=by
 refine⟨λhq r0 hm a w hs=>?_⟩
 have hf:=g _ _ hs.o hs.f
 have e1:L' z.length=Ls:=by rw[←hL,Ar.ln hf]
 rw[e1] at h
 exact h.go hq r0 hm a w (hs.add (Ar.re hf))
end
end
def nths (F:List PP): List Nat->List PP
 | []=>[]
 | i::is=>uA F i::nths F is
section
variable {Ls:List zJ}{F:List PP}{js ls:List Nat}
theorem gq:∀(is:List Nat),xQ (vN Ls F) (nths F is)
 | []=>trivial
 | i::is=>⟨gk i,gq is⟩
theorem cq:∀(is:List Nat),xQ (OKc Ls F js ls) (nths F is)
 | []=>trivial
 | i::is=>⟨ck i,cq is⟩
end
def lookP:Sl->Nat->(Value->Prop)->Prop
 | [],_,_=>False
 | (i,v)::r,j,k=>bif Nat.beq i j then k v else lookP r j k
def selSC (S:Sl): List Nat->Sl->(Sl->Prop)->Prop
 | [],S1,k=>k S1
 | d::ds,S1,k=>lookP S d λv=>selSC S ds ((d,v)::S1) k
def nthP:List PP->Nat->(PP->Prop)->Prop
 | [],_,_=>False
 | f::_,0,k=>k f
 | _::r,i+1,k=>nthP r i k
def selFC (F:List PP): List Nat->(List PP->Prop)->Prop
 | [],k=>k []
 | i::is,k=>nthP F i λf=>selFC F is λF'=>k (f::F')
def putR:List zJ->Nat->zJ->(List zJ->Prop)->Prop
 | [],0,r,k=>k [r]
 | [],i+1,r,k=>putR [] i r λl=>k ([]::l)
 | _::l,0,r,k=>k (r::l)
 | a::l,i+1,r,k=>putR l i r λl'=>k (a::l')
def updC:List zJ->List (Nat×zJ)->(List zJ->Prop)->Prop
 | L,[],k=>k L
 | L,(i,r)::us,k=>putR L i r λL'=>updC L' us k
abbrev KP:=List Nat->List (Nat×zJ)->List Nat->Sl->List PP->Prop
def kp (S:Sl)(L:List zJ)(F:List PP)(K:xY): KP:=λks us fs S1 F1=>selSC S ks S1 λS'=>updC L us λL'=>selFC F fs λF'=>appC F1 F' λF2=>K S' L' F2
section
variable {P:Program}{n:Nat}{X:Hd qd}{ρ σ:Type}{Q:PQ ρ}{S:Sl}{Ls:List zJ}{F:List PP}{m m1 m2:Option ρ}{x y:Code}
theorem wO{B:σ->Option (σ⊕ρ)}{s0:σ}{c:Code}(I:σ->KP->Prop)(g:Gv Ls S F (λK=>I s0 (kp S Ls F K)))
  (hb:∀ s K,(∀ {S' L' F'},J P n X (lpQ X n (λs K=>I s (kp S Ls F K)) Q) (.code c) S' L' F' (B s)->K S' L' F')->I s (kp S Ls F K)):J P n X Q (.code (.loop c)) S Ls F (zN B s0):=jlp (λs K=>I s (kp S Ls F K)) g hb
theorem wF{m1:Option σ}{f:σ->Option ρ}(I:σ->KP->Prop)(hx:J P n X (jnQ X n λs K=>I s (kp S Ls F K)) (.code x) S Ls F m1)
  (hy:∀ s K,(∀ {S' L' F'},J P n X Q (.code y) S' L' F' (f s)->K S' L' F')->I s (kp S Ls F K)):J P n X Q (.code (.seq x y)) S Ls F (m1.bind f):=jjn (λs K=>I s (kp S Ls F K)) hx hy
theorem jjoK{m1:Option (σ⊕ρ)}{f:σ->Option ρ}(I:σ->KP->Prop)(hx:J P n X (lpQ X n (λs K=>I s (kp S Ls F K)) Q) (.code x) S Ls F m1)
  (hy:∀ s K,(∀ {S' L' F'},J P n X Q (.code y) S' L' F' (f s)->K S' L' F')->I s (kp S Ls F K)):J P n X Q (.code (.seq x y)) S Ls F (vH m1 f):=jjo (λs K=>I s (kp S Ls F K)) hx hy
theorem jjcK{m1:Option σ}{f:σ->Option ρ}(I:σ->KP->Prop)(hx:J P n X (jnQ X n λs K=>I s (kp S Ls F K)) (.code x) S Ls F m1)
  (hy:∀ s K,(∀ {S' L' F'},J P n X Q (.ex .normal) S' L' F' (f s)->K S' L' F')->I s (kp S Ls F K)):J P n X Q (.code x) S Ls F (m1.bind f):=jjc (λs K=>I s (kp S Ls F K)) hx hy
theorem z1c (I:KP->Prop)(hx:J P n X (jnQ X n λ(_:Unit) K=>I (kp S Ls F K)) (.code x) S Ls F (some ()))
  (hy:∀ K:xY,(∀ {S' L' F'},J P n X Q (.code y) S' L' F' m->K S' L' F')->I (kp S Ls F K)):J P n X Q (.code (.seq x y)) S Ls F m:=jjp (λK=>I (kp S Ls F K)) hx hy
theorem jjqK (I:KP->Prop)(hx:J P n X (jnQ X n λ(_:Unit) K=>I (kp S Ls F K)) (.code x) S Ls F (some ()))
  (hy:∀ K:xY,(∀ {S' L' F'},J P n X Q (.ex .normal) S' L' F' m->K S' L' F')->I (kp S Ls F K)):J P n X Q (.code x) S Ls F m:=jjq (λK=>I (kp S Ls F K)) hx hy
end
end
section
open Go Go.RowKit
variable {qd:Prop}
set_option linter.unusedVariables false
def zUI (v:Value)(k:List Value->Prop): Prop:=match v with
 | .agg ⟨cs⟩=>k cs
 | v=>k [v]
theorem zZ3{v:Value}{k:List Value->Prop}: zUI v k=k v.cells.toList:=by cases v <;> rfl
def getC{β:Type}: List Value->Nat->(Value->Option β)->Option β
 | [],_,_=>none
 | v::_,0,k=>k v
 | _::l,o+1,k=>getC l o k
theorem z2k{β:Type}: ∀ {l:List Value} {o:Nat} {k:Value->Option β},getC l o k=(l[o]?).bind k
 | [],_,_=>by simp[getC]
 | v::_,0,_=>rfl
 | _::l,o+1,k=>by simp[getC,z2k]
def z3w{β:Type}: Nat->List Value->(List Value->Option β)->Option β
 | 0,_,k=>k []
 | _+1,[],_=>none
 | j+1,v::l,k=>z3w j l λr=>k (v::r)
theorem z2v{β:Type}: ∀ {j:Nat} {l:List Value} {k:List Value->Option β} {r:β},z3w j l k=some r->k (l.take j)=some r∧j≤l.length
 | 0,_,_,_,h=>⟨h,Uy _⟩
 | _+1,[],_,_,h=>by cases h
 | j+1,v::l,k,r,h=>by
  obtain⟨h1,h2⟩:=z2v (j:=j) h
  grind
def z7T{β:Type}: Nat->List Value->(List Value->Option β)->Option β
 | 0,l,k=>k l
 | _+1,[],_=>none
 | o+1,_::l,k=>z7T o l k
theorem z3V{β:Type}: ∀ {o:Nat} {l:List Value} {k:List Value->Option β} {r:β},z7T o l k=some r->k (l.drop o)=some r∧o≤l.length
 | 0,_,_,_,h=>⟨h,Uy _⟩
 | _+1,[],_,_,h=>by cases h
 | o+1,v::l,k,r,h=>by
  obtain⟨h1,h2⟩:=z3V (o:=o) h
  grind
def overC:List Value->List Value->(List Value->Prop)->Prop
 | l,[],k=>k l
 | [],_::_,_=>False
 | _::l,v::vs,k=>overC l vs λl'=>k (v::l')
theorem z8b:∀ {l v:List Value} {k:List Value->Prop},overC l v k->k (v++l.drop v.length)
 | l,[],k,h=>by simpa [overC] using h
 | [],_::_,_,h=>h.elim
 | _::l,v::vs,k,h=>by have:=z8b (l:=l) (v:=vs) h;grind
def putC:Nat->List Value->List Value->(List Value->Prop)->Prop
 | 0,l,v,k=>overC l v k
 | _+1,[],_,_=>False
 | o+1,a::l,v,k=>putC o l v λl'=>k (a::l')
theorem z6O:∀ {o:Nat} {l v:List Value} {k:List Value->Prop},putC o l v k->k (l.take o++v++l.drop (o+v.length))
 | 0,l,v,k,h=>by have:=z8b h;grind
 | _+1,[],_,_,h=>h.elim
 | o+1,a::l,v,k,h=>by
  have:=z6O (o:=o) (l:=l) h
  grind
structure uZ{τ:Type}(e:E τ) where
 op:τ->List Value->List PP->(List Value->List PP->Prop)->Prop
 spec:∀ {Z:List Nat} {w:World} {cs:List Value} {x:τ} {tl:List Value} {fs:List PP} {k:List Value->List PP->Prop},e.rd Z w cs x->uW fs Z w->op x tl fs k->∃ F',k (cs++tl) F'∧uW F' Z w
def oI{kd:IntKind}: uZ (zB kd):=⟨λx tl fs k=>k (.int kd x::tl) fs,by rintro _ _ _ _ _ _ _ rfl h1 h2;grind⟩
def oB:uZ zNu:=⟨λx tl fs k=>k (.bool x::tl) fs,by rintro _ _ _ _ _ _ _ rfl h1 h2;grind⟩
def oS:uZ wS:=⟨λx tl fs k=>k (vs x::tl) fs,by rintro _ _ _ _ _ _ _ rfl h1 h2;grind⟩
def oL{τ:Type}{e:E τ}: uZ (zT e):=⟨λl tl fs k=>∀ p c,k (sv p l c::tl) (Rl e p c l::fs),by
 rintro _ _ _ _ _ _ _ ⟨p,c,rfl,h⟩ h1 h2
 grind [R.of,uW]⟩
def oP{α β:Type}{e:E α}{f:E β}(a:uZ e)(b:uZ f): uZ (wP e f):=⟨λx tl fs k=>b.op x.2 tl fs λtl fs=>a.op x.1 tl fs k,by
 rintro _ _ _ _ _ _ _ ⟨c1,c2,rfl,h1,h2⟩ h3 h4
 obtain⟨F1,h5,h6⟩:=b.spec h2 h3 h4
 obtain⟨F2,h7,h8⟩:=a.spec h1 h6 h5
 grind⟩
def sI{τ:Type}{e:E τ}: xS e e:=xS.id e
def mkC (ag:Bool)(cs:List Value)(k:Value->Prop): Prop:=match ag with
 | true=>k (.agg cs.toArray)
 | false=>match cs with
  | [v]=>k v
  | _=>False
theorem zZS{ag:Bool}{cs:List Value}{k:Value->Prop}{v:Value}(h:mkC ag cs k)(hv:mkV ag cs=some v): k v:=by
 cases ag with
 | true=>cases hv;exact h
 | false =>
  match cs,h,hv with
  | [u],h,hv=>cases hv;exact h
def RD{τ:Type}(e:E τ)(Ls:List zJ)(F:List PP)(cs:List Value)(l:List τ): Prop:=∀ A w,zZ A w Ls->uW F (bl Ls++A) w->e.rdL (bl Ls++A) w cs l
def RV{τ:Type}(e:E τ)(Ls:List zJ)(F:List PP)(cs:List Value)(x:τ): Prop:=∀ A w,zZ A w Ls->uW F (bl Ls++A) w->e.rd (bl Ls++A) w cs x
section
variable {P:Program}{n:Nat}{X:Hd qd}{ρ σ:Type}{Q:PQ ρ}{S:Sl}{Ls:List zJ}{F:List PP}{m m1 m2:Option ρ}{os:Array Oper}{l:List Oper}{x y:Operand}{p p':uM}
variable {d t:Nat}{ty ty2:TypeId}{pos pos2:String}{af af2:Array Edge}{g g2:Option (Nat×Bool)}{kd:IntKind}
theorem zA{S':Sl}{l':List Oper}{ob:List Ob}(k:Nat)(hr:runC os l k S []=some (S',l',ob))(h:J P n X Q (.ops os l') S' Ls F m)
  (hd:(z3k (l.take k)).all (λd=>Nat.blt d n)=true:=by kernel_rfl) (ho:z1D P ob=true:=by kernel_rfl):J P n X Q (.ops os l) S Ls F m :=
 ⟨λhq r hm a w hs=>(zTY l k S S' l' [] ob a hs.s hr hd ho λa' hS=>h.go hq r hm a' w (hs.slot hS)).2⟩
theorem zV{op:Op}(v:Value)(h:J P n X Q (.ops os l) ((d,v)::S) Ls F m)(hv:pv P S op=some v:=by kernel_rfl)(hd:Nat.blt d n=true:=by kernel_rfl)(hg:zS os S g=some true:=by kernel_rfl):
  J P n X Q (.ops os (⟨some d,op,ty,pos,af,g⟩::l)) S Ls F m :=
 ⟨λhq r hm a w hs=>zSp (v:=v) (w':=w) hg hs.s (z2D hs.s hv _ _ _ _ _ w) (h.go hq r hm _ w (hs.slot (hs.s.put hd v)))⟩
theorem jv{op:Op}{v:Value}(hv:∀ {a:Act},qL a n S->∀ w',(execOp a.eval ⟨some d,op,ty,pos,af,g⟩).run P w'=.ok (.value v) w')(h:J P n X Q (.ops os l) ((d,v)::S) Ls F m)
  (hd:Nat.blt d n=true:=by kernel_rfl) (hg:zS os S g=some true:=by kernel_rfl):J P n X Q (.ops os (⟨some d,op,ty,pos,af,g⟩::l)) S Ls F m :=
 ⟨λhq r hm a w hs=>sl (b_val hs (hv hs.s) (λa h'=>h.go hq r hm a w h') hd hg)⟩
theorem zY{s f b o:Nat}(off:Nat)(hx:zL S x=some (pt b o))(h:J P n X Q (.ops os l) ((d,pt b (o+off))::S) Ls F m)
  (hf:z0o P s f=some off:=by kernel_rfl) (hd:Nat.blt d n=true:=by kernel_rfl) (hg:zS os S g=some true:=by kernel_rfl):J P n X Q (.ops os (⟨some d,.fieldAddr s x f,ty,pos,af,g⟩::l)) S Ls F m :=
 ⟨λhq r hm a w hs=>zSp (w':=w) hg hs.s (z2D hs.s (v:=pt b (o+off)) (by simp[pv,hx,hf]) _ _ _ _ _ w) (h.go hq r hm _ w (hs.slot (hs.s.put hd _)))⟩
theorem qI{b o:Nat}{c:List Value}{te:TypeId}{fr:Nat×Nat}{v:Value}(i:Nat)(hx:zL S x=some (pt b o))(hr:Ls[i]?=some [(b,.cells c.toArray te fr)])(hv:getC c o some=some v)(h:J P n X Q (.ops os l) ((d,v)::S) Ls F m)
  (ht:vW P t=some (false,1):=by kernel_rfl) (hd:Nat.blt d n=true:=by kernel_rfl) (hg:zS os S g=some true:=by kernel_rfl):J P n X Q (.ops os (⟨some d,.load t x,ty,pos,af,g⟩::l)) S Ls F m :=
 ⟨λhq r hm a w hs=>sl (zMX i v hs hx hr (λa h'=>h.go hq r hm a w h') (by
  rw[z2k] at hv
  have hv':c[o]?=some v:=by cases hc:c[o]? <;> simp_all
  have hlt:=(Qe.1 hv').1
  unfold zNt
  rw[ht]
  have:Nat.ble (o+1) c.toArray.size=true:=by rw[UY,QS];exact hlt
  simp only[this,Qf,z9V]
  grind [List.drop_eq_getElem_cons,mkV]) hd hg)⟩
theorem wU{b o:Nat}{c:List Value}{te:TypeId}{fr:Nat×Nat}{cs:List Value}(i k:Nat)(hx:zL S x=some (pt b o))(hr:Ls[i]?=some [(b,.cells c.toArray te fr)])(hv:z7T o c (λl=>z3w k l some)=some cs)(h:J P n X Q (.ops os l) ((d,.agg cs.toArray)::S) Ls F m)
  (ht:vW P t=some (true,k):=by kernel_rfl) (hd:Nat.blt d n=true:=by kernel_rfl) (hg:zS os S g=some true:=by kernel_rfl):J P n X Q (.ops os (⟨some d,.load t x,ty,pos,af,g⟩::l)) S Ls F m :=
 ⟨λhq r hm a w hs=>sl (zMX i (.agg cs.toArray) hs hx hr (λa h'=>h.go hq r hm a w h') (by
  obtain⟨h1,h2⟩:=z3V hv
  obtain⟨h3,h4⟩:=z2v h1
  rw[UE] at h4
  unfold zNt
  rw[ht]
  have:Nat.ble (o+k) c.toArray.size=true:=by rw[UY];simp;omega
  simp only[this,Qf,z9V,mkV]
  grind) hd hg)⟩
section
variable {τ:Type}{e:E τ}{te:TypeId}{r:zJ}{p0:Option Addr}{c k0:Nat}{z:List τ}{ix:Int}
theorem yD{f:τ->Option ρ}(k:Nat)(hF:uA F k=R e p0 c k0 z)(hx:zL S x=some (.slice p0 k0 c))(hy:zL S y=some (.int kd ix))
  (h:∀ u b o,J P n X Q (.ops os l) ((d,pt b o)::S) Ls (Pt e b o u::F) (f u))
  (ht:yE P t=some e.n:=by kernel_rfl) (hd:Nat.blt d n=true:=by kernel_rfl) (hg:zS os S g=some true:=by kernel_rfl) :
  J P n X Q (.ops os (⟨some d,.indexAddr t x y,ty,pos,af,g⟩::l)) S Ls F ((zC z ix).bind f) :=
 ⟨λhq r hm a w hs=>by
  obtain⟨u,h1,h2⟩:=xG hm
  exact sl (z9q hs (hF▸hs.g k) hx hy h1 (λb o a h'=>(h u b o).go hq r h2 a w h') ht hd hg)⟩
theorem yN{b o:Nat}{u:τ}(ag:Bool)(op:uZ e)(hP:vN Ls F (Pt e b o u))(hx:zL S x=some (pt b o))
  (h:op.op u [] F λcs F'=>mkC ag cs λv=>J P n X Q (.ops os l) ((d,v)::S) Ls F' m) (ht:vW P t=some (ag,e.n):=by kernel_rfl) (hag:ag=true∨e.n=1:=by first | exact .inl rfl | exact .inr rfl)
  (hd:Nat.blt d n=true:=by kernel_rfl) (hg:zS os S g=some true:=by kernel_rfl):J P n X Q (.ops os (⟨some d,.load t x,ty,pos,af,g⟩::l)) S Ls F m :=
 ⟨λhq r hm a w hs=>sl (z5L ag hs (hP _ _ hs.o hs.f) hx (λci hc v hv a h'=>by
  obtain⟨F',h1,h2⟩:=op.spec hc h'.f h
  rw[QF] at h1
  exact(zZS h1 hv).go hq r hm a w ⟨h'.s,h'.o,h'.e,h2⟩) ht hag hd hg)⟩
end
section
variable {τ ω:Type}{e:E τ}{ef:E ω}{te:TypeId}{r:zJ}{p0:Option Addr}{c k0:Nat}{z:List τ}{ix:Int}
theorem jia{f:τ->Option ρ}(k:Nat)(hF:uA F k=Ar e te r p0 c k0 z)(hx:zL S x=some (.slice p0 k0 c))(hy:zL S y=some (.int kd ix))
  (h:∀ u,zC z ix=some u->∀ b o,p0=some ⟨b,o,none⟩->J P n X Q (.ops os l) ((d,pt b (o+ix.toNat*e.n))::S) Ls F (f u))
  (ht:yE P t=some e.n:=by kernel_rfl) (hd:Nat.blt d n=true:=by kernel_rfl) (hg:zS os S g=some true:=by kernel_rfl) :
  J P n X Q (.ops os (⟨some d,.indexAddr t x y,ty,pos,af,g⟩::l)) S Ls F ((zC z ix).bind f) :=
 ⟨λhq r hm a w hs=>by
  obtain⟨u,h1,h2⟩:=xG hm
  exact sl (z7D hs (hF▸hs.g k) hx hy h1 (λb o hp a h'=>(h u h1 b o hp).go hq r h2 a w h') ht hd hg)⟩
theorem jlA{b o:Nat}{u:τ}(i k:Nat)(s:xS e ef)(ag:Bool)(op:uZ ef)(hF:uA F k=Ar e te r p0 c k0 z)(hp:p0=some ⟨b,o,none⟩)(hm:zC z ix=some u)(hx:zL S x=some (pt b (o+ix.toNat*e.n+s.off)))
  (h:op.op (s.get u) [] F λcs F'=>mkC ag cs λv=>J P n X Q (.ops os l) ((d,v)::S) Ls F' m) (hr:Ls[i]?=some r:=by rfl) (ht:vW P t=some (ag,ef.n):=by kernel_rfl) (hag:ag=true∨ef.n=1:=by first | exact .inl rfl | exact .inr rfl)
  (hd:Nat.blt d n=true:=by kernel_rfl) (hg:zS os S g=some true:=by kernel_rfl):J P n X Q (.ops os (⟨some d,.load t x,ty,pos,af,g⟩::l)) S Ls F m :=
 ⟨λhq r hm' a w hs=>sl (z8w i s ag hs (hF▸hs.g k) hp hm hx (λci hc v hv a h'=>by
  obtain⟨F',h1,h2⟩:=op.spec hc h'.f h
  rw[QF] at h1
  exact(zZS h1 hv).go hq r hm' a w ⟨h'.s,h'.o,h'.e,h2⟩) hr ht hag hd hg)⟩
end
section
variable {τ:Type}{e:E τ}{te:TypeId}{r:zJ}{p0:Option Addr}{c k0:Nat}{z:List τ}{i j:Int}{lo hi:Option Operand}{vlo vhi:Option Value}
theorem jsl{f:List τ->Option ρ}(g0:vN Ls F (R e p0 c k0 z))(hx:zL S x=some (.slice p0 k0 c))(hlo:tI S lo=some vlo)(hhi:tI S hi=some vhi)(b1:Bd vlo i 0)(b2:Bd vhi j z.length)
  (h:∀ u p' c',J P n X Q (.ops os l) ((d,sv p' u c')::S) Ls (Rl e p' c' u::F) (f u))
  (ht:yE P t=some e.n:=by kernel_rfl) (hd:Nat.blt d n=true:=by kernel_rfl) (hg:zS os S g=some true:=by kernel_rfl) :
  J P n X Q (.ops os (⟨some d,.slice t x lo hi none,ty,pos,af,g⟩::l)) S Ls F ((sub z i j).bind f) :=
 ⟨λhq r hm a w hs=>by
  obtain⟨u,h1,h2⟩:=xG hm
  exact sl (z9A hs (g0 _ _ hs.o hs.f) hx hlo hhi b1 b2 h1 (λp' c' a h'=>(h u p' c').go hq r h2 a w h') ht hd hg)⟩
theorem jsF{f:List τ->Option ρ}{x2 x3:Operand}{kd2:IntKind}(g0:vN Ls F (R e p0 c k0 z))(hx:zL S x=some (.slice p0 k0 c))(hlo:tI S lo=some vlo)(hhi:zL S x2=some (.int kd j))(hmx:zL S x3=some (.int kd2 j))(b1:Bd vlo i 0)
  (h:∀ u p',J P n X Q (.ops os l) ((d,.slice p' (List.length u) (List.length u))::S) Ls (R e p' (List.length u) (List.length u) u::F) (f u))
  (ht:yE P t=some e.n:=by kernel_rfl) (hd:Nat.blt d n=true:=by kernel_rfl) (hg:zS os S g=some true:=by kernel_rfl) :
  J P n X Q (.ops os (⟨some d,.slice t x lo (some x2) (some x3),ty,pos,af,g⟩::l)) S Ls F ((sub z i j).bind f) :=
 ⟨λhq r hm a w hs=>by
  obtain⟨u,h1,h2⟩:=xG hm
  exact sl (z4Y hs (g0 _ _ hs.o hs.f) hx hlo hhi hmx b1 h1 (λp' a h'=>(h u p').go hq r h2 a w h') ht hd hg)⟩
theorem jsP{f:List τ->Option ρ}{x2:Operand}(k:Nat)(hF:uA F k=Ar e te r p0 c k0 z)(hx:zL S x=some (.slice p0 k0 c))(hhi:zL S x2=some (.int kd j))
  (h:∀ u,J P n X Q (.ops os l) ((d,sv p0 u c)::S) Ls (Al e te r p0 c u::F) (f u))
  (ht:yE P t=some e.n:=by kernel_rfl) (hd:Nat.blt d n=true:=by kernel_rfl) (hg:zS os S g=some true:=by kernel_rfl) :
  J P n X Q (.ops os (⟨some d,.slice t x none (some x2) none,ty,pos,af,g⟩::l)) S Ls F ((sub z 0 j).bind f) :=
 ⟨λhq r hm a w hs=>by
  obtain⟨u,h1,h2⟩:=xG hm
  exact sl (z6u hs (hF▸hs.g k) hx hhi h1 (λa h'=>(h u).go hq r h2 a w h') ht hd hg)⟩
theorem jsV{f:Unit->Option ρ}{x2:Operand}(k:Nat)(hF:uA F k=Ar e te r p0 c k0 z)(hx:zL S x=some (.slice p0 k0 c))(hlo:zL S x2=some (.int kd i))
  (h:∀ u p' c',Vw e.n p0 c k0 i p' (Int.toNat ((k0:Int)-i))->J P n X Q (.ops os l) ((d,.slice p' (Int.toNat ((k0:Int)-i)) c')::S) Ls F (f u))
  (ht:yE P t=some e.n:=by kernel_rfl) (hd:Nat.blt d n=true:=by kernel_rfl) (hg:zS os S g=some true:=by kernel_rfl) :
  J P n X Q (.ops os (⟨some d,.slice t x (some x2) none none,ty,pos,af,g⟩::l)) S Ls F ((vT (decide (0≤i)&&decide (i≤(z.length:Int)))).bind f) :=
 ⟨λhq r hm a w hs=>by
  obtain⟨u,h1,h2⟩:=xG hm
  exact sl (z5S hs (hF▸hs.g k) hx hlo h1 (λp' c' hv a h'=>(h u p' c' hv).go hq r h2 a w h') ht hd hg)⟩
theorem jiV{f:τ->Option ρ}{p1:Option Addr}{m' c':Nat}(k:Nat)(hF:uA F k=Ar e te r p0 c k0 z)(hV:Vw e.n p0 c k0 i p1 m')(hx:zL S x=some (.slice p1 m' c'))(hy:zL S y=some (.int kd j))
  (h:∀ u b o,p0=some ⟨b,o,none⟩->zC z (i+j)=some u->J P n X Q (.ops os l) ((d,pt b (o+(i+j).toNat*e.n))::S) Ls F (f u))
  (ht:yE P t=some e.n:=by kernel_rfl) (hd:Nat.blt d n=true:=by kernel_rfl) (hg:zS os S g=some true:=by kernel_rfl) :
  J P n X Q (.ops os (⟨some d,.indexAddr t x y,ty,pos,af,g⟩::l)) S Ls F ((z1W z i j).bind f) :=
 ⟨λhq r hm a w hs=>by
  obtain⟨u,h1,h2⟩:=xG hm
  exact sl (z5D hs (hF▸hs.g k) hV hx hy h1 (λb o hp hi a h'=>(h u b o hp hi).go hq r h2 a w h') ht hd hg)⟩
end
inductive At (Ls:List zJ): uM->Array Oper->Oper->uM->Prop
 | s {os:Array Oper} {o:Oper} {l:List Oper}:At Ls (.ops os (o::l)) os o (.ops os l)
 | f {os:Array Oper} {o:Oper} {i:Nat} {B J:List Nat} {fuel:Nat} {li:Array Bool} (h:os[i]?=some o):At Ls (.fo i os B J fuel li) os o (.af Ls os B J fuel (li.setIfInBounds i true))
theorem At.run{o:Oper}(h:At Ls p os o p'){A:List Nat}{Q:Exit->Act->World->Prop}{a:Act}{w:World}
  (hs:∀ K:Act->World->Prop,(∀ {a' w' Ls'},zU qd Ls w Ls' w'->p'.go qd P A Ls' Q a' w'->K a' w')->vD P os Q o K a w):p.go qd P A Ls Q a w:=by
 cases h with
 | s=>exact sl (hs _ λ_ h=>h)
 | f hi=>exact⟨o,hi,hs _ λhE h=>h w hE⟩
theorem wN{v:Value}(at0:At Ls p os ⟨some d,.box t x,ty,pos,af,g⟩ p')(hx:zL S x=some v)(h:∀ b,zUI v λcs=>zOD Ls (bx b t cs) λLs'=>J P n X Q p' ((d,pt b 0)::S) Ls' F m)
  (hd:Nat.blt d n=true:=by kernel_rfl) (hg:zS os S g=some true:=by kernel_rfl):J P n X Q p S Ls F m :=
 ⟨λhq r hm a w hs=>at0.run λK hK=>b_box hs hx (λb a w' h' e=>hK e (by
  have h:=h b
  rw[zZ3,zKe] at h
  exact h.go hq r hm a w' (by simp_all))) hd hg⟩
theorem yB (at0:At Ls p os ⟨some d,.alloc t,ty,pos,af,g⟩ p')(v:Value)(h:∀ b,zUI v λcs=>zOD Ls (bx b t cs) λLs'=>J P n X Q p' ((d,pt b 0)::S) Ls' F m)
  (hx:zJX P t=some v:=by kernel_rfl) (hd:Nat.blt d n=true:=by kernel_rfl) (hg:zS os S g=some true:=by kernel_rfl):J P n X Q p S Ls F m :=
 ⟨λhq r hm a w hs=>at0.run λK hK=>b_alloc hs hx (λb a w' h' e=>hK e (by
  have h:=h b
  rw[zZ3,zKe] at h
  exact h.go hq r hm a w' (by simp_all))) hd hg⟩
theorem wJ{b o:Nat}{c:List Value}{te:TypeId}{v:Value}(at0:At Ls p os ⟨none,.store t x y,ty,pos,af,g⟩ p')(i:Nat)(hx:zL S x=some (pt b o))(hy:zL S y=some v)(hr:Ls[i]?=some (bx b te c))
  (h:zUI v λcs=>putC o c cs λc'=>uR Ls i (bx b te c') λLs'=>J P n X Q p' S Ls' F m) (hv:zN4 P t c.toArray o v=true:=by kernel_rfl) (hg:zS os S g=some true:=by kernel_rfl):J P n X Q p S Ls F m :=
 ⟨λhq r hm a w hs=>at0.run λK hK=>zQx i hs hx hy hr (λa w' h' e=>hK e (by
  rw[zZ3] at h
  have h:=z6O h
  rw[zH0] at h
  exact h.go hq r hm a w' (by simpa [bx,tK] using h'))) hv hg⟩
section
variable {τ ω:Type}{e:E τ}{ef:E ω}{te:TypeId}{r:zJ}{p0 q:Option Addr}{c k0 c2 k2:Nat}{z z2 u:List τ}{ix:Int}
theorem jsA{b o:Nat}{v:Value}{v0:τ}(at0:At Ls p os ⟨none,.store t x y,ty,pos,af,g⟩ p')(i k:Nat)(s:xS e ef)(nz:ω)(ag:Bool)(hF:uA F k=Ar e te r p0 c k0 z)(hp:p0=some ⟨b,o,none⟩)(hm:zC z ix=some v0)(hx:zL S x=some (pt b (o+ix.toNat*e.n+s.off)))
  (hy:zL S y=some v) (hv:RV ef Ls F v.cells.toList nz)
  (h:∀ r',uR Ls i r' λLs'=>J P n X Q p' S Ls' (Ar e te r' p0 c k0 (z.set ix.toNat (s.put v0 nz))::F) m) (hr:Ls[i]?=some r:=by rfl) (ht:vW P t=some (ag,ef.n):=by kernel_rfl) (hg:zS os S g=some true:=by kernel_rfl):J P n X Q p S Ls F m :=
 ⟨λhq r hm' a w hs=>at0.run λK hK=>z7E i s nz ag hs (hF▸hs.g k) hp hm hx hy (hv _ _ hs.o hs.f) (λr' a w' h' e=>hK e (by
  have h:=h r'
  rw[zH0] at h
  exact h.go hq r hm' a w' h')) hr ht hg⟩
end
end
section
variable {P:Program}{n:Nat}{X:Hd qd}{ρ:Type}{Q:PQ ρ}{S S':Sl}{Ls:List zJ}{F:List PP}{m:Option ρ}{l:List Oper}{y:Code}{id:Nat}{ob:List Ob}
theorem jA (k:Nat)(hr:runC l.toArray l k S []=some (S',[],ob))(h:J P n X Q (.code y) S' Ls F m)
  (hd:(z3k (l.take k)).all (λd=>Nat.blt d n)=true:=by kernel_rfl) (ho:z1D P ob=true:=by kernel_rfl):J P n X Q (.code (.seq (.region id l.toArray false) y)) S Ls F m:=zG (zA k hr (zK h) hd ho)
theorem jB (k:Nat)(hr:runC l.toArray l k S []=some (S',[],ob))(h:J P n X Q (.ex .normal) S' Ls F m)
  (hd:(z3k (l.take k)).all (λd=>Nat.blt d n)=true:=by kernel_rfl) (ho:z1D P ob=true:=by kernel_rfl):J P n X Q (.code (.region id l.toArray false)) S Ls F m:=wQ (zA k hr (qN h) hd ho)
theorem jC{z:Code}(h:J P n X Q (.code z) S Ls F m): J P n X (zVQ P z Q) (.code .skip) S Ls F m:=vF (qK h)
end
end
section
open Go Go.RowKit
variable {qd:Prop}
set_option linter.unusedVariables false
section
variable {P:Program}{n:Nat}{X:Hd qd}{ρ σ:Type}{Q:PQ ρ}{S:Sl}{Ls:List zJ}{F:List PP}{m m1 m2:Option ρ}{os:Array Oper}{l:List Oper}{x y:Operand}{p p':uM}
variable {d t:Nat}{ty ty2:TypeId}{pos pos2:String}{af af2:Array Edge}{g g2:Option (Nat×Bool)}{kd:IntKind}
section
variable {τ ω:Type}{e:E τ}{ef:E ω}{te:TypeId}{r r2:zJ}{p0 q:Option Addr}{c k0 c2 k2:Nat}{z z2 u:List τ}{ix:Int}
theorem uB{f:List τ->Option ρ}(at0:At Ls p os ⟨some d,.call { callee:=.builtin .append,args:=[x,y].toArray,argTypes:=[t,t].toArray },ty,pos,af,g⟩ p')(i k:Nat)(hF:uA F k=Ar e te r p0 c k0 z)(g2:vN Ls F (R e q c2 k2 z2))(hx:zL S x=some (.slice p0 k0 c))(hy:zL S y=some (.slice q k2 c2))
  (h:∀ u r' p1 c',uR Ls i r' λLs'=>J P n X Q p' ((d,sv p1 u c')::S) Ls' (Al e te r' p1 c' u::F) (f u)) (hr:Ls[i]?=some r:=by rfl) (ht:uT P t te e.n=true:=by kernel_rfl) (hd:Nat.blt d n=true:=by kernel_rfl) (hg:zS os S g=some true:=by kernel_rfl) :
  J P n X Q p S Ls F ((qF z z2).bind f) :=
 ⟨λhq r0 hm a w hs=>by
  obtain⟨u,h1,h2⟩:=xG hm
  exact at0.run λK hK=>z9F i hs (hF▸hs.g k) (g2 _ _ hs.o hs.f) hx hy h1 (λr' p1 c' a w' h' e=>hK e (by
   have h:=h u r' p1 c'
   rw[zH0] at h
   exact h.go hq r0 h2 a w' h')) hr ht hd hg⟩
theorem jao{f:List τ->Option ρ}(at0:At Ls p os ⟨some d,.call { callee:=.builtin .append,args:=[x,y].toArray,argTypes:=[t,t].toArray },ty,pos,af,g⟩ p')(i j k k':Nat)(hF:uA F k=Ar e te r p0 c k0 z)(hF2:uA F k'=Ar e te r2 q c2 k2 z2)(hx:zL S x=some (.slice p0 k0 c))(hy:zL S y=some (.slice q k2 c2))
  (h:∀ u r' p1 c',uR Ls i r' λLs'=>J P n X Q p' ((d,sv p1 u c')::S) Ls' (Al e te r' p1 c' u::F) (f u)) (hr:Ls[i]?=some r:=by rfl) (hr2:Ls[j]?=some r2:=by rfl) (ht:uT P t te e.n=true:=by kernel_rfl) (hd:Nat.blt d n=true:=by kernel_rfl) (hg:zS os S g=some true:=by kernel_rfl) :
  J P n X Q p S Ls F ((qF z z2).bind f) :=
 ⟨λhq r0 hm a w hs=>by
  obtain⟨u,h1,h2⟩:=xG hm
  exact at0.run λK hK=>z9r i j hs (hF▸hs.g k) (hF2▸hs.g k') hx hy h1 (λr' p1 c' a w' h' e=>hK e (by
   have h:=h u r' p1 c'
   rw[zH0] at h
   exact h.go hq r0 h2 a w' h')) hr hr2 ht hd hg⟩
theorem jaf{f:List τ->Option ρ}(at0:At Ls p os ⟨some d,.call { callee:=.builtin .append,args:=[x,y].toArray,argTypes:=[t,t].toArray },ty,pos,af,g⟩ p')(te:TypeId)(g1:vN Ls F (R e p0 k0 k0 z))(g2:vN Ls F (R e q c2 k2 z2))(hx:zL S x=some (.slice p0 k0 k0))(hy:zL S y=some (.slice q k2 c2))
  (h:∀ u p1 c',J P n X Q p' ((d,sv p1 u c')::S) Ls (Rl e p1 c' u::F) (f u)) (ht:uT P t te e.n=true:=by kernel_rfl) (hd:Nat.blt d n=true:=by kernel_rfl) (hg:zS os S g=some true:=by kernel_rfl) :
  J P n X Q p S Ls F ((qF z z2).bind f) :=
 ⟨λhq r0 hm a w hs=>by
  obtain⟨u,h1,h2⟩:=xG hm
  exact at0.run λK hK=>z9a hs (g1 _ _ hs.o hs.f) (g2 _ _ hs.o hs.f) hx hy h1 (λp1 c' a w' h' e=>hK e ((h u p1 c').go hq r0 h2 a w' h')) te ht hd hg⟩
theorem rN:RD e Ls F [] []:=λ_ _ _ _=>rfl
theorem rC{cs:List Value}{x:τ}{l:List τ}(h:RV e Ls F (cs.take e.n) x)(k:RD e Ls F (cs.drop e.n) l): RD e Ls F cs (x::l):=λA w hO hF=>⟨_,_,(QG e.n cs).symm,h A w hO hF,k A w hO hF⟩
theorem vI{k:IntKind}{x:Int}: RV (zB k) Ls F [.int k x] x:=λ_ _ _ _=>rfl
theorem vB{x:Bool}: RV zNu Ls F [vb x] x:=λ_ _ _ _=>rfl
theorem vS{x:zD}: RV wS Ls F [vs x] x:=λ_ _ _ _=>rfl
theorem vU:RV eUnit Ls F [] ():=λ_ _ _ _=>rfl
theorem vP{α β:Type}{a:E α}{b:E β}{cs:List Value}{x:α×β}(h:RV a Ls F (cs.take a.n) x.1)(k:RV b Ls F (cs.drop a.n) x.2): RV (wP a b) Ls F cs x:=λA w hO hF=>⟨_,_,(QG a.n cs).symm,h A w hO hF,k A w hO hF⟩
theorem vL{c' m':Nat}(h:vN Ls F (R e p0 c' m' z)): RV (zT e) Ls F [.slice p0 m' c'] z:=λA w hO hF=>R.cell (h A w hO hF)
theorem yH{parts:List (Nat×Operand)}(at0:At Ls p os ⟨some d,.buildSlice t k0 parts.toArray,ty,pos,af,g⟩ p')(te:TypeId)(cs:List Value)(z:List τ)(hrd:RD e Ls F cs z)
  (h:∀ p1 c',J P n X Q p' ((d,sv p1 z c')::S) Ls (Rl e p1 c' z::F) m) (ht:uT P t te e.n=true:=by kernel_rfl) (hc:zMP P S t k0 parts=some cs:=by kernel_rfl) (hl:z.length=k0:=by rfl)
  (hd:Nat.blt d n=true:=by kernel_rfl) (hg:zS os S g=some true:=by kernel_rfl):J P n X Q p S Ls F m :=
 ⟨λhq r0 hm a w hs=>at0.run λK hK=>b_bs_rd cs z hs (hrd _ _ hs.o hs.f) (λp1 c' a w' h' e=>hK e ((h p1 c').go hq r0 hm a w' h')) te ht hc hl hd hg⟩
theorem jbo{parts:List (Nat×Operand)}(at0:At Ls p os ⟨some d,.buildSlice t k0 parts.toArray,ty,pos,af,g⟩ p')(te:TypeId)(cs:List Value)(z:List τ)(hrd:RD e Ls F cs z)
  (h:∀ r' p1 c',zOD Ls r' λLs'=>J P n X Q p' ((d,sv p1 z c')::S) Ls' (Al e te r' p1 c' z::F) m) (ht:uT P t te e.n=true:=by kernel_rfl) (hc:zMP P S t k0 parts=some cs:=by kernel_rfl) (hl:z.length=k0:=by rfl) (hm:Nat.ble k0 16777216=true:=by kernel_rfl)
  (hd:Nat.blt d n=true:=by kernel_rfl) (hg:zS os S g=some true:=by kernel_rfl):J P n X Q p S Ls F m :=
 ⟨λhq r0 hm' a w hs=>at0.run λK hK=>b_bs_own cs z hs (hrd _ _ hs.o hs.f) (λr' p1 c' a w' h' e=>hK e (by
  have h:=h r' p1 c'
  rw[zKe] at h
  exact h.go hq r0 hm' a w' h')) ht hc hl hm hd hg⟩
theorem jsb{s t2 te:TypeId}{z:List Int}(at0:At Ls p os ⟨some d,.convert s t2 x,ty,pos,af,g⟩ p')(g1:vN Ls F (R (zB .u8) p0 c k0 z))(hx:zL S x=some (.slice p0 k0 c))(hs:P.underlying s=some (.slice te))(he:P.underlying te=some (.int .u8))(ht:P.underlying t2=some .string)
  (h:J P n X Q p' ((d,vs (zY4 z))::S) Ls F m) (hd:Nat.blt d n=true:=by kernel_rfl) (hg:zS os S g=some true:=by kernel_rfl):J P n X Q p S Ls F m :=
 ⟨λhq r0 hm a w hS=>at0.run λK hK=>b_strOf hS (g1 _ _ hS.o hS.f) hx hs he ht (λa h'=>hK (zU.refl _ _) (h.go hq r0 hm a w h')) hd hg⟩
theorem jcv{p1:Option Addr}{m' c':Nat}{kk:Int}(at0:At Ls p os ⟨none,.call { callee:=.builtin .clear,args:=[x].toArray,argTypes:=[t].toArray },ty,pos,af,g⟩ p')(i k:Nat)(zd:τ)(zv:Value)(hF:uA F k=Ar e te r p0 c k0 z)(hV:Vw e.n p0 c k0 kk p1 m')(hx:zL S x=some (.slice p1 m' c'))(hzr:RV e Ls F zv.cells.toList zd)
  (h:∀ r',uR Ls i r' λLs'=>J P n X Q p' S Ls' (Ar e te r' p0 c k0 (zEQ z kk zd)::F) m) (hz:zJX P te=some zv:=by kernel_rfl) (hr:Ls[i]?=some r:=by rfl) (ht:uT P t te e.n=true:=by kernel_rfl) (hg:zS os S g=some true:=by kernel_rfl):J P n X Q p S Ls F m :=
 ⟨λhq r0 hm a w hs=>at0.run λK hK=>z5e i hs (hF▸hs.g k) hV hx hz (hzr _ _ hs.o hs.f) (λr' a w' h' e=>hK e (by
  have h:=h r'
  rw[zH0] at h
  exact h.go hq r0 hm a w' h')) hr ht hg⟩
def SR (e:E τ)(Ls:List zJ)(F:List PP)(q:Option Addr)(z:List τ)(k:Nat): Prop:=∀ A w,zZ A w Ls->uW F (bl Ls++A) w->Src e (bl Ls++A) w q z∧z.length=k
theorem srR (h:vN Ls F (R e p0 c k0 z)): SR e Ls F p0 z k0:=λA w hO hF=>R.srcs (h A w hO hF)
theorem srA (i k:Nat)(hF:uA F k=Ar e te r p0 c k0 z)(hr:Ls[i]?=some r:=by rfl): SR e Ls F p0 z k0:=λA w hO hA=>Ar.srcs (by rw[←hF];exact hA.at k) hO hr
theorem srV (i k:Nat){kk:Int}{m':Nat}(hV:Vw e.n p0 c k0 kk q m')(hF:uA F k=Ar e te r p0 c k0 z)(hr:Ls[i]?=some r:=by rfl): SR e Ls F q (z.drop kk.toNat) m':=λA w hO hA=>by
 have h:(Ar e te r p0 c k0 z).h (bl Ls++A) w:=by rw[←hF];exact hA.at k
 exact hV.src h.1 h.2.symm hO hr
def VW (e:E τ)(Ls:List zJ)(F:List PP)(p0:Option Addr)(c k0:Nat)(kk:Int)(q:Option Addr)(m':Nat): Prop:=∀ A w,zZ A w Ls->uW F (bl Ls++A) w->Vw e.n p0 c k0 kk q m'
theorem vwV{kk:Int}{m':Nat}(hV:Vw e.n p0 c k0 kk q m'): VW e Ls F p0 c k0 kk q m':=λ_ _ _ _=>hV
theorem vwW (k:Nat)(hF:uA F k=Ar e te r p0 c k0 z): VW e Ls F p0 c k0 0 p0 k0:=λA w _ hA=>by
 have h:(Ar e te r p0 c k0 z).h (bl Ls++A) w:=by rw[←hF];exact hA.at k
 exact Vw.whole h.1 h.2
theorem jcp{q2:Option Addr}{m' c':Nat}{kk:Int}(at0:At Ls p os ⟨some d,.call { callee:=.builtin .copy,args:=[x,y].toArray,argTypes:=[t,t].toArray },ty,pos,af,g⟩ p')(i k:Nat)(hF:uA F k=Ar e te r p0 c k0 z)(hV:VW e Ls F p0 c k0 kk q m')(hR:SR e Ls F q2 z2 k2)(hx:zL S x=some (.slice q m' c'))(hy:zL S y=some (.slice q2 k2 c2))
  (h:∀ r',uR Ls i r' λLs'=>J P n X Q p' ((d,vi ((Nat.min k2 m':Nat):Int))::S) Ls' (Ar e te r' p0 c k0 (zLB z kk z2)::F) m) (hr:Ls[i]?=some r:=by rfl) (ht:uT P t te e.n=true:=by kernel_rfl) (hd:Nat.blt d n=true:=by kernel_rfl) (hg:zS os S g=some true:=by kernel_rfl):J P n X Q p S Ls F m :=
 ⟨λhq r0 hm a w hs=>at0.run λK hK=>z68 i hs (hF▸hs.g k) (hV _ _ hs.o hs.f) (hR _ _ hs.o hs.f) hx hy (λr' a w' h' e=>hK e (by
  have h:=h r'
  rw[zH0] at h
  exact h.go hq r0 hm a w' h')) hr ht hd hg⟩
end
section
variable {κ ν:Type}[BEq κ]{kt vt:TypeId}{kv:κ->Value}{vv:ν->Value}{r:zJ}{b:Nat}{z:List (κ×ν)}{k:κ}{v:ν}{x3:Operand}
theorem jmm{rs:Option Operand}{rv:Option Value}(at0:At Ls p os ⟨some d,.makeMap t rs,ty,pos,af,g⟩ p')(kv:κ->Value)(vv:ν->Value)(H:zXq P t kt vt kv)(hr:tI S rs=some rv)(hi:rv=none∨∃ kd i,rv=some (.int kd i))
  (h:∀ b r',zOD Ls r' λLs'=>J P n X Q p' ((d,.map (some b))::S) Ls' (Ma kv vv r' b []::F) m) (hd:Nat.blt d n=true:=by kernel_rfl) (hg:zS os S g=some true:=by kernel_rfl):J P n X Q p S Ls F m :=
 ⟨λhq r0 hm a w hs=>at0.run λK hK=>b_makeMap kv vv hs H hr hi (λb r' a w' h' e=>hK e (by
  have h:=h b r'
  rw[zKe] at h
  exact h.go hq r0 hm a w' h')) hd hg⟩
theorem jmG[LawfulBEq κ](at0:At Ls p os ⟨some d,.lookup t x y true,ty,pos,af,g⟩ p')(i q:Nat)(zv:ν)(H:zXq P t kt vt kv)(hF:uA F q=Ma kv vv r b z)(hx:zL S x=some (.map (some b)))(hy:zL S y=some (kv k))
  (h:J P n X Q p' ((d,.tuple #[vv ((xU z k).getD zv),vb (xU z k).isSome])::S) Ls F m) (hz:zJX P vt=some (vv zv):=by kernel_rfl) (hr:Ls[i]?=some r:=by rfl) (hd:Nat.blt d n=true:=by kernel_rfl) (hg:zS os S g=some true:=by kernel_rfl):J P n X Q p S Ls F m :=
 ⟨λhq r0 hm a w hs=>at0.run λK hK=>b_lookup true hs H (hF▸hs.g q) hx hy hz hr (λa h'=>hK (zU.refl _ _) (h.go hq r0 hm a w h')) hd hg⟩
theorem jmp[LawfulBEq κ](at0:At Ls p os ⟨none,.mapUpdate t x y x3,ty,pos,af,g⟩ p')(i q:Nat)(H:zXq P t kt vt kv)(hF:uA F q=Ma kv vv r b z)(hx:zL S x=some (.map (some b)))(hy:zL S y=some (kv k))(hz:zL S x3=some (vv v))
  (h:∀ r',uR Ls i r' λLs'=>J P n X Q p' S Ls' (Ma kv vv r' b (z8t z k v)::F) m) (hr:Ls[i]?=some r:=by rfl) (hg:zS os S g=some true:=by kernel_rfl):J P n X Q p S Ls F m :=
 ⟨λhq r0 hm a w hs=>at0.run λK hK=>z6J i hs H (hF▸hs.g q) hx hy hz hr (λr' a w' h' e=>hK e (by
  have h:=h r'
  rw[zH0] at h
  exact h.go hq r0 hm a w' h')) hg⟩
end
def uM.less (Ls Ls':List zJ): uM->Prop
 | .dr _ _ J _ _=>J.map (Ls'[·]?)=J.map (Ls[·]?)
 | .fo _ _ _ _ _ _=>False
 | .af _ _ _ _ _ _=>False
 | _=>True
theorem uM.less_go{Ls':List zJ}(hl:p.less Ls Ls')(hs:∀ b∈bl Ls',b∈bl Ls){A:List Nat}{Q:Exit->Act->World->Prop}{a:Act}{w:World}{L0:List zJ}{w0:World}
  (h:SS qd A L0 w0 n S Ls' F a w) (k:p.go qd P A Ls' Q a w):p.go qd P A Ls Q a w:=by
 cases p with
 | dr os B J f li=>exact dless h k hs hl
 | fo _ _ _ _ _ _=>exact hl.elim
 | af _ _ _ _ _ _=>exact hl.elim
 | _=>exact k
section
variable {τ:Type}{e:E τ}{te:TypeId}{r:zJ}{p0:Option Addr}{c k0:Nat}{z:List τ}
theorem uQ (i k:Nat)(hF:uA F k=Ar e te r p0 c k0 z)(hr:Ls[i]?=some r)(h:uR Ls i [] λLs'=>J P n X Q p S Ls' (R e p0 c k0 z::F) m)(hl:uR Ls i [] (λLs'=>p.less Ls Ls'):=by first | exact trivial | exact rfl): J P n X Q p S Ls F m :=
 ⟨λhq r0 hm a w hs=>by
  rw[zH0] at h hl
  have h1:=hs.share i (hF▸hs.g k:(Ar e te r p0 c k0 z).h (bl Ls++X.A) w) hr
  exact uM.less_go hl set_less h1 (h.go hq r0 hm a w h1)⟩
theorem yU (e:E τ)(te:TypeId)(h:zOD Ls [] λLs'=>J P n X Q p S Ls' (Ar e te [] none 0 0 []::F) m)(hl:zOD Ls [] (λLs'=>p.less Ls Ls'):=by first | exact trivial | exact rfl): J P n X Q p S Ls F m :=
 ⟨λhq r0 hm a w hs=>by
  rw[zKe] at h hl
  have h1:=hs.room e te
  exact uM.less_go hl room_less h1 (h.go hq r0 hm a w h1)⟩
end
structure zP (qd:Prop)(P:Program)(f:FuncId)(vs:List Value)(L:List zJ)(F:List PP){ρ:Type}(m:Option ρ)(post:ρ->(Value->List zJ->List PP->Prop)->Prop): Prop where
 hf:∀ args w,(callFunc f args).run P w=.ok (.enter f args) w
 go:∀ A w0 r,m=some r->zZ A w0 L->uW F (bl L++A) w0->Calls P f vs.toArray w0 (Ret λv w=>Ex (post r) λv1 L1 F1=>v=v1∧Bk qd A L w0 L1 F1 w)
abbrev wR (qd:Prop)(P:Program)(f:FuncId)(vs:List Value)(L:List zJ)(F:List PP){ρ:Type}(m:Option ρ)(post:List zJ->ρ->(Value->List zJ->List PP->Prop)->Prop): Prop:=zP qd P f vs L F m (post L)
def callK (ls js:List Nat)(L1 Ls:List zJ)(F1 F:List PP)(k:List zJ->List PP->Prop): Prop:=match ls with
 | []=>z7R js L1 Ls λLs'=>appC F1 F λF'=>k Ls' F'
 | _::_=>match F1 with
  | []=>z7R js L1 Ls λLs'=>k Ls' F
  | _::_=>False
theorem callK_on{ls js:List Nat}{L1:List zJ}{F1:List PP}{A:List Nat}{L0:List zJ}{w0 w w':World}{a':Act}{S':Sl}{kk:List zJ->List PP->Prop}(h:callK ls js L1 Ls F1 F kk)
  (c:AC qd A L0 w0 n S' Ls F js ls w a' w') (q:Bk qd (Ac A Ls js ls) (uY Ls js) w L1 F1 w') (hk:z6n (js++ls) Ls.length=true):∃ Ls' F',kk Ls' F'∧SS qd A L0 w0 n S' Ls' F' a' w'∧zU qd Ls w Ls' w':=by
 cases ls with
 | nil =>
  obtain⟨hl,h⟩:=zX1 h
  rw[z6X] at h
  exact⟨_,_,h,c.on q _ hk hl rfl (.inl rfl),c.st q _ hk hl rfl⟩
 | cons a ls =>
  cases F1 with
  | cons f F1=>exact h.elim
  | nil =>
   obtain⟨hl,h⟩:=zX1 h
   exact⟨_,_,h,c.on q _ hk hl rfl (.inr rfl),c.st q _ hk hl rfl⟩
theorem qD{fd:FuncId}{cal:Operand}{xs:List Operand}{bs0 caps:List Value}{ats:Array TypeId}{us vs:List Value}{L:List zJ}{F1:List PP}{m1:Option σ}{post:σ->(Value->List zJ->List PP->Prop)->Prop}{f:σ->Option ρ}
  (at0:At Ls p os ⟨some d,.call { callee:=.value cal,args:=xs.toArray,argTypes:=ats },ty,pos,af,g⟩ p') (js ls:List Nat) (c:zP qd P fd vs L F1 m1 post) (hcal:zL S cal=some (.func (.func fd) bs0.toArray caps.toArray)) (hx:z8X S xs=some us) (hv:bs0++us++caps=vs)
  (hF:xQ (OKc Ls F js ls) F1) (h:∀ r K,(∀ {v L1 F1},callK ls js L1 Ls F1 F (λLs' F'=>J P n X Q p' ((d,v)::S) Ls' F' (f r))->K v L1 F1)->post r K)
  (hL:uY Ls js=L:=by rfl) (hk:z6n (js++ls) Ls.length=true:=by kernel_rfl) (hd:Nat.blt d n=true:=by kernel_rfl) (hg:zS os S g=some true:=by kernel_rfl):J P n X Q p S Ls F (m1.bind f) :=
 ⟨λhq r0 hm a w hs=>by
  obtain⟨r,h1,h2⟩:=xG hm
  subst hL hv
  refine at0.run λK hK=>b_call js ls hs c.hf hcal hx (c.go _ _ _ h1 (hs.po js ls hk) (xQ.all (λ_ hf=>hf _ _ hs.o hs.f) hF)) (λv a' w' hR hc=>?_) hd hg
  refine hR _ (h r _ ?_)
  rintro v1 L1 F1 hj ⟨rfl,q⟩
  obtain⟨Ls',F',k1,k2,k3⟩:=callK_on hj hc q hk
  exact hK k3 (k1.go hq r0 h2 a' w' k2)⟩
theorem qW{fd:FuncId}{xs:List Operand}{ats:Array TypeId}{vs:List Value}{F1:List PP}{m1:Option σ}{post:σ->(Value->List zJ->List PP->Prop)->Prop}{f:σ->Option ρ}
  (c:zP qd P fd vs [] F1 m1 post) (hx:z8X S xs=some vs)
  (hF:xQ (OKc Ls F [] []) F1) (h:∀ r K,(∀ {v L1 F1},callK [] [] L1 Ls F1 F (λLs' F'=>J P n X Q (.ops os l) ((d,v)::S) Ls' F' (f r))->K v L1 F1)->post r K)
  (hd:Nat.blt d n=true:=by kernel_rfl) (hg:zS os S g=some true:=by kernel_rfl):J P n X Q (.ops os (⟨some d,.call { callee:=.value (.func fd),args:=xs.toArray,argTypes:=ats },ty,pos,af,g⟩::l)) S Ls F (m1.bind f) :=
 qD (bs0:=[]) (caps:=[]) .s [] [] c rfl hx (QF vs) hF h rfl rfl hd hg
theorem zO{fd:FuncId}{fn:Func}{c:Code}{vs:List Value}{L:List zJ}{m1:Option σ}{post:σ->(Value->List zJ->List PP->Prop)->Prop}(hc:∀ args w,(callFunc fd args).run P w=.ok (.enter fd args) w)(hf:P.funcs[fd]?=some fn)(hb:fn.body=some c)
  (h:∀ X:Hd qd,J P fn.ntmps X (zY2 P fn X post) (.code c) (zRJ vs 0) L F m1) (hn:Nat.ble vs.length fn.ntmps=true:=by kernel_rfl):zP qd P fd vs L F m1 post :=
 ⟨hc,λA w0 r hm hO hF=>ent hf hb hO hF (λa hs=>(h ⟨A,L,w0⟩).go zY2.np r hm a w0 hs) hn⟩
theorem zUQ{fd:FuncId}{vs:List Value}{L:List zJ}{M:Nat->Option σ}{post:σ->(Value->List zJ->List PP->Prop)->Prop}(h:∀ k,zP qd P fd vs L F (M k) post): zP qd P fd vs L F (z6A M) post :=
 ⟨(h 0).hf,λA w0 r hm=>by obtain⟨k,hk⟩:=limM_some hm;exact(h k).go A w0 r hk⟩
theorem con0{fd:FuncId}{vs:List Value}{L:List zJ}{post:σ->(Value->List zJ->List PP->Prop)->Prop}(hc:∀ args w,(callFunc fd args).run P w=.ok (.enter fd args) w): zP qd P fd vs L F none post:=⟨hc,λ_ _ _ hm=>nomatch hm⟩
theorem qR{fn:Func}{post:ρ->(Value->List zJ->List PP->Prop)->Prop}{r:ρ}{v v1:Value}{L1:List zJ}{F1:List PP}(hf:fn.results=#[.tmp t])(hv:vX S t=some v)(hk:∀ K,post r K->K v1 L1 F1)(js:List Nat)(hF:xQ (vN Ls F) F1)
  (he:v=v1:=by first | rfl | (simp only[sv,UJ] <;> rfl)) (hL:uY Ls js=L1:=by rfl) (hn:js.Nodup:=by decide):J P n X (zY2 P fn X post) (.ex .ret) S Ls F (some r) :=
 ⟨λ_ r0 hm a w hs=>by
  cases hm
  subst hL he
  exact rt1 hs hf hv λG hG=>hk _ hG ⟨rfl,bk_sel hs js (xQ.all (λ_ hf=>hf _ _ hs.o hs.f) hF) hn⟩⟩
def RL (P:Program)(S:Sl)(Ls:List zJ)(rs:List ResultVar)(vs:List Value): Prop:=∀ {qd A L0 w0 n F a w},SS qd A L0 w0 n S Ls F a w->z7r P S w rs vs
theorem lN:RL P S Ls [] []:=λ_=>resN
theorem lT{v:Value}{rs:List ResultVar}{vs:List Value}(h:vX S t=some v)(k:RL P S Ls rs vs): RL P S Ls (.tmp t::rs) (v::vs):=λhs=>resT h (k hs)
theorem lC{b:Nat}{c:Array Value}{te:TypeId}{fr:Nat×Nat}{rs:List ResultVar}{vs:List Value}(i:Nat)(v:Value)(hl:vX S t=some (pt b 0))(hr:Ls[i]?=some [(b,.cells c te fr)])(k:RL P S Ls rs vs)(hv:zNt P ty c 0=some v:=by kernel_rfl): RL P S Ls (.cell t ty::rs) (v::vs) :=
 λhs=>rtc i hs hl hr (k hs) hv
theorem yM{fn:Func}{rs:List ResultVar}{vs:List Value}{post:ρ->(Value->List zJ->List PP->Prop)->Prop}{r:ρ}{v1:Value}{L1:List zJ}{F1:List PP}(hf:fn.results=rs.toArray)(hr:RL P S Ls rs vs)(hk:∀ K,post r K->K v1 L1 F1)(js:List Nat)(hF:xQ (vN Ls F) F1)
  (he:(if h:vs.length=1 then vs[0] else .tuple vs.toArray)=v1:=by first | rfl | (simp only[sv,UJ] <;> rfl)) (hL:uY Ls js=L1:=by rfl) (hn:js.Nodup:=by decide):J P n X (zY2 P fn X post) (.ex .ret) S Ls F (some r) :=
 ⟨λ_ r0 hm a w hs=>by
  cases hm
  subst hL he
  exact rtg hs hf (hr hs) λG hG=>hk _ hG ⟨rfl,bk_sel hs js (xQ.all (λ_ hf=>hf _ _ hs.o hs.f) hF) hn⟩⟩
theorem jrn{fn:Func}{post:ρ->(Value->List zJ->List PP->Prop)->Prop}(h:J P n X (zY2 P fn X post) (.ex .ret) S Ls F m): J P n X (zY2 P fn X post) (.ex .normal) S Ls F m :=
 ⟨λhq r hm a w hs=>h.go hq r hm a w hs⟩
end
end
section
open Go Go.RowKit
variable {qd:Prop}
set_option linter.unusedVariables false
def runD (os:Array Oper): List Nat->Sl->List Ob->Option (Sl×List Ob)
 | [],S,ob=>some (S,ob)
 | i::is,S,ob=>match os[i]? with
  | none=>none
  | some o=>match o.dst with
   | none=>none
   | some d=>guC os S o.guard (pvC S o.op ob λob v=>runD os is ((d,v)::S) ob) (runD os is ((d,undef)::S) ob)
def setAll:Array Bool->List Nat->Array Bool
 | li,[]=>li
 | li,i::is=>setAll (li.setIfInBounds i true) is
def z26 (os:Array Oper)(B:List Nat)(n:Nat): Array Bool->List Nat->Bool
 | _,[]=>true
 | li,i::is=>vZ os B li i&&(match os[i]? with
  | some o=>match o.dst with
   | some d=>Nat.blt d n
   | none=>false
  | none=>false)&&z26 os B n (li.setIfInBounds i true) is
section
variable {P:Program}{n:Nat}{X:Hd qd}{ρ σ:Type}{Q:PQ ρ}{S:Sl}{Ls:List zJ}{F:List PP}{m m1 m2:Option ρ}{os:Array Oper}{l:List Oper}{x y:Operand}{p p':uM}{z0:Code}{id:Nat}
variable {d t:Nat}{ty ty2:TypeId}{pos pos2:String}{af af2:Array Edge}{g g2:Option (Nat×Bool)}{kd:IntKind}{B Jj:List Nat}{li:Array Bool}{fuel:Nat}
theorem xA (B Jj:List Nat)(k:Nat)(h:J P n X (zVQ P z0 Q) (.dr l.toArray B Jj k (Array.replicate k false)) S Ls F m)(hk:l.length=k:=by rfl)(hm:P.follows .mixedOrders=true:=by kernel_rfl):
  J P n X Q (.code (.seq (.region id l.toArray true) z0)) S Ls F m :=
 ⟨λhq r h0 a w hs=>by subst hk;exact ds B Jj hs (λw' hs'=>h.go (zVQ.np hq) r h0 a w' hs') hm⟩
theorem tM (B Jj:List Nat)(k:Nat)(h:J P n X Q (.dr l.toArray B Jj k (Array.replicate k false)) S Ls F m)(hk:l.length=k:=by rfl)(hm:P.follows .mixedOrders=true:=by kernel_rfl):
  J P n X Q (.code (.region id l.toArray true)) S Ls F m :=
 ⟨λhq r h0 a w hs=>by subst hk;exact ds' B Jj hs (λw' hs'=>h.go hq r h0 a w' hs') hm⟩
theorem qY (h:J P n X Q (.ex .normal) S Ls F m)(hr:Region.ready .any os li=[]:=by kernel_rfl): J P n X Q (.dr os B Jj fuel li) S Ls F m :=
 ⟨λhq r h0 a w hs=>de (h.go hq r h0 a w hs) hr⟩
theorem zXT:∀(is:List Nat) (S S':Sl) (ob ob':List Ob) (li:Array Bool) (f:Nat),runD os is S ob=some (S',ob')->z26 os B n li is=true->z1D P ob'=true->
  J P n X Q (.dr os B Jj f (setAll li is)) S' Ls F m->z1D P ob=true∧J P n X Q (.dr os B Jj (f+is.length) li) S Ls F m
 | [],S,S',ob,ob',li,f,h,_,ho,k=>by
  simp only[runD,Qg,Prod.mk.injEq] at h
  obtain⟨rfl,rfl⟩:=h
  exact⟨ho,k⟩
 | i::is,S,S',ob,ob',li,f,h,ht,ho,k=>by
  simp only[runD] at h
  simp only[z26,QA] at ht
  obtain⟨⟨ht1,ht2⟩,ht3⟩:=ht
  split at h
  ·cases h
  ·rename_i o hi
   obtain⟨od,op,ty,pos,af,g⟩:=o
   rw[hi] at ht2
   simp only at h ht2
   split at h
   ·cases h
   ·rename_i d
    simp only at ht2
    rcases z33 h with⟨hg,h⟩ | ⟨hg,h⟩
    ·obtain⟨ob1,v,h,hv⟩:=z2x (P:=P) h
     obtain⟨h1,h2⟩:=zXT is _ S' ob1 ob' _ f h ht3 ho k
     obtain⟨h3,h4⟩:=hv h1
     exact⟨h4,⟨λhq r hm a w hs=>dp i v hs hi (λa' hs'=>h2.go hq r hm a' w hs') (λc v a w hp=>(hq r c _ _ hp).elim) ht1 ht2 hg h3⟩⟩
    ·obtain⟨h1,h2⟩:=zXT is _ S' ob ob' _ f h ht3 ho k
     exact⟨h1,⟨λhq r hm a w hs=>dk i hs hi (λa' hs'=>h2.go hq r hm a' w hs') (λc v a w hp=>(hq r c _ _ hp).elim) ht1 ht2 hg⟩⟩
theorem zW{S':Sl}{ob:List Ob}(f:Nat)(is:List Nat)(hr:runD os is S []=some (S',ob))(h:J P n X Q (.dr os B Jj f (setAll li is)) S' Ls F m)
  (hf:fuel=f+is.length:=by rfl) (hk:z26 os B n li is=true:=by kernel_rfl) (ho:z1D P ob=true:=by kernel_rfl):J P n X Q (.dr os B Jj fuel li) S Ls F m :=
 hf▸(zXT is S S' [] ob li f hr hk ho h).2
theorem vK{op:Op}(i:Nat)(v:Value)(hi:os[i]?=some ⟨some d,op,ty,pos,af,g⟩)(h:J P n X Q (.dr os B Jj fuel (li.setIfInBounds i true)) ((d,v)::S) Ls F m)
  (hk:vZ os B li i=true:=by kernel_rfl) (hd:Nat.blt d n=true:=by kernel_rfl) (hg:zS os S g=some true:=by kernel_rfl) (hv:pv P S op=some v:=by kernel_rfl):J P n X Q (.dr os B Jj (fuel+1) li) S Ls F m :=
 ⟨λhq r hm a w hs=>dp i v hs hi (λa' hs'=>h.go hq r hm a' w hs') (λc v a w hp=>(hq r c _ _ hp).elim) hk hd hg hv⟩
theorem qU{s f b o:Nat}(i off:Nat)(hi:os[i]?=some ⟨some d,.fieldAddr s x f,ty,pos,af,g⟩)(hx:zL S x=some (pt b o))(h:J P n X Q (.dr os B Jj fuel (li.setIfInBounds i true)) ((d,pt b (o+off))::S) Ls F m)
  (hf:z0o P s f=some off:=by kernel_rfl) (hk:vZ os B li i=true:=by kernel_rfl) (hd:Nat.blt d n=true:=by kernel_rfl) (hg:zS os S g=some true:=by kernel_rfl):J P n X Q (.dr os B Jj (fuel+1) li) S Ls F m :=
 ⟨λhq r hm a w hs=>dp i _ hs hi (λa' hs'=>h.go hq r hm a' w hs') (λc v a w hp=>(hq r c _ _ hp).elim) hk hd hg (by simp[pv,hx,hf])⟩
theorem jdv{op:Op}{v:Value}(i:Nat)(hi:os[i]?=some ⟨some d,op,ty,pos,af,g⟩)(hv:∀ {a:Act},qL a n S->∀ w',(execOp a.eval ⟨some d,op,ty,pos,af,g⟩).run P w'=.ok (.value v) w')(h:J P n X Q (.dr os B Jj fuel (li.setIfInBounds i true)) ((d,v)::S) Ls F m)
  (hk:vZ os B li i=true:=by kernel_rfl) (hd:Nat.blt d n=true:=by kernel_rfl) (hg:zS os S g=some true:=by kernel_rfl):J P n X Q (.dr os B Jj (fuel+1) li) S Ls F m :=
 ⟨λhq r hm a w hs=>dv i hs hi (hv hs.s) (λa' hs'=>h.go hq r hm a' w hs') (λc v a w hp=>(hq r c _ _ hp).elim) hk hd hg⟩
theorem wV{b o:Nat}{c:List Value}{te:TypeId}{fr:Nat×Nat}{v:Value}(i q:Nat)(hi:os[i]?=some ⟨some d,.load t x,ty,pos,af,g⟩)(hx:zL S x=some (pt b o))(hr:Ls[q]?=some [(b,.cells c.toArray te fr)])(hv:getC c o some=some v)(h:J P n X Q (.dr os B Jj fuel (li.setIfInBounds i true)) ((d,v)::S) Ls F m)
  (ht:vW P t=some (false,1):=by kernel_rfl) (hb:B.all (λj=>behind os i os.size j)=true:=by kernel_rfl) (hJ:Jj.contains q=true:=by kernel_rfl)
  (hk:vZ os B li i=true:=by kernel_rfl) (hd:Nat.blt d n=true:=by kernel_rfl) (hg:zS os S g=some true:=by kernel_rfl):J P n X Q (.dr os B Jj (fuel+1) li) S Ls F m :=
 ⟨λhq r hm a w hs=>dlo i q v hs hi hx hr (λa' hs'=>h.go hq r hm a' w hs') (by
  rw[z2k] at hv
  have hv':c[o]?=some v:=by cases hc:c[o]? <;> simp_all
  have hlt:=(Qe.1 hv').1
  unfold zNt
  rw[ht]
  have:Nat.ble (o+1) c.toArray.size=true:=by rw[UY,QS];exact hlt
  simp only[this,Qf,z9V]
  grind [List.drop_eq_getElem_cons,mkV]) hb hJ (λc v a w hp=>(hq r c _ _ hp).elim) hk hd hg⟩
theorem xE{b o:Nat}{c:List Value}{te:TypeId}{fr:Nat×Nat}{cs:List Value}(i q k:Nat)(hi:os[i]?=some ⟨some d,.load t x,ty,pos,af,g⟩)(hx:zL S x=some (pt b o))(hr:Ls[q]?=some [(b,.cells c.toArray te fr)])(hv:z7T o c (λl=>z3w k l some)=some cs)(h:J P n X Q (.dr os B Jj fuel (li.setIfInBounds i true)) ((d,.agg cs.toArray)::S) Ls F m)
  (ht:vW P t=some (true,k):=by kernel_rfl) (hb:B.all (λj=>behind os i os.size j)=true:=by kernel_rfl) (hJ:Jj.contains q=true:=by kernel_rfl)
  (hk:vZ os B li i=true:=by kernel_rfl) (hd:Nat.blt d n=true:=by kernel_rfl) (hg:zS os S g=some true:=by kernel_rfl):J P n X Q (.dr os B Jj (fuel+1) li) S Ls F m :=
 ⟨λhq r hm a w hs=>dlo i q (.agg cs.toArray) hs hi hx hr (λa' hs'=>h.go hq r hm a' w hs') (by
  obtain⟨h1,h2⟩:=z3V hv
  obtain⟨h3,h4⟩:=z2v h1
  rw[UE] at h4
  unfold zNt
  rw[ht]
  have:Nat.ble (o+k) c.toArray.size=true:=by rw[UY];simp;omega
  simp only[this,Qf,z9V,mkV]
  grind) hb hJ (λc v a w hp=>(hq r c _ _ hp).elim) hk hd hg⟩
section
variable {τ ω:Type}{e:E τ}{ef:E ω}{te:TypeId}{r:zJ}{p0:Option Addr}{c k0:Nat}{z:List τ}{ix j:Int}{lo hi:Option Operand}{vlo vhi:Option Value}
theorem jdi{f:τ->Option ρ}(i k:Nat)(hi:os[i]?=some ⟨some d,.indexAddr t x y,ty,pos,af,g⟩)(hF:uA F k=R e p0 c k0 z)(hx:zL S x=some (.slice p0 k0 c))(hy:zL S y=some (.int kd ix))
  (h:∀ u b o,J P n X Q (.dr os B Jj fuel (li.setIfInBounds i true)) ((d,pt b o)::S) Ls (Pt e b o u::F) (f u))
  (ht:yE P t=some e.n:=by kernel_rfl) (hk:vZ os B li i=true:=by kernel_rfl) (hd:Nat.blt d n=true:=by kernel_rfl) (hg:zS os S g=some true:=by kernel_rfl) :
  J P n X Q (.dr os B Jj (fuel+1) li) S Ls F ((zC z ix).bind f) :=
 ⟨λhq r hm a w hs=>by
  obtain⟨u,h1,h2⟩:=xG hm
  exact dir i hs hi (hF▸hs.g k) hx hy h1 (λb o a h'=>(h u b o).go hq r h2 a w h') ht (λc v a w hp=>(hq r c _ _ hp).elim) hk hd hg⟩
theorem tZ{b o:Nat}{u:τ}(i:Nat)(ag:Bool)(op:uZ e)(hi:os[i]?=some ⟨some d,.load t x,ty,pos,af,g⟩)(hP:vN Ls F (Pt e b o u))(hx:zL S x=some (pt b o))
  (h:op.op u [] F λcs F'=>mkC ag cs λv=>J P n X Q (.dr os B Jj fuel (li.setIfInBounds i true)) ((d,v)::S) Ls F' m) (ht:vW P t=some (ag,e.n):=by kernel_rfl) (hag:ag=true∨e.n=1:=by first | exact .inl rfl | exact .inr rfl)
  (hb:B.all (λj=>behind os i os.size j)=true:=by kernel_rfl) (hk:vZ os B li i=true:=by kernel_rfl) (hd:Nat.blt d n=true:=by kernel_rfl) (hg:zS os S g=some true:=by kernel_rfl):J P n X Q (.dr os B Jj (fuel+1) li) S Ls F m :=
 ⟨λhq r hm a w hs=>dlp i ag hs hi (hP _ _ hs.o hs.f) hx (λci hc v hv a h'=>by
  obtain⟨F',h1,h2⟩:=op.spec hc h'.f h
  rw[QF] at h1
  exact(zZS h1 hv).go hq r hm a w ⟨h'.s,h'.o,h'.e,h2⟩) ht hag hb (λc v a w hp=>(hq r c _ _ hp).elim) hk hd hg⟩
theorem jdI{f:τ->Option ρ}(i k:Nat)(hi:os[i]?=some ⟨some d,.indexAddr t x y,ty,pos,af,g⟩)(hF:uA F k=Ar e te r p0 c k0 z)(hx:zL S x=some (.slice p0 k0 c))(hy:zL S y=some (.int kd ix))
  (h:∀ u,zC z ix=some u->∀ b o,p0=some ⟨b,o,none⟩->J P n X Q (.dr os B Jj fuel (li.setIfInBounds i true)) ((d,pt b (o+ix.toNat*e.n))::S) Ls F (f u))
  (ht:yE P t=some e.n:=by kernel_rfl) (hk:vZ os B li i=true:=by kernel_rfl) (hd:Nat.blt d n=true:=by kernel_rfl) (hg:zS os S g=some true:=by kernel_rfl) :
  J P n X Q (.dr os B Jj (fuel+1) li) S Ls F ((zC z ix).bind f) :=
 ⟨λhq r hm a w hs=>by
  obtain⟨u,h1,h2⟩:=xG hm
  exact dia i hs hi (hF▸hs.g k) hx hy h1 (λb o hp a h'=>(h u h1 b o hp).go hq r h2 a w h') ht (λc v a w hp=>(hq r c _ _ hp).elim) hk hd hg⟩
theorem tU{b o:Nat}{u:τ}(i ri k:Nat)(s:xS e ef)(ag:Bool)(op:uZ ef)(hi:os[i]?=some ⟨some d,.load t x,ty,pos,af,g⟩)(hF:uA F k=Ar e te r p0 c k0 z)(hp:p0=some ⟨b,o,none⟩)(hm0:zC z ix=some u)(hx:zL S x=some (pt b (o+ix.toNat*e.n+s.off)))
  (h:op.op (s.get u) [] F λcs F'=>mkC ag cs λv=>J P n X Q (.dr os B Jj fuel (li.setIfInBounds i true)) ((d,v)::S) Ls F' m) (hr:Ls[ri]?=some r:=by rfl) (ht:vW P t=some (ag,ef.n):=by kernel_rfl) (hag:ag=true∨ef.n=1:=by first | exact .inl rfl | exact .inr rfl)
  (hb:B.all (λj=>behind os i os.size j)=true:=by kernel_rfl) (hJ:Jj.contains ri=true:=by kernel_rfl) (hk:vZ os B li i=true:=by kernel_rfl) (hd:Nat.blt d n=true:=by kernel_rfl) (hg:zS os S g=some true:=by kernel_rfl):J P n X Q (.dr os B Jj (fuel+1) li) S Ls F m :=
 ⟨λhq r hm a w hs=>dla i ri s ag hs hi (hF▸hs.g k) hp hm0 hx (λci hc v hv a h'=>by
  obtain⟨F',h1,h2⟩:=op.spec hc h'.f h
  rw[QF] at h1
  exact(zZS h1 hv).go hq r hm a w ⟨h'.s,h'.o,h'.e,h2⟩) hr ht hag hb hJ (λc v a w hp=>(hq r c _ _ hp).elim) hk hd hg⟩
theorem jdw{f:List τ->Option ρ}{i0:Int}(i:Nat)(hi0:os[i]?=some ⟨some d,.slice t x lo hi none,ty,pos,af,g⟩)(g0:vN Ls F (R e p0 c k0 z))(hx:zL S x=some (.slice p0 k0 c))(hlo:tI S lo=some vlo)(hhi:tI S hi=some vhi)(b1:Bd vlo i0 0)(b2:Bd vhi j z.length)
  (h:∀ u p' c',J P n X Q (.dr os B Jj fuel (li.setIfInBounds i true)) ((d,sv p' u c')::S) Ls (Rl e p' c' u::F) (f u))
  (ht:yE P t=some e.n:=by kernel_rfl) (hk:vZ os B li i=true:=by kernel_rfl) (hd:Nat.blt d n=true:=by kernel_rfl) (hg:zS os S g=some true:=by kernel_rfl) :
  J P n X Q (.dr os B Jj (fuel+1) li) S Ls F ((sub z i0 j).bind f) :=
 ⟨λhq r hm a w hs=>by
  obtain⟨u,h1,h2⟩:=xG hm
  exact dslice_rd i hs hi0 (g0 _ _ hs.o hs.f) hx hlo hhi b1 b2 h1 (λp' c' a h'=>(h u p' c').go hq r h2 a w h') ht (λc v a w hp=>(hq r c _ _ hp).elim) hk hd hg⟩
theorem jdW{f:List τ->Option ρ}{x2:Operand}(i k:Nat)(hi0:os[i]?=some ⟨some d,.slice t x none (some x2) none,ty,pos,af,g⟩)(hF:uA F k=Ar e te r p0 c k0 z)(hx:zL S x=some (.slice p0 k0 c))(hhi:zL S x2=some (.int kd j))
  (h:∀ u,J P n X Q (.dr os B Jj fuel (li.setIfInBounds i true)) ((d,sv p0 u c)::S) Ls (Al e te r p0 c u::F) (f u))
  (ht:yE P t=some e.n:=by kernel_rfl) (hk:vZ os B li i=true:=by kernel_rfl) (hd:Nat.blt d n=true:=by kernel_rfl) (hg:zS os S g=some true:=by kernel_rfl) :
  J P n X Q (.dr os B Jj (fuel+1) li) S Ls F ((sub z 0 j).bind f) :=
 ⟨λhq r hm a w hs=>by
  obtain⟨u,h1,h2⟩:=xG hm
  exact z9U i hs hi0 (hF▸hs.g k) hx hhi h1 (λa h'=>(h u).go hq r h2 a w h') ht (λc v a w hp=>(hq r c _ _ hp).elim) hk hd hg⟩
theorem jdV{f:Unit->Option ρ}{x2:Operand}(i k:Nat)(hi0:os[i]?=some ⟨some d,.slice t x (some x2) none none,ty,pos,af,g⟩)(hF:uA F k=Ar e te r p0 c k0 z)(hx:zL S x=some (.slice p0 k0 c))(hlo:zL S x2=some (.int kd j))
  (h:∀ u p' c',Vw e.n p0 c k0 j p' (Int.toNat ((k0:Int)-j))->J P n X Q (.dr os B Jj fuel (li.setIfInBounds i true)) ((d,.slice p' (Int.toNat ((k0:Int)-j)) c')::S) Ls F (f u))
  (ht:yE P t=some e.n:=by kernel_rfl) (hk:vZ os B li i=true:=by kernel_rfl) (hd:Nat.blt d n=true:=by kernel_rfl) (hg:zS os S g=some true:=by kernel_rfl) :
  J P n X Q (.dr os B Jj (fuel+1) li) S Ls F ((vT (decide (0≤j)&&decide (j≤(z.length:Int)))).bind f) :=
 ⟨λhq r hm a w hs=>by
  obtain⟨u,h1,h2⟩:=xG hm
  exact z6g i hs hi0 (hF▸hs.g k) hx hlo h1 (λp' c' hv a h'=>(h u p' c' hv).go hq r h2 a w h') ht (λc v a w hp=>(hq r c _ _ hp).elim) hk hd hg⟩
theorem jdX{f:τ->Option ρ}{p1:Option Addr}{m' c':Nat}{i0:Int}(i k:Nat)(hi0:os[i]?=some ⟨some d,.indexAddr t x y,ty,pos,af,g⟩)(hF:uA F k=Ar e te r p0 c k0 z)(hV:Vw e.n p0 c k0 i0 p1 m')(hx:zL S x=some (.slice p1 m' c'))(hy:zL S y=some (.int kd j))
  (h:∀ u b o,p0=some ⟨b,o,none⟩->zC z (i0+j)=some u->J P n X Q (.dr os B Jj fuel (li.setIfInBounds i true)) ((d,pt b (o+(i0+j).toNat*e.n))::S) Ls F (f u))
  (ht:yE P t=some e.n:=by kernel_rfl) (hk:vZ os B li i=true:=by kernel_rfl) (hd:Nat.blt d n=true:=by kernel_rfl) (hg:zS os S g=some true:=by kernel_rfl) :
  J P n X Q (.dr os B Jj (fuel+1) li) S Ls F ((z1W z i0 j).bind f) :=
 ⟨λhq r hm a w hs=>by
  obtain⟨u,h1,h2⟩:=xG hm
  exact z6h i hs hi0 (hF▸hs.g k) hV hx hy h1 (λb o hp hi a h'=>(h u b o hp hi).go hq r h2 a w h') ht (λc v a w hp=>(hq r c _ _ hp).elim) hk hd hg⟩
end
theorem qO (i:Nat)(h:J P n X Q (.fo i os B Jj fuel li) S Ls F m)(hr:Region.ready .any os li=[i]:=by kernel_rfl): J P n X Q (.dr os B Jj (fuel+1) li) S Ls F m :=
 ⟨λhq r hm a w hs=>by
  obtain⟨o,h1,h2⟩:=h.go hq r hm a w hs
  exact d1 i h1 h2 hr⟩
theorem jd2 (i j:Nat)(h:J P n X Q (.fo i os B Jj fuel li) S Ls F m)(h':J P n X Q (.fo j os B Jj fuel li) S Ls F m)(hr:Region.ready .any os li=[i,j]:=by kernel_rfl): J P n X Q (.dr os B Jj (fuel+1) li) S Ls F m :=
 ⟨λhq r hm a w hs=>by
  obtain⟨o,h1,h2⟩:=h.go hq r hm a w hs
  obtain⟨o',h1',h2'⟩:=h'.go hq r hm a w hs
  exact d2 i j h1 h1' h2 h2' hr⟩
theorem jd3 (i j k:Nat)(h:J P n X Q (.fo i os B Jj fuel li) S Ls F m)(h':J P n X Q (.fo j os B Jj fuel li) S Ls F m)(h'':J P n X Q (.fo k os B Jj fuel li) S Ls F m)(hr:Region.ready .any os li=[i,j,k]:=by kernel_rfl): J P n X Q (.dr os B Jj (fuel+1) li) S Ls F m :=
 ⟨λhq r hm a w hs=>by
  obtain⟨o,h1,h2⟩:=h.go hq r hm a w hs
  obtain⟨o',h1',h2'⟩:=h'.go hq r hm a w hs
  obtain⟨o'',h1'',h2''⟩:=h''.go hq r hm a w hs
  exact d3 i j k h1 h1' h1'' h2 h2' h2'' hr⟩
theorem qM{L0:List zJ}(h:J P n X Q (.dr os B Jj fuel li) S Ls F m)(hJ:Jj.map (Ls[·]?)=Jj.map (L0[·]?):=by rfl): J P n X Q (.af L0 os B Jj fuel li) S Ls F m :=
 ⟨λhq r hm a w hs w0 hE=>dn hs hE (h.go hq r hm a w hs) hJ⟩
theorem jdb{L0:List zJ}(B' J':List Nat)(h:J P n X Q (.dr os B' J' fuel li) S Ls F m)(hb:B.all (λj=>!li.getD j false)=false:=by kernel_rfl): J P n X Q (.af L0 os B Jj fuel li) S Ls F m :=
 ⟨λhq r hm a w hs w0 hE=>db B' J' hs (h.go hq r hm a w hs) hb⟩
end
section
variable {P:Program}{n:Nat}{X:Hd qd}{ρ:Type}{Q:PQ ρ}{S:Sl}{Ls:List zJ}{F:List PP}{m:Option ρ}{os:Array Oper}{x:Operand}{p p':uM}{d t:Nat}{ty:TypeId}{pos:String}{af:Array Edge}{g:Option (Nat×Bool)}
theorem jfl0{b o:Nat}{c:List Value}{te:TypeId}{fr:Nat×Nat}{v:Value}(at0:At Ls p os ⟨some d,.load t x,ty,pos,af,g⟩ p')(i:Nat)(hx:zL S x=some (pt b o))(hr:Ls[i]?=some [(b,.cells c.toArray te fr)])(hv:getC c o some=some v)(h:J P n X Q p' ((d,v)::S) Ls F m)
  (ht:vW P t=some (false,1):=by kernel_rfl) (hd:Nat.blt d n=true:=by kernel_rfl) (hg:zS os S g=some true:=by kernel_rfl):J P n X Q p S Ls F m :=
 ⟨λhq r hm a w hs=>at0.run λK hK=>zMX i v hs hx hr (λa h'=>hK (zU.refl _ _) (h.go hq r hm a w h')) (by
  rw[z2k] at hv
  have hv':c[o]?=some v:=by cases hc:c[o]? <;> simp_all
  have hlt:=(Qe.1 hv').1
  unfold zNt
  rw[ht]
  have:Nat.ble (o+1) c.toArray.size=true:=by rw[UY,QS];exact hlt
  simp only[this,Qf,z9V]
  grind [List.drop_eq_getElem_cons,mkV]) hd hg⟩
end
end
section
open Go Go.RowKit
variable {qd:Prop}
set_option linter.unusedVariables false
section
variable {P:Program}{ops:Array Oper}{Q:Exit->Act->World->Prop}{K:Act->World->Prop}
variable {A:List Nat}{L0 Ls:List zJ}{w0 w:World}{n:Nat}{S:List (Nat×Value)}{F:List PP}{a:Act}{Z:List Nat}
variable {d:Nat}{ty:TypeId}{pos:String}{af:Array Edge}{g:Option (Nat×Bool)}
variable {τ:Type}{e:E τ}{te:TypeId}{r:zJ}{p q:Option Addr}{c:Nat}{l z:List τ}{t:TypeId}{x y:Operand}{i j:Int}{k1 k2:IntKind}
theorem mkS_lt{α:Type}{n c:Int}{z:α}{l:List α}(h:mkS n c z=some l): 0≤n∧n≤c∧c≤4294967296∧l=List.replicate n.toNat z:=by grind [mkS]
theorem b_make{zd:τ}{zv:Value}(h:SS qd A L0 w0 n S Ls F a w)(hz:zJX P te=some zv)(hzr:e.rd (bl Ls++A) w zv.cells.toList zd)(hx:zL S x=some (.int k1 i))(hy:zL S y=some (.int k2 j))(hm:mkS i j zd=some l)
  (k:∀ r p c a' w',SS qd A L0 w0 n ((d,.slice p (List.length l) c)::S) (Ls++[r]) (Ar e te r p c (List.length l) l::F) a' w'->zU qd Ls w (Ls++[r]) w'->K a' w')
  (ht:uT P t te e.n=true:=by kernel_rfl) (hd:Nat.blt d n=true:=by kernel_rfl) (hg:zS ops S g=some true:=by kernel_rfl):vD P ops Q ⟨some d,.makeSlice t x y,ty,pos,af,g⟩ K a w:=by
 obtain⟨h0,hij,hj,rfl⟩:=mkS_lt hm
 obtain⟨hu,info,zv',hi,hz',hsize,hby,hpos,hzs⟩:=zMz ht
 have hzz:zv'=zv:=by simp[zJX,hi,hz'] at hz;exact hz
 subst hzz
 have hjn:j=(j.toNat:Int):=by omega
 have hbytes:(info.bytes:Int)*j≤281474976710656:=by
  have h1:info.bytes*j.toNat≤32768*4294967296:=Ws hby (by omega)
  rw[hjn]
  have h2:((info.bytes*j.toNat:Nat):Int)≤281474976710656:=by omega
  rwa [Int.natCast_mul] at h2
 have hrun:=run_make (P:=P) w t te info zv' hu hi hz' k1 k2 i j h0 hij hbytes (by omega)
 have hcs:(madeCells zv'.cells (j.toNat*info.size)).toList=(List.replicate j.toNat zv'.cells.toList).flatten:=by
  rw[←zM1,hsize,←hzs];rfl
 have hE:=zU.alloc (qd:=qd) (w:=w) (w':=w.alloc (.cells (madeCells zv'.cells (j.toNat*info.size)) te)) Ls (.cells (madeCells zv'.cells (j.toNat*info.size)) te) rfl rfl rfl rfl
 have hrd:=e.rdL_take i.toNat (E.rdL_replicate hzr j.toNat)
 rw[←hcs,List.take_replicate,Uu (by omega)] at hrd
 refine tE h.s hd hg (v:=.slice (some ⟨w.heap.size,0,none⟩) (List.replicate i.toNat zd).length j.toNat) (w':=w.alloc (.cells (madeCells zv'.cells (j.toNat*info.size)) te)) ?_ λa hS=>?_
 ·simp[execOp,h.s.eval hx,h.s.eval hy,hrun]
 ·refine k _ _ _ a _ (h.next (h.o.alloc _ rfl) hE hS [Ar e te _ _ _ _ _] ⟨⟨vO.mk0 w.heap.size _ rfl rfl (by grind) (by grind [maxLen]) (by rw[size_madeCells,hsize]) ?_,rfl⟩,trivial⟩) hE
  rw[U0]
  exact e.rdL_step (hE.step A) hrd
end
section
variable {P:Program}{n:Nat}{X:Hd qd}{ρ σ:Type}{Q:PQ ρ}{S:Sl}{Ls:List zJ}{F:List PP}{m m1 m2:Option ρ}{os:Array Oper}{l:List Oper}{x y:Operand}{p p':uM}
variable {d t:Nat}{ty ty2:TypeId}{pos pos2:String}{af af2:Array Edge}{g g2:Option (Nat×Bool)}{k1 k2:IntKind}{i j:Int}
variable {τ:Type}{e:E τ}{te:TypeId}
theorem jmk{f:List τ->Option ρ}(at0:At Ls p os ⟨some d,.makeSlice t x y,ty,pos,af,g⟩ p')(te:TypeId)(zd:τ)(zv:Value)(hzr:RV e Ls F zv.cells.toList zd)(hx:zL S x=some (.int k1 i))(hy:zL S y=some (.int k2 j))
  (h:∀ z r' p1 c',zOD Ls r' λLs'=>J P n X Q p' ((d,sv p1 z c')::S) Ls' (Al e te r' p1 c' z::F) (f z)) (hz:zJX P te=some zv:=by kernel_rfl) (ht:uT P t te e.n=true:=by kernel_rfl)
  (hd:Nat.blt d n=true:=by kernel_rfl) (hg:zS os S g=some true:=by kernel_rfl):J P n X Q p S Ls F ((mkS i j zd).bind f) :=
 ⟨λhq r0 hm a w hs=>by
  obtain⟨z,h1,h2⟩:=xG hm
  exact at0.run λK hK=>b_make hs hz (hzr _ _ hs.o hs.f) hx hy h1 (λr' p1 c' a w' h' e=>hK e (by
   have h:=h z r' p1 c'
   rw[zKe] at h
   exact h.go hq r0 h2 a w' h')) ht hd hg⟩
end
theorem jcm{P:Program}{n:Nat}{X:Hd qd}{ρ α β:Type}{Q:PQ ρ}{p:uM}{S:Sl}{Ls:List zJ}{F:List PP}{ma:Option α}{mb:Option β}{f:α->β->Option ρ}(h:J P n X Q p S Ls F (mb.bind λy=>ma.bind λx=>f x y)): J P n X Q p S Ls F (ma.bind λx=>mb.bind λy=>f x y):=by
 have e:(ma.bind λx=>mb.bind λy=>f x y)=(mb.bind λy=>ma.bind λx=>f x y):=by cases ma <;> cases mb <;> rfl
 grind
end
section
open Go Go.RowKit
variable {qd:Prop}
theorem ba_eqv (x y:zD): ((⟨x.toArray⟩:ByteArray)==⟨y.toArray⟩)=(x==y):=by
 show(x.toArray==y.toArray)=(x==y)
 simp
theorem zXq.string{P:Program}{t kt vt:TypeId}(hu:P.underlying t=some (.map kt vt))(hk:P.underlying kt=some .string): zXq P t kt vt (λx:zD=>vs x) :=
 ⟨hu,λb x w=>by
   rw[show(10000:Nat)=9999+1 from rfl]
   unfold Instr.checkKey
   simp only[Sem.run_bind,run_underlying hk,Result.andThen_ok]
   rfl,
  λx y w=>by
   show(Op.equalIn 10000 kt (vs x) (vs y)).run P w=_
   rw[show(10000:Nat)=9999+1 from rfl,run_equalIn_string w 9999 kt _ _ hk,zWG,zWG],⟨_,hk,λx y=>.inr (by rw[←ba_eqv];rfl)⟩,λx=>by simp[Instr.sameBits,ba_beq]⟩
section
variable {P:Program}{n:Nat}{X:Hd qd}{ρ:Type}{Q:PQ ρ}{S:Sl}{Ls:List zJ}{F:List PP}{m:Option ρ}{os:Array Oper}{ol:List Oper}{x y x3:Operand}{p p':uM}{d t kt vt:Nat}{ty:TypeId}{pos:String}{af:Array Edge}{g:Option (Nat×Bool)}
variable {r:zJ}{b:Nat}{z:List (zD×Value)}{k:zD}{v:Value}
end
end
section
open Go Go.RowKit Go.Shelf Go.Sort Go.Proofs
variable {qd:Prop}
structure uK{τ:Type}(e:E τ) where
 enc:τ->List Value
 iff:∀ {Z w cs x},e.rd Z w cs x↔cs=enc x
def uK.int (k:IntKind): uK (zB k):=⟨λx=>[.int k x],Iff.rfl⟩
def uK.bool:uK zNu:=⟨λx=>[.bool x],Iff.rfl⟩
def uK.str:uK wS:=⟨λx=>[vs x],Iff.rfl⟩
def uK.prod{α β:Type}{e:E α}{f:E β}(h:uK e)(k:uK f): uK (wP e f) :=
 ⟨λx=>h.enc x.1++k.enc x.2,λ{Z w cs x}=>⟨λ⟨c1,c2,h0,h1,h2⟩=>by rw[h0,h.iff.1 h1,k.iff.1 h2],λh0=>⟨_,_,h0,h.iff.2 rfl,k.iff.2 rfl⟩⟩⟩
section
variable {τ:Type}{e:E τ}
theorem uK.len (F:uK e)(x:τ): (F.enc x).length=e.n:=e.len (Z:=[]) (w:=default) (F.iff.2 rfl)
theorem uK.one (F:uK e)(x:τ): ∀ v∈F.enc x,v.oneCell'=true:=e.one (Z:=[]) (w:=default) (F.iff.2 rfl)
theorem uK.rdL (F:uK e){Z:List Nat}{w:World}: ∀ {l:List τ} {cs:List Value},e.rdL Z w cs l↔cs=l.flatMap F.enc
 | [],cs=>by simp[E.rdL]
 | x::l,cs=>by
  simp only[E.rdL,Wr]
  constructor
  ·rintro ⟨c1,c2,rfl,h1,h2⟩
   rw[F.iff.1 h1,(uK.rdL F).1 h2]
  ·rintro rfl
   exact⟨_,_,rfl,F.iff.2 rfl,(uK.rdL F).2 rfl⟩
theorem uK.flat_get[Inhabited τ](F:uK e): ∀ {l:List τ} {t:Nat},t<l.length*e.n->(l.flatMap F.enc)[t]?=some ((F.enc (l.toArray[t / e.n]!))[t % e.n]!)
 | [],t,h=>by simp at h
 | x::l,t,h=>by
  have hl:=F.len x
  have hn:0<e.n:=by
   rcases Nat.eq_zero_or_pos e.n with h0 | h0
   ·rw[h0] at h;simp at h
   ·exact h0
  rw[Wr]
  by_cases ht:t<e.n
  ·rw[Q4 (by omega),Nat.div_eq_of_lt ht,Wh ht]
   rw[Qh (by omega)]
   simp[hl,ht]
  ·have ih:=uK.flat_get F (l:=l) (t:=t-e.n) (by rw[QK,Q1,Nat.one_mul] at h;omega)
   rw[Uj (by omega),hl,ih]
   have h1:t / e.n=(t-e.n) / e.n+1:=by rw[Nat.div_eq,Ql ⟨hn,by omega⟩]
   have h2:t % e.n=(t-e.n) % e.n:=Nat.mod_eq_sub_mod (by omega)
   rw[h1,h2]
   simp
theorem uK.flatK[Inhabited τ](F:uK e)(l:List τ): (Go.Sort.flatK F.enc e.n l.toArray).toList=l.flatMap F.enc:=by
 apply QN
 intro t
 by_cases ht:t<l.length*e.n
 ·rw[F.flat_get ht]
  have hs:t<(Go.Sort.flatK F.enc e.n l.toArray).size:=by simpa using ht
  rw[Array.getElem?_toList,Array.getElem?_eq_getElem hs,←getElem!_pos _ t hs,get_flatK _ _ _ _ (by grind)]
 ·rw[UZ (by simpa using ht),UZ]
  have:(l.flatMap F.enc).length=l.length*e.n:=e.rdL_len (Z:=[]) (w:=default) (F.rdL.2 rfl)
  omega
theorem z7s{w w':World}(h:zU True [] w [] w'): ∃ q os,w'=grow (w.drewN q) os:=by
 refine⟨w'.drawn-w.drawn,w'.heap.extract w.heap.size w'.heap.size,?_⟩
 have hh:w'.heap=w.heap++w'.heap.extract w.heap.size w'.heap.size:=by
  apply Array.ext_getElem?
  intro k
  by_cases hk:k<w.heap.size
  ·rw[Array.getElem?_append_left hk,h.keep k hk (by simp[bl])]
  ·grind
 have hd:=h.drawn trivial
 have h1:=h.os;have h2:=h.tape;have h3:=h.output
 cases w' with
 | mk hp tp dr os out =>
  simp only at h1 h2 h3 hd hh
  simp only[grow,World.drewN]
  subst h1 h2 h3
  congr 1
  ·omega
end
theorem zRT (o:Nat)(D cells:Array Value)(h:o+D.size≤cells.size): ((putCells id o D cells).toList.drop o).take D.size=D.toList:=by
 apply QN
 grind [putCells]
theorem z02{w:World}{b n o:Nat}{cells:Array Value}{te:TypeId}(hb:w.heap[b]?=some (.cells cells te (0,0)))(D:Array Value)(os:Array Obj):
  (grow (putRow id (Sort.ahead w n) b o D) os).heap[b]?=some (.cells (putCells id o D cells) te (0,0))∧∀ k,k<w.heap.size->k≠b->(grow (putRow id (Sort.ahead w n) b o D) os).heap[k]?=w.heap[k]?:=by
 have hlt:=(Qu.1 hb).1
 have key:∀ k,k<w.heap.size->(grow (putRow id (Sort.ahead w n) b o D) os).heap[k]?=(w.heap.modify b (onCells (putCells id o D)))[k]?:=λk hk=>by
  show((w.heap.modify b (onCells (putCells id o D)))++os)[k]?=_
  grind
 refine⟨?_,λk hk hne=>?_⟩
 ·rw[key b hlt,U2,Ql rfl,hb];rfl
 grind
theorem zW2{P:Program}{ρ:Ren}(L:SlLaysF0.n6 P ρ){τ:Type}[Inhabited τ]{e:E τ}(F:uK e){te:TypeId}
  (aE:∀ w,(isAgg (ρ.t 24)).run P w=.ok true w) (zE:∀ w,(Go.sizeOf (ρ.t 24)).run P w=.ok e.n w)
  (f:τ->τ->Option Int) (g:Nat) (eg:∀ args w,(callFunc g args).run P w=.ok (.enter g args) w)
  (hg:∀(w:World) (x y:τ) (n:Int),f x y=some n->Calls P g #[.agg (F.enc x).toArray,.agg (F.enc y).toArray] w (Ret λv w'=>v=vi n∧zU True [] w [] w'))
  {A:List Nat} {w:World} {r:zJ} {p:Option Addr} {c:Nat} {l z:List τ} (hO:zZ A w [r]) (hA:vO e te (bl [r]++A) w r p c l) (hm:z3A f l=some z) :
  Calls P (ρ.f 6) #[.slice p l.length c,.func (.func g) #[] #[]] w (Ret λv w'=>∃ r',v=.tuple #[]∧zZ A w' [r']∧zU qd [r] w [r'] w'∧vO e te (bl [r']++A) w' r' p c z∧List.length z=List.length l):=by
 unfold z3A at hm
 split at hm
 case isFalse=>cases hm
 rename_i hc
 obtain⟨hf,hl⟩:=hc
 obtain rfl:=QE hm
 rcases hA with⟨rfl,rfl,rfl,rfl⟩ | ⟨b,o,cells,rfl,rfl,h3,h4,h5,h6⟩
 ·refine(AnyF.slices_SortFunc_none L none 0 _ w).mono ?_
  rintro e w' ⟨rfl,rfl⟩
  exact⟨[],rfl,hO,zU.refl _ _,by rw[List.mergeSort_nil];exact vO.nil,by simp⟩
 ·have hb:=xK hO (i:=0) rfl (Qa.2 rfl)
  have hblk:=(Qu.1 hb).1
  have hcs:=F.rdL.1 h6
  have hmul:o+l.length*e.n≤cells.size:=QD (Nat.add_le_add_left (QQ _ h3) _) h5
  have hS:SWO (ltOf λx y=>(f x y).getD 0):=⟨hf.irrefl,hf.trans,hf.ntrans⟩
  have hH:HoldsK F.enc e.n w b o l.toArray:=by
   intro j hj
   have hj':j<l.length*e.n:=by simpa using hj
   rw[cell_of_row w b (o+j) cells te (0,0) hb]
   refine⟨?_,by simp[World.frozen?,hb]⟩
   have h1:((cells.toList.drop o).take (l.length*e.n))[j]?=cells[o+j]?:=by rw[QX,Ql hj',UC];simp
   rw[←h1,hcs,F.flat_get hj',id,get_flatK _ _ _ _ (by grind)]
  have hC:CmpLays P g #[] F.enc e.n (λx y=>(f x y).getD 0) b o l.toArray.size w:=by
   intro m os dk _ x y
   obtain⟨n,hn⟩:=hf.tot x y
   have:=hg (sortWorldK F.enc e.n w b o m dk os) x y n hn
   simp only[Array.append_empty]
   refine Calls.mono this ?_
   intro e w' he
   cases e with
   | returned v =>
    obtain⟨rfl,hE⟩:=he
    exact⟨by grind,z7s hE⟩
   | _=>exact he.elim
  refine(AnyQ.slices_SortFunc_total L e.n aE zE F.enc F.len F.one _ hS g #[] b o c l.toArray w eg hC hH hblk (by simp;omega) hf.eq).mono ?_
  rintro e' w' ⟨rfl,n,os,rfl⟩
  have hlen:(l.mergeSort λx y=>!yL f y x).length=l.length:=Wo _
  have hsz:(Go.Sort.flatK F.enc e.n (l.mergeSort λx y=>!yL f y x).toArray).size=l.length*e.n:=by simp
  obtain⟨k1,k2⟩:=z02 (n:=n) (o:=o) hb (Go.Sort.flatK F.enc e.n (l.mergeSort λx y=>!yL f y x).toArray) os
  have hgrow:w.heap.size≤(grow (putRow id (Sort.ahead w n) b o (Go.Sort.flatK F.enc e.n (l.mergeSort λx y=>!yL f y x).toArray)) os).heap.size:=by
   show w.heap.size≤((w.heap.modify b _)++os).size
   simp
  have hoth:∀ k,k<w.heap.size->k∉[(b,Obj.cells cells te (0,0))].map Prod.fst->(grow (putRow id (Sort.ahead w n) b o (Go.Sort.flatK F.enc e.n (l.mergeSort λx y=>!yL f y x).toArray)) os).heap[k]?=w.heap[k]? :=
   λk hk hn=>k2 k hk (λe=>hn (by simp[e]))
  have hE:zU qd [[(b,Obj.cells cells te (0,0))]] w [[(b,Obj.cells (putCells id o (Go.Sort.flatK F.enc e.n (l.mergeSort λx y=>!yL f y x).toArray) cells) te (0,0))]] (grow (putRow id (Sort.ahead w n) b o (Go.Sort.flatK F.enc e.n (l.mergeSort λx y=>!yL f y x).toArray)) os) :=
   zU.set (i:=0) rfl rfl rfl rfl hgrow hoth (λq hq=>.inl (by grind)) (λ_=>Nat.le_add_right _ _)
  refine⟨[(b,.cells (putCells id o (Go.Sort.flatK F.enc e.n (l.mergeSort λx y=>!yL f y x).toArray) cells) te (0,0))],rfl,?_,hE,.inr ⟨b,o,_,rfl,rfl,by grind,h4,?_,?_⟩,hlen⟩
  ·exact hO.set (i:=0) rfl hgrow hoth (λq hq=>by simp only[Qa] at hq;subst hq;exact k1) (by simp) (λq hq=>.inl (by grind))
  ·simpa [putCells] using h5
  ·rw[hlen,←hsz,zRT _ _ _ (by grind),F.flatK]
   exact F.rdL.2 rfl
end
section
open Go Go.RowKit Go.Shelf Go.Sort Go.Proofs
variable {qd:Prop}
theorem zYJ{τ:Type}[Inhabited τ]{o:Nat}(enc:τ->Value)(d:Array τ)(cells:Array Value): putCells enc o d cells=putCells id o (d.map enc) cells:=by grind [putCells]
theorem sort_one{P:Program}{f:Nat}{τ:Type}[Inhabited τ]{e:E τ}(enc:τ->Value)(hn:e.n=1)(F:∀ {Z w cs x},e.rd Z w cs x↔cs=[enc x])(le:τ->τ->Bool)
  (hnone:∀ p cap w,Calls P f #[.slice p 0 cap] w λe w'=>e=.returned (.tuple #[])∧w'=w)
  (hsome:∀ blk off cap (zs:List τ) w,Holds enc w blk off zs.toArray->blk<w.heap.size->zs.length<4611686018427387904->Calls P f #[.slice (some ⟨blk,off,none⟩) zs.length cap] w λe w' =>
   e=.returned (.tuple #[])∧∃ n os,w'=grow (putRow enc (Sort.ahead w n) blk off (zs.mergeSort le).toArray) os)
  {te:TypeId} {A:List Nat} {w:World} {r:zJ} {p:Option Addr} {c:Nat} {l z:List τ} (hO:zZ A w [r]) (hA:vO e te (bl [r]++A) w r p c l) (hm:(if l.length<4294967296 then some (l.mergeSort le) else none)=some z) :
  Calls P f #[.slice p l.length c] w (Ret λv w'=>∃ r',v=.tuple #[]∧zZ A w' [r']∧zU qd [r] w [r'] w'∧vO e te (bl [r']++A) w' r' p c z∧List.length z=List.length l):=by
 split at hm
 case isFalse=>cases hm
 rename_i hl
 obtain rfl:=QE hm
 have G:uK e:=⟨λx=>[enc x],F⟩
 have hG:∀ {Z:List Nat} {w:World} {l:List τ} {cs:List Value},e.rdL Z w cs l↔cs=l.map enc:=by
  intro Z w l
  induction l with
  | nil=>intro cs;simp[E.rdL]
  | cons x l ih =>
   intro cs
   simp only[E.rdL,Ug]
   simp_all
 rcases hA with⟨rfl,rfl,rfl,rfl⟩ | ⟨b,o,cells,rfl,rfl,h3,h4,h5,h6⟩
 ·refine(hnone none 0 w).mono ?_
  rintro e w' ⟨rfl,rfl⟩
  exact⟨[],rfl,hO,zU.refl _ _,by rw[List.mergeSort_nil];exact vO.nil,by simp⟩
 ·have hb:=xK hO (i:=0) rfl (Qa.2 rfl)
  have hblk:=(Qu.1 hb).1
  have hcs:=hG.1 h6
  rw[hn,UK] at h5 hcs
  have hH:Holds enc w b o l.toArray:=by
   intro j hj
   have hj':j<l.length:=by simpa using hj
   rw[cell_of_row w b (o+j) cells te (0,0) hb]
   refine⟨?_,by simp[World.frozen?,hb]⟩
   have h1:((cells.toList.drop o).take l.length)[j]?=cells[o+j]?:=by rw[QX,Ql hj',UC];simp
   rw[←h1,hcs,Q7,Qh hj',getElem!_pos l.toArray j hj]
   simp
  refine(hsome b o c l w hH hblk (by omega)).mono ?_
  rintro e' w' ⟨rfl,n,os,rfl⟩
  have hlen:(l.mergeSort le).length=l.length:=Wo _
  have hrow:∀ W:World,putRow enc W b o (l.mergeSort le).toArray=putRow id W b o ((l.mergeSort le).toArray.map enc):=λW=>by
   show mapBlock W b _=mapBlock W b _
   congr 1
   grind [zYJ]
  rw[hrow]
  generalize hD:(l.mergeSort le).toArray.map enc=D
  have hDs:D.size=l.length:=by rw[←hD];simp
  obtain⟨k1,k2⟩:=z02 (n:=n) (o:=o) hb D os
  have hgrow:w.heap.size≤(grow (putRow id (Sort.ahead w n) b o D) os).heap.size:=by
   show w.heap.size≤((w.heap.modify b _)++os).size
   simp
  have hoth:∀ k,k<w.heap.size->k∉[(b,Obj.cells cells te (0,0))].map Prod.fst->(grow (putRow id (Sort.ahead w n) b o D) os).heap[k]?=w.heap[k]?:=λk hk hn=>k2 k hk (λe=>hn (by simp[e]))
  have hE:zU qd [[(b,Obj.cells cells te (0,0))]] w [[(b,Obj.cells (putCells id o D cells) te (0,0))]] (grow (putRow id (Sort.ahead w n) b o D) os) :=
   zU.set (i:=0) rfl rfl rfl rfl hgrow hoth (λq hq=>.inl (by grind)) (λ_=>Nat.le_add_right _ _)
  refine⟨[(b,.cells (putCells id o D cells) te (0,0))],rfl,?_,hE,.inr ⟨b,o,_,rfl,rfl,by grind,h4,?_,?_⟩,hlen⟩
  ·exact hO.set (i:=0) rfl hgrow hoth (λq hq=>by grind) (by simp) (λq hq=>.inl (by grind))
  ·grind [putCells]
  ·rw[hlen,hn,UK,←hDs,zRT _ _ _ (by grind),←hD]
   grind
theorem sort_int{P:Program}{ρ:Ren}(L:SlLaysM.n5 P ρ){te:TypeId}{A:List Nat}{w:World}{r:zJ}{p:Option Addr}{c:Nat}{l z:List Int}(hO:zZ A w [r])(hA:vO (zB .i64) te (bl [r]++A) w r p c l)(hm:sortI l=some z):
  Calls P (ρ.f 5) #[.slice p l.length c] w (Ret λv w'=>∃ r',v=.tuple #[]∧zZ A w' [r']∧zU qd [r] w [r'] w'∧vO (zB .i64) te (bl [r']++A) w' r' p c z∧List.length z=List.length l) :=
 sort_one (Value.int .i64) rfl Iff.rfl _ (AnyM.slices_Sort_int_none L) (λblk off cap zs w h1 h2 h3=>AnyM.slices_Sort_int L blk off cap zs w h1 h2 h3) hO hA hm
end
section
open Go Go.RowKit Go.Shelf Go.Sort Go.Proofs
variable {qd:Prop}
theorem rdL_zip{τ:Type}{e:E τ}(hn:e.n=1){Z:List Nat}{w:World}: ∀ {l:List τ} {cs:List Value},e.rdL Z w cs l->cs.length=l.length∧∀ q∈cs.zip l,e.rd Z w [q.1] q.2
 | [],cs,h=>by simp only[E.rdL] at h;subst h;simp
 | x::l,cs,h=>by
  obtain⟨c1,c2,rfl,h1,h2⟩:=h
  have hl:=e.len h1
  rw[hn] at hl
  match c1,hl with
  | [v],_ =>
   obtain⟨k1,k2⟩:=rdL_zip hn h2
   simp_all
theorem z2F{τ κ:Type}{e:E τ}{Z:List Nat}{w:World}(f:κ->Value)(g:κ->τ): ∀ {d:List κ},(∀ k∈d,e.rd Z w [f k] (g k))->e.rdL Z w (d.map f) (d.map g)
 | [],_=>rfl
 | k::d,h=>⟨[f k],d.map f,rfl,h k (by simp),z2F f g λk' hk=>h k' (by simp[hk])⟩
theorem sort_sl{P:Program}{ρ:Ren}(L:SlLaysF.n6 P ρ){τ:Type}{e:E τ}(h1:e.n=1){te:TypeId}
  (f:τ->τ->Option Int) (g:Nat) (eg:∀ args w,(callFunc g args).run P w=.ok (.enter g args) w)
  (hg:∀(A:List Nat) (w:World) (vx vy:Value) (x y:τ) (n:Int),f x y=some n->zZ A w []->e.rd A w [vx] x->e.rd A w [vy] y->Calls P g #[vx,vy] w (Ret λv w'=>v=vi n∧zU True [] w [] w'))
  {A:List Nat} {w:World} {r:zJ} {p:Option Addr} {c:Nat} {l z:List τ} (hO:zZ A w [r]) (hA:vO e te (bl [r]++A) w r p c l) (hm:sortO f l=some z) :
  Calls P (ρ.f 6) #[.slice p l.length c,.func (.func g) #[] #[]] w (Ret λv w'=>∃ r',v=.tuple #[]∧zZ A w' [r']∧zU qd [r] w [r'] w'∧vO e te (bl [r']++A) w' r' p c z∧List.length z=List.length l):=by
 unfold sortO at hm
 split at hm
 case isFalse=>cases hm
 rename_i hc
 obtain⟨hf,hl⟩:=hc
 obtain rfl:=QE hm
 have L0:SlLaysF0.n6 P ρ:={ L with }
 by_cases hl0:l=[]
 ·subst hl0
  refine(AnyF.slices_SortFunc_none L0 p c _ w).mono ?_
  rintro e' w' ⟨rfl,rfl⟩
  exact⟨r,rfl,hO,zU.refl _ _,by simp_all,by simp⟩
 rcases hA with⟨_,_,_,h⟩ | ⟨b,o,cells,rfl,rfl,h3,h4,h5,h6⟩
 ·grind
 have hb:=xK hO (i:=0) rfl (Qa.2 rfl)
 have hblk:=(Qu.1 hb).1
 rw[h1,UK] at h5 h6
 obtain⟨hlen,hrd⟩:=rdL_zip h1 h6
 generalize hcs:(cells.toList.drop o).take l.length=cs at h6 hlen hrd
 let S:=cs.zip l
 have hSl:S.length=l.length:=by simp[S,hlen]
 have hS2:S.map Prod.snd=l:=by simp only[S];rw[List.map_snd_zip];omega
 have hS1:S.map Prod.fst=cs:=by simp only[S];rw[List.map_fst_zip];omega
 have hmem:∀ q∈S,q.2∈l:=λq hq=>by grind
 let K:={ q:Value×τ // q∈S }
 have hin:Nonempty K:=by
  have:0<S.length:=by rw[hSl];exact QY.2 hl0
  exact⟨⟨S[0],List.getElem_mem this⟩⟩
 haveI:Inhabited K:=Classical.inhabited_of_nonempty hin
 let enc:K->Value:=λk=>k.1.1
 let cf:K->K->Int:=λx y=>(f x.1.2 y.1.2).getD 0
 have hlt:∀ x y:K,ltOf cf x y=yL f x.1.2 y.1.2:=λ_ _=>rfl
 have hOne:OneCell enc:=λk=>e.one (hrd k.1 k.2) _ (by simp[enc])
 have hSWO:SWO (ltOf cf):=⟨λx=>hf.irrefl _ (hmem _ x.2),λx y z=>hf.trans _ (hmem _ x.2) _ (hmem _ y.2) _ (hmem _ z.2),λx y z=>hf.ntrans _ (hmem _ x.2) _ (hmem _ y.2) _ (hmem _ z.2)⟩
 let d:Array K:=S.attach.toArray
 have hds:d.size=l.length:=by
  show S.attach.toArray.size=l.length
  rw[QS,List.length_attach,hSl]
 have hH:Holds enc w b o d:=by
  intro j hj
  have hj':j<l.length:=by omega
  rw[cell_of_row w b (o+j) cells te (0,0) hb]
  refine⟨?_,by simp[World.frozen?,hb]⟩
  have k1:((cells.toList.drop o).take l.length)[j]?=cells[o+j]?:=by rw[QX,Ql hj',UC];simp
  rw[←k1,hcs,←hS1,Q7,Qh (by omega),getElem!_pos d j hj]
  show some (S[j]).1=some (enc (S.attach.toArray[j]))
  rw[List.getElem_toArray,List.getElem_attach]
 have hsame:∀(m:Nat) (D:Array K) (os:Array Obj) k,k<w.heap.size->k≠b->(sortWorld enc w b o m D os).heap[k]?=w.heap[k]?:=λm D os k hk hne=>by
  show((w.heap.modify b (onCells (putCells enc o D)))++os)[k]?=_
  grind
 have hsize:∀(m:Nat) (D:Array K) (os:Array Obj),w.heap.size≤(sortWorld enc w b o m D os).heap.size:=λm D os=>by
  show w.heap.size≤((w.heap.modify b _)++os).size
  simp
 have hstep:∀(m:Nat) (D:Array K) (os:Array Obj),vY (bl [[(b,Obj.cells cells te (0,0))]]++A) w (bl [[(b,Obj.cells cells te (0,0))]]++A) (sortWorld enc w b o m D os):=λm D os =>
  ⟨hsize m D os,λk hk hn=>⟨hn,hsame m D os k hk (λe=>hn (by simp[bl,e]))⟩⟩
 have hC:CmpLays1 P g #[] enc cf b o d.size w:=by
  intro m os dk _ x y
  obtain⟨n,hn⟩:=hf.tot _ (hmem _ x.2) _ (hmem _ y.2)
  have hO':zZ (bl [[(b,Obj.cells cells te (0,0))]]++A) (sortWorld enc w b o m dk os) []:=by
   refine⟨λk hk=>?_,by simp,by simp[bl],by simp[bl]⟩
   have h:=hsize m dk os
   rcases Qb.1 hk with h' | h'
   ·grind [bl]
   ·have:=hO.old k h';omega
  have:=hg _ (sortWorld enc w b o m dk os) (enc x) (enc y) _ _ n hn hO' (e.step (hstep m dk os) (hrd _ x.2)) (e.step (hstep m dk os) (hrd _ y.2))
  simp only[Array.append_empty]
  refine Calls.mono this ?_
  intro e w' he
  cases e with
  | returned v =>
   obtain⟨rfl,hE⟩:=he
   exact⟨by grind,z7s hE⟩
  | _=>exact he.elim
 have hrun:=Any.slices_SortFunc L enc hOne cf hSWO g #[] b o c d w eg hC hH hblk (by omega)
 rw[hds] at hrun
 refine hrun.mono ?_
 rintro e' w' ⟨rfl,d',n,os,hp,hs,rfl⟩
 obtain⟨hp1,_,hp3⟩:=hp
 have hp1':d'.size=l.length:=by omega
 have hperm:d'.toList.Perm S.attach:=by
  have h:=hp3
  have e1:(d'.extract 0 l.length).toList=d'.toList:=by rw[←hp1'];simp
  have e2:(d.extract 0 l.length).toList=S.attach:=by rw[←hds];simp[d]
  rw[e1,e2] at h;exact h
 have hzz:d'.toList.map (λk=>k.1.2)=l.mergeSort λx y=>!yL f y x:=by
  have hmm:(S.attach.mergeSort λx y=>!ltOf cf y x).map (λk=>k.1.2)=l.mergeSort λx y=>!yL f y x:=by
   have h:=List.map_mergeSort (f:=λk:K=>k.1.2) (r:=λx y=>!ltOf cf y x) (s:=λx y=>!yL f y x) (l:=S.attach) (λa _ b _=>rfl)
   rw[h]
   congr 1
   have h2:S.attach.map (λk:K=>k.1.2)=(S.attach.map Subtype.val).map Prod.snd:=by rw[List.map_map];rfl
   rw[h2,List.attach_map_subtype_val,hS2]
  have tr:∀ a b c:K,(!ltOf cf b a)=true->(!ltOf cf c b)=true->(!ltOf cf c a)=true:=λa b c h1 h2=>by
   simp only[Bool.not_eq_true'] at *
   exact hSWO.ntrans _ _ _ h2 h1
  have tot:∀ a b:K,((!ltOf cf b a)||(!ltOf cf a b))=true:=λa b=>by
   cases h:ltOf cf b a with
   | false=>rfl
   | true =>
    cases h':ltOf cf a b with
    | false=>rfl
    | true=>have:=hSWO.trans _ _ _ h h';rw[hSWO.irrefl] at this;cases this
  have hperm2:(d'.toList.map λk=>k.1.2).Perm (l.mergeSort λx y=>!yL f y x):=by
   rw[←hmm]
   exact(hperm.trans (UU _ _).symm).map _
  refine List.Perm.eq_of_pairwise (le:=λx y=>(!yL f y x)=true) (λa b ha hb' h1 h2=>?_) ?_ ?_ hperm2
  ·have ha':a∈l:=(UU l _).mem_iff.1 (hperm2.mem_iff.1 ha)
   have hb'':b∈l:=(UU l _).mem_iff.1 hb'
   exact hf.eq a ha' b hb'' (by grind) (by grind)
  ·rw[Q8,Ud]
   intro i j hi hj hij
   have hj':j<d'.size:=by simpa using hj
   have hi':i<d'.size:=by simpa using hi
   have:=hs i j (Uy _) hij (by omega)
   grind
  ·rw[←hmm,Q8]
   exact List.pairwise_mergeSort (le:=λx y=>!ltOf cf y x) tr tot S.attach
 have hrow:∀ W:World,putRow enc W b o d'=putRow id W b o (d'.map enc):=λW=>by
  show mapBlock W b _=mapBlock W b _
  congr 1
  funext cs
  exact zYJ enc _ cs
 have hw':sortWorld enc w b o n d' os=grow (putRow id (Sort.ahead w n) b o (d'.map enc)) os:=by unfold sortWorld;rw[hrow]
 have hst:=hstep n d' os
 rw[hw'] at hst ⊢
 generalize hD:d'.map enc=D at *
 have hDs:D.size=l.length:=by rw[←hD];simpa using hp1'
 obtain⟨k1,k2⟩:=z02 (n:=n) (o:=o) hb D os
 have hgrow:w.heap.size≤(grow (putRow id (Sort.ahead w n) b o D) os).heap.size:=by
  show w.heap.size≤((w.heap.modify b _)++os).size
  simp
 have hoth:∀ k,k<w.heap.size->k∉[(b,Obj.cells cells te (0,0))].map Prod.fst->(grow (putRow id (Sort.ahead w n) b o D) os).heap[k]?=w.heap[k]?:=λk hk hn=>k2 k hk (λe=>hn (by simp[e]))
 have hE:zU qd [[(b,Obj.cells cells te (0,0))]] w [[(b,Obj.cells (putCells id o D cells) te (0,0))]] (grow (putRow id (Sort.ahead w n) b o D) os) :=
  zU.set (i:=0) rfl rfl rfl rfl hgrow hoth (λq hq=>.inl (by grind)) (λ_=>Nat.le_add_right _ _)
 have hlz:(l.mergeSort λx y=>!yL f y x).length=l.length:=Wo _
 refine⟨[(b,.cells (putCells id o D cells) te (0,0))],rfl,?_,hE,.inr ⟨b,o,_,rfl,rfl,by grind,h4,?_,?_⟩,hlz⟩
 ·exact hO.set (i:=0) rfl hgrow hoth (λq hq=>by grind) (by simp) (λq hq=>.inl (by grind))
 ·grind [putCells]
 ·subst hD
  rw[hlz,h1,UK,←hDs,zRT _ _ _ (by grind),←hzz]
  have:(d'.map enc).toList=d'.toList.map enc:=by simp
  rw[this]
  exact z2F enc (λk:K=>k.1.2) λk hk=>e.step hst (hrd _ k.2)
end
section
open Go Go.RowKit
variable {qd:Prop}
set_option linter.unusedVariables false
def vC{τ:Type}(k:Nat)(e:E τ): E (List τ) :=
 ⟨k*e.n,λZ w cs l=>l.length=k∧e.rdL Z w cs l,
  by rintro _ _ _ _ ⟨h1,h2⟩;rw[e.rdL_len h2,h1],
  by rintro _ _ _ _ _ _ s ⟨h1,h2⟩;exact⟨h1,e.rdL_step s h2⟩,
  by rintro _ _ _ _ ⟨h1,h2⟩ c hc;exact e.rdL_one h2 c hc⟩
def zOg (P:Program)(t:TypeId): Option (Nat×Nat):=match P.underlying t with
 | some (.array k el)=>(P.info? el).map λi=>(k,i.size)
 | _=>none
theorem zSO{P:Program}{w:World}{t:TypeId}{b o k n:Nat}{kd:IntKind}{i:Int}(h:zOg P t=some (k,n))(h0:0≤i)(h1:i.toNat<k):
  (Instr.indexAt t (.pointer (some ⟨b,o,none⟩)) (.int kd i)).run P w=.ok (.pointer (some ⟨b,o+i.toNat*n,none⟩)) w:=by
 unfold zOg at h
 split at h
 ·rename_i k' el hu
  cases hq:P.info? el with
  | none=>grind
  | some info =>
   have hh:k'=k∧info.size=n:=by simpa [hq] using h
   obtain⟨rfl,rfl⟩:=hh
   have h2:i<(k':Int):=by omega
   simp[Instr.indexAt,asIntOf,run_underlying hu,Instr.sureAddr,h0,h2,sizeOf,typeInfo,hq,zCt]
 ·cases h
section
variable {P:Program}{n:Nat}{X:Hd qd}{ρ σ:Type}{Q:PQ ρ}{S:Sl}{Ls:List zJ}{F:List PP}{m m1 m2:Option ρ}{os:Array Oper}{l:List Oper}{x y:Operand}{p p':uM}
variable {d t:Nat}{ty ty2:TypeId}{pos pos2:String}{af af2:Array Edge}{g g2:Option (Nat×Bool)}{kd:IntKind}{ix:Int}
variable {τ:Type}{e:E τ}{k:Nat}{z:List τ}{b o:Nat}{B Jj:List Nat}{li:Array Bool}{fuel:Nat}
theorem arr_at{Z:List Nat}{w:World}{u:τ}(hP:(Pt (vC k e) b o z).h Z w)(hm:zC z ix=some u): 0≤ix∧ix.toNat<k∧(Pt e b (o+ix.toNat*e.n) u).h Z w:=by
 obtain⟨b',o',cs,he,hb,hlt,⟨hk,hl⟩,hc⟩:=hP
 cases he
 unfold zC at hm
 split at hm
 ·rename_i h0
  obtain⟨hlt',hv⟩:=Qe.1 hm
  obtain⟨ci,h1,h2⟩:=e.rdL_get hl hm
  exact⟨h0,by omega,b,_,ci,rfl,hb,hlt,h1,λj u hu=>by grind⟩
 ·cases hm
theorem jgx{f:τ->Option ρ}(hP:vN Ls F (Pt (vC k e) b o z))(hx:zL S x=some (pt b o))(hy:zL S y=some (.int kd ix))
  (h:∀ u,J P n X Q (.ops os l) ((d,pt b (o+ix.toNat*e.n))::S) Ls (Pt e b (o+ix.toNat*e.n) u::F) (f u))
  (ht:zOg P t=some (k,e.n):=by kernel_rfl) (hd:Nat.blt d n=true:=by kernel_rfl) (hg:zS os S g=some true:=by kernel_rfl) :
  J P n X Q (.ops os (⟨some d,.indexAddr t x y,ty,pos,af,g⟩::l)) S Ls F ((zC z ix).bind f) :=
 ⟨λhq r hm a w hs=>by
  obtain⟨u,h1,h2⟩:=xG hm
  obtain⟨h3,h4,h5⟩:=arr_at (hP _ _ hs.o hs.f) h1
  exact sl (b_val hs (v:=pt b (o+ix.toNat*e.n)) (λw'=>by simp[execOp,hs.s.eval hx,hs.s.eval hy,zSO ht h3 h4]) (λa h'=>(h u).go hq r h2 a w (h'.add h5)) hd hg)⟩
theorem jdgx{f:τ->Option ρ}(i:Nat)(hi:os[i]?=some ⟨some d,.indexAddr t x y,ty,pos,af,g⟩)(hP:vN Ls F (Pt (vC k e) b o z))(hx:zL S x=some (pt b o))(hy:zL S y=some (.int kd ix))
  (h:∀ u,J P n X Q (.dr os B Jj fuel (li.setIfInBounds i true)) ((d,pt b (o+ix.toNat*e.n))::S) Ls (Pt e b (o+ix.toNat*e.n) u::F) (f u))
  (ht:zOg P t=some (k,e.n):=by kernel_rfl) (hk:vZ os B li i=true:=by kernel_rfl) (hd:Nat.blt d n=true:=by kernel_rfl) (hg:zS os S g=some true:=by kernel_rfl) :
  J P n X Q (.dr os B Jj (fuel+1) li) S Ls F ((zC z ix).bind f) :=
 ⟨λhq r hm a w hs=>by
  obtain⟨u,h1,h2⟩:=xG hm
  obtain⟨h3,h4,h5⟩:=arr_at (hP _ _ hs.o hs.f) h1
  exact dv (v:=pt b (o+ix.toNat*e.n)) i hs hi (λw'=>by simp[execOp,hs.s.eval hx,hs.s.eval hy,zSO ht h3 h4]) (λa' hs'=>(h u).go hq r h2 a' w (hs'.add h5)) (λc v a w hp=>(hq r c _ _ hp).elim) hk hd hg⟩
end
end
section
open Go Go.RowKit Go.Shelf Go.Proofs
variable {qd:Prop}
theorem z5B{w w':World}(h:Below w.heap.size w w'): zU False [] w [] w' :=
 ⟨h.os,h.tape,h.output,λq=>q.elim,h.size,λk hk _=>h.block k hk,λb hb=>by grind⟩
section
variable {P:Program}{f:FuncId}{vs:List Value}{F:List PP}{σ τ:Type}{m:Option σ}
theorem con_v{val:σ->Value}(hc:∀ args w,(callFunc f args).run P w=.ok (.enter f args) w)
  (h:∀ Z w r,m=some r->uW F Z w->Calls P f vs.toArray w λe w'=>e=.returned (val r)∧zU qd [] w [] w'):zP qd P f vs [] F m λr K=>K (val r) [] [] :=
 ⟨hc,λ_ w0 r hm hO hF=>(h _ w0 r hm hF).mono λe w' ⟨he,hE⟩=>by subst he;exact λG k=>k ⟨rfl,hO.frame hE,hE,trivial⟩⟩
theorem con_s{e:E τ}{m:Option (List τ)}(hc:∀ args w,(callFunc f args).run P w=.ok (.enter f args) w)
  (h:∀ Z w r,m=some r->(∀ b∈Z,b<w.heap.size)->uW F Z w->Calls P f vs.toArray w λx w'=>∃ p c,x=.returned (sv p r c)∧zU qd [] w [] w'∧(Rl e p c r).h Z w') :
  zP qd P f vs [] F m λr K=>∀ p c,K (sv p r c) [] [Rl e p c r] :=
 ⟨hc,λA w0 r hm hO hF=>(h (bl []++A) w0 r hm (λb hb=>hO.old b (by simpa [bl] using hb)) hF).mono λx w' ⟨p,c,he,hE,hR⟩=>by
  subst he;exact λG k=>k p c ⟨rfl,hO.frame hE,hE,hR,trivial⟩⟩
end
def Tb (P:Program)(name:String)(k:IntKind)(zs:List Int): PP :=
 ⟨λZ w=>∃ g,P.globalNamed name=some g∧g∉Z∧g<w.heap.size∧Lib.TabIs P w name k zs,by
  rintro Z w Z' w' s ⟨g,h1,h2,h3,h4⟩
  obtain⟨h5,h6⟩:=s.same g h3 h2
  grind [Lib.TabIs,World.var?]⟩
def Wt (g:Nat): PP :=
 ⟨λZ w=>∃ T oT R oR:Nat,(g∉Z∧T∉Z∧R∉Z)∧w.cell? ⟨g,0,none⟩=some (.pointer (some ⟨T,oT,none⟩))∧w.cell? ⟨T,oT,none⟩=some (.slice (some ⟨R,oR,none⟩) 7 7) ∧
  w.cell? ⟨T,oT+1,none⟩=some (.slice none 0 0)∧w.cell? ⟨T,oT+2,none⟩=some (.int .i64 2)∧∀ i,i<21->w.cell? ⟨R,oR+i,none⟩=some (.int .u16 (Lib.whiteT.getD i 0)),by
  rintro Z w Z' w' s ⟨T,oT,R,oR,⟨h1,h2,h3⟩,h4,h5,h6,h7,h8⟩
  have mv:∀ {a:Addr} {v:Value},a.block∉Z->w.cell? a=some v->a.block∉Z'∧w'.cell? a=some v:=λ{a v} ha hc=>by
   have hlt:=World.block_lt_of_cell? w a hc
   obtain⟨k1,k2⟩:=s.same a.block hlt ha
   grind [World.cell?_of_block]
  exact⟨T,oT,R,oR,⟨(mv h1 h4).1,(mv h2 h5).1,(mv h3 (h8 0 (by omega))).1⟩,(mv h1 h4).2,(mv h2 h5).2,(mv h2 h6).2,(mv h2 h7).2,λi hi=>(mv h3 (h8 i hi)).2⟩⟩
theorem Wt.tab{g:Nat}{Z:List Nat}{w:World}(h:(Wt g).h Z w): Lib.WhiteTab g w:=by
 obtain⟨T,oT,R,oR,_,h⟩:=h
 exact⟨T,oT,R,oR,h⟩
theorem z3T{Z:List Nat}{w:World}: ∀ l:List zD,wS.rdL Z w (l.map λx=>Value.string ⟨⟨x⟩⟩) l
 | []=>rfl
 | x::l=>⟨[.string ⟨⟨x⟩⟩],_,rfl,rfl,z3T l⟩
section
variable {P:Program}{ρ:Ren}
theorem lib_join (L:Lays.n156 P ρ)(X:Builder.Extra P ρ)(hc:∀ args w,(callFunc (ρ.f 156) args).run P w=.ok (.enter (ρ.f 156) args) w){p:Option Addr}{c:Nat}{l:List zD}{s:zD}:
  zP False P (ρ.f 156) [sv p l c,vs s] [] [Rl wS p c l] (joinM l s) λr K=>K (vs r) [] []:=by
 refine con_v hc λZ w r hm hF=>?_
 unfold joinM at hm
 split at hm
 case isFalse=>cases hm
 rename_i hl
 obtain rfl:=QE hm
 obtain⟨hR,_⟩:=hF.1
 rcases hR.2 with h0 | ⟨b,o,cs,hp,hb,hlt,hcs,hcell⟩
 ·subst h0
  refine(Any.strings_Join_none L X p c ⟨⟨s⟩⟩ w).mono λe w' ⟨he,hw⟩=>?_
  subst hw
  exact⟨he,zU.refl _ _⟩
 ·subst hp
  have hmap:(l.map λs:zD=>(⟨⟨s⟩⟩:ByteArray)).map (·.data.toList)=l:=by rw[List.map_map];exact(Wc λ_ _=>rfl).trans (List.map_id _)
  have hlen:(l.map λs:zD=>(⟨⟨s⟩⟩:ByteArray)).length=l.length:=by simp
  have h:=Any.strings_Join L X b o c (l.map λs:zD=>(⟨⟨s⟩⟩:ByteArray)) ⟨⟨s⟩⟩ w (λj x hx=>by
   rw[Q7,UG] at hx
   obtain⟨y,hy,rfl⟩:=hx
   obtain⟨ci,h1,h2⟩:=wS.rdL_get hcs hy
   obtain rfl:ci=[.string ⟨⟨y⟩⟩]:=h1
   have:=hcell (j*1+0) (.string ⟨⟨y⟩⟩) (h2 0 _ rfl)
   grind) hlt (by grind) (by rw[hlen];exact hR.1) (by rw[hmap];exact hl.2)
  rw[hlen,hmap] at h
  exact h.mono λe w' ⟨he,hw⟩=>⟨he,z5B hw⟩
theorem z9E (L:Lays.n157 P ρ)(hi9:(P.info? (ρ.t 9)).map (λi=>(i.zero,i.size,i.bytes))=some (some (.string ByteArray.empty),1,16))
  (hi154:(P.info? (ρ.t 154)).map (λi=>(i.zero,i.size,i.bytes))=some (some (.agg #[.int .i64 0,.int .i64 0]),2,16)) (hg:P.globalNamed "strings.asciiSpace"=some (ρ.g 0))
  (hc:∀ args w,(callFunc (ρ.f 157) args).run P w=.ok (.enter (ρ.f 157) args) w) {s:zD} :
  zP False P (ρ.f 157) [vs s] [] [Tb P "strings.asciiSpace" .u8 Lib.asciiSpaceTab,Wt (ρ.g 6)] (z2r s) λr K=>∀ p c,K (sv p r c) [] [Rl wS p c r]:=by
 refine con_s hc λZ w r hm hZ hF=>?_
 unfold z2r at hm
 split at hm
 case isFalse=>cases hm
 rename_i hl
 obtain rfl:=QE hm
 obtain⟨⟨_,_,_,_,hT⟩,hW,_⟩:=hF
 refine(Any.strings_Fields_any L hi9 hi154 hg ⟨⟨s⟩⟩ w hl hT (Wt.tab (Z:=Z) hW)).mono λe w' ⟨A,he,hA,hO,hB⟩=>?_
 refine⟨_,_,he,z5B hB,⟨⟨Qr _,.inr ?_⟩,rfl⟩⟩
 obtain⟨h1,h2 | ⟨g,cap,cur,hv,hbg,hg,hn,hcm,hcs,htk⟩⟩:=hO
 ·cases h2.1
 ·cases hv
  have hlt:A<w'.heap.size:=(Qu.1 hg).1
  refine⟨A,0,(Lib.fieldsD s).map λx=>Value.string ⟨⟨x⟩⟩,rfl,λhm=>by grind,hlt,?_,λj u hu=>?_⟩
  ·exact z3T _
  ·rw[cell_of_row w' A (0+j) cur (ρ.t 9) (0,0) hg,UB]
   grind
theorem z9X (L:Lays.n219 P ρ)(hc:∀ args w,(callFunc (ρ.f 219) args).run P w=.ok (.enter (ρ.f 219) args) w){s u:zD}:
  zP qd P (ρ.f 219) [vs s,vs u] [] [] (z7j s u) λr K=>K (vi r) [] []:=by
 refine con_v hc λZ w r hm hF=>?_
 unfold z7j at hm
 split at hm
 ·rename_i c
  obtain rfl:=QE hm
  exact(Any.stringslite_Index_one L ⟨⟨s⟩⟩ c w).mono λe w' ⟨he,hw⟩=>by subst hw;exact⟨he,zU.refl _ _⟩
 ·cases hm
end
end
section
open Go Go.RowKit Go.Shelf Go.Proofs
variable {qd:Prop}
def z62 (te:TypeId)(r:zJ)(p:Option Addr)(c:Nat)(l:zD): Prop :=
 (r=[]∧p=none∧c=0∧l=[])∨∃ g cells,r=[(g,.cells cells te (0,0))]∧p=some ⟨g,0,none⟩∧l≠[]∧l.length≤c∧c≤maxLen∧cells.size=c∧cells.toList.take l.length=Lib.strCells ⟨⟨l⟩⟩
def BdR (T te:TypeId)(r:zJ)(b:Nat)(l:zD): Prop :=
 ∃ p ad c r2,(p=.pointer none∨p=pt b 0)∧r=(b,.cells #[p,.slice ad l.length c] T (0,0))::r2∧z62 te r2 ad c l
def Bdr (T te:TypeId)(r:zJ)(b:Nat)(l:zD): PP:=Pu (BdR T te r b l)
theorem zPM (l:zD): (Lib.strCells ⟨⟨l⟩⟩).length=l.length:=by rw[Lib.strCells_length];rfl
theorem zYG (l s:zD): Lib.strCells ⟨⟨l++s⟩⟩=Lib.strCells ⟨⟨l⟩⟩++Lib.strCells ⟨⟨s⟩⟩:=by simp[Lib.strCells]
section
variable {P:Program}{w:World}{A:List Nat}
theorem z29{t u te:TypeId}{i:TypeInfo}(ht:P.underlying t=some (.slice te))(hu:P.underlying u=some .string)(hi:P.info? te=some i)(hz:i.zero=some (.int .u8 0))(hsize:i.size=1)(hby:i.bytes=1)
  {r:zJ} {p:Option Addr} {c:Nat} {l s:zD} (hO:zZ A w [r]) (hA:z62 te r p c l) (hm:l.length+s.length<4294967296) (ty:TypeId) :
  ∃ r' p' c' w',(Builtin.append_ #[t,u] ty #[.slice p l.length c,.string ⟨⟨s⟩⟩]).run P w=.ok (.slice p' (l++s).length c') w'∧zZ A w' [r']∧zU qd [r] w [r'] w'∧z62 te r' p' c' (l++s)∧w.drawn≤w'.drawn:=by
 have hss:(⟨⟨s⟩⟩:ByteArray).size=s.length:=rfl
 have grown:∀(old:Nat) (xs:zD),xs=l->old<xs.length+s.length->xs++s≠[]->
   ∃ r',zZ A (w.drew.alloc (.cells ((Lib.strCells ⟨⟨xs⟩⟩).toArray++(Lib.strCells ⟨⟨s⟩⟩).toArray++Builtin.zeroCells (Value.int .u8 0).cells (grownCap w (xs.length+s.length) old te-(xs.length+s.length))) te)) [r'] ∧
    zU qd [r] w [r'] (w.drew.alloc (.cells ((Lib.strCells ⟨⟨xs⟩⟩).toArray++(Lib.strCells ⟨⟨s⟩⟩).toArray++Builtin.zeroCells (Value.int .u8 0).cells (grownCap w (xs.length+s.length) old te-(xs.length+s.length))) te)) ∧
    z62 te r' (some ⟨w.heap.size,0,none⟩) (grownCap w (xs.length+s.length) old te) (xs++s):=by
  intro old xs hxs ho hn
  have hge:=grownCap_ge w (xs.length+s.length) old te
  have hcm:=grownCap_le_maxLen w (xs.length+s.length) old te (by grind [maxLen])
  refine⟨[(w.heap.size,.cells ((Lib.strCells ⟨⟨xs⟩⟩).toArray++(Lib.strCells ⟨⟨s⟩⟩).toArray++Builtin.zeroCells (Value.int .u8 0).cells (grownCap w (xs.length+s.length) old te-(xs.length+s.length))) te (0,0))],?_,?_,.inr ⟨w.heap.size,_,rfl,rfl,hn,by grind,hcm,?_,?_⟩⟩
  ·exact hO.set (i:=0) rfl (by simp) (λk hk _=>Below.heap_alloc w.drew _ k hk) (λx hx=>by simp only[Qa] at hx;subst hx;exact heap_alloc_new w.drew _) (by simp) (λx hx=>by grind)
  ·exact zU.set (i:=0) rfl rfl rfl rfl (by simp) (λk hk _=>Below.heap_alloc w.drew _ k hk) (λx hx=>by grind)
  ·have hz1:(Value.int IntKind.u8 0).cells.size=1:=rfl
   grind [size_zeroCells,zPM]
  ·grind [zPM,zYG]
 rcases hA with⟨rfl,rfl,rfl,rfl⟩ | ⟨g,cells,rfl,rfl,hne,h3,h4,h5,h6⟩
 ·by_cases hs:s=[]
  ·subst hs
   have hf:=Lib.run_firstCells_string (P:=P) w 1 ⟨⟨[]⟩⟩
   have hs0:(⟨⟨[]⟩⟩:ByteArray).size=0:=rfl
   rw[hs0] at hf
   exact⟨[],none,0,w,by simp[Builtin.append_,run_underlying ht,run_underlying hu,sizeOf,typeInfo,hi,hsize,Builtin.lenOf,hs0,hf],hO,zU.refl _ _,.inl ⟨rfl,rfl,rfl,rfl⟩,Qr _⟩
  ·have hpos:0<s.length:=QY.2 hs
   have hr:=run_append_nil_string (P:=P) w t u ty te i (.int .u8 0) ht hu hi hz ⟨⟨s⟩⟩ (by grind) (by grind) (by grind)
   obtain⟨r',h1,h2,h3⟩:=grown 0 [] rfl (by grind) (by grind)
   have e1:((⟨⟨s⟩⟩:ByteArray).data.map λb=>Value.int .u8 b.toNat)=(Lib.strCells ⟨⟨s⟩⟩).toArray:=by
    apply Array.ext'
    simp[Lib.strCells]
   have e0:Lib.strCells ⟨⟨[]⟩⟩=[]:=rfl
   rw[e1,hss] at hr
   simp only[e0,Uq,UB,Array.empty_append] at h1 h2 h3
   exact⟨r',_,_,_,hr,h1,h2,h3,Wj _⟩
 ·have hb:=xK hO (i:=0) rfl (Qa.2 rfl)
  by_cases hroom:l.length+s.length≤c
  ·have hr:=Lib.run_append_room_string (P:=P) w t u ty te i ht hu hi hsize g l.length c cells hb ⟨⟨s⟩⟩ (by grind) (by grind)
   have hk:∀(cs:Array Value) (k:Nat),k<w.heap.size->k∉[(g,Obj.cells cells te (0,0))].map Prod.fst->(w.setRow g cs).heap[k]?=w.heap[k]?:=λcs k _ hk=>setRow_other w g k _ (λe=>hk (by simp[e]))
   refine⟨[(g,.cells (cells.toList.take l.length++Lib.strCells ⟨⟨s⟩⟩++cells.toList.drop (l.length+s.length)).toArray te (0,0))],_,c,w.setRow g (cells.toList.take l.length++Lib.strCells ⟨⟨s⟩⟩++cells.toList.drop (l.length+s.length)).toArray,by grind,?_,?_,.inr ⟨g,_,rfl,rfl,by simp[hne],by grind,h4,?_,?_⟩,Qr _⟩
   ·exact hO.set (i:=0) rfl (by simp) (hk _) (λx hx=>by grind [setRow_heap]) (by simp) (λx hx=>by grind)
   ·exact zU.set (i:=0) rfl rfl rfl rfl (by simp) (hk _) (λx hx=>by grind)
   ·grind [zPM]
   grind [zPM,zYG]
  ·have holds:∀ j v,(Lib.strCells ⟨⟨l⟩⟩)[j]?=some v->w.cell? ((⟨g,0,none⟩:Addr).add j)=some v:=λj v hv=>by
    rw[zCt,cell_of_row w g (0+j) cells te (0,0) hb,UB]
    grind
   have hr:=Lib.run_append_grow_string (P:=P) w t u ty te i (.int .u8 0) ht hu hi hz ⟨g,0,none⟩ l.length c (Lib.strCells ⟨⟨l⟩⟩) (by grind) holds ⟨⟨s⟩⟩ (by grind) (by grind) (by rw[hby,hss];exact growslice_fits (by omega) (by omega))
   obtain⟨r',h1,h2,h3⟩:=grown c l rfl (by omega) (by simp[hne])
   exact⟨r',_,_,_,by grind,h1,h2,h3,Wj _⟩
theorem z5C{ops:Array Oper}{rest:List Oper}{o:Oper}{a:Act}{Q:Exit->Act->World->Prop}(hgd:o.guard=none)(sl x:Operand)(t u:TypeId)(ho:o.op=.call { callee:=.builtin .append,args:=#[sl,x],argTypes:=#[t,u] })(te:TypeId)(i:TypeInfo)
  (ht:P.underlying t=some (.slice te)) (hu:P.underlying u=some .string) (hi:P.info? te=some i) (hz:i.zero=some (.int .u8 0)) (hsize:i.size=1) (hby:i.bytes=1)
  {r:zJ} {p:Option Addr} {c:Nat} {l s:zD} (hs:a.eval sl=.slice p l.length c) (hO:zZ A w [r]) (hA:z62 te r p c l) (hx:a.eval x=.string ⟨⟨s⟩⟩) (hm:l.length+s.length<4294967296)
  (h:∀ r' p' c' w',zZ A w' [r']->zU qd [r] w [r'] w'->z62 te r' p' c' (l++s)->wpList P ops Q rest (a.put o.dst (.slice p' (l++s).length c')) w'):wpList P ops Q (o::rest) a w:=by
 refine wpList_plain hgd λK hK=>?_
 obtain⟨r',p',c',w',hr,h2,h3,h4,_⟩:=z29 (qd:=qd) ht hu hi hz hsize hby hO hA hm o.type
 unfold Oper.wp execOp
 simp only[ho,resolve,invoke,builtin,Sem.run_bind,Sem.run_pure,Result.andThen_ok,List.map_toArray,Ug,List.map_nil,hs,hx,hr]
 exact hK _ _ (h r' p' c' w' h2 h3 h4)
end
section
variable {P:Program}{ρ:Ren}
theorem BdR.at{T te b:Nat}{r:zJ}{l:zD}{A:List Nat}{w:World}(h:BdR T te r b l)(hO:zZ A w [r]):
  ∃ p ad c r2,(p=.pointer none∨p=pt b 0)∧w.heap[b]?=some (.cells #[p,.slice ad l.length c] T (0,0))∧z62 te r2 ad c l∧r=(b,.cells #[p,.slice ad l.length c] T (0,0))::r2∧zZ (b::A) w [r2]∧b∉A:=by
 obtain⟨p,ad,c,r2,hp,rfl,hA⟩:=h
 have hb:=xK hO (i:=0) rfl (Qq ..)
 refine⟨p,ad,c,r2,hp,hb,hA,rfl,⟨?_,?_,?_,?_⟩,hO.apart b (by simp[bl])⟩
 ·intro k hk
  rcases Qw.1 hk with rfl | hk
  ·grind
  ·exact hO.old k hk
 ·intro r hr q hq
  simp only[Qa] at hr
  subst hr
  exact hO.has _ (Qa.2 rfl) q (Qo _ hq)
 ·have:=hO.nodup
  grind [bl]
 ·intro k hk hm
  have h1:=hO.nodup
  have h2:=hO.apart k (by grind [bl])
  rcases Qw.1 hm with rfl | hm
  ·grind [bl]
  grind
set_option maxHeartbeats 1000000 in
set_option maxRecDepth 100000 in
theorem chk_fresh (L:Lays.n240 P ρ)(X:Builder.X72 P ρ){T:TypeId}(hT:liesAt P P.depth T (2 / P.cellsOf T) 0 (ρ.t 72) 1=true)(b:Nat)(w:World)(h0:w.cell? ⟨b,0,none⟩=some (.pointer none))(hsh:w.shape? b=some (T,2))(hfz:w.frozen? ⟨b,0,none⟩=false):
  Calls P (ρ.f 240) #[.pointer (some ⟨b,0,none⟩)] w λe w'=>e=.returned (.tuple #[])∧w'=w.setCell ⟨b,0,none⟩ (.pointer (some ⟨b,0,none⟩)):=by
 obtain⟨j,hj,hjs⟩:=UG.1 X.sizeBuilder
 have mixed:=L.mixed
 have t72:=L.t72;have a72:=L.a72;have z72:=L.z72;have v72:=L.v72;have u72:=run_underlying L.t72
 have t70:=L.t70;have a70:=L.a70;have z70:=L.z70;have v70:=L.v70;have u70:=run_underlying L.t70
 have t9:=L.t9;have a9:=L.a9;have z9:=L.z9;have v9:=L.v9;have u9:=run_underlying L.t9
 have t4:=L.t4;have a4:=L.a4;have z4:=L.z4;have v4:=L.v4;have u4:=run_underlying L.t4
 have t164:=L.t164;have a164:=L.a164;have z164:=L.z164;have v164:=L.v164;have u164:=run_underlying L.t164
 go_enter L.f240,Body.n240_ntmps ρ
 go_wp2
 rw[Lib.run_to_unsafe w ⟨b,0,none⟩ L.t70 L.t164 hj (by grind) hsh (Nat.zero_lt_succ 1)]
 simp only[Result.andThen]
 rw[Oper.upon_value]
 go_wp2
 rw[run_callFunc_extern L.f276 (by kernel_rfl) (by kernel_rfl) (by kernel_rfl) (e:=Extern.AbiNoEscape.same) (by kernel_rfl)]
 rw[Lib.run_noEscape]
 simp only[Result.andThen]
 rw[Oper.upon_value]
 go_wp2
 rw[Lib.run_from_unsafe w ⟨b,0,none⟩ L.t164 L.t70 hj hsh hT]
 simp only[Result.andThen]
 rw[Oper.upon_value]
 go_wp2
 go_end0
 grind
theorem z4T (L:Lays.n240 P ρ)(X:Builder.X72 P ρ){T:TypeId}(hT:liesAt P P.depth T (2 / P.cellsOf T) 0 (ρ.t 72) 1=true){b:Nat}{p v:Value}{w:World}(hp:p=.pointer none∨p=pt b 0)(hb:w.heap[b]?=some (.cells #[p,v] T (0,0))):
  Calls P (ρ.f 240) #[.pointer (some ⟨b,0,none⟩)] w λe w'=>e=.returned (.tuple #[])∧w'.os=w.os∧w'.tape=w.tape∧w'.output=w.output∧w'.drawn=w.drawn∧w'.heap.size=w.heap.size ∧
   w'.heap[b]?=some (.cells #[pt b 0,v] T (0,0))∧∀ k,k≠b->w'.heap[k]?=w.heap[k]?:=by
 rcases hp with rfl | rfl
 ·refine(chk_fresh L X hT b w (by simp[World.cell?,hb]) (by simp[World.shape?,hb]) (by simp[World.frozen?,hb])).mono ?_
  rintro e w' ⟨rfl,rfl⟩
  refine⟨rfl,rfl,rfl,rfl,rfl,by simp_all,?_,λk hk=>Below.heap_setCell _ _ _ _ hk⟩
  simp[World.setCell,U2,hb,pt]
 ·refine(Any.Builder_copyCheck_used L X b w (by simp[World.cell?,hb])).mono ?_
  grind
theorem bld_done{A:List Nat}{b:Nat}{r2 r3:zJ}{w w2 w3:World}{o1 o2:Obj}(hO:zZ (b::A) w [r2])(hb:w.heap[b]?=some o1)(hbA2:b∉A)(hO3:zZ (b::A) w2 [r3])(h1:w2.os=w.os)(h2:w2.tape=w.tape)(h3:w2.output=w.output)(h4:w.heap.size≤w2.heap.size)
  (hk:∀ k,k<w.heap.size->k≠b->k∉bl [r2]->w2.heap[k]?=w.heap[k]?) (hf:∀ k∈bl [r3],k∈bl [r2]∨w.heap.size≤k)
  (k1:w3.os=w2.os) (k2:w3.tape=w2.tape) (k3:w3.output=w2.output) (k4:w3.heap.size=w2.heap.size) (k5:w3.heap[b]?=some o2) (k6:∀ k,k≠b->w3.heap[k]?=w2.heap[k]?) :
  zZ A w3 [(b,o2)::r3]∧zU False [(b,o1)::r2] w [(b,o2)::r3] w3:=by
 have e1:∀(o:Obj) (r:zJ),bl [(b,o)::r]=b::bl [r]:=λo r=>by simp[bl]
 have hlt:b<w.heap.size:=hO.old b (Qq ..)
 have hb3:b∉bl [r3]:=λhm=>hO3.apart b hm (Qq ..)
 refine⟨⟨λq hq=>by rw[k4];exact hO3.old q (Qo _ hq),λr hr p hp=>?_,?_,λq hq=>?_⟩,k1.trans h1,k2.trans h2,k3.trans h3,λq=>q.elim,by omega,λk hk1 hk2=>?_,λq hq=>?_⟩
 ·simp only[Qa] at hr
  subst hr
  rcases Qw.1 hp with rfl | hp
  ·exact k5
  ·have hm:p.1∈bl [r3]:=zMM.2 ⟨r3,Qa.2 rfl,p,hp,rfl⟩
   rw[k6 p.1 (λe=>hb3 (e▸hm))]
   exact hO3.has r3 (Qa.2 rfl) p hp
 ·rw[e1];exact U3.2 ⟨hb3,hO3.nodup⟩
 ·rw[e1] at hq
  rcases Qw.1 hq with rfl | hq
  ·exact hbA2
  ·exact λhm=>hO3.apart q hq (Qo _ hm)
 ·grind
 grind
set_option maxHeartbeats 1000000 in
set_option maxRecDepth 100000 in
theorem lib_wstr (L:Lays.n166 P ρ)(X:Builder.Extra P ρ){T:TypeId}(hT:liesAt P P.depth T (2 / P.cellsOf T) 0 (ρ.t 72) 1=true)(hc:∀ args w,(callFunc (ρ.f 166) args).run P w=.ok (.enter (ρ.f 166) args) w){b:Nat}{r:zJ}{l s:zD}:
  zP False P (ρ.f 166) [pt b 0,vs s] [r] [Bdr T (ρ.t 5) r b l] (wstrM l s) λx K=>∀ r2,K (.tuple #[vi x.1,.nilIface]) [r2] [Bdr T (ρ.t 5) r2 b x.2.2]:=by
 refine⟨hc,λA w x hm hO hF=>?_⟩
 unfold wstrM at hm
 split at hm
 case isFalse=>cases hm
 rename_i hlen
 obtain rfl:=QE hm
 obtain⟨p,ad,c,r2,hp,hb,hA,rfl,hO2,hbA2⟩:=BdR.at hF.1 hO
 clear hm hF hO
 obtain⟨i0,hi,hz0,hz1,hz2⟩:=info_parts X.infoByte
 have mixed:=L.mixed
 have t72:=L.t72;have a72:=L.a72;have z72:=L.z72;have v72:=L.v72;have u72:=run_underlying L.t72
 have t70:=L.t70;have a70:=L.a70;have z70:=L.z70;have v70:=L.v70;have u70:=run_underlying L.t70
 have t37:=L.t37;have a37:=L.a37;have z37:=L.z37;have v37:=L.v37;have u37:=run_underlying L.t37
 have t3:=L.t3;have a3:=L.a3;have z3:=L.z3;have v3:=L.v3;have u3:=run_underlying L.t3
 have t9:=L.t9;have a9:=L.a9;have z9:=L.z9;have v9:=L.v9;have u9:=run_underlying L.t9
 have t4:=L.t4;have a4:=L.a4;have z4:=L.z4;have v4:=L.v4;have u4:=run_underlying L.t4
 have t164:=L.t164;have a164:=L.a164;have z164:=L.z164;have v164:=L.v164;have u164:=run_underlying L.t164
 have t5:=X.t5;have a5:=X.a5;have z5:=X.z5;have v5:=X.v5;have u5:=run_underlying X.t5
 have e240:∀ args w,(callFunc (ρ.f 240) args).run P w=.ok (.enter (ρ.f 240) args) w:=enters_of L.f240 (by kernel_rfl) rfl
 have H:Hid (zZ (b::A) w [r2]∧z62 (ρ.t 5) r2 ad c l∧l.length+s.length<4294967296∧w.heap[b]?=some (.cells #[p,.slice ad l.length c] T (0,0))∧(p=.pointer none∨p=pt b 0)∧b∉A):=⟨hO2,hA,hlen,hb,hp,hbA2⟩
 clear hO2 hA hlen hb hp hbA2
 show Calls P (ρ.f 166) #[.pointer (some ⟨b,0,none⟩),.string ⟨⟨s⟩⟩] w _
 go_enter L.f166,Body.n166_ntmps ρ
 go_wp2_with (go_at_fn (ρ.f 240);refine(z4T { L with } X.toX72 hT H.out.2.2.2.2.1 H.out.2.2.2.1).mono ?_)
 rintro e w1 ⟨rfl,k1,k2,k3,k4,k5,k6,k7⟩
 have H1:Hid (zZ (b::A) w1 [r2]∧zU False [] w [] { w with heap:=w.heap }∧w1.os=w.os∧w1.tape=w.tape∧w1.output=w.output∧w1.heap.size=w.heap.size∧(∀ k,k≠b->w1.heap[k]?=w.heap[k]?)):=by
  refine⟨⟨λq hq=>by rw[k5];exact H.out.1.old q hq,λq hq u hu=>?_,H.out.1.nodup,H.out.1.apart⟩,zU.refl _ _,k1,k2,k3,k5,k7⟩
  rw[k7 u.1 (λe=>H.out.1.apart u.1 (zMM.2 ⟨q,hq,u,hu,rfl⟩) (by grind))]
  exact H.out.1.has q hq u hu
 have H2:Hid (w1.heap[b]?=some (.cells #[pt b 0,.slice ad l.length c] T (0,0))):=k6
 have c0:w1.cell? ⟨b,0,none⟩=some (.pointer (some ⟨b,0,none⟩)):=by simp[World.cell?,k6]
 have c1:w1.cell? ⟨b,1,none⟩=some (.slice ad l.length c):=by simp[World.cell?,k6]
 clear k1 k2 k3 k4 k5 k6 k7
 go_wp2_with (at_builtin;refine z5C (qd:=False) rfl _ _ (ρ.t 37) (ρ.t 9) rfl (ρ.t 5) i0 L.t37 L.t9 hi hz0 hz1 hz2 rfl H1.out.1 H.out.2.1 rfl H.out.2.2.1 ?_)
 intro r3 p3 c3 w2 hO3 hE3 hA3
 have hbA:b∉bl [r2]:=λhm=>H1.out.1.apart b hm (Qq ..)
 have hlt:b<w1.heap.size:=H1.out.1.old b (Qq ..)
 have hb2:w2.heap[b]?=some (.cells #[pt b 0,.slice ad l.length c] T (0,0)):=by rw[hE3.keep b hlt hbA];exact H2.out
 have H3:Hid (zZ (b::A) w2 [r3]∧zU False [r2] w1 [r3] w2∧z62 (ρ.t 5) r3 p3 c3 (l++s)∧w2.heap[b]?=some (.cells #[pt b 0,.slice ad l.length c] T (0,0))):=⟨hO3,hE3,hA3,hb2⟩
 have d0:w2.cell? ⟨b,0,none⟩=some (.pointer (some ⟨b,0,none⟩)):=by simp[World.cell?,hb2]
 have d1:w2.cell? ⟨b,1,none⟩=some (.slice ad l.length c):=by simp[World.cell?,hb2]
 have f1:w2.frozen? ⟨b,1,none⟩=false:=by simp[World.frozen?,hb2]
 clear hO3 hE3 hA3 hb2 hbA hlt
 go_wp2
 go_ret2
 obtain⟨q1,q2⟩:=bld_done (o2:=.cells #[pt b 0,.slice p3 (l++s).length c3] T (0,0)) H.out.1 H.out.2.2.2.1 H.out.2.2.2.2.2 H3.out.1 (H3.out.2.1.os.trans H1.out.2.2.1) (H3.out.2.1.tape.trans H1.out.2.2.2.1) (H3.out.2.1.output.trans H1.out.2.2.2.2.1)
  (by have h1:=H3.out.2.1.size;have h2:=H1.out.2.2.2.2.2.1;omega)
  (λk hk hkb hkr=>by rw[H3.out.2.1.keep k (by have h2:=H1.out.2.2.2.2.2.1;omega) hkr];exact H1.out.2.2.2.2.2.2 k hkb)
  (λk hk=>(H3.out.2.1.fresh k hk).imp id λh=>by have h2:=H1.out.2.2.2.2.2.1;omega)
  (w3:=w2.setCell ⟨b,1,none⟩ (.slice p3 (l.length+s.length) c3)) rfl rfl rfl (by simp_all) (by simp[World.setCell,U2,H3.out.2.2.2]) (λk hk=>Below.heap_setCell _ _ _ _ hk)
 exact λG k=>k _ ⟨rfl,q1,q2,⟨_,_,_,_,.inr rfl,rfl,H3.out.2.2.1⟩,trivial⟩
theorem BdR.is{T te b:Nat}{r:zJ}{l:zD}{A:List Nat}{w:World}(h:BdR T te r b l)(hO:zZ A w [r]): Lib.IsBuilder T te 0 b (Lib.strCells ⟨⟨l⟩⟩) w:=by
 obtain⟨p,ad,c,r2,hp,hb,hA,hr,hO2,hbA⟩:=h.at hO
 have key:Lib.BuilderAt T te 0 b p (Lib.strCells ⟨⟨l⟩⟩) w:=by
  refine⟨Uy _,_,hb,?_,?_⟩
  ·rcases hA with⟨rfl,rfl,rfl,rfl⟩ | ⟨g,cells,rfl,rfl,hne,h3,h4,h5,h6⟩
   ·exact⟨by simp,.inl ⟨rfl,rfl⟩⟩
   ·exact⟨by simp,.inr ⟨g,c,cells,by grind,Uy _,xK hO2 (i:=0) rfl (Qa.2 rfl),by grind,h4,by grind,by grind⟩⟩
  ·rcases hA with⟨rfl,rfl,rfl,rfl⟩ | ⟨g,cells,rfl,rfl,_⟩
   ·simp[Value.ownBlock]
   ·intro e
    simp only[Value.ownBlock,Qg] at e
    exact hO2.apart g (by simp[bl]) (by grind)
 rcases hp with rfl | rfl
 ·exact .inl key
 ·exact .inr key
set_option maxHeartbeats 1000000 in
set_option maxRecDepth 100000 in
theorem bstr_nil (L:Lays.n169 P ρ)(X:Builder.Extra P ρ){T:TypeId}{b:Nat}{p:Value}{w:World}(hbk:w.heap[b]?=some (.cells #[p,.slice none 0 0] T (0,0))):
  Calls P (ρ.f 169) #[.pointer (some ⟨b,0,none⟩)] w λe w'=>e=.returned (.string ⟨#[]⟩)∧w'=w.drew:=by
 have hUS:=Any.unsafeString_none L X
 have c1:w.drew.cell? ⟨b,1,none⟩=some (.slice none 0 0):=by
  have:w.drew.heap[b]?=some (.cells #[p,.slice none 0 0] T (0,0)):=hbk
  rw[Lib.cell_of_heap this];rfl
 have hSD:(Builtin.unsafeSliceData_ #[(ρ.t 37)] (ρ.t 127) #[.slice none 0 0]).run P w.drew=.ok (.pointer none) w.drew:=rfl
 have mixed:=L.mixed
 have t72:=L.t72;have a72:=L.a72;have z72:=L.z72;have v72:=L.v72;have u72:=run_underlying L.t72
 have t70:=L.t70;have a70:=L.a70;have z70:=L.z70;have v70:=L.v70;have u70:=run_underlying L.t70
 have t37:=L.t37;have a37:=L.a37;have z37:=L.z37;have v37:=L.v37;have u37:=run_underlying L.t37
 have t127:=L.t127;have a127:=L.a127;have z127:=L.z127;have v127:=L.v127;have u127:=run_underlying L.t127
 have t3:=L.t3;have a3:=L.a3;have z3:=L.z3;have v3:=L.v3;have u3:=run_underlying L.t3
 have t9:=L.t9;have a9:=L.a9;have z9:=L.z9;have v9:=L.v9;have u9:=run_underlying L.t9
 have t5:=X.t5;have a5:=X.a5;have z5:=X.z5;have v5:=X.v5;have u5:=run_underlying X.t5
 go_enter L.f169,Body.n169_ntmps ρ
 go_wp2
 go_region_o
 all_goals (go_wp2;go_ret;exact⟨rfl,rfl⟩)
set_option maxHeartbeats 1000000 in
set_option maxRecDepth 100000 in
theorem bstr_some (L:Lays.n169 P ρ)(X:Builder.Extra P ρ){T:TypeId}{b g cap:Nat}{p:Value}{l:zD}{cur:Array Value}{w:World}(h0:l≠[])(hbk:w.heap[b]?=some (.cells #[p,.slice (some ⟨g,0,none⟩) l.length cap] T (0,0)))
  (hg:w.heap[g]?=some (.cells cur (ρ.t 5) (0,0))) (hnc:l.length≤cap) (hcm:cap≤maxLen) (hcs:cur.size=cap) (htake:cur.toList.take l.length=Lib.strCells ⟨⟨l⟩⟩) :
  Calls P (ρ.f 169) #[.pointer (some ⟨b,0,none⟩)] w λe w'=>e=.returned (.string ⟨⟨l⟩⟩)∧w'=w.drew.freeze ⟨g,0,none⟩ l.length:=by
 have hl0:l.length≠0:=by simpa using h0
 have c1:w.drew.cell? ⟨b,1,none⟩=some (.slice (some ⟨g,0,none⟩) l.length cap):=by
  have:w.drew.heap[b]?=some (.cells #[p,.slice (some ⟨g,0,none⟩) l.length cap] T (0,0)):=hbk
  rw[Lib.cell_of_heap this];rfl
 have hSD:(Builtin.unsafeSliceData_ #[(ρ.t 37)] (ρ.t 127) #[.slice (some ⟨g,0,none⟩) l.length cap]).run P w.drew=.ok (.pointer (some ⟨g,0,none⟩)) w.drew :=
  Lib.run_unsafeSliceData_row _ _ _ _ _ _ (by omega)
 have hUS:(Builtin.unsafeString_ #[(ρ.t 127),(ρ.t 3)] (ρ.t 9) #[.pointer (some ⟨g,0,none⟩),.int .i64 l.length]).run P w.drew=.ok (.string ⟨⟨l⟩⟩) (w.drew.freeze ⟨g,0,none⟩ l.length):=by
  refine Lib.run_unsafeString_row w.drew (ρ.t 127) (ρ.t 3) (ρ.t 9) (ρ.t 5) L.t127 X.cellsByte g cur.size (by have hg':w.drew.heap[g]?=some (.cells cur (ρ.t 5) (0,0)):=hg;simp[World.shape?,hg']) l h0 (by omega) (by grind [maxLen]) ?_
  intro j x hx
  have hj:j<l.length:=(Qe.1 hx).1
  have h1:(cur.toList.take l.length)[j]?=some (.int .u8 x.toNat):=by rw[htake];simp[Lib.strCells,hx]
  rw[QX,Ql hj] at h1
  have hg':w.drew.heap[g]?=some (.cells cur (ρ.t 5) (0,0)):=hg
  rw[zCt,cell_of_row w.drew g (0+j) cur (ρ.t 5) (0,0) hg',UB]
  simpa using h1
 clear hg htake hcs hcm hnc hbk
 have mixed:=L.mixed
 have t72:=L.t72;have a72:=L.a72;have z72:=L.z72;have v72:=L.v72;have u72:=run_underlying L.t72
 have t70:=L.t70;have a70:=L.a70;have z70:=L.z70;have v70:=L.v70;have u70:=run_underlying L.t70
 have t37:=L.t37;have a37:=L.a37;have z37:=L.z37;have v37:=L.v37;have u37:=run_underlying L.t37
 have t127:=L.t127;have a127:=L.a127;have z127:=L.z127;have v127:=L.v127;have u127:=run_underlying L.t127
 have t3:=L.t3;have a3:=L.a3;have z3:=L.z3;have v3:=L.v3;have u3:=run_underlying L.t3
 have t9:=L.t9;have a9:=L.a9;have z9:=L.z9;have v9:=L.v9;have u9:=run_underlying L.t9
 have t5:=X.t5;have a5:=X.a5;have z5:=X.z5;have v5:=X.v5;have u5:=run_underlying X.t5
 go_enter L.f169,Body.n169_ntmps ρ
 go_wp2
 go_region_o
 all_goals (go_wp2;go_ret;simp_all)
theorem lib_bstr (L:Lays.n169 P ρ)(X:Builder.Extra P ρ){T:TypeId}(hc:∀ args w,(callFunc (ρ.f 169) args).run P w=.ok (.enter (ρ.f 169) args) w){b:Nat}{r:zJ}{l:zD}:
  zP False P (ρ.f 169) [pt b 0] [r] [Bdr T (ρ.t 5) r b l] (some l) λx K=>K (vs x) [[]] []:=by
 refine⟨hc,λA w x hm hO hF=>?_⟩
 obtain rfl:=QE hm
 obtain⟨p,ad,c,r2,hp,hb,hA,rfl,hO2,hbA⟩:=BdR.at hF.1 hO
 have fin:∀ w':World,w'.os=w.os->w'.tape=w.tape->w'.output=w.output->w'.heap.size=w.heap.size->(∀ k,k∉bl [r2]->w'.heap[k]?=w.heap[k]?)->
   zZ A w' [[]]∧zU False [(b,.cells #[p,.slice ad l.length c] T (0,0))::r2] w [[]] w':=λw' h1 h2 h3 h4 h5 =>
  ⟨⟨λq hq=>by rw[h4];exact hO.old q hq,λr hr q hq=>(by
   grind),by simp[bl],by simp[bl]⟩,
   h1,h2,h3,λq=>q.elim,by omega,λk hk hn=>h5 k (λhm=>hn (by simp[bl] at hm ⊢;grind)),by simp[bl]⟩
 rcases hA with⟨rfl,rfl,rfl,rfl⟩ | ⟨g,cells,rfl,rfl,hne,h3,h4,h5,h6⟩
 ·refine(bstr_nil L X hb).mono λe w' ⟨he,hw⟩=>?_
  subst he hw
  obtain⟨q1,q2⟩:=fin w.drew rfl rfl rfl rfl (λ_ _=>rfl)
  exact λG k=>k ⟨rfl,q1,q2,trivial⟩
 ·have hg:=xK hO2 (i:=0) rfl (Qa.2 rfl)
  refine(bstr_some L X hne hb hg h3 h4 h5 h6).mono λe w' ⟨he,hw⟩=>?_
  subst he
  obtain⟨q1,q2⟩:=fin w' (by subst hw;unfold World.freeze;split <;> rfl) (by subst hw;unfold World.freeze;split <;> rfl) (by subst hw;unfold World.freeze;split <;> rfl) (by subst hw;unfold World.freeze;simp_all) (λk hk=>by
   subst hw
   have hkg:k≠g:=λe=>hk (by simp[bl,e])
   unfold World.freeze
   split
   ·rfl
   ·simp only[U2]
    rw[Qi (Ne.symm hkg)]
    rfl)
  exact λG k=>k ⟨rfl,q1,q2,trivial⟩
end
end
section
open Go Go.RowKit
set_option linter.unusedVariables false
variable {qd:Prop}
section
variable {P:Program}{a:Act}{n:Nat}{S:List (Nat×Value)}{ty:TypeId}{pos:String}{af:Array Edge}{g:Option (Nat×Bool)}
theorem r_aidx{τ:Type}(f:τ->Value){x y:Operand}{t el:TypeId}{kd:IntKind}{i:Int}{k:Nat}{d:Option Tmp}{l:List τ}{u:τ}{v:Value}(hS:qL a n S)(hx:zL S x=some v)(hy:zL S y=some (.int kd i))(hv:v=.agg (l.map f).toArray)
  (hu:P.underlying t=some (.array k el)) (hl:l.length=k) (hs:vW P el=some (false,1)) (hm:zC l i=some u) (w:World) :
  (execOp a.eval ⟨d,.index t x y,ty,pos,af,g⟩).run P w=.ok (.value (f u)) w:=by
 subst hv
 unfold zC at hm
 split at hm
 ·rename_i h0
  have hlt:i.toNat<l.length:=(Qe.1 hm).1
  have hlt2:i<(k:Int):=by omega
  obtain⟨h1,h2⟩:=zJ7 (w:=w) hs
  have hc:(l.map f).toArray[i.toNat*1]?=some (f u):=by simp[hm]
  simp only[UK] at hc
  simp[execOp,hS.eval hx,hS.eval hy,Instr.index,asIntOf,run_underlying hu,h0,hlt2,h1,h2,part,hm]
 ·cases hm
end
theorem jbq{P:Program}{n:Nat}{X:Hd qd}{ρ:Type}{Q:PQ ρ}{S:Sl}{Ls:List zJ}{F:List PP}{m:Option ρ}{p:uM}(T te b:Nat)
  (h:J P n X Q p S Ls (Bdr T te (bx b T [.pointer none,.slice none 0 0]) b []::F) m):J P n X Q p S Ls F m :=
 ⟨λhq r hm a w hs=>h.go hq r hm a w (hs.add (f:=Bdr T te _ b []) ⟨.pointer none,none,0,[],.inl rfl,rfl,.inl ⟨rfl,rfl,rfl,rfl⟩⟩)⟩
theorem zRI{τ:Type}{e:E τ}(f:τ->Value)(hf:∀ Z w c x,e.rd Z w c x->c=[f x]){Z:List Nat}{w:World}: ∀ {cs:List Value} {l:List τ},e.rdL Z w cs l->cs=l.map f
 | _,[],h=>h
 | _,x::l,⟨c1,c2,h0,h1,h2⟩=>by rw[h0,hf _ _ _ _ h1,zRI f hf h2];rfl
section
variable {P:Program}{n:Nat}{X:Hd qd}{ρ:Type}{Q:PQ ρ}{S:Sl}{Ls:List zJ}{F:List PP}{m:Option ρ}{os:Array Oper}{l:List Oper}{x:Operand}
variable {d t:Nat}{ty:TypeId}{pos:String}{af:Array Edge}{g:Option (Nat×Bool)}{τ:Type}{e:E τ}{k:Nat}{z:List τ}{b o:Nat}{B Jj:List Nat}{li:Array Bool}{fuel:Nat}
theorem jlT (f:τ->Value)(hf:∀ Z w c x,e.rd Z w c x->c=[f x])(hP:vN Ls F (Pt (vC k e) b o z))(hx:zL S x=some (pt b o))(h:J P n X Q (.ops os l) ((d,.agg (List.map f z).toArray)::S) Ls F m)
  (ht:vW P t=some (true,(vC k e).n):=by kernel_rfl) (hd:Nat.blt d n=true:=by kernel_rfl) (hg:zS os S g=some true:=by kernel_rfl):J P n X Q (.ops os (⟨some d,.load t x,ty,pos,af,g⟩::l)) S Ls F m :=
 ⟨λhq r hm a w hs=>sl (z5L true hs (hP _ _ hs.o hs.f) hx (λci hc v hv a h'=>by
  obtain rfl:=zRI f hf hc.2
  obtain rfl:Value.agg (List.map f z).toArray=v:=QE hv
  exact h.go hq r hm a w h') ht (.inl rfl) hd hg)⟩
end
end
section
open Go Go.RowKit
set_option linter.unusedVariables false
variable {qd:Prop}
def ByR (te:TypeId)(r:zJ)(p:Option Addr)(m:Nat)(l:zD): Prop :=
 m=l.length∧∃ b cells,r=[(b,.cells cells te (cells.size,cells.size+1))]∧p=some ⟨b,0,none⟩∧l.length≤cells.size∧cells.toList.take l.length=Lib.strCells ⟨⟨l⟩⟩
def Byr (te:TypeId)(r:zJ)(p:Option Addr)(m:Nat)(l:zD): PP:=Pu (ByR te r p m l)
section
variable {P:Program}{n:Nat}{X:Hd qd}{ρ:Type}{Q:PQ ρ}{S:Sl}{Ls:List zJ}{F:List PP}{m:Option ρ}{os:Array Oper}{ol:List Oper}{x y:Operand}{p p':uM}
variable {d t t2 te:TypeId}{ty:TypeId}{pos:String}{af:Array Edge}{g:Option (Nat×Bool)}{l:zD}{r:zJ}{p0:Option Addr}{c k0:Nat}{kd:IntKind}{ix:Int}
theorem jby{u:TypeDesc}(at0:At Ls p os ⟨some d,.convert t t2 x,ty,pos,af,g⟩ p')(hx:zL S x=some (vs l))(hs:P.underlying t=some u)(ht:P.underlying t2=some (.slice te))(he:P.underlying te=some (.int .u8))
  (h:∀ r p1 c',zOD Ls r λLs'=>J P n X Q p' ((d,.slice p1 l.length c')::S) Ls' (Byr te r p1 l.length l::F) m)
  (hd:Nat.blt d n=true:=by kernel_rfl) (hg:zS os S g=some true:=by kernel_rfl):J P n X Q p S Ls F m :=
 ⟨λhq r0 hm a w hS=>at0.run λK hK=>by
  have hrun:=Lib.run_convert_string_bytes (P:=P) w t t2 te ⟨⟨l⟩⟩ hs ht he
  have hO:=hS.o
  have hnew:=Lib.bytesWorld_at_new w te ⟨⟨l⟩⟩
  have hsz:=Lib.bytesWorld_size w te ⟨⟨l⟩⟩
  have hold:=λj hj=>Lib.bytesWorld_at_old w te ⟨⟨l⟩⟩ j hj
  have hE:zU qd Ls w (Ls++[[(w.heap.size,.cells (Lib.bytesCells w te ⟨⟨l⟩⟩) te ((Lib.bytesCells w te ⟨⟨l⟩⟩).size,(Lib.bytesCells w te ⟨⟨l⟩⟩).size+1))]]) (Lib.bytesWorld w te ⟨⟨l⟩⟩):=by
   refine⟨?_,?_,?_,λ_=>?_,by omega,λk hk _=>hold k hk,λb hb=>?_⟩
   ·unfold Lib.bytesWorld World.freeze;split <;> rfl
   ·unfold Lib.bytesWorld World.freeze;split <;> rfl
   ·unfold Lib.bytesWorld World.freeze;split <;> rfl
   ·unfold Lib.bytesWorld World.freeze;simp_all
   ·grind [zDX,bl]
  have hO':zZ X.A (Lib.bytesWorld w te ⟨⟨l⟩⟩) (Ls++[[(w.heap.size,.cells (Lib.bytesCells w te ⟨⟨l⟩⟩) te ((Lib.bytesCells w te ⟨⟨l⟩⟩).size,(Lib.bytesCells w te ⟨⟨l⟩⟩).size+1))]]):=by
   have hn:w.heap.size∉bl Ls:=λhm=>U7 _ (hO.lt hm)
   refine⟨λb hb=>by have:=hO.old b hb;omega,λr hr q hq=>?_,?_,λb hb=>?_⟩
   ·rcases Qb.1 hr with h1 | h1
    ·rw[hold q.1 (Qu.1 (hO.has r h1 q hq)).1];exact hO.has r h1 q hq
    grind
   ·rw[zDX]
    refine QT.2 ⟨hO.nodup,by simp[bl],λx hx y hy=>?_⟩
    grind [bl]
   ·rw[zDX] at hb
    rcases Qb.1 hb with h1 | h1
    ·exact hO.apart b h1
    ·simp[bl] at h1
     subst h1
     exact λhA=>U7 _ (hO.old _ hA)
  have hB:ByR te [(w.heap.size,.cells (Lib.bytesCells w te ⟨⟨l⟩⟩) te ((Lib.bytesCells w te ⟨⟨l⟩⟩).size,(Lib.bytesCells w te ⟨⟨l⟩⟩).size+1))] (some ⟨w.heap.size,0,none⟩) l.length l:=by
   refine⟨rfl,_,_,rfl,rfl,?_,?_⟩
   ·grind [Lib.bytesCells]
   ·grind [Lib.bytesCells,Lib.strCells]
  refine tE hS.s hd hg (v:=.slice (some ⟨w.heap.size,0,none⟩) l.length (grownCap w l.length 0 te)) (w':=Lib.bytesWorld w te ⟨⟨l⟩⟩) ?_ λa' hS'=>hK hE ?_
  ·have:(⟨⟨l⟩⟩:ByteArray).size=l.length:=rfl
   rw[this] at hrun
   simp[execOp,hS.s.eval hx,hrun]
  ·have h:=h [(w.heap.size,.cells (Lib.bytesCells w te ⟨⟨l⟩⟩) te ((Lib.bytesCells w te ⟨⟨l⟩⟩).size,(Lib.bytesCells w te ⟨⟨l⟩⟩).size+1))] (some ⟨w.heap.size,0,none⟩) (grownCap w l.length 0 te)
   rw[zKe] at h
   exact h.go hq r0 hm a' _ (hS.next hO' hE hS' [_] ⟨hB,trivial⟩)⟩
theorem ByR.at_{A:List Nat}{w:World}{i:Nat}(h:ByR te r p0 k0 l)(hO:zZ A w Ls)(hr:Ls[i]?=some r): ∃ b cells,r=[(b,.cells cells te (cells.size,cells.size+1))]∧p0=some ⟨b,0,none⟩∧w.heap[b]?=some (.cells cells te (cells.size,cells.size+1)):=by
 obtain⟨_,b,cells,rfl,hp,_,_⟩:=h
 exact⟨b,cells,rfl,hp,xK hO hr (Qa.2 rfl)⟩
theorem jbys{f:zD->Option ρ}{b:Nat}{v:Int}(at0:At Ls p os ⟨none,.store t x y,ty,pos,af,g⟩ p')(i k:Nat)(hF:uA F k=Byr te r p0 k0 l)(hr:Ls[i]?=some r)(hp:p0=some ⟨b,0,none⟩)
  (hx:zL S x=some (pt b (0+ix.toNat*1))) (hy:zL S y=some (.int .u8 v))
  (h:∀ l' r',uR Ls i r' λLs'=>J P n X Q p' S Ls' (Byr te r' p0 k0 l'::F) (f l')) (ht:vW P t=some (false,1):=by kernel_rfl) (hg:zS os S g=some true:=by kernel_rfl):J P n X Q p S Ls F ((bset l ix v).bind f) :=
 ⟨λhq r0 hm a w hs=>at0.run λK hK=>by
  obtain⟨l',h1,h2⟩:=xG hm
  have hB0:(Byr te r p0 k0 l).h (bl Ls++X.A) w:=hF▸hs.g k
  have hB:ByR te r p0 k0 l:=hB0
  obtain⟨rfl,b',cells,rfl,hp',hle,htk⟩:=hB
  rw[hp] at hp'
  cases hp'
  subst hp
  unfold bset at h1
  split at h1
  case isFalse=>cases h1
  rename_i hc
  obtain⟨⟨c1,c2⟩,c3,c4⟩:=hc
  obtain rfl:=QE h1
  have hb:=xK hs.o hr (Qa.2 rfl)
  have hlt:ix.toNat<cells.size:=by omega
  have hcell:w.cell? ⟨b,ix.toNat,none⟩=some cells[ix.toNat]:=by simp[World.cell?,hb,hlt]
  have hfz:w.frozen? ⟨b,ix.toNat,none⟩=false:=by simp[World.frozen?,hb];omega
  have hst:(storeVar t ⟨b,ix.toNat,none⟩ (.int .u8 v)).run P w=.ok () (w.setCell ⟨b,ix.toNat,none⟩ (.int .u8 v)):=by
   obtain⟨k1,k2⟩:=zJ7 (w:=w) ht
   have:=run_storeCells_cells (P:=P) b ix.toNat [.int .u8 v] 0 w (by grind) (by grind) (by simp[Value.oneCell'])
   simp only[QM] at this
   simp[storeVar,k2,Value.cells,this,World.setCells]
  have hnew:(w.setCell ⟨b,ix.toNat,none⟩ (.int .u8 v)).heap[b]?=some (.cells (cells.setIfInBounds ix.toNat (.int .u8 v)) te (cells.size,cells.size+1)):=by
   simp[World.setCell,U2,hb]
  have hk:∀ k,k<w.heap.size->k∉[(b,Obj.cells cells te (cells.size,cells.size+1))].map Prod.fst->(w.setCell ⟨b,ix.toNat,none⟩ (.int .u8 v)).heap[k]?=w.heap[k]?:=λk _ hk=>Below.heap_setCell _ _ _ _ (λe=>hk (by simp[e]))
  have hsz:w.heap.size≤(w.setCell ⟨b,ix.toNat,none⟩ (.int .u8 v)).heap.size:=by simp[World.setCell]
  have hE:zU qd Ls w (Ls.set i [(b,.cells (cells.setIfInBounds ix.toNat (.int .u8 v)) te (cells.size,cells.size+1))]) (w.setCell ⟨b,ix.toNat,none⟩ (.int .u8 v)) :=
   zU.set hr rfl rfl rfl hsz hk (λq hq=>.inl (by grind))
  have hO:zZ X.A (w.setCell ⟨b,ix.toNat,none⟩ (.int .u8 v)) (Ls.set i [(b,.cells (cells.setIfInBounds ix.toNat (.int .u8 v)) te (cells.size,cells.size+1))]) :=
   hs.o.set hr hsz hk (λq hq=>by grind) (by simp) (λq hq=>.inl (by grind))
  have hB':ByR te [(b,.cells (cells.setIfInBounds ix.toNat (.int .u8 v)) te (cells.size,cells.size+1))] (some ⟨b,0,none⟩) l.length (l.set ix.toNat (UInt8.ofNat v.toNat)):=by
   refine⟨by simp,b,_,by rw[Array.size_setIfInBounds],rfl,by grind,?_⟩
   have hv:((UInt8.ofNat v.toNat).toNat:Int)=v:=by simp;omega
   rw[UJ,Array.toList_setIfInBounds,List.take_set,htk]
   unfold Lib.strCells
   simp only[List.map_set,hv]
  refine z2f hs.s hg (w':=w.setCell ⟨b,ix.toNat,none⟩ (.int .u8 v)) ?_ λa' hS'=>hK hE ?_
  ·simp only[UB,UK] at hx
   simp[execOp,hs.s.eval hx,hs.s.eval hy,Instr.storeAt,Instr.sureAddr,hst]
  ·have h:=h (l.set ix.toNat (UInt8.ofNat v.toNat)) [(b,.cells (cells.setIfInBounds ix.toNat (.int .u8 v)) te (cells.size,cells.size+1))]
   rw[zH0] at h
   exact h.go hq r0 h2 a' _ (hs.next hO hE hS' [_] ⟨hB',trivial⟩)⟩
theorem jbyS{i:Nat}(at0:At Ls p os ⟨some d,.convert t t2 x,ty,pos,af,g⟩ p')(k:Nat)(hF:uA F k=Byr te r p0 k0 l)(hr:Ls[i]?=some r)(hx:zL S x=some (.slice p0 k0 c))(hs:P.underlying t=some (.slice te))(he:P.underlying te=some (.int .u8))(ht:P.underlying t2=some .string)
  (h:J P n X Q p' ((d,vs l)::S) Ls F m) (hd:Nat.blt d n=true:=by kernel_rfl) (hg:zS os S g=some true:=by kernel_rfl):J P n X Q p S Ls F m :=
 ⟨λhq r0 hm a w hS=>at0.run λK hK=>by
  have hB0:(Byr te r p0 k0 l).h (bl Ls++X.A) w:=hF▸hS.g k
  have hB:ByR te r p0 k0 l:=hB0
  obtain⟨rfl,b,cells,rfl,rfl,hle,htk⟩:=hB
  have hb:=xK hS.o hr (Qa.2 rfl)
  have hrun:=run_convert_bytes_back (P:=P) w t t2 te ⟨b,0,none⟩ c l hs he ht (λj hj=>by
   rw[zCt,cell_of_row w b (0+j) cells te _ hb,UB]
   have h1:(cells.toList.take l.length)[j]?=some (.int .u8 l[j].toNat):=by rw[htk];simp[Lib.strCells,hj]
   grind)
  exact tE hS.s hd hg (v:=vs l) (w':=w) (by simp[execOp,hS.s.eval hx,hrun,vs]) λa' hS'=>hK (zU.refl _ _) (h.go hq r0 hm a' w (hS.slot hS'))⟩
end
end
section
open Go Go.RowKit
set_option linter.unusedVariables false
variable {qd:Prop}
section
variable {Ls:List zJ}{F:List PP}
end
section
variable {P:Program}{a:Act}{n:Nat}{S:List (Nat×Value)}{ty:TypeId}{pos:String}{af:Array Edge}{g:Option (Nat×Bool)}{d:Option Tmp}
end
section
variable {P:Program}{a:Act}{n:Nat}{S:List (Nat×Value)}{ty:TypeId}{pos:String}{af:Array Edge}{g:Option (Nat×Bool)}{d:Option Tmp}
end
section
variable {P:Program}{n:Nat}{X:Hd qd}{ρ:Type}{Q:PQ ρ}{S:Sl}{Ls:List zJ}{F:List PP}{m:Option ρ}{os:Array Oper}{l:List Oper}{x:Operand}
variable {d t u:Nat}{ty:TypeId}{pos:String}{af:Array Edge}{g:Option (Nat×Bool)}{v:Value}{b:Bool}{ms:Array (String×TypeId)}{B Jj:List Nat}{li:Array Bool}{fuel:Nat}
end
section
variable {P:Program}{n:Nat}{X:Hd qd}{ρ:Type}{Q:PQ ρ}{S:Sl}{Ls:List zJ}{F:List PP}{m:Option ρ}{os:Array Oper}{x y:Operand}{p p':uM}
variable {d t te:Nat}{ty:TypeId}{pos:String}{af:Array Edge}{g:Option (Nat×Bool)}{τ:Type}{e:E τ}{r:zJ}{p0:Option Addr}{c k0:Nat}{z z2:List τ}
end
section
variable {P:Program}{n:Nat}{X:Hd qd}{ρ:Type}{Q:PQ ρ}{S:Sl}{Ls:List zJ}{F:List PP}{m:Option ρ}{os:Array Oper}{ol:List Oper}{x y:Operand}{p p':uM}
variable {d t t2 te:TypeId}{ty:TypeId}{pos:String}{af:Array Edge}{g:Option (Nat×Bool)}{l:zD}{r:zJ}{p0:Option Addr}{c k0:Nat}{kd:IntKind}{ix:Int}
theorem jbyJ{f:UInt8->Option ρ}(k:Nat)(hF:uA F k=Byr te r p0 k0 l)(hx:zL S x=some (.slice p0 k0 c))(hy:zL S y=some (.int kd ix))
  (h:∀ u,zC l ix=some u->∀ b,p0=some ⟨b,0,none⟩->J P n X Q (.ops os ol) ((d,pt b (0+ix.toNat*1))::S) Ls F (f u))
  (ht:yE P t=some 1:=by kernel_rfl) (hd:Nat.blt d n=true:=by kernel_rfl) (hg:zS os S g=some true:=by kernel_rfl) :
  J P n X Q (.ops os (⟨some d,.indexAddr t x y,ty,pos,af,g⟩::ol)) S Ls F ((zC l ix).bind f) :=
 ⟨λhq r0 hm a w hs=>by
  obtain⟨u,h1,h2⟩:=xG hm
  have hB0:(Byr te r p0 k0 l).h (bl Ls++X.A) w:=hF▸hs.g k
  have hB:ByR te r p0 k0 l:=hB0
  obtain⟨rfl,b,cells,_,rfl,_,_⟩:=hB
  have h1':=h1
  unfold zC at h1
  split at h1
  ·rename_i h0
   have hlt:=(Qe.1 h1).1
   exact sl (b_val hs (v:=pt b (0+ix.toNat*1)) (λw'=>by simp[execOp,hs.s.eval hx,hs.s.eval hy,zMR (m:=l.length) ht h0 (by omega)]) (λa h'=>(h u h1' b rfl).go hq r0 h2 a w h') hd hg)
  ·cases h1⟩
theorem jbyl{u:UInt8}{b:Nat}(i k:Nat)(hF:uA F k=Byr te r p0 k0 l)(hr:Ls[i]?=some r)(hp:p0=some ⟨b,0,none⟩)(hu:zC l ix=some u)(hx:zL S x=some (pt b (0+ix.toNat*1)))
  (h:J P n X Q (.ops os ol) ((d,.int .u8 ((u.toNat:Nat):Int))::S) Ls F m)
  (ht:vW P t=some (false,1):=by kernel_rfl) (hd:Nat.blt d n=true:=by kernel_rfl) (hg:zS os S g=some true:=by kernel_rfl):J P n X Q (.ops os (⟨some d,.load t x,ty,pos,af,g⟩::ol)) S Ls F m :=
 ⟨λhq r0 hm a w hs=>by
  have hB0:(Byr te r p0 k0 l).h (bl Ls++X.A) w:=hF▸hs.g k
  have hB:ByR te r p0 k0 l:=hB0
  obtain⟨rfl,b',cells,rfl,hp',hle,htk⟩:=hB
  rw[hp] at hp'
  cases hp'
  obtain⟨h0,h1,_⟩:=zNo hu
  have hlt:ix.toNat<l.length:=(Qe.1 h1).1
  have hc:cells[ix.toNat]?=some (.int .u8 ((u.toNat:Nat):Int)):=by
   have h2:(cells.toList.take l.length)[ix.toNat]?=some (.int .u8 ((u.toNat:Nat):Int)):=by rw[htk];simp[Lib.strCells,h1]
   rw[QX,Ql hlt] at h2
   simpa using h2
  refine sl (zMX i (.int .u8 ((u.toNat:Nat):Int)) hs hx hr (λa h'=>h.go hq r0 hm a w h') ?_ hd hg)
  have hsz:ix.toNat<cells.size:=(Qu.1 hc).1
  unfold zNt
  rw[ht]
  simp only[z9V,UB,UK]
  rw[Qv (by grind)]
  have:cells.toList[ix.toNat]'(by grind)=.int .u8 ((u.toNat:Nat):Int):=by
   have:=hc
   rw[Array.getElem?_eq_getElem hsz] at this
   simpa using QE this
  simp[mkV,this]
  omega⟩
end
end
section
open Go Go.RowKit
variable {qd:Prop}
set_option linter.unusedVariables false
theorem z2W:∀(Ls:List zJ),bl Ls=Ls.flatten.map Prod.fst
 | []=>rfl
 | r::rs=>by simp[bl,z2W rs]
theorem zZR:∀ {Ls:List zJ} {i:Nat} {r:zJ} (r':zJ),Ls[i]?=some r->(r++(Ls.set i r').flatten).Perm (r'++Ls.flatten)
 | [],i,r,r',h=>by simp at h
 | t::ts,0,r,r',h=>by
  simp only[Uc,Qg] at h
  subst h
  simp only[List.set_cons_zero,Wq]
  rw[←Qs,←Qs]
  exact U1.append_right _
 | t::ts,i+1,r,r',h=>by
  simp only[Q2] at h
  simp only[Wk,Wq]
  have h1:(r++(t++(ts.set i r').flatten)).Perm (t++(r++(ts.set i r').flatten)):=by
   rw[←Qs,←Qs];exact U1.append_right _
  have h2:(t++(r'++ts.flatten)).Perm (r'++(t++ts.flatten)):=by
   rw[←Qs,←Qs];exact U1.append_right _
  exact(h1.trans ((zZR r' h).append_left t)).trans h2
section
variable {A:List Nat}{L0 Ls Ls2:List zJ}{w0 w:World}{n:Nat}{S:List (Nat×Value)}{F:List PP}{a:Act}{Y:zJ}
theorem z2u (hp:(Ls2.flatten++Y).Perm Ls.flatten): ∀ b∈bl Ls2,b∈bl Ls:=by
 intro b hb
 rw[z2W] at hb ⊢
 grind
theorem zZ.less (h:zZ A w Ls)(hp:(Ls2.flatten++Y).Perm Ls.flatten): zZ A w Ls2:=by
 refine⟨h.old,λr hr p hpr=>?_,?_,λb hb=>h.apart b (z2u hp b hb)⟩
 ·have hm:p∈Ls.flatten:=hp.subset (Qb.2 (.inl (List.mem_flatten.2 ⟨r,hr,hpr⟩)))
  obtain⟨s,hs,hps⟩:=List.mem_flatten.1 hm
  exact h.has s hs p hps
 ·have hn:=h.nodup
  rw[z2W] at hn ⊢
  grind
theorem SS.less (h:SS qd A L0 w0 n S Ls F a w)(hp:(Ls2.flatten++Y).Perm Ls.flatten): SS qd A L0 w0 n S Ls2 F a w :=
 ⟨h.s,h.o.less hp,h.e.drop (z2u hp),h.f.mv (vY.less w λb hb=>by
  grind [z2u])⟩
theorem zZ.gone (h:zZ A w Ls)(hp:(Ls2.flatten++Y).Perm Ls.flatten): ∀ p∈Y,w.heap[p.1]?=some p.2∧p.1∉bl Ls2++A:=by
 intro p hpy
 have hm:p∈Ls.flatten:=hp.subset (Qb.2 (.inr hpy))
 obtain⟨s,hs,hps⟩:=List.mem_flatten.1 hm
 refine⟨h.has s hs p hps,λhb=>?_⟩
 rcases Qb.1 hb with h1 | h1
 ·have hn:=h.nodup
  rw[z2W] at hn h1
  grind
 ·exact h.apart _ (zMM.2 ⟨s,hs,p,hps,rfl⟩) h1
end
def eRaw (k:Nat): E (List Value):=⟨k,λ_ _ cs x=>cs=x∧x.length=k∧∀ c∈x,c.oneCell'=true,by grind,by grind,by grind⟩
section
variable {τ σ:Type}{e:E τ}{f:E σ}
structure Fld (s:xS e (zT f)): Prop where
 pp:∀ x z,s.put (s.put x []) z=s.put x z
 pg:∀ x,s.put x (s.get x)=x
variable (s:xS e (zT f))(tf:TypeId)
def hd0 (cs:List Value): List Value:=cs.take s.off++[.slice none 0 0]++cs.drop (s.off+1)
def NE (Z:List Nat)(w:World)(D:zJ)(cs:List Value)(x:τ): Prop :=
 ∃ q cap,cs[s.off]?=some (.slice q (s.get x).length cap)∧e.rd Z w (hd0 s cs) (s.put x [])∧vO f tf Z w D q cap (s.get x)
inductive NL (Z:List Nat)(w:World): zJ->List (List Value)->List τ->Prop
 | nil:NL Z w [] [] []
 | cons {D1 D:zJ} {cs:List Value} {x:τ} {raw:List (List Value)} {l:List τ}:NE s tf Z w D1 cs x->NL Z w D raw l->NL Z w (D1++D) (cs::raw) (x::l)
variable {s tf}{Z Z2:List Nat}{w w2:World}{D:zJ}{cs:List Value}{x:τ}{raw:List (List Value)}{l:List τ}
theorem NE.mv (st:vY Z w Z2 w2)(h:NE s tf Z w D cs x): NE s tf Z2 w2 D cs x:=by
 obtain⟨q,cap,h1,h2,h3⟩:=h
 exact⟨q,cap,h1,e.step st h2,h3.mv st⟩
theorem NL.mv (st:vY Z w Z2 w2)(h:NL s tf Z w D raw l): NL s tf Z2 w2 D raw l:=by
 induction h with
 | nil=>exact .nil
 | cons h _ ih=>exact .cons (h.mv st) ih
theorem NL.len (h:NL s tf Z w D raw l): raw.length=l.length:=by
 induction h with
 | nil=>rfl
 | cons h _ ih=>simp[ih]
theorem NL.get (h:NL s tf Z w D raw l): ∀ {k:Nat},l[k]?=some x->∃ Da D1 Db cs,D=Da++D1++Db∧raw[k]?=some cs∧NE s tf Z w D1 cs x∧∀ j y,j≠k->l[j]?=some y->∃ c D',raw[j]?=some c∧NE s tf Z w D' c y∧D' ⊆ Da++Db:=by
 induction h with
 | nil=>grind
 | @cons D1 D cs0 x0 raw l h0 hl ih =>
  intro k hk
  cases k with
  | zero =>
   simp only[Uc,Qg] at hk
   subst hk
   refine⟨[],D1,D,cs0,by simp,rfl,h0,λj y hj hy=>?_⟩
   cases j with
   | zero=>grind
   | succ j =>
    simp only[Q2] at hy
    have:∀ {D:zJ} {raw:List (List Value)} {l:List τ},NL s tf Z w D raw l->∀ {j:Nat} {y:τ},l[j]?=some y->∃ c D',raw[j]?=some c∧NE s tf Z w D' c y∧D' ⊆ D:=by
     intro D raw l h
     induction h with
     | nil=>grind
     | @cons D1 D cs0 x0 raw l h0 hl ih =>
      grind
    grind
  | succ k =>
   simp only[Q2] at hk
   obtain⟨Da,D2,Db,cs,rfl,h1,h2,h3⟩:=ih hk
   refine⟨D1++Da,D2,Db,cs,by simp,by grind,h2,λj y hj hy=>?_⟩
   grind
theorem put_cells{v:Value}(hv:cs[s.off]?=some v): (hd0 s cs).take s.off++[v]++(hd0 s cs).drop (s.off+(zT f).n)=cs:=by
 have hlt:=(Qe.1 hv).1
 have hl:(cs.take s.off).length=s.off:=by simp;omega
 have h1:(hd0 s cs).take s.off=cs.take s.off:=by
  unfold hd0
  rw[Qs,Uz (by omega),Qx (by omega)]
 have h2:(hd0 s cs).drop (s.off+(zT f).n)=cs.drop (s.off+1):=by
  unfold hd0
  show List.drop (s.off+1) _=_
  rw[Wf,Uf (by simp;omega),QI]
  have:s.off+1-(List.take s.off cs++[Value.slice none 0 0]).length=0:=by simp;omega
  rw[this,List.drop_zero]
 rw[h1,h2]
 have h3:cs=cs.take s.off++cs.drop s.off:=(QG _ _).symm
 have h4:cs.drop s.off=v::cs.drop (s.off+1):=by
  rw[Qv hlt]
  congr 1
  rw[Qh hlt] at hv
  exact QE hv
 grind
theorem vO.rdOf{t:Nat}{D:zJ}{q:Option Addr}{cap:Nat}{l:List σ}(h:vO f t Z w D q cap l)(st:vY Z w Z2 w)(hD:∀ p∈D,w.heap[p.1]?=some p.2∧p.1∉Z2): xF f Z2 w q cap l:=by
 rcases h with⟨_,_,_,rfl⟩ | ⟨b,o,cells,rfl,rfl,h3,h4,h5,h6⟩
 ·exact⟨Uy _,.inl rfl⟩
 ·obtain⟨hb,hz⟩:=hD _ (Qa.2 rfl)
  refine⟨h3,.inr ⟨b,o,_,rfl,hz,(Qu.1 hb).1,f.rdL_step st h6,λj u hu=>?_⟩⟩
  grind [cell_of_row]
theorem NE.rd (hs:Fld s)(h:NE s tf Z w D cs x)(st:vY Z w Z2 w)(hD:∀ p∈D,w.heap[p.1]?=some p.2∧p.1∉Z2): e.rd Z2 w cs x:=by
 obtain⟨q,cap,h1,h2,h3⟩:=h
 have h4:=h3.rdOf st hD
 have h5:=s.rdp (e.step st h2) (zT.mk h4)
 rw[put_cells h1,hs.pp,hs.pg] at h5
 exact h5
end
section
variable {τ σ:Type}{e:E τ}{f:E σ}(s:xS e (zT f))(te tf:TypeId)
end
def xS.cell{k:Nat}(off:Nat)(h:off+1≤k): xS (eRaw k) (eRaw 1) :=
 ⟨off,λx=>(x.drop off).take 1,λx y=>x.take off++y++x.drop (off+1),h,
  by
  rintro Z w cs x ⟨rfl,h1,h2⟩
  exact⟨rfl,by simp;omega,λc hc=>h2 c (List.mem_of_mem_drop (UF hc))⟩,
  by
  rintro Z w cs x ds y ⟨rfl,h1,h2⟩ ⟨rfl,h3,h4⟩
  refine⟨rfl,by grind,λc hc=>?_⟩
  grind⟩
section
variable {P:Program}{n:Nat}{X:Hd qd}{ρ ς:Type}{Q:PQ ρ}{S:Sl}{Ls:List zJ}{F:List PP}{m m1 m2:Option ρ}{os:Array Oper}{ol:List Oper}{x y:Operand}{p p':uM}
variable {d t:Nat}{ty ty2:TypeId}{pos pos2:String}{af af2:Array Edge}{g g2:Option (Nat×Bool)}{kd:IntKind}{B Jj:List Nat}{li:Array Bool}{fuel:Nat}
variable {τ σ:Type}{e:E τ}{f:E σ}{s:xS e (zT f)}{te tf:TypeId}{r rj:zJ}{p0 q q2:Option Addr}{c k0 c2 cap:Nat}{z:List τ}{ix:Int}
end
end
end Go.GD
