/- A part. Conditions: none. -/
import Derived.Test.YtkmalbjjjappgaaGreatDoorBase
import Derived.ProofKit
import Derived.OpenShut
import Derived.JoinedCond
import Derived.SizedLaws
namespace Go.GD
open Option renaming some->Ah
open Bool renaming true->Aj
open Go renaming Value->Am,World->Ao,TypeId->Ap
open Go Go.RowKit Go.ChangeShapes Go.WideShapes Go.ChangeAt
set_option autoImplicit false
variable {qd:Prop}
structure Rd (P:Program)(t:Ap){τ:Type}(e:E τ)(W:τ->Prop): Prop where
 row:∀ {H:Type} {enc:Ap×Am->H} {w:Ao} {fuel:Nat} {cs:List Am} {x:DataW H×List MemPlace},DataW.trod enc P w 0 (λ_=>Aj) Aj fuel t cs=Ah x->∃ y,e.rd [] w cs y/\W y
 cells:P.cellsOf t=e.n
abbrev wBool (_:Bool): Prop:=True
abbrev wInt (k:IntKind)(n:Int): Prop:=(Lit.int k n).wf=Aj
abbrev wStr (s:zA): Prop:=s.length<=maxLen
abbrev z4d{τ:Type}(W:τ->Prop)(l:List τ): Prop:=l.length<=maxLen/\∀ x∈l,W x
abbrev wProd{α β:Type}(V:α->Prop)(W:β->Prop)(x:α×β): Prop:=V x.1/\W x.2
section
variable {P:Program}{t:Ap}
theorem Rd.bool (hu:P.underlying t=Ah .bool)(hc:P.cellsOf t=1): Rd P t tH wBool:=
 ⟨λh=>by obtain⟨b,rfl,_⟩:=DataW.trod_bool hu h;exact⟨b,rfl,trivial⟩,hc⟩
theorem Rd.int{k:IntKind}(hu:P.underlying t=Ah (.int k))(hc:P.cellsOf t=1): Rd P t (zT k) (wInt k):=
 ⟨λh=>by obtain⟨b,rfl,_,hw⟩:=DataW.trod_int hu h;exact⟨b,rfl,hw⟩,hc⟩
theorem Rd.str (hu:P.underlying t=Ah .string)(hc:P.cellsOf t=1): Rd P t qP wStr:=
 ⟨λh=>by obtain⟨s,rfl,_,hw⟩:=DataW.trod_string hu h;exact⟨s.data.toList,by simp[qP],by simpa using hw⟩,hc⟩
theorem zPv{w:Ao}{a:Addr}{n:Nat}{cs:List Am}(h:w.cells? 0 a n=Ah cs): cs.length=n/\∀ i,i<n->w.cell? (a.add i)=cs[i]?:=by
 unfold Ao.cells? at h;rw[Qi (QT _)] at h;exact⟨by simpa using mapM_some_length h,λi hi=>mapM_some_get h i i (by simp[hi])⟩
theorem Rd.slice{e:Ap}{τ:Type}{E0:E τ}{W:τ->Prop}(hu:P.underlying t=Ah (.slice e))(hc:P.cellsOf t=1)(R:Rd P e E0 W)(hn:Nat.ble 1 E0.n=true:=by rfl): Rd P t (wF E0) (z4d W):=by
 refine⟨λ{H enc w fuel cs x} h=>?_,hc⟩;have hn1:1<=E0.n:=QN hn;rcases DataW.trod_slice hu h with⟨rfl,_⟩ | ⟨a,len,cap,elems,rest,n,_,rfl,_,_,hlc,hcm,hel,hget,_,_⟩
 ·exact⟨[],⟨none,0,rfl,xL.nil E0 [] w none 0⟩,QT _,by simp⟩
 ·have hx:∀ i,i<len->∃ ci y,w.cells? 0 (a.add (i*E0.n)) E0.n=Ah ci/\E0.rd [] w ci y/\W y:=λi hi=>by
   have h1:=hget i hi;rw[R.cells] at h1;have h2:∃ z,elems[i]?=Ah z:=⟨_,Qs (by omega)⟩;obtain⟨z,hz⟩:=h2;rw[hz] at h1;obtain⟨ci,h3,h4⟩:=UP.1 h1;obtain⟨y,hy,hw⟩:=R.row h4;grind
  by_cases hl0:len=0
  ·subst hl0;exact⟨[],⟨Ah a,cap,rfl,QT _,.inl rfl⟩,QT _,by simp⟩
  ·obtain⟨b,off,rfl⟩:∃ b off,a=⟨b,off,none⟩:=by
    obtain⟨ci,y,h1,_,_⟩:=hx 0 (by omega);obtain⟨h2,h3⟩:=zPv h1;have h4:=h3 0 (by omega);rw[Qs (by omega)] at h4;have h5:=Ao.cell?_spot h4;obtain⟨b,off,spot⟩:=a;cases spot with
    | none=>grind
    | some s=>simp[Addr.add] at h5
   have key:∀ k,k<=len->∃(l:List τ) (cs:List Am),l.length=k/\E0.rdL [] w cs l/\(∀ y∈l,W y)/\∀ j u,cs[j]?=Ah u->w.cell? ⟨b,off+j,none⟩=Ah u:=by
    intro k;induction k with
    | zero=>intro _;exact⟨[],[],rfl,rfl,by simp,by simp⟩
    | succ k ih=>
     intro hk;obtain⟨l,cs,h1,h2,h3,h4⟩:=ih (by omega);obtain⟨ci,y,g1,g2,g3⟩:=hx k (by omega);obtain⟨g4,g5⟩:=zPv g1;have hlen:cs.length=k*E0.n:=by rw[E0.rdL_len h2,h1]
     refine⟨l++[y],cs++ci,by simp[h1],E0.rdL_append h2 (E0.rdL_one_elem g2),λz hz=>?_,λj u hu=>?_⟩
     ·grind
     ·rw[List.getElem?_append] at hu;split at hu
      ·grind
      ·rename_i hj;have hlt:=(Qk.1 hu).1;have:=g5 (j-cs.length) (by omega);rw[hu,zBg,zBg] at this;grind
   obtain⟨l,cs,h1,h2,h3,h4⟩:=key len (Qd _);refine⟨l,⟨Ah ⟨b,off,none⟩,cap,by rw[h1],by omega,.inr ⟨b,off,cs,rfl,by simp,?_,h2,h4⟩⟩,by omega,h3⟩;have hcl:0<cs.length:=by rw[E0.rdL_len h2,h1];exact Nat.mul_pos (by omega) (by omega)
   have h5:=h4 0 _ (Qs hcl);grind [Ao.cell?]
structure RdFs (P:Program)(fs:List Field)(o:Nat){τ:Type}(e:E τ)(W:τ->Prop): Prop where
 row:∀ {H:Type} {enc:Ap×Am->H} {w:Ao} {n:Nat} {cs:List Am},cs.length=o+e.n->(∀ f∈fs,∃ x,DataW.trod enc P w 0 (λ_=>Aj) Aj n f.type ((cs.drop f.offset).take (P.cellsOf f.type))=Ah x)->∃ y,e.rd [] w (cs.drop o) y/\W y
theorem RdFs.cons{f:Field}{fs:List Field}{o:Nat}{α β:Type}{e:E α}{g:E β}{V:α->Prop}{W:β->Prop}(R:Rd P f.type e V)(ho:f.offset=o)(S:RdFs P fs (o+e.n) g W): RdFs P (f::fs) o (qU e g) (wProd V W):=
 ⟨λ{H enc w n cs} hl h=>by
  obtain⟨x,hx⟩:=h f (Qt);rw[R.cells,ho] at hx;obtain⟨y,hy,hv⟩:=R.row hx;have hn:(qU e g).n=e.n+g.n:=rfl;obtain⟨z,hz,hw⟩:=S.row (cs:=cs) (by omega) (λf' hf=>h f' (Qm _ hf));refine⟨(y,z),⟨_,_,?_,hy,hz⟩,hv,hw⟩;rw[<-Q0,QC]⟩
section
variable {H:Type}{enc:Ap×Am->H}{w:Ao}{v:Am}{d:DataW H}{ps:List MemPlace}{base:Nat}{τ:Type}{e:E τ}{W:τ->Prop}
theorem z9m{te:Ap}(hu:P.underlying t=Ah (.slice te))(R:Rd P t (wF e) (z4d W))(ho:Am.okWide P w .any base t v)(h:DataW.Trod enc P w 0 (λ_=>Aj) Aj t v d ps):
  ∃ p c l,v=.slice p (List.length l) c/\xL e [] w p c l/\z4d W l:=by
 obtain⟨a,len,cap,rfl⟩:=okWide_slice hu ho;obtain⟨fuel,hf⟩:=h;obtain⟨y,⟨p,c,hcs,hR⟩,hw⟩:=R.row hf;simp[Am.cells] at hcs;grind
theorem qE.below{w w':Ao}(h:qE qd [] w [] w'): Below w.heap.size w w':=⟨h.os,h.tape,h.output,h.size,λk hk=>h.keep k hk (by simp[bl])⟩
theorem qE.kept{w w':Ao}(h:qE qd [] w [] w')(may:MemPlace->Prop): w.keptBut w' may:=by
 refine⟨h.os,h.output,λi hi=>?_⟩;have:=h.keep i hi (by simp[bl]);grind
theorem zQh{w':Ao}(hl:laidOutB P=Aj)(hb:Below w.heap.size w w'): ∀ {ts:List Ap} {vs:List Am} {ds:List (DataW H)} {ps:List MemPlace},
  ts.all (λt=>P.readableRec t&&Nat.blt t P.types.size)=Aj->DataW.TrodAll enc P w 0 (λ_=>Aj) Aj ts vs ds ps->(∀ x∈ps,x.block<w.heap.size)->DataW.TrodAll enc P w' 0 (λb=>decide (b<w.heap.size)) Aj ts vs ds ps
 | [],[],[],ps,_,h,_=>h
 | [],[],_::_,_,_,h,_=>h.elim
 | [],_::_,_,_,_,h,_=>h.elim
 | _::_,[],_,_,_,h,_=>h.elim
 | _::_,_::_,[],_,_,h,_=>h.elim
 | t::ts,v::vs,d::ds,ps,hr,h,hlt=>by
  obtain⟨p,q,h1,h2,rfl⟩:=h;simp only[Uw,Qc,Nat.blt_eq] at hr;exact⟨p,q,Below.trod hl hr.1.1 hr.1.2 h1 hb (λx hx=>hlt x (Qj.2 (.inl hx))),zQh hl hb hr.2 h2 (λx hx=>hlt x (Qj.2 (.inr hx))),rfl⟩
end
theorem z7P{H:Type}{enc:Ap×Am->H}{w w':Ao}{f:Func}{s:ChangeSpec}{args:Array Am}{ds:List (DataW H)}{before p:List MemPlace}{fresh:Bool}
  (hW:DataW.Whole enc P f.params.toList s.vars false w args.toList ds [] before) (hA:DataW.TrodAll enc P w 0 (λ_=>Aj) Aj f.params.toList args.toList ds p) (hp:before=p) (hv:s.vars=[])
  (hs1:(s.fn H (ds++[])).results=[.lit (.bool Aj)]) (hs2:(s.fn H (ds++[])).args=ds) (hs3:(s.fn H (ds++[])).vars=[]) {tb:Ap} (hrt:f.resultTypes=#[tb]) (hub:P.underlying tb=Ah .bool)
  (hl:laidOutB P=Aj) (hr:f.params.toList.all (λt=>P.readableRec t&&Nat.blt t P.types.size)=Aj) (e:qE qd [] w [] w'):s.post enc P f false fresh false false w args (.bool Aj) w':=by
 subst hp;refine⟨ds,[],before,[],before,[],hW,?_,?_,?_,e.kept _,λh=>by cases h⟩
 ·rw[hs1,hrt];exact trodAll_mk1 (shut_bool hub Aj)
 ·rw[hs2];exact zQh hl e.below hr hA (λx hx=>by simpa using hW.lt x hx)
 ·rw[hv,hs3];exact rfl
end
end Go.GD
