/- A part. Conditions: none. -/
import Derived.Test.YtgjdojihimkgcaaGreatDoorBase
import Derived.ProofKit
import Derived.OpenShut
import Derived.JoinedCond
import Derived.SizedLaws
namespace Go.GD
open Go Go.RowKit Go.ChangeShapes Go.WideShapes Go.ChangeAt
set_option autoImplicit false
variable {qd:Prop}
structure Rd (P:Program)(t:TypeId){τ:Type}(e:E τ)(W:τ->Prop): Prop where
 row:∀ {H:Type} {enc:TypeId×Value->H} {w:World} {fuel:Nat} {cs:List Value} {x:DataW H×List MemPlace},DataW.trod enc P w 0 (λ_=>true) true fuel t cs=some x->∃ y,e.rd [] w cs y∧W y
 cells:P.cellsOf t=e.n
abbrev wBool (_:Bool): Prop:=True
abbrev wInt (k:IntKind)(n:Int): Prop:=(Lit.int k n).wf=true
abbrev wStr (s:zD): Prop:=s.length≤maxLen
abbrev wList{τ:Type}(W:τ->Prop)(l:List τ): Prop:=l.length≤maxLen∧∀ x∈l,W x
abbrev wProd{α β:Type}(V:α->Prop)(W:β->Prop)(x:α×β): Prop:=V x.1∧W x.2
section
variable {P:Program}{t:TypeId}
theorem Rd.bool (hu:P.underlying t=some .bool)(hc:P.cellsOf t=1): Rd P t zNu wBool :=
 ⟨λh=>by obtain⟨b,rfl,_⟩:=DataW.trod_bool hu h;exact⟨b,rfl,trivial⟩,hc⟩
theorem Rd.int{k:IntKind}(hu:P.underlying t=some (.int k))(hc:P.cellsOf t=1): Rd P t (zB k) (wInt k) :=
 ⟨λh=>by obtain⟨b,rfl,_,hw⟩:=DataW.trod_int hu h;exact⟨b,rfl,hw⟩,hc⟩
theorem Rd.str (hu:P.underlying t=some .string)(hc:P.cellsOf t=1): Rd P t wS wStr :=
 ⟨λh=>by obtain⟨s,rfl,_,hw⟩:=DataW.trod_string hu h;exact⟨s.data.toList,by simp[wS],by simpa using hw⟩,hc⟩
theorem z3r{w:World}{a:Addr}{n:Nat}{cs:List Value}(h:w.cells? 0 a n=some cs): cs.length=n∧∀ i,i<n->w.cell? (a.add i)=cs[i]?:=by
 unfold World.cells? at h
 rw[Ql (Uy _)] at h
 exact⟨by simpa using mapM_some_length h,λi hi=>mapM_some_get h i i (by simp[hi])⟩
theorem Rd.slice{e:TypeId}{τ:Type}{E0:E τ}{W:τ->Prop}(hu:P.underlying t=some (.slice e))(hc:P.cellsOf t=1)(R:Rd P e E0 W)(hn:Nat.ble 1 E0.n=true:=by rfl): Rd P t (zT E0) (wList W):=by
 refine⟨λ{H enc w fuel cs x} h=>?_,hc⟩
 have hn1:1≤E0.n:=Ui hn
 rcases DataW.trod_slice hu h with⟨rfl,_⟩ | ⟨a,len,cap,elems,rest,n,_,rfl,_,_,hlc,hcm,hel,hget,_,_⟩
 ·exact⟨[],⟨none,0,rfl,xF.nil E0 [] w none 0⟩,Uy _,by simp⟩
 ·have hx:∀ i,i<len->∃ ci y,w.cells? 0 (a.add (i*E0.n)) E0.n=some ci∧E0.rd [] w ci y∧W y:=λi hi=>by
   have h1:=hget i hi
   rw[R.cells] at h1
   have h2:∃ z,elems[i]?=some z:=⟨_,Qh (by omega)⟩
   obtain⟨z,hz⟩:=h2
   rw[hz] at h1
   obtain⟨ci,h3,h4⟩:=Option.bind_eq_some_iff.1 h1
   obtain⟨y,hy,hw⟩:=R.row h4
   grind
  by_cases hl0:len=0
  ·subst hl0
   exact⟨[],⟨some a,cap,rfl,Uy _,.inl rfl⟩,Uy _,by simp⟩
  ·obtain⟨b,off,rfl⟩:∃ b off,a=⟨b,off,none⟩:=by
    obtain⟨ci,y,h1,_,_⟩:=hx 0 (by omega)
    obtain⟨h2,h3⟩:=z3r h1
    have h4:=h3 0 (by omega)
    rw[Qh (by omega)] at h4
    have h5:=World.cell?_spot h4
    obtain⟨b,off,spot⟩:=a
    cases spot with
    | none=>grind
    | some s=>simp[Addr.add] at h5
   have key:∀ k,k≤len->∃(l:List τ) (cs:List Value),l.length=k∧E0.rdL [] w cs l∧(∀ y∈l,W y)∧∀ j u,cs[j]?=some u->w.cell? ⟨b,off+j,none⟩=some u:=by
    intro k
    induction k with
    | zero=>intro _;exact⟨[],[],rfl,rfl,by simp,by simp⟩
    | succ k ih =>
     intro hk
     obtain⟨l,cs,h1,h2,h3,h4⟩:=ih (by omega)
     obtain⟨ci,y,g1,g2,g3⟩:=hx k (by omega)
     obtain⟨g4,g5⟩:=z3r g1
     have hlen:cs.length=k*E0.n:=by rw[E0.rdL_len h2,h1]
     refine⟨l++[y],cs++ci,by simp[h1],E0.rdL_append h2 (E0.rdL_one_elem g2),λz hz=>?_,λj u hu=>?_⟩
     ·grind
     ·rw[List.getElem?_append] at hu
      split at hu
      ·grind
      ·rename_i hj
       have hlt:=(Qe.1 hu).1
       have:=g5 (j-cs.length) (by omega)
       rw[hu,zCt,zCt] at this
       grind
   obtain⟨l,cs,h1,h2,h3,h4⟩:=key len (Qr _)
   refine⟨l,⟨some ⟨b,off,none⟩,cap,by rw[h1],by omega,.inr ⟨b,off,cs,rfl,by simp,?_,h2,h4⟩⟩,by omega,h3⟩
   have hcl:0<cs.length:=by rw[E0.rdL_len h2,h1];exact Nat.mul_pos (by omega) (by omega)
   have h5:=h4 0 _ (Qh hcl)
   grind [World.cell?]
structure RdFs (P:Program)(fs:List Field)(o:Nat){τ:Type}(e:E τ)(W:τ->Prop): Prop where
 row:∀ {H:Type} {enc:TypeId×Value->H} {w:World} {n:Nat} {cs:List Value},cs.length=o+e.n->(∀ f∈fs,∃ x,DataW.trod enc P w 0 (λ_=>true) true n f.type ((cs.drop f.offset).take (P.cellsOf f.type))=some x)->∃ y,e.rd [] w (cs.drop o) y∧W y
theorem RdFs.last{f:Field}{o:Nat}{τ:Type}{e:E τ}{W:τ->Prop}(R:Rd P f.type e W)(ho:f.offset=o): RdFs P [f] o e W :=
 ⟨λ{H enc w n cs} hl h=>by
  obtain⟨x,hx⟩:=h f (Qa.2 rfl)
  rw[R.cells,ho,Qx (by simp;omega)] at hx
  exact R.row hx⟩
theorem RdFs.cons{f:Field}{fs:List Field}{o:Nat}{α β:Type}{e:E α}{g:E β}{V:α->Prop}{W:β->Prop}(R:Rd P f.type e V)(ho:f.offset=o)(S:RdFs P fs (o+e.n) g W): RdFs P (f::fs) o (wP e g) (wProd V W) :=
 ⟨λ{H enc w n cs} hl h=>by
  obtain⟨x,hx⟩:=h f (Qq)
  rw[R.cells,ho] at hx
  obtain⟨y,hy,hv⟩:=R.row hx
  have hn:(wP e g).n=e.n+g.n:=rfl
  obtain⟨z,hz,hw⟩:=S.row (cs:=cs) (by omega) (λf' hf=>h f' (Qo _ hf))
  refine⟨(y,z),⟨_,_,?_,hy,hz⟩,hv,hw⟩
  rw[←We,QG]⟩
theorem Rd.struct{fs:Array Field}{τ:Type}{e:E τ}{W:τ->Prop}(hu:P.underlying t=some (.struct fs))(R:RdFs P fs.toList 0 e W)(hc:P.cellsOf t=e.n): Rd P t e W :=
 ⟨λ{H enc w fuel cs x} h=>by
  obtain⟨xs,n,_,_,hl,hxs,hget⟩:=DataW.trod_struct hu h
  have:=R.row (cs:=cs) (w:=w) (enc:=enc) (n:=n) (by omega) (λf hf=>by
   grind [List.mem_iff_getElem?])
  grind,hc⟩
section
variable {H:Type}{enc:TypeId×Value->H}{w:World}{v:Value}{d:DataW H}{ps:List MemPlace}{base:Nat}{τ:Type}{e:E τ}{W:τ->Prop}
theorem v_slice{te:TypeId}(hu:P.underlying t=some (.slice te))(R:Rd P t (zT e) (wList W))(ho:Value.okWide P w .any base t v)(h:DataW.Trod enc P w 0 (λ_=>true) true t v d ps):
  ∃ p c l,v=.slice p (List.length l) c∧xF e [] w p c l∧wList W l:=by
 obtain⟨a,len,cap,rfl⟩:=okWide_slice hu ho
 obtain⟨fuel,hf⟩:=h
 obtain⟨y,⟨p,c,hcs,hR⟩,hw⟩:=R.row hf
 simp[Value.cells] at hcs
 grind
theorem zU.below{w w':World}(h:zU qd [] w [] w'): Below w.heap.size w w':=⟨h.os,h.tape,h.output,h.size,λk hk=>h.keep k hk (by simp[bl])⟩
theorem zU.kept{w w':World}(h:zU qd [] w [] w')(may:MemPlace->Prop): w.keptBut w' may:=by
 refine⟨h.os,h.output,λi hi=>?_⟩
 have:=h.keep i hi (by simp[bl])
 grind
theorem zVs{w':World}(hl:laidOutB P=true)(hb:Below w.heap.size w w'): ∀ {ts:List TypeId} {vs:List Value} {ds:List (DataW H)} {ps:List MemPlace},
  ts.all (λt=>P.readableRec t&&Nat.blt t P.types.size)=true->DataW.TrodAll enc P w 0 (λ_=>true) true ts vs ds ps->(∀ x∈ps,x.block<w.heap.size)->DataW.TrodAll enc P w' 0 (λb=>decide (b<w.heap.size)) true ts vs ds ps
 | [],[],[],ps,_,h,_=>h
 | [],[],_::_,_,_,h,_=>h.elim
 | [],_::_,_,_,_,h,_=>h.elim
 | _::_,[],_,_,_,h,_=>h.elim
 | _::_,_::_,[],_,_,h,_=>h.elim
 | t::ts,v::vs,d::ds,ps,hr,h,hlt=>by
  obtain⟨p,q,h1,h2,rfl⟩:=h
  simp only[U8,QA,Nat.blt_eq] at hr
  exact⟨p,q,Below.trod hl hr.1.1 hr.1.2 h1 hb (λx hx=>hlt x (Qb.2 (.inl hx))),zVs hl hb hr.2 h2 (λx hx=>hlt x (Qb.2 (.inr hx))),rfl⟩
end
theorem law_post{H:Type}{enc:TypeId×Value->H}{w w':World}{f:Func}{s:ChangeSpec}{args:Array Value}{ds:List (DataW H)}{before p:List MemPlace}{fresh:Bool}
  (hW:DataW.Whole enc P f.params.toList s.vars false w args.toList ds [] before) (hA:DataW.TrodAll enc P w 0 (λ_=>true) true f.params.toList args.toList ds p) (hp:before=p) (hv:s.vars=[])
  (hs1:(s.fn H (ds++[])).results=[.lit (.bool true)]) (hs2:(s.fn H (ds++[])).args=ds) (hs3:(s.fn H (ds++[])).vars=[]) {tb:TypeId} (hrt:f.resultTypes=#[tb]) (hub:P.underlying tb=some .bool)
  (hl:laidOutB P=true) (hr:f.params.toList.all (λt=>P.readableRec t&&Nat.blt t P.types.size)=true) (e:zU qd [] w [] w'):s.post enc P f false fresh false false w args (.bool true) w':=by
 subst hp
 refine⟨ds,[],before,[],before,[],hW,?_,?_,?_,e.kept _,λh=>by cases h⟩
 ·rw[hs1,hrt]
  exact trodAll_mk1 (shut_bool hub true)
 ·rw[hs2]
  exact zVs hl e.below hr hA (λx hx=>by simpa using hW.lt x hx)
 ·rw[hv,hs3]
  exact rfl
end
end Go.GD
