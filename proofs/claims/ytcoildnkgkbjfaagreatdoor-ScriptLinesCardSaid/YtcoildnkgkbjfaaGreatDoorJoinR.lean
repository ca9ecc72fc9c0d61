/- A part. Conditions: none. -/
import Derived.Test.YtcoildnkgkbjfaaGreatDoorJoin
import Derived.Test.YtcoildnkgkbjfaaGreatDoorFrmJ
namespace Go.GD
open Go Go.RowKit Go.ChangeShapes Go.WideShapes Go.ChangeAt
set_option autoImplicit false
set_option linter.unusedVariables false
structure RdK (K:Nat)(P:Program)(t:TypeId){τ:Type}(e:E τ)(W:τ->Prop): Prop where
 row:∀ {H:Type} {enc:TypeId×Value->H} {w:World} {fuel:Nat} {cs:List Value} {x:DataW H×List MemPlace},fuel<K->DataW.trod enc P w 0 (fun _=>true) true fuel t cs=some x->∃ y,e.rd [] w cs y∧W y
 cells:P.cellsOf t=e.n
abbrev wAny{τ:Type}(_:τ): Prop:=True
section
variable {P:Program}{t:TypeId}
theorem Rd.k{K:Nat}{τ:Type}{e:E τ}{W:τ->Prop}(R:Rd P t e W): RdK K P t e W:=⟨fun _ h=>R.row h,R.cells⟩
theorem RdK.slice{K:Nat}{e:TypeId}{τ:Type}{E0:E τ}{W:τ->Prop}(hu:P.underlying t=some (.slice e))(hc:P.cellsOf t=1)(R:RdK K P e E0 W)(hn:Nat.ble 1 E0.n=true:=by rfl): RdK K P t (wJ E0) (zTf W):=by
 refine⟨fun {H enc w fuel cs x} hk h=>?_,hc⟩
 have hn1:1≤E0.n:=QV hn
 rcases DataW.trod_slice hu h with⟨rfl,_⟩ | ⟨a,len,cap,elems,rest,n,hfn,rfl,_,_,hlc,hcm,hel,hget,_,_⟩
 ·exact⟨[],⟨none,0,rfl,xS.nil E0 [] w none 0⟩,Q9 _,by simp⟩
 ·have hx:∀ i,i<len->∃ ci y,w.cells? 0 (a.add (i*E0.n)) E0.n=some ci∧E0.rd [] w ci y∧W y:=fun i hi=>by
   have h1:=hget i hi
   rw[R.cells] at h1
   have h2:∃ z,elems[i]?=some z:=⟨_,Qi (by omega)⟩
   obtain⟨z,hz⟩:=h2
   rw[hz] at h1
   obtain⟨ci,h3,h4⟩:=UY.1 h1
   obtain⟨y,hy,hw⟩:=R.row (by omega) h4
   grind
  by_cases hl0:len=0
  ·subst hl0
   exact⟨[],⟨some a,cap,rfl,Q9 _,.inl rfl⟩,Q9 _,by simp⟩
  ·obtain⟨b,off,rfl⟩:∃ b off,a=⟨b,off,none⟩:=by
    obtain⟨ci,y,h1,_,_⟩:=hx 0 (by omega)
    obtain⟨h2,h3⟩:=zNl h1
    have h4:=h3 0 (by omega)
    rw[Qi (by omega)] at h4
    have h5:=World.cell?_spot h4
    obtain⟨b,off,spot⟩:=a
    cases spot with
    | none=>grind
    | some s=>simp[Addr.add] at h5
   have key:∀ k,k≤len->∃(l:List τ) (cs:List Value),l.length=k∧E0.rdL [] w cs l∧(∀ y∈l,W y)∧∀ j u,cs[j]?=some u->w.cell? ⟨b,off+j,none⟩=some u:=by
    intro k
    induction k with
    | zero=>intro _;exact⟨[],[],rfl,rfl,by simp,by simp⟩
    | succ k ih =>
     intro hk
     obtain⟨l,cs,h1,h2,h3,h4⟩:=ih (by omega)
     obtain⟨ci,y,g1,g2,g3⟩:=hx k (by omega)
     obtain⟨g4,g5⟩:=zNl g1
     have hlen:cs.length=k*E0.n:=by rw[E0.rdL_len h2,h1]
     refine⟨l++[y],cs++ci,by simp[h1],E0.rdL_append h2 (E0.rdL_one_elem g2),fun z hz=>?_,fun j u hu=>?_⟩
     ·grind
     ·rw[List.getElem?_append] at hu
      split at hu
      ·grind
      ·rename_i hj
       have hlt:=(Qj.1 hu).1
       have:=g5 (j-cs.length) (by omega)
       rw[hu,zBX,zBX] at this
       grind
   obtain⟨l,cs,h1,h2,h3,h4⟩:=key len (Qt _)
   refine⟨l,⟨some ⟨b,off,none⟩,cap,by rw[h1],by omega,.inr ⟨b,off,cs,rfl,by simp,?_,h2,h4⟩⟩,by omega,h3⟩
   have hcl:0<cs.length:=by rw[E0.rdL_len h2,h1];exact Nat.mul_pos (by omega) (by omega)
   have h5:=h4 0 _ (Qi hcl)
   grind [World.cell?]
theorem Rd.frm{tS tI tT:TypeId}{fs:Array Field}{f1 f2 f3:Field}(hu:P.underlying t=some (.struct fs))(hfs:fs.toList=[f1,f2,f3])(h1:f1.type=tI)(h2:f2.type=tT)(h3:f3.type=tS)(o1:f1.offset=0)(o2:f2.offset=1)(o3:f3.offset=2)
  (RI:Rd P tI (zR .i64) (yU .i64)) (RT:Rd P tT wD zXZ) (hs:P.underlying tS=some (.slice t)) (cS:P.cellsOf tS=1) (cT:P.cellsOf t=3):Rd P t qD wAny:=by
 have key:∀ K,RdK K P t qD wAny:=by
  intro K
  induction K with
  | zero=>exact⟨fun hk _=>absurd hk (by omega),cT⟩
  | succ K ih =>
   refine⟨fun {H enc w fuel cs x} hk h=>?_,cT⟩
   obtain⟨xs,n,hfn,_,hl,hxs,hget⟩:=DataW.trod_struct hu h
   have RS:RdK K P tS (wJ qD) (zTf wAny):=RdK.slice hs cS ih rfl
   have hf:∀ f∈fs.toList,∃ x,DataW.trod enc P w 0 (fun _=>true) true n f.type ((cs.drop f.offset).take (P.cellsOf f.type))=some x:=fun f hf=>by
    grind [List.mem_iff_getElem?]
   rw[hfs] at hf
   obtain⟨x1,e1⟩:=hf f1 (by simp)
   obtain⟨x2,e2⟩:=hf f2 (by simp)
   obtain⟨x3,e3⟩:=hf f3 (by simp)
   have cI:P.cellsOf tI=1:=RI.cells
   have cTT:P.cellsOf tT=1:=RT.cells
   rw[h1,o1,cI] at e1
   rw[h2,o2,cTT] at e2
   rw[h3,o3,cS] at e3
   obtain⟨y1,r1,_⟩:=RI.row e1
   obtain⟨y2,r2,_⟩:=RT.row e2
   obtain⟨y3,r3,_⟩:=RS.row (by omega) e3
   have hcl:cs.length=3:=by rw[hl,cT]
   refine⟨fm (y1,y2,y3),zZj.2 ?_,trivial⟩
   show zJm.rd [] w cs (y1,y2,y3)
   obtain⟨v1,v2,v3,rfl⟩:∃ v1 v2 v3,cs=[v1,v2,v3]:=by
    match cs,hcl with
    | [v1,v2,v3],_=>grind
   exact⟨[v1],[v2,v3],rfl,r1,[v2],[v3],rfl,r2,r3⟩
 exact⟨fun {H enc w fuel cs x} h=>(key (fuel+1)).row (by omega) h,cT⟩
end
end Go.GD
