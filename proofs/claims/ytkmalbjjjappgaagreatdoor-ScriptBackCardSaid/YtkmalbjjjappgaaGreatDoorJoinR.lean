/- A part. Conditions: none. -/
import Derived.Test.YtkmalbjjjappgaaGreatDoorJoin
import Derived.Test.YtkmalbjjjappgaaGreatDoorAu
namespace Go.GD
open Go Go.RowKit Go.ChangeShapes Go.WideShapes Go.ChangeAt
set_option autoImplicit false
set_option linter.unusedVariables false
structure RdK (K:Nat)(P:Program)(t:TypeId){τ:Type}(e:E τ)(W:τ->Prop): Prop where
 row:∀ {H:Type} {enc:TypeId×Value->H} {w:World} {fuel:Nat} {cs:List Value} {x:DataW H×List MemPlace},fuel<K->DataW.trod enc P w 0 (λ_=>true) true fuel t cs=some x->∃ y,e.rd [] w cs y/\W y
 cells:P.cellsOf t=e.n
section
variable {P:Program}{t:TypeId}
theorem Rd.k{K:Nat}{τ:Type}{e:E τ}{W:τ->Prop}(R:Rd P t e W): RdK K P t e W:=⟨λ_ h=>R.row h,R.cells⟩
theorem RdK.slice{K:Nat}{e:TypeId}{τ:Type}{E0:E τ}{W:τ->Prop}(hu:P.underlying t=some (.slice e))(hc:P.cellsOf t=1)(R:RdK K P e E0 W)(hn:Nat.ble 1 E0.n=true:=by rfl): RdK K P t (wF E0) (z4d W):=by
 refine⟨λ{H enc w fuel cs x} hk h=>?_,hc⟩;have hn1:1<=E0.n:=QN hn;rcases DataW.trod_slice hu h with⟨rfl,_⟩ | ⟨a,len,cap,elems,rest,n,hfn,rfl,_,_,hlc,hcm,hel,hget,_,_⟩
 ·exact⟨[],⟨none,0,rfl,xL.nil E0 [] w none 0⟩,QT _,by simp⟩
 ·have hx:∀ i,i<len->∃ ci y,w.cells? 0 (a.add (i*E0.n)) E0.n=some ci/\E0.rd [] w ci y/\W y:=λi hi=>by
   have h1:=hget i hi;rw[R.cells] at h1;have h2:∃ z,elems[i]?=some z:=⟨_,Qs (by omega)⟩;obtain⟨z,hz⟩:=h2;rw[hz] at h1;obtain⟨ci,h3,h4⟩:=UP.1 h1;obtain⟨y,hy,hw⟩:=R.row (by omega) h4;grind
  by_cases hl0:len=0
  ·subst hl0;exact⟨[],⟨some a,cap,rfl,QT _,.inl rfl⟩,QT _,by simp⟩
  ·obtain⟨b,off,rfl⟩:∃ b off,a=⟨b,off,none⟩:=by
    obtain⟨ci,y,h1,_,_⟩:=hx 0 (by omega);obtain⟨h2,h3⟩:=zPv h1;have h4:=h3 0 (by omega);rw[Qs (by omega)] at h4;have h5:=World.cell?_spot h4;obtain⟨b,off,spot⟩:=a;cases spot with
    | none=>grind
    | some s=>simp[Addr.add] at h5
   have key:∀ k,k<=len->∃(l:List τ) (cs:List Value),l.length=k/\E0.rdL [] w cs l/\(∀ y∈l,W y)/\∀ j u,cs[j]?=some u->w.cell? ⟨b,off+j,none⟩=some u:=by
    intro k;induction k with
    | zero=>intro _;exact⟨[],[],rfl,rfl,by simp,by simp⟩
    | succ k ih=>
     intro hk;obtain⟨l,cs,h1,h2,h3,h4⟩:=ih (by omega);obtain⟨ci,y,g1,g2,g3⟩:=hx k (by omega);obtain⟨g4,g5⟩:=zPv g1;have hlen:cs.length=k*E0.n:=by rw[E0.rdL_len h2,h1]
     refine⟨l++[y],cs++ci,by simp[h1],E0.rdL_append h2 (E0.rdL_one_elem g2),λz hz=>?_,λj u hu=>?_⟩
     ·grind
     ·rw[List.getElem?_append] at hu;split at hu
      ·grind
      ·rename_i hj;have hlt:=(Qk.1 hu).1;have:=g5 (j-cs.length) (by omega);rw[hu,zBg,zBg] at this;grind
   obtain⟨l,cs,h1,h2,h3,h4⟩:=key len (Qd _);refine⟨l,⟨some ⟨b,off,none⟩,cap,by rw[h1],by omega,.inr ⟨b,off,cs,rfl,by simp,?_,h2,h4⟩⟩,by omega,h3⟩;have hcl:0<cs.length:=by rw[E0.rdL_len h2,h1];exact Nat.mul_pos (by omega) (by omega)
   have h5:=h4 0 _ (Qs hcl);grind [World.cell?]
end
end Go.GD
