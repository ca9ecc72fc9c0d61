/- A part. Conditions: none. -/
import Derived.Test.YtgdgcdmdogdmgaaGreatDoorPlQ1
namespace Go.GD
set_option autoImplicit false
set_option linter.unusedVariables false
section
variable {b:zI}{l:List zF}{D:List zC}{c:Nat}
theorem zO0.runsA (h:zO0 b l)(hs:zOg b D c): RunsA b l:=Go.GD.runsA h.toFormB (runSz hs h)
noncomputable def zQY (b:zI)(l:List zF)(f:Int)(q:Int)(r:zR)(ys:List zC)(s:List Int): List zF :=
 ((chS l l.length ys s).filter fun s=>s.any (fun k=>decide (f≤k))&&zEe b l q r s).map fun s=>(-1,q,s,r.2.2.2.2)
theorem z4l{f q:Int}{r:zR}{s:List Int}: zQY b l f q r [] s=if s.any (fun k=>decide (f≤k))&&zEe b l q r s then[(-1,q,s,r.2.2.2.2)] else[]:=by
 unfold zQY
 simp only[chS,Q7,List.filter_nil]
 split <;> rfl
theorem z27{f q:Int}{r:zR}{y:zC}{ys:List zC}{s:List Int}: zQY b l f q r (y::ys) s=(qS l.length).flatMap fun i=>match zB l i with | some a=>if a.2.2.2==y then zQY b l f q r ys (s++[i]) else[] | none=>[]:=by
 unfold zQY
 simp only[chS,List.filter_flatMap,List.map_flatMap]
 congr 1
 funext i
 cases zB l i with
 | none=>rfl
 | some a =>
  dsimp only
  split <;> rfl
def tG (l new h res:List zF): Prop:=res=(new++h).take (41-l.length)
theorem zZD{α:Type}(n:Nat)(x y:List α): (x.take n++y).take n=(x++y).take n:=by
 by_cases h:x.length≤n
 ·rw[Qs h]
 ·rw[Uq (by rw[QL];omega),Uq (by omega),Uy,Nat.min_self]
theorem tG.nil{new:List zF}(h:l.length+new.length≤41): tG l new [] new:=by
 unfold tG
 rw[QB,Qs (by omega)]
theorem tG.trans{new h1 r1 h2 r2:List zF}(a:tG l new h1 r1)(b:tG l r1 h2 r2): tG l new (h1++h2) r2:=by
 unfold tG at a b ⊢
 rw[b,a,zZD,QA]
theorem tG.le{new h res:List zF}(hl:l.length≤41)(a:tG l new h res): l.length+res.length≤41:=by
 unfold tG at a
 rw[a,QL]
 omega
theorem tG.stay{new h:List zF}(hf:l.length+new.length=41): tG l new h new:=by
 unfold tG
 rw[Uq (by omega),Qs (by omega)]
theorem tG.all{new h:List zF}(hf:l.length+new.length+h.length≤41): tG l new h (new++h):=by
 unfold tG
 rw[Qs (by rw[Qh];omega)]
theorem z2c (b:zI)(l new:List zF)(f:Int)(h1:l.length≤100)(h2:new.length≤100): zBy (b,l,new,f)=some (decide (40<l.length+new.length)):=by
 unfold zBy
 simp only[len]
 rw[uL (by omega) (by omega)]
 refine congrArg some (UR.2 ?_)
 omega
theorem z7Q{s:List Int}(h:s.length<4294967296): zFI s=some s:=by
 simp[zFI,wS (l:=([]:List Int)) (m:=s) (by simpa using h)]
theorem z1r (s:List Int)(b:zI)(l new:List zF)(f:Int)(h:s.length<1000000): zAA s (b,l,new,f)=some (s.any fun k=>decide (f≤k)):=by
 unfold zAA zAS
 obtain⟨r,h1,h2⟩:=xS (B:=zA6 s (b,l,new,f)) (fun i (_:Unit)=>(i:Int)) s (fun i _=>∀(j:Nat) k,j<i->s[j]?=some k->¬ f≤k) (fun r=>decide (0≤r)=s.any fun k=>decide (f≤k)) (fun i k _ hi hI=>by
  unfold zA6 zEy
  simp only[qY hi,Qc,qM hi,zob,qR hi (show s.length<4294967296 by omega)]
  by_cases hk:f≤k
  ·simp only[hk,decide_true,Qc]
   refine .inr ⟨(i:Int),rfl,?_⟩
   have:(s.any fun k=>decide (f≤k))=true:=QX.2 ⟨k,wF hi,by simpa using hk⟩
   rw[this]
   exact QO (by omega)
  ·simp only[hk,decide_false,zbf,Qb]
   exact .inl ⟨(),by trivial,fun j x hj hx=>by
    by_cases hji:j=i
    ·subst hji;rw[hi] at hx;cases hx;exact hk
    ·exact hI j x (by omega) hx⟩) (fun _ hI=>⟨-1,by
  unfold zA6
  simp only[uU,zbf,Qb],by
  have:(s.any fun k=>decide (f≤k))=false:=by
   rw[Q9]
   intro k hk
   obtain⟨j,hj⟩:=Qn.1 hk
   simpa using hI j k (vV hj) hj
  rw[this]
  rfl⟩) () (fun j k hj=>by omega)
 rw[show((0:Nat):Int)=0 from rfl] at h1
 rw[h1]
 simp only[zob,h2]
theorem z3N (hs:zOg b D c)(h:zO0 b l)(hl:l.length≤40){f:Int}{q:Int}{r:zR}(hr:zB b.2.1 q=some r): ∀(k:Nat) (ys:List zC) (s:List Int) (new:List zF),ys=r.2.2.2.1.drop s.length->s.length≤r.2.2.2.1.length->ys.length<k->(∀ k∈s,0≤k∧k<l.length)->l.length+new.length≤41->
  ∃ res,zBN k (b,l,new,f) q s=some res∧tG l new (zQY b l f q r ys s) res:=by
 have hb:=hs.body hr
 intro k
 induction k with
 | zero=>intro ys _ _ _ _ hk;omega
 | succ k ih =>
  intro ys s new hys hsl hk hsub hnew
  show ∃ res,zBs (zBN k) (b,l,new,f) q s=some res∧_
  unfold zBs
  simp only[hr,zob,z2c b l new f (by omega) (by omega)]
  by_cases hf:40<l.length+new.length
  ·simp only[hf,decide_true,Qc]
   exact⟨new,rfl,tG.stay (by omega)⟩
  ·simp only[hf,decide_false,zbf,Qb]
   cases ys with
   | nil =>
    have hlen:s.length=r.2.2.2.1.length:=by
     have:=congrArg List.length hys
     simp at this
     omega
    have hd:decide (len s<len r.2.2.2.1)=false:=by simp[len];omega
    simp only[hd,zbf,Qb,wZ,zob]
    rw[z1r s b l new f (by omega),z4l]
    simp only[zob]
    rw[z5G h.toFormC (h.runsA hs) hr hsub (by omega)]
    cases h1:s.any fun k=>decide (f≤k) with
    | false =>
     simp only[zbf,Qb,zob,Ui]
     exact⟨new,rfl,tG.nil hnew⟩
    | true =>
     simp only[Qc,zob,Ux]
     cases h2:zEe b l q r s with
     | false =>
      simp only[zbf,Qb]
      exact⟨new,rfl,tG.nil hnew⟩
     | true =>
      simp only[Qc]
      rw[wS (by simp;omega)]
      exact⟨_,rfl,tG.all (by simp only[Ur];omega)⟩
   | cons y ys =>
    have hlen:s.length<r.2.2.2.1.length:=by
     have:=congrArg List.length hys
     simp at this
     omega
    have hd:decide (len s<len r.2.2.2.1)=true:=by simp[len];omega
    have hy:r.2.2.2.1[s.length]?=some y:=by
     have:=congrArg (fun l=>l[0]?) hys
     simpa using this.symm
    have hys2:ys=r.2.2.2.1.drop (s.length+1):=by
     have:=congrArg List.tail hys
     simpa using this
    have hix:zB r.2.2.2.1 (len s)=some y:=by rw[show len s=((s.length:Nat):Int) from rfl,xW];exact hy
    simp only[hd,Qc]
    have hloop:=xS (B:=zB5 (b,l,new,f) r s (zBN k) q) (fun i (t:List zF)=>((i:Int),t)) (qS l.length)
     (fun i t=>tG l new (((qS l.length).take i).flatMap fun i=>match zB l i with | some a=>if a.2.2.2==y then zQY b l f q r ys (s++[i]) else[] | none=>[]) t)
     (fun res=>∃ t,res=.inr t∧tG l new (zQY b l f q r (y::ys) s) t) (fun i x t hi hI=>.inl ?_) (fun t hI=>?_) new (tG.nil hnew)
    ·obtain⟨res,h1,t,h2,h3⟩:=hloop
     rw[show((0:Nat):Int)=0 from rfl] at h1
     subst h2
     exact⟨t,by rw[h1];rfl,h3⟩
    ·obtain⟨rfl,hin⟩:=zVA hi
     obtain⟨a,ha⟩:=zLM (l:=l) (j:=(i:Int)) (by omega) (by omega)
     have hdl:decide ((i:Int)<len l)=true:=by simp[len];omega
     have ht:=hI.le (by omega)
     unfold zB5
     simp only[hdl,Qc,ha,zob,hix,vN i (by omega)]
     rw[xY hi,U3,List.flatMap_singleton,ha]
     dsimp only
     cases hc:a.2.2.2==y with
     | false =>
      simp only[zbf,Qb,QB]
      exact⟨t,rfl,hI⟩
     | true =>
      simp only[Qc]
      rw[z7Q (by omega)]
      simp only[zob]
      rw[wS (by simp;omega)]
      simp only[zob]
      obtain⟨res,e1,e2⟩:=ih ys (s++[(i:Int)]) t (by simpa using hys2) (by simp;omega) (by simp at hk;omega) (fun k hk=>by
       rcases Qd.1 hk with hk | hk
       ·exact hsub k hk
       ·simp only[Qa] at hk;subst hk;omega) ht
      rw[e1]
      exact⟨res,rfl,hI.trans e2⟩
    ·refine⟨_,?_,t,rfl,?_⟩
     ·unfold zB5
      have hdl:decide (((qS l.length).length:Int)<len l)=false:=by rw[zGJ];simp[len]
      simp only[hdl,zbf,Qb]
     ·rw[z27]
      rw[QU] at hI
      exact hI
theorem z59 (hs:zOg b D c)(h:zO0 b l)(hl:l.length≤40){f:Int}{q:Int}{r:zR}(hr:zB b.2.1 q=some r)(new:List zF)(hnew:l.length+new.length≤41):
  zBr (b,l,new,f) q []=some ((new++zQY b l f q r r.2.2.2.1 []).take (41-l.length)) :=
 zUN 5 fun k hk=>by
  obtain⟨res,h1,h2⟩:=z3N hs h hl hr k r.2.2.2.1 [] new (f:=f) (by simp) (by simp) (by have:=hs.body hr;omega) (by simp) hnew
  rw[h1,h2]
theorem z6K{f:Int}{first:Bool}{q:Int}{r:zR}(hr:zB b.2.1 q=some r): zK9 b l f first q=if r.2.2.2.1=[] then(if first then[(-1,q,[],r.2.2.2.2)] else[]) else zQY b l f q r r.2.2.2.1 []:=by
 unfold zK9 zQY
 rw[hr]
 dsimp only
 split
 ·rename_i hb
  rw[hb]
  simp only[chS,Q7,List.filter_nil]
  cases first <;> simp[zRX,zEe]
 ·rename_i hb
  congr 1
  refine Uz fun s hs=>?_
  obtain⟨t,ht,htl,_⟩:=(zUA l l.length r.2.2.2.1 [] s).1 hs
  rw[QM] at ht
  subst ht
  unfold zRX
  have:s.isEmpty=false:=by
   cases s with
   | nil=>exact absurd (UG htl.symm) hb
   | cons _ _=>rfl
  rw[this,U9,U0]
theorem z0Y (h:xH b): zN (zEY b) (0,([]:List zF))=some (zPT b):=by
 have hn:=h.np
 have hl:=zPh b
 have:=(zTy (B:=zEY b) (zPT b) (fun s a=>s++[a]) (fun s=>s) (fun i s=>s.length≤i) [] (by simp) (fun i a s hi hs=>by
  obtain⟨p,hp,rfl⟩:=zJV hi
  have hlt:=vV hp
  refine⟨?_,by simp;omega⟩
  unfold zEY
  simp only[qY hp,Qc,qM hp,zob]
  rw[wS (by simp;omega)]
  simp only[zob,qR hp (by omega)]) (fun s _=>by
  unfold zEY
  rw[hl]
  simp only[uU,zbf,Qb])).1
 rw[this]
 have:=zId (fun a:zF=>a) (zPT b) []
 simpa using this
theorem z0l (hs:zOg b D c)(h:zO0 b l)(hl:l.length≤40){f:Int}{r:Nat}(hr0:1≤r)(hr:r<1000)(z:List zF):
  ∃ res,zN (zCr b ((r:Int),l,z,f)) (0,[])=some res ∧
   (if 40<(l++xI b l f (decide (r≤1))).length then ∃ x,res=.inr (.inr (l,x,f))∧l.length+x.length=41 else res=.inl (xI b l f (decide (r≤1)))):=by
 have hnr:=hs.valid.nr
 have hone:((r:Int)==1)=decide (r≤1):=by
  rw[QV]
  simp only[Ue,Qp]
  omega
 refine xS (B:=zCr b ((r:Int),l,z,f)) (fun i (t:List zF)=>((i:Int),t)) (qS b.2.1.length)
  (fun i t=>t=((qS b.2.1.length).take i).flatMap (zK9 b l f (decide (r≤1)))∧l.length+t.length≤40)
  (fun res=>if 40<(l++xI b l f (decide (r≤1))).length then ∃ x,res=.inr (.inr (l,x,f))∧l.length+x.length=41 else res=.inl (xI b l f (decide (r≤1)))) (fun i x t hi hI=>?_) (fun t hI=>?_) [] ⟨by simp,by simpa using hl⟩
 ·obtain⟨rfl,hin⟩:=zVA hi
  obtain⟨ru,hru⟩:=zLM (l:=b.2.1) (j:=(i:Int)) (by omega) (by omega)
  have hd:decide ((i:Int)<len b.2.1)=true:=by simp[len];omega
  obtain⟨hI1,hI2⟩:=hI
  have hnext:((qS b.2.1.length).take (i+1)).flatMap (zK9 b l f (decide (r≤1)))=t++zK9 b l f (decide (r≤1)) i:=by
   rw[xY hi,U3,List.flatMap_singleton,←hI1]
  have hpart:(t++zK9 b l f (decide (r≤1)) i).length≤(xI b l f (decide (r≤1))).length:=by
   rw[←hnext]
   unfold xI
   conv=>rhs;rw[←QT (i+1) (qS b.2.1.length),U3]
   rw[Qh]
   omega
  have hs7:(if decide (0<len ru.2.2.2.1)=true then(zBr (b,l,t,f) i []).bind fun r2=>some r2
    else if((r:Int)==1)=true then(qG t [((-1:Int),(i:Int),([]:List Int),ru.2.2.2.2)]).bind fun x4=>some x4 else some t)=some ((t++zK9 b l f (decide (r≤1)) i).take (41-l.length)):=by
   rw[z6K hru,hone]
   by_cases hb:ru.2.2.2.1=[]
   ·have hd0:decide (0<len ru.2.2.2.1)=false:=by rw[hb];rfl
    rw[Qu hb]
    simp only[hd0,zbf,Qb]
    cases hr1:decide (r≤1) with
    | true =>
     simp only[Qc]
     rw[wS (by simp;omega)]
     simp only[zob]
     rw[Qs (by simp;omega)]
    | false =>
     simp only[zbf,Qb,QB]
     rw[Qs (by omega)]
   ·have hd0:decide (0<len ru.2.2.2.1)=true:=by
     have:=Q5.2 hb
     simp[len];omega
    rw[Qq hb]
    simp only[hd0,Qc]
    rw[z59 hs h hl hru t (by omega)]
    rfl
  unfold zCr
  simp only[hd,Qc,hru,zob]
  rw[hs7]
  simp only[zob]
  rw[z2c b l _ f (by omega) (by rw[QL];omega)]
  simp only[zob,vN i (by omega)]
  by_cases hlim:40<l.length+(t++zK9 b l f (decide (r≤1)) i).length
  ·have hx:l.length+((t++zK9 b l f (decide (r≤1)) i).take (41-l.length)).length=41:=by rw[QL];omega
   have hd4:decide (40<l.length+((t++zK9 b l f (decide (r≤1)) i).take (41-l.length)).length)=true:=by simp only[Qp];omega
   simp only[hd4,Qc]
   refine .inr ⟨_,rfl,?_⟩
   rw[Qu (by rw[Qh];omega)]
   exact⟨_,rfl,hx⟩
  ·have hx:(t++zK9 b l f (decide (r≤1)) i).take (41-l.length)=t++zK9 b l f (decide (r≤1)) i:=Qs (by omega)
   rw[hx]
   have hd4:decide (40<l.length+(t++zK9 b l f (decide (r≤1)) i).length)=false:=by simp only[QS];omega
   simp only[hd4,zbf,Qb]
   exact .inl ⟨_,rfl,hnext.symm,by omega⟩
 ·obtain⟨hI1,hI2⟩:=hI
  rw[QU] at hI1
  have:t=xI b l f (decide (r≤1)):=hI1
  unfold zCr
  have hd:decide (((qS b.2.1.length).length:Int)<len b.2.1)=false:=by rw[zGJ];simp[len]
  simp only[hd,zbf,Qb]
  refine⟨_,rfl,?_⟩
  rw[Qq (by rw[Qh,←this];omega),this]
theorem z0W (hs:zOg b D c): ∀(k:Nat) (l z:List zF) (f:Int) (r:Nat),zO0 b l->l.length≤40->41≤l.length+k->r+k≤900->1≤r->
  ∃ l' x' f',zN (zBd b) ((r:Int),l,z,f)=some (l',x',f')∧l'.length≤100∧x'.length≤100 ∧
   match zQ4 b k l f (decide (r≤1)) with | none=>40<l'.length+x'.length | some y=>l'=y∧x'=[]∧y.length≤40:=by
 intro k
 induction k with
 | zero=>intros;omega
 | succ k ih =>
  intro l z f r h hl hk hr h1
  obtain⟨res,e1,e2⟩:=z0l hs h hl (f:=f) h1 (by omega) z
  unfold zQ4
  by_cases hlim:40<(l++xI b l f (decide (r≤1))).length
  ·rw[Qu hlim] at e2
   obtain⟨x,rfl,hx⟩:=e2
   refine⟨l,x,f,?_,by omega,by omega,?_⟩
   ·have hstep:zBd b ((r:Int),l,z,f)=some (.inr (l,x,f)):=by
     unfold zBd
     rw[e1]
     rfl
    rw[vR,hstep]
   ·rw[Qu hlim]
    dsimp only
    omega
  ·rw[Qq hlim] at e2
   subst e2
   by_cases hn:xI b l f (decide (r≤1))=[]
   ·refine⟨l,[],f,?_,by omega,by simp,?_⟩
    ·have hstep:zBd b ((r:Int),l,z,f)=some (.inr (l,[],f)):=by
      unfold zBd
      rw[e1,hn]
      rfl
     rw[vR,hstep]
    ·rw[Qq hlim,Qu hn]
     exact⟨rfl,rfl,hl⟩
   ·rw[Qq hlim,Qq hn]
    have hpos:0<(xI b l f (decide (r≤1))).length:=Q5.2 hn
    rw[Qh] at hlim
    obtain⟨l',x',f',g1,g2,g3,g4⟩:=ih (l++xI b l f (decide (r≤1))) (xI b l f (decide (r≤1))) l.length (r+1) (h.round hs (by rw[Qh];omega)) (by rw[Qh];omega) (by rw[Qh];omega) (by omega) (by omega)
    rw[show decide (r+1≤1)=false from by simp;omega] at g4
    refine⟨l',x',f',?_,g2,g3,g4⟩
    have hstep:zBd b ((r:Int),l,z,f)=some (.inl (((r+1:Nat):Int),l++xI b l f (decide (r≤1)),xI b l f (decide (r≤1)),(l.length:Int))):=by
     unfold zBd
     rw[e1]
     simp only[wZ,zob]
     have hl0:((len (xI b l f (decide (r≤1))))==0)=false:=by simp only[len,QQ];omega
     simp only[hl0,zbf,Qb]
     rw[wS (by omega)]
     simp only[zob,vN r (by omega)]
    rw[vR,hstep]
    exact g1
theorem z1X (hs:zOg b D c): zDw b=some (ansB (zPt b)):=by
 unfold zDw
 rw[zM9 (zJa hs.valid),zI5.2 hs.valid]
 simp only[zob,bne_self_eq_false,zbf,Qb]
 rw[z0Y hs.valid]
 have hn:=hs.valid.np
 obtain⟨l',x',f',g1,g2,g3,g4⟩:=z0W hs 50 (zPT b) [] 0 1 (zU4 hs.valid) (by rw[zPh];omega) (by omega) (by omega) (by omega)
 rw[show((1:Nat):Int)=1 from rfl] at g1
 simp only[zob,g1]
 rw[z2c b l' x' f' g2 g3]
 simp only[zob]
 unfold zPt
 rw[show decide (1≤1)=true from rfl] at g4
 cases hb:zQ4 b 50 (zPT b) 0 true with
 | none =>
  rw[hb] at g4
  dsimp only at g4
  simp only[g4,decide_true,Qc]
  rfl
 | some y =>
  rw[hb] at g4
  obtain⟨rfl,rfl,g5⟩:=g4
  have hd:decide (40<l'.length+([]:List zF).length)=false:=by simp;omega
  simp only[hd,zbf,Qb]
  rfl
end
section
variable {b:zI}{l m:List zF}{D:List zC}{c:Nat}
theorem zYo:∀(k:Nat) (l:List zF) (f:Int) (first:Bool) (x:List zF),zQ4 b k l f first=some x->∃ m,x=l++m
 | 0,_,_,_,_,h=>by cases h
 | k+1,l,f,first,x,hx=>by
  unfold zQ4 at hx
  split at hx
  ·cases hx
  ·split at hx
   ·cases hx
    exact⟨[],by simp⟩
   ·obtain⟨m,hm⟩:=zYo k _ _ _ x hx
    exact⟨xI b l f first++m,by rw[hm,QA]⟩
theorem zTs{α β:Type}{g:α->List β}: ∀ {l:List α},l.Nodup->(∀ x∈l,(g x).Nodup)->(∀ x∈l,∀ y∈l,∀ z,z∈g x->z∈g y->x=y)->(l.flatMap g).Nodup
 | [],_,_,_=>by simp
 | x::l,h1,h2,h3=>by
  obtain⟨a1,a2⟩:=UC.1 h1
  rw[UJ]
  refine QK.2 ⟨h2 x Qm,zTs a2 (fun y hy=>h2 y (Qi _ hy)) (fun y hy z hz=>h3 y (Qi _ hy) z (Qi _ hz)),fun z hz w hw e=>?_⟩
  subst e
  obtain⟨y,hy,hyz⟩:=Qz.1 hw
  have:=h3 x Qm y (Qi _ hy) z hz hyz
  subst this
  exact a1 hy
theorem z1u (n:Nat): (qS n).Nodup:=(zKf n).imp fun {x y} h=>by
 simp at h
 omega
theorem z0c (n:Nat): ∀(ys:List zC) (sofar:List Int),(chS l n ys sofar).Nodup
 | [],sofar=>by simp[chS]
 | y::ys,sofar=>by
  refine zTs (z1u n) (fun i _=>?_) (fun i _ j _ s hi hj=>?_)
  ·split
   ·split
    ·exact z0c n ys _
    ·exact Wa
   ·exact Wa
  ·have key:∀ i,(s∈match zB l i with | some a=>if a.2.2.2==y then chS l n ys (sofar++[i]) else[] | none=>[])->s[sofar.length]?=some i:=fun i hs=>by
    cases hx:zB l i with
    | none=>rw[hx] at hs;cases hs
    | some a =>
     rw[hx] at hs
     dsimp only at hs
     split at hs
     ·obtain⟨t,rfl,_⟩:=(zUA l n ys (sofar++[i]) s).1 hs
      rw[QA,Uf (Qr _)]
      simp
     ·cases hs
   have h1:=key i hi
   have h2:=key j hj
   rw[h1] at h2
   exact QC h2
theorem z0Q{f:Int}{first:Bool}: (xI b l f first).Nodup:=by
 refine zTs (z1u _) (fun q _=>?_) (fun q _ q' _ a h1 h2=>?_)
 ·unfold zK9
  split
  ·refine List.Pairwise.map _ (fun s t hst=>?_) (List.Pairwise.filter _ (z0c (l:=l) l.length _ []))
   exact fun e=>hst (by simpa using congrArg (fun a:zF=>a.2.2.1) e)
  ·exact Wa
 ·have key:∀ q,a∈zK9 b l f first q->a.2.1=q:=fun q h=>by
   unfold zK9 at h
   split at h
   ·obtain⟨s,_,rfl⟩:=Qj.1 h
    rfl
   ·cases h
  rw[←key q h1,←key q' h2]
structure Now (b:zI)(l:List zF)(f:Int)(first:Bool): Prop where
 nd:l.Nodup
 old:∀ a∈l,∀ k∈a.2.2.1,k<f
 fst:first=true->f=0∧∀ a∈l,a.2.1<0
 done:∀ q r s,zB b.2.1 q=some r->s.length=r.2.2.2.1.length->(∀(j:Nat) k y,s[j]?=some k->r.2.2.2.1[j]?=some y->∃ a',zB l k=some a'∧a'.2.2.2=y)->zEe b l q r s=true->zRX f first s=false->((-1:Int),q,s,r.2.2.2.2)∈l
theorem zYk{s:List Int}{bd:List zC}(h1:s.length=bd.length)(h:∀(j:Nat) k y,s[j]?=some k->bd[j]?=some y->∃ a':zF,zB l k=some a'∧a'.2.2.2=y): ∀ k∈s,0≤k∧k<l.length:=fun k hk=>by
 obtain⟨j,hj⟩:=Qn.1 hk
 have:=vV hj
 obtain⟨a',e1,_⟩:=h j k _ hj (Qe (by omega))
 exact zSf e1
theorem Now.nodup{f:Int}{first:Bool}(hn:Now b l f first): (l++xI b l f first).Nodup:=by
 refine QK.2 ⟨hn.nd,z0Q,fun a ha a' ha' e=>?_⟩
 subst e
 obtain⟨_,r,g1,_,g2,_⟩:=zQs.1 ha'
 unfold zRX at g2
 rw[Q6] at g2
 rcases g2 with g2 | g2
 ·obtain⟨k,hk,hk2⟩:=QX.1 g2
  have:=hn.old a ha k hk
  simp at hk2
  omega
 ·rw[Qo] at g2
  have:=(hn.fst g2.1).2 a ha
  have:=(zSf g1).1
  omega
theorem Now.next (hs:zOg b D c)(h:zO0 b l){f:Int}{first:Bool}(hn:Now b l f first)(hl:(l++xI b l f first).length≤41)(hf:f≤l.length): Now b (l++xI b l f first) l.length false:=by
 have h':=h.round hs hl
 refine⟨hn.nodup,fun a ha k hk=>?_,(fun h=>by cases h),fun q r s hq h1 h2 h3 h4=>?_⟩
 ·rcases Qd.1 ha with ha | ha
  ·have:=hn.old a ha k hk
   omega
  ·exact((zY7 hs a ha).1.sub k hk).2
 ·have hk:∀ k∈s,k<l.length:=fun k hk=>by
   unfold zRX at h4
   simp only[Ui,U0,Q9,Qp] at h4
   have:=h4 k hk
   omega
  have hr:=zYk h1 h2
  have h2':∀(j:Nat) k y,s[j]?=some k->r.2.2.2.1[j]?=some y->∃ a',zB l k=some a'∧a'.2.2.2=y:=fun j k y hj hy=>by
   obtain⟨a',e1,e2⟩:=h2 j k y hj hy
   rw[zOF (hk k (wF hj))] at e1
   exact⟨a',e1,e2⟩
  rw[zUQ h.toFormC h'.toFormC fun k hk2=>⟨(hr k hk2).1,hk k hk2⟩] at h3
  cases hfr:zRX f first s with
  | true=>exact List.mem_append_right _ (zQs.2 ⟨rfl,r,hq,rfl,hfr,h3,h1,h2'⟩)
  | false=>exact List.mem_append_left _ (hn.done q r s hq h1 h2' h3 hfr)
theorem Now.first (h:xH b): Now b (zPT b) 0 true:=by
 refine⟨?_,fun a ha k hk=>?_,fun _=>⟨rfl,fun a ha=>?_⟩,fun q r s hq h1 h2 h3 h4=>?_⟩
 ·rw[List.nodup_iff_pairwise_ne,UU]
  intro i j hi hj hij e
  obtain⟨p,_,h1⟩:=zJV (Qe hi)
  obtain⟨p',_,h2⟩:=zJV (Qe hj)
  rw[h1,h2] at e
  have:=congrArg (fun a:zF=>a.1) e
  simp at this
  omega
 ·obtain⟨i,hi⟩:=Qn.1 ha
  obtain⟨p,_,rfl⟩:=zJV hi
  cases hk
 ·obtain⟨i,hi⟩:=Qn.1 ha
  obtain⟨p,_,rfl⟩:=zJV hi
  show(-1:Int)<0
  omega
 ·have hr:=zYk h1 h2
  unfold zRX at h4
  rw[Uw] at h4
  cases s with
  | nil=>simp at h4
  | cons k s =>
   have h5:=Q9.1 h4.1 k Qm
   have h6:=hr k Qm
   simp at h5
   omega
structure z7U (b:zI)(x:List zF): Prop where
 form:zO0 b x
 len:x.length≤40
 pre:∃ m,x=zPT b++m
 nd:x.Nodup
 all:∀ q r s,zB b.2.1 q=some r->s.length=r.2.2.2.1.length->(∀(j:Nat) k y,s[j]?=some k->r.2.2.2.1[j]?=some y->∃ a',zB x k=some a'∧a'.2.2.2=y)->zEe b x q r s=true->((-1:Int),q,s,r.2.2.2.2)∈x
theorem zYg (hs:zOg b D c): ∀(k:Nat) (l:List zF) (f:Int) (first:Bool) (x:List zF),zO0 b l->l.length≤40->f≤l.length->Now b l f first->zQ4 b k l f first=some x->x.Nodup∧∀ q r s,zB b.2.1 q=some r->s.length=r.2.2.2.1.length->(∀(j:Nat) k y,s[j]?=some k->r.2.2.2.1[j]?=some y->∃ a',zB x k=some a'∧a'.2.2.2=y)->zEe b x q r s=true->((-1:Int),q,s,r.2.2.2.2)∈x
 | 0,_,_,_,_,_,_,_,_,h=>by cases h
 | k+1,l,f,first,x,h,hl,hf,hn,hx=>by
  unfold zQ4 at hx
  split at hx
  ·cases hx
  ·rename_i hlim
   split at hx
   ·rename_i hr
    cases hx
    refine⟨hn.nd,fun q r s hq h1 h2 h3=>?_⟩
    cases hfr:zRX f first s with
    | true =>
     have:((-1:Int),q,s,r.2.2.2.2)∈xI b l f first:=zQs.2 ⟨rfl,r,hq,rfl,hfr,h3,h1,h2⟩
     rw[hr] at this
     cases this
    | false=>exact hn.done q r s hq h1 h2 h3 hfr
   ·exact zYg hs k _ _ _ x (h.round hs (by omega)) (by omega) (by rw[Qh];omega) (hn.next hs h (by omega) hf) hx
theorem zQA (hs:zOg b D c){x:List zF}(hx:zPt b=some x): z7U b x:=by
 have hp:=hs.valid.np
 have hl:(zPT b).length≤40:=by rw[zPh];omega
 obtain⟨g1,g2⟩:=zXU hs 50 (zPT b) 0 true x (zU4 hs.valid) hl hx
 obtain⟨g3,g4⟩:=zYg hs 50 (zPT b) 0 true x (zU4 hs.valid) hl (by omega) (Now.first hs.valid) hx
 exact⟨g1,g2,zYo _ _ _ _ _ hx,g3,g4⟩
end
section
theorem zJW{N i:Nat}(f:Nat->Int): (zW N f)[i]?=if i<N then some (f i) else none:=by
 unfold zW
 by_cases h:i<N
 ·simp[h]
 ·simp[h]
theorem z7r (N:Nat)(f:Nat->Int): zW (N+1) f=zW N f++[f N]:=by simp[zW,List.range_succ]
theorem z1A{N c:Nat}(f:Nat->Int)(h:c≤N): (zW N f).take c=zW c f:=by
 apply QG
 intro i
 rw[Ub,zJW,zJW]
 by_cases h1:i<c
 ·simp[h1,show i<N by omega]
 ·simp[h1]
theorem zXc (k:Nat)(f:Nat->Int){x:Nat}(hx:x<k)(v:Int): xZ k (zW k f) (x:Int) v=zW k fun j=>if j=x then v else f j:=by
 unfold xZ zW
 apply Wo
 intro j hj
 have hj:=Ug.1 hj
 rw[Ql]
 by_cases h:j=x
 ·simp[h]
 ·simp only[h,Qb]
  simp[List.getD,hj]
theorem zQM (k:Nat)(f:Nat->Int){x:Nat}(hx:x<k): vY (zW k f) (x:Int)=f x:=by
 unfold vY zW
 simp[List.getD,hx]
theorem z4M (k:Nat)(v:Int): List.replicate k v=zW k fun _=>v:=by
 apply QG
 intro i
 rw[zJW,List.getElem?_replicate]
theorem zNC{x k:Nat}{K:Int}(hK:K=(k:Int))(h:x<k): wV (decide (0≤(x:Int))&&decide ((x:Int)<K))=some ():=by
 subst hK
 simp[wV];omega
theorem z7B:∀ n,n<41->zM8 (IntKind.u64.wrap 1) (IntKind.u64.wrap ((n:Nat):Int))=some (0,(n:Int)):=by decide +kernel
theorem z2l{n c:Nat}(x:Int)(hc:c≤n): zJf (zW n fun i=>if i<c then x else 0) (c:Int) (zW c fun i=>if i<c then x else 0)=zW n fun i=>if i<min (c+c) n then x else 0:=by
 unfold zJf
 apply QG
 intro i
 rw[Ql,zHB,zHB,z1A _ hc]
 rw[List.getElem?_append,List.getElem?_append,Qh,zHB,QL,zHB,Ub,Wq]
 rw[zJW,zJW,zJW,zJW]
 by_cases h1:i<c
 ·have h2:i<c+min (n-c) c:=by omega
  have h3:i<n:=by omega
  have h4:i<min (c+c) n:=by omega
  simp only[h1,h2,h3,h4,Qc]
 ·by_cases h2:i<c+min (n-c) c
  ·have h3:i<n:=by omega
   have h4:i<min (c+c) n:=by omega
   have h5:i-c<n-c:=by omega
   have h6:i-c<c:=by omega
   simp only[h1,h2,h3,h4,h5,h6,Qc,Qb]
  ·by_cases h3:i<n
   ·have h4:c+c+(i-(c+min (n-c) c))=i:=by omega
    have h5:¬ i<min (c+c) n:=by omega
    rw[h4]
    simp only[h1,h2,h3,h5,Qc,Qb]
   ·have h4:¬ c+c+(i-(c+min (n-c) c))<n:=by omega
    simp only[h1,h2,h3,h4,Qb]
theorem zY8 (x:Int){n:Nat}(hn:n≤40): zCp [x] (n:Int)=some (zW n fun _=>x):=by
 unfold zCp
 have h0:decide ((n:Int)<0)=false:=Un (by omega)
 have h1:IntKind.u64.wrap (len [x])=IntKind.u64.wrap 1:=rfl
 have h2:(decide ((0:Int)<0)||decide (9223372036854775807<(n:Int)))=false:=by simp;omega
 simp only[h0,zbf,Qb,zob,h1,z7B n (by omega),h2,z5t n (by omega)]
 rw[z6V (by omega)]
 simp only[zob,zHB]
 have hs:zJf (zW n fun _=>(0:Int)) 0 [x]=zW n fun i=>if i<min 1 n then x else 0:=by
  cases n with
  | zero=>rfl
  | succ n =>
   unfold zJf zW
   rw[List.range_succ_eq_map]
   simp only[Ua,List.map_map]
   have h4:min 1 (n+1)=1:=by omega
   simp[Function.comp_def,h4]
 rw[hs]
 have hm:((Nat.min (List.length [x]) n:Nat):Int)=((min 1 n:Nat):Int):=rfl
 rw[hm]
 have hl:=zTD (B:=zHb (zW n fun _=>0)) (fun s=>n-s.2.toNat) (fun s=>∃ c:Nat,c≤n∧min 1 n≤c∧s=(zW n (fun i=>if i<c then x else 0),(c:Int))) (fun r=>r=zW n fun _=>x) ?_ (zW n (fun i=>if i<min 1 n then x else 0),((min 1 n:Nat):Int)) ⟨min 1 n,by omega,Qr _,rfl⟩
 ·obtain⟨r,h3,rfl⟩:=hl
  exact h3
 ·rintro _ ⟨c,hc,h1c,rfl⟩
  unfold zHb
  by_cases hlt:c<n
  ·refine .inl ⟨(zW n (fun i=>if i<min (c+c) n then x else 0),((min (c+c) n:Nat):Int)),?_,⟨min (c+c) n,by omega,by omega,rfl⟩,?_⟩
   ·have hd:decide ((c:Int)<len (zW n fun _=>(0:Int)))=true:=QO (by simp only[len,zHB];omega)
    have hck:(decide (0≤(c:Int))&&decide ((c:Int)≤len (zW n fun i=>if i<c then x else 0)))=true:=by
     rw[QO (show 0≤(c:Int) by omega),QO (show(c:Int)≤len (zW n fun i=>if i<c then x else 0) by simp only[len,zHB];omega)]
     rfl
    simp only[hd,Qc,hck,wV,zob]
    rw[zSN (by omega) (by rw[zHB];omega)]
    simp only[zob,Ql,z1A _ hc,z2l x hc,zHB]
    have hnum:((Nat.min c (Int.toNat (((n:Nat):Int)-(c:Int))):Nat):Int)=((min c (n-c):Nat):Int):=by
     have:Int.toNat (((n:Nat):Int)-(c:Int))=n-c:=by omega
     rw[this]
    rw[hnum,uL (by omega) (by omega)]
    congr 3
    omega
   ·simp only[Ql]
    omega
  ·have hcn:c=n:=by omega
   subst hcn
   have hd:decide ((c:Int)<len (zW c fun _=>(0:Int)))=false:=by simp[len,zHB]
   refine .inr ⟨zW c fun i=>if i<c then x else 0,by simp only[hd,zbf,Qb],?_⟩
   apply zBq
   intro i hi
   simp[hi]
section
variable (N:Nat)(L:List qA)
noncomputable def rnk:Nat->Nat->Int
 | 0,_=>0
 | k+1,i=>if qV N L (k+1) i=qV N L k i then rnk k i else((k+1:Nat):Int)
theorem zPm (k i:Nat): qV N L k i=1∨qV N L k i=2∨qV N L k i=3:=by
 unfold qV
 by_cases h1:xC N L k i
 ·simp[h1]
 ·by_cases h2:att (vT L) (xC N L k) i <;> simp[h1,h2]
theorem now3{k i:Nat}(h:tQ N L k i): qV N L k i=3:=(lab3 N L).2 ⟨h.2,fun⟨m,h3,h4⟩=>zUG N L h3 (h.1.2 m h4)⟩
theorem z7N{k i:Nat}(h:qV N L k i=2): qV N L (k+1) i=2:=(zXv N L).2 (by obtain⟨m,h1,h2⟩:=(zXv N L).1 h;exact⟨m,zQI h1,h2⟩)
theorem zZW{k:Nat}(h:∀ i,¬ tQ N L k i): ∀ m,k≤m->∀ i,qV N L m i=qV N L k i:=by
 intro m hm i
 have hs:=z6F (D:=(· < N)) (R:=vT L) (k:=k) fun i hi=>Classical.byContradiction fun hn=>h i ⟨hi,hn⟩
 have he:∀ i,xC N L m i↔xC N L k i:=fun i=>⟨hs m hm i,gr_le hm⟩
 unfold qV
 have ha:att (vT L) (xC N L m) i↔att (vT L) (xC N L k) i:=⟨fun⟨j,h1,h2⟩=>⟨j,(he j).1 h1,h2⟩,fun⟨j,h1,h2⟩=>⟨j,(he j).2 h1,h2⟩⟩
 by_cases h1:xC N L k i
 ·rw[Qu ((he i).2 h1),Qu h1]
 ·rw[Qq (fun h=>h1 ((he i).1 h)),Qq h1]
  by_cases h2:att (vT L) (xC N L k) i
  ·rw[Qu (ha.2 h2),Qu h2]
  ·rw[Qq (fun h=>h2 (ha.1 h)),Qq h2]
theorem rnk_end{k:Nat}(h:∀ i,¬ tQ N L k i): ∀ m,k≤m->∀ i,rnk N L m i=rnk N L k i:=by
 intro m hm i
 induction m with
 | zero=>rw[show k=0 by omega]
 | succ m ih =>
  by_cases he:k=m+1
  ·rw[he]
  ·have h1:qV N L (m+1) i=qV N L m i:=by rw[zZW N L h (m+1) hm,zZW N L h m (by omega)]
   rw[rnk,Qu h1,ih (by omega)]
theorem zWA{i:Nat}: ¬ tQ N L N i:=fun h=>h.2 (gr_last (D:=(· < N)) (fun _ h=>h) h.1)
end
section
variable {N:Nat}{L:List qA}
noncomputable abbrev lb (N:Nat)(L:List qA)(k:Nat): List Int:=zW N (qV N L k)
noncomputable abbrev rn (N:Nat)(L:List qA)(k:Nat): List Int:=zW N (rnk N L k)
noncomputable def zRJ (N:Nat)(L:List qA): List Int:=lb N L (N+1)
noncomputable def grRnk (N:Nat)(L:List qA): List Int:=rn N L (N+1)
theorem z3E:lb N L 0=zW N fun _=>3:=zBq fun i _=>(lab3 N L).2 ⟨fun h:xC N L 0 i=>h.elim,fun⟨m,(h:xC N L 0 m),_⟩=>h.elim⟩
theorem z9x{k:Nat}(hk:k≤N)(h:∀ i,¬ tQ N L k i): lb N L k=zRJ N L∧rn N L k=grRnk N L:=by
 refine⟨zBq fun i _=>(zZW N L h (N+1) (by omega) i).symm,zBq fun i _=>(rnk_end N L h (N+1) (by omega) i).symm⟩
theorem vC.hR (h:vC N L): ∀ a b:Int,ed L a b=true->∃ m,m<N∧a=(m:Int):=fun a b he=>by
 obtain⟨i,j,h1,_,h3,_⟩:=h.inN a b he
 exact⟨i,h1,h3⟩
theorem pred_at{i:Int}{q:Nat}{x:Int}(h:(yB N L i)[q]?=some x): ∃ a:Nat,x=(a:Int)∧a<N∧ed L (a:Int) i=true:=by
 obtain⟨h1,h2⟩:=Qk.1 (wF h)
 obtain⟨h3,h4⟩:=xO.1 h1
 obtain⟨a,rfl⟩:=Qw h3
 exact⟨a,rfl,by omega,h2⟩
theorem zZ2 (i:Int): (yB N L i).length≤N:=QD (QH _ _) (by rw[zGJ];exact Qr _)
theorem z4G (i:Int): (zOS N L i).length≤N:=QD (QH _ _) (by rw[zGJ];exact Qr _)
open Classical in
noncomputable def z1Q (N:Nat)(L:List qA)(k i:Nat): Int:=if tQ N L k i then 1 else qV N L k i
open Classical in
noncomputable def z9i (N:Nat)(L:List qA)(k i:Nat): Int:=if tQ N L k i then((k+1:Nat):Int) else rnk N L k i
end
end
section
section
variable {N:Nat}{L:List qA}
theorem pred_eq (h:vC N L)(i:Int): (L.filter fun p=>p.2==i).map (·.1)=yB N L i:=by
 apply vX.ext zE9 ?_ ((zKf N).filter _)
 ·intro x
  rw[Qj,Qk,xO,zWp]
  constructor
  ·rintro ⟨p,hp,rfl⟩
   obtain⟨h1,h2⟩:=Qk.1 hp
   have h3:p.2=i:=by simpa using h2
   obtain⟨a,b,h4,h5,h6⟩:=zKw (h.inr p h1)
   subst h6
   exact⟨⟨by show(0:Int)≤(a:Int);omega,by show(a:Int)<(N:Int);omega⟩,by rw[←h3];exact h1⟩
  ·rintro ⟨_,h1⟩
   exact⟨_,Qk.2 ⟨h1,by simp⟩,rfl⟩
 ·have h1:=h.asc.filter fun p:qA=>p.2==i
  rw[vX,UA]
  refine List.Pairwise.imp_of_mem ?_ h1
  intro p q hp hq hlt
  have h2:p.2=i:=by simpa using (Qk.1 hp).2
  have h3:q.2=i:=by simpa using (Qk.1 hq).2
  simp only[tR,z4j,h2,h3,zE9.irrefl,U9,U0] at hlt
  exact hlt
def qW (N:Nat)(L:List qA)(f:Nat->Int)(j:Nat): Nat:=((yB N L (j:Int)).filter fun b=>!(f b.toNat==2)).length
theorem cnt_le (f:Nat->Int)(j:Nat): qW N L f j≤N:=QD (QH _ _) (zZ2 _)
theorem z3x{f:Nat->Int}{j:Nat}: qW N L f j=0↔∀ b,b<N->vT L b j->f b=2:=by
 unfold qW
 rw[List.length_eq_zero_iff,List.filter_eq_nil_iff]
 constructor
 ·intro h b hb he
  have:=h (b:Int) (Qk.2 ⟨xO.2 ⟨by omega,by omega⟩,he⟩)
  simpa using this
 ·intro h x hx
  obtain⟨h1,h2⟩:=Qk.1 hx
  obtain⟨h3,h4⟩:=xO.1 h1
  obtain⟨a,rfl⟩:=Qw h3
  simp[h a (by omega) h2]
theorem zYv{α:Type}[DecidableEq α]{p q:α->Bool}{x:α}: ∀ {l:List α},l.Nodup->x∈l->p x=true->q x=false->(∀ y∈l,y≠x->p y=q y)->(l.filter p).length=(l.filter q).length+1
 | [],_,hx,_,_,_=>by cases hx
 | y::l,hn,hx,h1,h2,h3=>by
  obtain⟨hy,hl⟩:=UC.1 hn
  by_cases he:y=x
  ·subst he
   have:l.filter p=l.filter q:=Uz fun z hz=>h3 z (Qi _ hz) fun e=>by subst e;exact hy hz
   simp[h1,h2,this]
  ·have hm:x∈l:=by
    rcases Qv.1 hx with h | h
    ·exact absurd h.symm he
    ·exact h
   have ih:=zYv hl hm h1 h2 fun z hz=>h3 z (Qi _ hz)
   have hpq:=h3 y Qm he
   cases hq:q y with
   | true=>simp[hpq,hq,ih]
   | false=>simp[hpq,hq,ih]
theorem cnt_out{f:Nat->Int}{a:Nat}(ha:a<N)(h3:f a=3)(j:Nat):
  qW N L f j=qW N L (fun b=>if b=a then 2 else f b) j+(if ed L (a:Int) (j:Int)=true then 1 else 0):=by
 unfold qW
 by_cases he:ed L (a:Int) (j:Int)=true
 ·rw[Qu he]
  refine zYv (x:=(a:Int)) ?_ (Qk.2 ⟨xO.2 ⟨by omega,by omega⟩,he⟩) (by simp[h3]) (by simp) ?_
  ·exact((zKf N).filter _).imp fun {x y} hh e=>by subst e;simp at hh
  ·intro y hy hne
   obtain⟨h1,h2⟩:=Qk.1 hy
   obtain⟨h4,h5⟩:=xO.1 h1
   obtain⟨b,rfl⟩:=Qw h4
   have h6:b≠a:=fun e=>hne (by rw[e])
   simp[h6]
 ·rw[Qq he,Q4]
  congr 1
  apply Uz
  intro x hx
  obtain⟨h1,h2⟩:=Qk.1 hx
  obtain⟨h4,h5⟩:=xO.1 h1
  obtain⟨b,rfl⟩:=Qw h4
  have hne:b≠a:=fun e=>by subst e;exact he h2
  simp[hne]
theorem zWB{k b:Nat}: z1Q N L k b=2↔qV N L k b=2:=by
 unfold z1Q
 by_cases h:tQ N L k b
 ·have:=now3 N L h
  simp[h,this]
 ·rw[Qq h]
theorem zWM{f f':Nat->Int}(h:∀ b,b<N->(f b=2↔f' b=2))(j:Nat): qW N L f j=qW N L f' j:=by
 unfold qW
 congr 1
 apply Uz
 intro x hx
 obtain⟨h4,h5⟩:=xO.1 (Qk.1 hx).1
 obtain⟨b,rfl⟩:=Qw h4
 have h1:=h b (by omega)
 rw[Ql,QV]
 simp[h1]
theorem zXZ (h:vC N L){k j:Nat}(hj:j<N): (qV N L k j=3∧qW N L (qV N L k) j=0)↔tQ N L k j:=by
 rw[z3x,now_iff N L hj h.hR]
structure Nxt (N:Nat)(L:List qA)(f:Nat->Int)(nx:List Int): Prop where
 nd:nx.Nodup
 rg:∀ x∈nx,0≤x∧x<N
 mem:∀ j:Nat,(j:Int)∈nx↔j<N∧f j=3∧qW N L f j=0
theorem z3w{nx:List Int}(h1:nx.Nodup)(h2:∀ x∈nx,0≤x∧x<(N:Int)): nx.length≤N:=by
 have:=zS9 (m:=qS N) h1 fun x hx=>xO.2 (h2 x hx)
 rwa [zGJ] at this
theorem z7I{i:Int}{q:Nat}{x:Int}(h:(zOS N L i)[q]?=some x): ∃ a:Nat,x=(a:Int)∧a<N∧ed L i (a:Int)=true:=by
 obtain⟨h1,h2⟩:=Qk.1 (wF h)
 obtain⟨h3,h4⟩:=xO.1 h1
 obtain⟨a,rfl⟩:=Qw h3
 exact⟨a,rfl,by omega,h2⟩
theorem z4Z (i:Int): (zOS N L i).Nodup:=((zKf N).filter _).imp fun {x y} hh e=>by subst e;simp at hh
theorem z4D{i:Int}{j:Nat}(hj:j<N): (j:Int)∈zOS N L i↔ed L i (j:Int)=true:=by
 rw[Qk,xO]
 exact⟨fun h=>h.2,fun h=>⟨⟨by omega,by omega⟩,h⟩⟩
theorem z8r{α:Type}{l:List α}(hn:l.Nodup){i:Nat}{x:α}(hx:l[i]?=some x): x∉l.take i:=by
 intro hm
 obtain⟨j,hj⟩:=List.getElem?_of_mem hm
 rw[Ub] at hj
 split at hj
 ·rename_i hji
  obtain⟨h1,h2⟩:=Qg.1 hj
  obtain⟨h3,h4⟩:=Qg.1 hx
  have:=(List.getElem_inj hn).1 (h2.trans h4.symm)
  omega
 ·cases hj
theorem grp_L7 (h:vC N L){f:Nat->Int}(l2:List Int){a:Nat}(ha:a<N)(h3:f a=3)(hca:qW N L f a≠0)(q:Int)(s6:List Int×List Int×List Int×Int×List Int){nx:List Int}(hnx:Nxt N L f nx)(hq:0≤q∧q<1000):
  ∃ nx',Nxt N L (fun b=>if b=a then 2 else f b) nx' ∧
   zN (zE4 (zOS N L (a:Int)) (zW N f,l2,nx,q,zW 40 fun j=>(qW N L f j:Int)) (a:Int) s6) (nx,0,zW 40 fun j=>(qW N L f j:Int)) =
    some (.inl (zW N (fun b=>if b=a then 2 else f b),List.set l2 a s6.2.2.2.1,nx',q+1,zW 40 fun j=>(qW N L (fun b=>if b=a then 2 else f b) j:Int))):=by
 have hN:=h.hN
 let f':Nat->Int:=fun b=>if b=a then 2 else f b
 let o (t j:Nat):Nat:=qW N L f' j+if ed L (a:Int) (j:Int)=true∧(j:Int)∉(zOS N L (a:Int)).take t then 1 else 0
 have ho0:∀ j,o 0 j=qW N L f j:=fun j=>by
  show qW N L f' j+_=_
  rw[cnt_out ha h3 j]
  simp[f']
 have hsl:=z4G (N:=N) (L:=L) (a:Int)
 have hl:=xS (B:=zE4 (zOS N L (a:Int)) (zW N f,l2,nx,q,zW 40 fun j=>(qW N L f j:Int)) (a:Int) s6) (fun t (s:List Int×List Int)=>(s.1,(t:Int),s.2)) (zOS N L (a:Int))
  (fun t s=>s.2=zW 40 (fun j=>(o t j:Int))∧s.1.Nodup∧(∀ x∈s.1,0≤x∧x<(N:Int))∧∀ j:Nat,(j:Int)∈s.1↔j<N∧f' j=3∧o t j=0)
  (fun r=>∃ nx',Nxt N L f' nx'∧r=.inl (zW N f',List.set l2 a s6.2.2.2.1,nx',q+1,zW 40 fun j=>(qW N L f' j:Int))) ?_ ?_ (nx,zW 40 fun j=>(qW N L f j:Int)) ?_
 ·obtain⟨r,h1,nx',h2,rfl⟩:=hl
  exact⟨nx',h2,h1⟩
 ·rintro t x ⟨n1,op⟩ hx ⟨hop,hnd,hrg,hmem⟩
  simp only at hop hnd hrg hmem
  subst hop
  obtain⟨j0,rfl,hj0,he⟩:=z7I hx
  have hnot:=z8r (z4Z (N:=N) (L:=L) (a:Int)) hx
  have hn1:=z3w hnd hrg
  have ho1:o t j0=qW N L f' j0+1:=by
   show qW N L f' j0+_=_
   rw[Qu ⟨he,hnot⟩]
  have ho2:o (t+1) j0=qW N L f' j0:=by
   show qW N L f' j0+_=_
   rw[Qq (fun hh=>hh.2 (by rw[xY hx];simp)),Q4]
  have ho3:∀ j,j≠j0->o (t+1) j=o t j:=fun j hj=>by
   show qW N L f' j+_=qW N L f' j+_
   congr 1
   have:(j:Int)∉(zOS N L (a:Int)).take (t+1)↔(j:Int)∉(zOS N L (a:Int)).take t:=by
    rw[xY hx,Qd,Qa]
    have:¬ (j:Int)=(j0:Int):=by omega
    simp[this]
   simp only[this]
  have hc0:=cnt_le (N:=N) (L:=L) f' j0
  have hnew:xZ 40 (zW 40 fun j=>(o t j:Int)) (j0:Int) (zM ((vY (zW 40 fun j=>(o t j:Int)) (j0:Int))-1))=zW 40 fun j=>(o (t+1) j:Int):=by
   rw[zQM _ _ (by omega),zXc _ _ (by omega),uL (by omega) (by omega)]
   apply zBq
   intro j _
   by_cases hj:j=j0
   ·subst hj;rw[Qu rfl,ho1,ho2];omega
   ·rw[Qq hj,ho3 j hj]
  have hset:List.set (zW N f) (Int.toNat (a:Int)) 2=zW N f':=by rw[Ql,zS4]
  unfold zE4
  simp only[qY hx,Qc,qM hx,zob,zNC (show(40:Int)=((40:Nat):Int) from rfl) (show j0<40 by omega),hnew,zQM 40 (fun j=>(o (t+1) j:Int)) (show j0<40 by omega),hset,zQw f' hj0,qR hx (show(zOS N L (a:Int)).length<4294967296 by omega),ho2]
  cases hz:(((qW N L f' j0:Nat):Int)==0)&&(f' j0==3) with
  | true =>
   rw[Qo,Ue,Ue] at hz
   have hnin:(j0:Int)∉n1:=fun hm=>by have:=((hmem j0).1 hm).2.2;omega
   refine .inl ⟨(n1++[(j0:Int)],zW 40 fun j=>(o (t+1) j:Int)),?_,rfl,?_,?_,?_⟩
   ·simp only[hz.1,hz.2,Uv,Qc,zob]
    rw[wS (by simp;omega)]
    rfl
   ·rw[QK]
    exact⟨hnd,by simp,fun x hx y hy e=>by rw[Qa] at hy;subst hy;subst e;exact hnin hx⟩
   ·intro x hx
    rcases Qd.1 hx with hx | hx
    ·exact hrg x hx
    ·rw[Qa] at hx;subst hx;omega
   ·intro j
    rw[Qd,Qa]
    by_cases hj:j=j0
    ·subst hj
     exact⟨fun _=>⟨hj0,hz.2,by rw[ho2];omega⟩,fun _=>.inr rfl⟩
    ·rw[ho3 j hj,hmem j]
     exact⟨fun hh=>hh.elim id fun e=>absurd (by omega) hj,.inl⟩
  | false =>
   refine .inl ⟨(n1,zW 40 fun j=>(o (t+1) j:Int)),?_,rfl,hnd,hrg,?_⟩
   ·cases h1:(((qW N L f' j0:Nat):Int)==0) with
    | false=>simp only[zbf,Qb,zob]
    | true =>
     rw[h1,Ux] at hz
     simp only[Qc,zob,hz,zbf,Qb]
   ·intro j
    by_cases hj:j=j0
    ·subst hj
     rw[hmem j,ho1,ho2]
     constructor
     ·rintro ⟨_,_,h0⟩;omega
     ·rintro ⟨_,h1,h0⟩
      rw[h0,h1] at hz
      simp at hz
    ·rw[ho3 j hj,hmem j]
 ·rintro ⟨n1,op⟩ ⟨hop,hnd,hrg,hmem⟩
  simp only at hop hnd hrg hmem
  subst hop
  have hoe:∀ j,j<40->o (zOS N L (a:Int)).length j=qW N L f' j:=fun j _=>by
   show qW N L f' j+_=_
   rw[QU,Qq]
   ·rfl
   ·rintro ⟨h1,h2⟩
    obtain⟨x,y,_,h4,_,h6⟩:=h.inN _ _ h1
    exact h2 ((z4D (by omega)).2 h1)
  refine⟨_,?_,n1,⟨hnd,hrg,fun j=>?_⟩,rfl⟩
  ·unfold zE4
   have hset:List.set (zW N f) a 2=zW N f':=zS4 f 2
   have hm:(zW 40 fun j=>(o (zOS N L (a:Int)).length j:Int))=zW 40 fun j=>(qW N L f' j:Int):=zBq fun j hj=>by rw[hoe j hj]
   simp only[uU,zbf,Qb,Ql,hset,hm]
   rw[uL (by omega) (by omega)]
  ·rw[hmem j]
   constructor
   ·rintro ⟨h1,h2,h4⟩;exact⟨h1,h2,by rw[hoe j (by omega)] at h4;exact h4⟩
   ·rintro ⟨h1,h2,h4⟩;exact⟨h1,h2,by rw[hoe j (by omega)];exact h4⟩
 ·refine⟨?_,hnx.nd,hnx.rg,fun j=>?_⟩
  ·show(zW 40 fun j=>(qW N L f j:Int))=_
   exact zBq fun j _=>by rw[ho0]
  ·show(j:Int)∈nx↔_
   rw[hnx.mem j,ho0]
   show _↔j<N∧(if j=a then 2 else f j)=3∧qW N L f j=0
   by_cases hj:j=a
   ·subst hj
    rw[Qu rfl]
    exact⟨fun hh=>absurd hh.2.2 hca,fun hh=>absurd hh.2.2 hca⟩
   ·rw[Qq hj]
structure Mid (N:Nat)(L:List qA)(k:Nat)(f g:Nat->Int)(nx:List Int): Prop where
 v:∀ j,j<N->f j=1∨f j=2∨f j=3
 one:∀ j,j<N->(f j=1↔qV N L (k+1) j=1)
 two:∀ j,j<N->f j=2->qV N L (k+1) j=2
 old:∀ j,j<N->qV N L k j=2->f j=2
 rk:∀ j,j<N->g j=if f j=qV N L k j then rnk N L k j else((k+1:Nat):Int)
 nx:Nxt N L f nx
theorem grp_L6 (h:vC N L){k:Nat}(hk:k≤100){i:Nat}(hi:tQ N L k i)(s6:List Int×List Int×List Int×Int×List Int)(hs6:s6.2.2.2.1=((k+1:Nat):Int))(D:Nat->Prop)
  {f g:Nat->Int} {nx:List Int} (hM:Mid N L k f g nx) (hD:∀ j,D j->f j≠3) (q:Nat) (hq:q<1000) (z1 z2 z3 z5:List Int) :
  ∃ f' g' nx',Mid N L k f' g' nx'∧(∀ j,j<N->D j∨vT L i j->f' j≠3) ∧
   zN (zCV (zOS N L (i:Int)) ((N:Int),L) s6 (z1,z2,z3,(q:Int),z5)) (zW N f,zW N g,nx,0,zW 40 fun j=>(qW N L f j:Int)) =
    some (.inl (zW N f',zW N g',nx',((q+1:Nat):Int),zW 40 fun j=>(qW N L f' j:Int))):=by
 have hN:=h.hN
 have hsl:=z4G (N:=N) (L:=L) (i:Int)
 have hl:=xS (B:=zCV (zOS N L (i:Int)) ((N:Int),L) s6 (z1,z2,z3,(q:Int),z5)) (fun t (s:List Int×List Int×List Int×List Int)=>(s.1,s.2.1,s.2.2.1,(t:Int),s.2.2.2)) (zOS N L (i:Int))
  (fun t s=>∃ f' g' nx',Mid N L k f' g' nx'∧(∀ j,j<N->D j∨(j:Int)∈(zOS N L (i:Int)).take t->f' j≠3)∧s=(zW N f',zW N g',nx',zW 40 fun j=>(qW N L f' j:Int)))
  (fun r=>∃ f' g' nx',Mid N L k f' g' nx'∧(∀ j,j<N->D j∨vT L i j->f' j≠3)∧r=.inl (zW N f',zW N g',nx',((q+1:Nat):Int),zW 40 fun j=>(qW N L f' j:Int))) ?_ ?_ (zW N f,zW N g,nx,zW 40 fun j=>(qW N L f j:Int)) ⟨f,g,nx,hM,fun j _ hj=>by simp at hj;exact hD j hj,rfl⟩
 ·obtain⟨r,h1,f',g',nx',h2,h3,rfl⟩:=hl
  exact⟨f',g',nx',h2,h3,h1⟩
 ·rintro t x _ hx ⟨f',g',nx',hM',hD',rfl⟩
  obtain⟨a,rfl,ha,he⟩:=z7I hx
  by_cases h3:f' a=3
  ·have hb:(f' a != 3)=false:=by simp[h3]
   have hfi:f' i=1:=(hM'.one i (zYe (D:=(· < N)) hi.1)).2 ((lab1 N L).2 hi.1)
   have hca:qW N L f' a≠0:=fun h0=>by have:=z3x.1 h0 i (zYe (D:=(· < N)) hi.1) he;omega
   have ht:t<1000:=by have:=vV hx;omega
   obtain⟨n2,hn2,h7⟩:=grp_L7 h (zW N g') ha h3 hca (t:Int) s6 hM'.nx ⟨by omega,by omega⟩
   have hla:qV N L k a≠2:=fun e=>by have:=hM'.old a ha e;omega
   refine .inl ⟨(zW N (fun b=>if b=a then 2 else f' b),zW N (fun b=>if b=a then((k+1:Nat):Int) else g' b),n2,zW 40 fun j=>(qW N L (fun b=>if b=a then 2 else f' b) j:Int)),?_,_,_,n2,⟨?_,?_,?_,?_,?_,hn2⟩,?_,rfl⟩
   ·unfold zCV
    simp only[qY hx,Qc,qM hx,zob,zQw _ ha,hb,zbf,Qb,zN9 h]
    rw[h7,hs6,zS4]
    rfl
   ·intro j hj
    by_cases e:j=a
    ·simp[e]
    ·simpa [e] using hM'.v j hj
   ·intro j hj
    by_cases e:j=a
    ·subst e
     have h1:=hM'.one j hj
     rw[h3] at h1
     simp only[Qc]
     constructor
     ·intro h2;cases h2
     ·intro h2;have:=h1.2 h2;omega
    ·simpa [e] using hM'.one j hj
   ·intro j hj
    by_cases e:j=a
    ·subst e
     intro _
     exact(zXv N L).2 ⟨i,hi.1,he⟩
    ·simpa [e] using hM'.two j hj
   ·intro j hj hj2
    by_cases e:j=a
    ·subst e;exact absurd hj2 hla
    ·simpa [e] using hM'.old j hj hj2
   ·intro j hj
    by_cases e:j=a
    ·subst e
     rw[Qu rfl,Qu rfl,Qq (fun e2=>hla e2.symm)]
    ·simpa [e] using hM'.rk j hj
   ·intro j hj hjd
    by_cases e:j=a
    ·simp[e]
    ·simp only[e,Qb]
     refine hD' j hj (hjd.imp id fun hm=>?_)
     rw[xY hx,Qd,Qa] at hm
     exact hm.resolve_right (by omega)
  ·have hb:(f' a != 3)=true:=by simp[h3]
   refine .inl ⟨(zW N f',zW N g',nx',zW 40 fun j=>(qW N L f' j:Int)),?_,f',g',nx',hM',?_,rfl⟩
   ·unfold zCV
    simp only[qY hx,Qc,qM hx,zob,zQw _ ha,hb,qR hx (show(zOS N L (i:Int)).length<4294967296 by omega)]
   ·intro j hj hjd
    by_cases e:j=a
    ·subst e;exact h3
    ·refine hD' j hj (hjd.imp id fun hm=>?_)
     rw[xY hx,Qd,Qa] at hm
     exact hm.resolve_right (by omega)
 ·rintro _ ⟨f',g',nx',hM',hD',rfl⟩
  refine⟨_,?_,f',g',nx',hM',fun j hj hjd=>hD' j hj (hjd.imp id fun he=>?_),rfl⟩
  ·unfold zCV
   simp only[uU,zbf,Qb,vN q (by omega)]
  ·rw[QU]
   exact(z4D hj).2 he
structure zQG (N:Nat)(L:List qA)(k:Nat)(Q:List Int): Prop where
 nd:Q.Nodup
 rg:∀ x∈Q,0≤x∧x<N
 mem:∀ j:Nat,(j:Int)∈Q↔tQ N L k j
theorem z6E (h:vC N L)(k:Nat): Mid N L k (z1Q N L k) (z9i N L k) []:=by
 have h1:∀ j,z1Q N L k j=1↔qV N L (k+1) j=1:=fun j=>by
  rw[lab1 N L]
  unfold z1Q
  by_cases hn:tQ N L k j
  ·simp[hn,hn.1]
  ·rw[Qq hn,lab1 N L]
   exact⟨fun hg=>zQI hg,fun hg=>Classical.byContradiction fun hc=>hn ⟨hg,hc⟩⟩
 refine⟨fun j _=>?_,fun j _=>h1 j,fun j _ h2=>z7N N L (zWB.1 h2),fun j _ h2=>zWB.2 h2,fun j _=>?_,⟨Wa,(fun x hx=>by cases hx),fun j=>?_⟩⟩
 ·unfold z1Q
  by_cases hn:tQ N L k j
  ·simp[hn]
  ·rw[Qq hn];exact zPm N L k j
 ·unfold z1Q z9i
  by_cases hn:tQ N L k j
  ·have:=now3 N L hn
   simp[hn,this]
  ·simp[hn]
 ·constructor
  ·intro hm;cases hm
  ·rintro ⟨hj,h3,h0⟩
   exfalso
   have hc:qW N L (z1Q N L k) j=qW N L (qV N L k) j:=zWM (fun b _=>zWB) j
   rw[hc] at h0
   by_cases hn:tQ N L k j
   ·unfold z1Q at h3;rw[Qu hn] at h3;cases h3
   ·unfold z1Q at h3;rw[Qq hn] at h3
    exact hn ((zXZ h hj).1 ⟨h3,h0⟩)
theorem grp_L5 (h:vC N L){k:Nat}(hk:k≤100){Q:List Int}(hQ:zQG N L k Q)(z1 z2 z5:List Int):
  ∃ Q',zQG N L (k+1) Q'∧zN (zCs (z1,z2,Q,((k+1:Nat):Int),z5) ((N:Int),L)) (zW N (z1Q N L k),zW N (z9i N L k),([]:List Int),0,zW 40 fun j=>(qW N L (qV N L k) j:Int)) =
   some (.inl (lb N L (k+1),rn N L (k+1),Q',((k+2:Nat):Int),zW 40 fun j=>(qW N L (qV N L (k+1)) j:Int))):=by
 have hN:=h.hN
 have hql:=z3w hQ.nd hQ.rg
 have hl:=xS (B:=zCs (z1,z2,Q,((k+1:Nat):Int),z5) ((N:Int),L)) (fun t (s:List Int×List Int×List Int×List Int)=>(s.1,s.2.1,s.2.2.1,(t:Int),s.2.2.2)) Q
  (fun t s=>∃ f' g' nx',Mid N L k f' g' nx'∧(∀ j,j<N->(∃ i:Nat,(i:Int)∈Q.take t∧vT L i j)->f' j≠3)∧s=(zW N f',zW N g',nx',zW 40 fun j=>(qW N L f' j:Int)))
  (fun r=>∃ Q',zQG N L (k+1) Q'∧r=.inl (lb N L (k+1),rn N L (k+1),Q',((k+2:Nat):Int),zW 40 fun j=>(qW N L (qV N L (k+1)) j:Int))) ?_ ?_ (zW N (z1Q N L k),zW N (z9i N L k),[],zW 40 fun j=>(qW N L (qV N L k) j:Int)) ?_
 ·obtain⟨r,h1,Q',h2,rfl⟩:=hl
  exact⟨Q',h2,h1⟩
 ·rintro t x _ hx ⟨f',g',nx',hM,hD,rfl⟩
  have ht:=vV hx
  obtain⟨h0,h1⟩:=hQ.rg x (wF hx)
  obtain⟨i,rfl⟩:=Qw h0
  have hi:=(hQ.mem i).1 (wF hx)
  obtain⟨f2,g2,n2,hM2,hD2,h6⟩:=grp_L6 h hk hi (z1,z2,Q,((k+1:Nat):Int),z5) rfl (fun j=>j<N∧∃ i:Nat,(i:Int)∈Q.take t∧vT L i j) hM (fun j hj=>hD j hj.1 hj.2) t (by omega) (zW N f') (zW N g') nx' (zW 40 fun j=>(qW N L f' j:Int))
  refine .inl ⟨(zW N f2,zW N g2,n2,zW 40 fun j=>(qW N L f2 j:Int)),?_,f2,g2,n2,hM2,?_,rfl⟩
  ·unfold zCs
   simp only[qY hx,Qc,qM hx,zob,zN9 h]
   rw[h6]
  ·rintro j hj ⟨i',hi',he⟩
   rw[xY hx,Qd,Qa] at hi'
   rcases hi' with hi' | hi'
   ·exact hD2 j hj (.inl ⟨hj,i',hi',he⟩)
   ·have:i'=i:=by omega
    subst this
    exact hD2 j hj (.inr he)
 ·rintro _ ⟨f',g',nx',hM,hD,rfl⟩
  rw[QU] at hD
  have hf:∀ j,j<N->f' j=qV N L (k+1) j:=fun j hj=>by
   rcases hM.v j hj with h1 | h1 | h1
   ·rw[h1,(hM.one j hj).1 h1]
   ·rw[h1,hM.two j hj h1]
   ·rcases zPm N L (k+1) j with h2 | h2 | h2
    ·have:=(hM.one j hj).2 h2;omega
    ·exfalso
     rw[z8l] at h2
     by_cases hn:tQ N L k j
     ·rw[Qu hn] at h2;cases h2
     ·rw[Qq hn] at h2
      by_cases hc:qV N L k j=3∧att (vT L) (tQ N L k) j
      ·obtain⟨m,h4,h5⟩:=hc.2
       exact hD j hj ⟨m,(hQ.mem m).2 h4,h5⟩ h1
      ·rw[Qq hc] at h2
       have:=hM.old j hj h2;omega
    ·rw[h1,h2]
  have hg:∀ j,j<N->g' j=rnk N L (k+1) j:=fun j hj=>by
   rw[hM.rk j hj,hf j hj,rnk]
  have hc:∀ j,qW N L f' j=qW N L (qV N L (k+1)) j:=zWM fun b hb=>by rw[hf b hb]
  refine⟨_,?_,nx',⟨hM.nx.nd,hM.nx.rg,fun j=>?_⟩,rfl⟩
  ·unfold zCs
   have e1:zW N f'=lb N L (k+1):=zBq hf
   have e2:zW N g'=rn N L (k+1):=zBq hg
   have e3:(zW 40 fun j=>(qW N L f' j:Int))=zW 40 fun j=>(qW N L (qV N L (k+1)) j:Int):=zBq fun j _=>by rw[hc]
   simp only[uU,zbf,Qb,e1,e2,e3,vN (k+1) (show k+1+1<9223372036854775808 by omega)]
  ·rw[hM.nx.mem j,hc j]
   constructor
   ·rintro ⟨h1,h2,h3⟩;rw[hf j h1] at h2;exact(zXZ h h1).1 ⟨h2,h3⟩
   ·intro hn
    have h1:j<N:=zYe (D:=(· < N)) hn.1
    obtain⟨h2,h3⟩:=(zXZ h h1).2 hn
    exact⟨h1,by rw[hf j h1];exact h2,h3⟩
 ·refine⟨z1Q N L k,z9i N L k,[],z6E h k,fun j _ hj=>by obtain⟨i,hi,_⟩:=hj;simp at hi,?_⟩
  have:(zW 40 fun j=>(qW N L (qV N L k) j:Int))=zW 40 fun j=>(qW N L (z1Q N L k) j:Int):=zBq fun j _=>by rw[zWM fun b _=>zWB]
  rw[this]
open Classical in
theorem grp_L4 (h:vC N L){k:Nat}{Q:List Int}(hQ:zQG N L k Q)(z1 z2 z5:List Int):
  zN (zE7 (z1,z2,Q,((k+1:Nat):Int),z5)) (lb N L k,rn N L k,0)=some (zW N (z1Q N L k),zW N (z9i N L k)):=by
 have hN:=h.hN
 have hql:=z3w hQ.nd hQ.rg
 have hl:=xS (B:=zE7 (z1,z2,Q,((k+1:Nat):Int),z5)) (fun t (s:List Int×List Int)=>(s.1,s.2,(t:Int))) Q
  (fun t s=>s=(zW N (fun j=>if(j:Int)∈Q.take t then 1 else qV N L k j),zW N (fun j=>if(j:Int)∈Q.take t then((k+1:Nat):Int) else rnk N L k j)))
  (fun r=>r=(zW N (z1Q N L k),zW N (z9i N L k))) ?_ ?_ (lb N L k,rn N L k) (by simp)
 ·obtain⟨r,h1,rfl⟩:=hl
  exact h1
 ·rintro t x _ hx rfl
  obtain⟨h0,h1⟩:=hQ.rg x (wF hx)
  obtain⟨i,rfl⟩:=Qw h0
  refine .inl ⟨_,?_,rfl⟩
  unfold zE7
  simp only[qY hx,Qc,qM hx,zob,zQw _ (show i<N by omega),Ql,zS4,qR hx (show Q.length<4294967296 by omega)]
  congr 3
  ·apply zBq
   intro j _
   rw[xY hx]
   by_cases e:j=i
   ·subst e;simp
   ·have:¬ (j:Int)=(i:Int):=by omega
    simp[e,this]
  ·congr 1
   apply zBq
   intro j _
   rw[xY hx]
   by_cases e:j=i
   ·subst e;simp
   ·have:¬ (j:Int)=(i:Int):=by omega
    simp[e,this]
 ·rintro _ rfl
  rw[QU]
  refine⟨_,?_,rfl⟩
  unfold zE7
  simp only[uU,zbf,Qb]
  have e1:(zW N fun j=>if(j:Int)∈Q then 1 else qV N L k j)=zW N (z1Q N L k):=zBq fun j _=>by simp only[hQ.mem j];rfl
  have e2:(zW N fun j=>if(j:Int)∈Q then((k+1:Nat):Int) else rnk N L k j)=zW N (z9i N L k):=zBq fun j _=>by simp only[hQ.mem j];rfl
  rw[e1,e2]
theorem grp_L1 (h:vC N L): zN (zE2 ((N:Int),L)) (0,List.replicate 40 (0:Int))=some (zW 40 fun j=>(qW N L (qV N L 0) j:Int)):=by
 have hN:=h.hN
 have hL:=h.len
 have hl:=xS (B:=zE2 ((N:Int),L)) (fun t (s:List Int)=>((t:Int),s)) L
  (fun t s=>s=zW 40 fun j=>(((L.take t).filter fun p=>p.2==(j:Int)).length:Int)) (fun r=>r=zW 40 fun j=>(qW N L (qV N L 0) j:Int)) ?_ ?_ (List.replicate 40 (0:Int)) (by rw[z4M];simp)
 ·obtain⟨r,h1,rfl⟩:=hl
  exact h1
 ·rintro t p _ hp rfl
  obtain⟨a,b,ha,hb,rfl⟩:=zKw (h.inr p (wF hp))
  have hle:((L.take t).filter fun p=>p.2==(b:Int)).length≤1600:=QD (QH _ _) (QD (List.length_take_le _ _) (by have:=vV hp;omega))
  refine .inl ⟨_,?_,rfl⟩
  unfold zE2
  simp only[qY hp,Qc,qM hp,zob,zNC (show(40:Int)=((40:Nat):Int) from rfl) (show b<40 by omega),qR hp h.len',zQM 40 _ (show b<40 by omega),zXc 40 _ (show b<40 by omega)]
  congr 3
  apply zBq
  intro j _
  rw[xY hp,Us,Qh]
  by_cases e:j=b
  ·subst e
   rw[Qu rfl,uL (by omega) (by omega)]
   simp
  ·have:¬ (b:Int)=(j:Int):=by omega
   simp[e,this]
 ·rintro _ rfl
  rw[QU]
  refine⟨_,?_,rfl⟩
  unfold zE2
  have e1:(zW 40 fun j=>((L.filter fun p=>p.2==(j:Int)).length:Int))=zW 40 fun j=>(qW N L (qV N L 0) j:Int):=zBq fun j _=>by
   have h1:(L.filter fun p=>p.2==(j:Int)).length=(yB N L (j:Int)).length:=by rw[←pred_eq h,Um]
   rw[h1]
   unfold qW
   rw[Wn.2]
   intro x hx
   obtain⟨q,hq⟩:=List.getElem?_of_mem hx
   obtain⟨a,rfl,ha,_⟩:=pred_at hq
   have:qV N L 0 a=3:=by
    have:=congrArg (fun l:List Int=>l[a]?) (z3E (N:=N) (L:=L))
    simpa [zJW,ha] using this
   simp[this]
  simp only[uU,zbf,Qb,e1]
theorem grp_L2 (h:vC N L): ∃ Q,zQG N L 0 Q∧zN (zEV ((N:Int),L) (zW 40 fun j=>(qW N L (qV N L 0) j:Int))) (([]:List Int),0)=some Q:=by
 have hN:=h.hN
 refine⟨(qS N).filter fun j=>qW N L (qV N L 0) j.toNat==0,⟨((zKf N).filter _).imp fun {x y} hh e=>by subst e;simp at hh,fun x hx=>xO.1 (Qk.1 hx).1,fun j=>?_⟩,?_⟩
 ·rw[Qk,xO,Ql,Ue]
  have h0:∀ j,j<N->qV N L 0 j=3:=fun j hj=>by
   have:=congrArg (fun l:List Int=>l[j]?) (z3E (N:=N) (L:=L))
   simpa [zJW,hj] using this
  constructor
  ·rintro ⟨h1,h2⟩
   exact(zXZ h (show j<N by omega)).1 ⟨h0 j (by omega),h2⟩
  ·intro hn
   have hj:j<N:=zYe (D:=(· < N)) hn.1
   exact⟨⟨by omega,by omega⟩,((zXZ h hj).2 hn).2⟩
 ·have hl:=zFJ (B:=zEV ((N:Int),L) (zW 40 fun j=>(qW N L (qV N L 0) j:Int))) (qS N) (fun s j=>if(qW N L (qV N L 0) j.toNat==0) then s++[j] else s) id (fun i s=>s.length≤i) ([]:List Int) (by simp) ?_ ?_
  ·have h2:=zHH (fun j:Int=>qW N L (qV N L 0) j.toNat==0) id (qS N) []
   simp only[id,List.map_id,QM] at h2
   rw[hl.1,h2];rfl
  ·intro i x s hx hI
   obtain⟨rfl,hi⟩:=zVA hx
   unfold zEV
   have hd:decide ((i:Int)<(N:Int))=true:=QO (by omega)
   simp only[hd,Qc,zNC (show(40:Int)=((40:Nat):Int) from rfl) (show i<40 by omega),zob,zQM 40 _ (show i<40 by omega),vN i (by omega),Ql]
   have hz:(((qW N L (qV N L 0) i:Nat):Int)==0)=(qW N L (qV N L 0) i==0):=by rw[QV,Ue,Ue];omega
   rw[hz]
   by_cases hc:(qW N L (qV N L 0) i==0)=true
   ·rw[Qu hc,Qu hc,wS (by simp;omega)]
    exact⟨rfl,by simp;omega⟩
   ·rw[Qq hc,Qq hc]
    exact⟨rfl,by omega⟩
  ·intro s _
   rw[zGJ]
   unfold zEV
   simp
theorem zXs (h:vC N L): zFG ((N:Int),L)=some (zRJ N L,grRnk N L):=by
 have hN:=h.hN
 unfold zFG
 simp only
 rw[zY8 3 hN,z6V (by omega)]
 simp only[zob]
 rw[grp_L1 h]
 simp only[zob]
 obtain⟨Q0,hQ0,h2⟩:=grp_L2 h
 rw[h2,←z3E (N:=N) (L:=L)]
 simp only[zob]
 have hstep:∀ k,k≤N->∀ Q,zQG N L k Q->(Q=[]∧zBu ((N:Int),L) (lb N L k,rn N L k,Q,((k+1:Nat):Int),zW 40 fun j=>(qW N L (qV N L k) j:Int))=some (.inr (lb N L k,rn N L k))) ∨
   ∃ Q',zQG N L (k+1) Q'∧zBu ((N:Int),L) (lb N L k,rn N L k,Q,((k+1:Nat):Int),zW 40 fun j=>(qW N L (qV N L k) j:Int))=some (.inl (lb N L (k+1),rn N L (k+1),Q',((k+2:Nat):Int),zW 40 fun j=>(qW N L (qV N L (k+1)) j:Int))):=by
  intro k hk Q hQ
  by_cases he:Q=[]
  ·subst he
   refine .inl ⟨rfl,?_⟩
   unfold zBu
   simp[len]
  ·obtain⟨Q',hQ',h5⟩:=grp_L5 h (k:=k) (by omega) hQ (lb N L k) (rn N L k) (zW 40 fun j=>(qW N L (qV N L k) j:Int))
   refine .inr ⟨Q',hQ',?_⟩
   have hd:decide (0<len Q)=true:=QO (by have:=Q5.2 he;simp only[len];omega)
   unfold zBu
   simp only[hd,Qc]
   rw[grp_L4 h hQ]
   simp only[zob]
   rw[h5]
 have hl:=z4s (B:=zBu ((N:Int),L)) (fun(Q:List Int) k=>(lb N L k,rn N L k,Q,((k+1:Nat):Int),zW 40 fun j=>(qW N L (qV N L k) j:Int))) N (fun k Q=>zQG N L k Q) (fun r=>r=(zRJ N L,grRnk N L)) ?_ ?_ Q0 hQ0
 ·obtain⟨r,h1,rfl⟩:=hl
  exact h1
 ·intro k Q hk hQ
  rcases hstep k (by omega) Q hQ with⟨he,h1⟩ | ⟨Q',hQ',h1⟩
  ·subst he
   have hno:∀ i,¬ tQ N L k i:=fun i hi=>by have:=(hQ.mem i).2 hi;cases this
   obtain⟨e1,e2⟩:=z9x (by omega) hno
   exact .inr ⟨_,h1,by rw[e1,e2]⟩
  ·exact .inl ⟨Q',h1,hQ'⟩
 ·intro Q hQ
  rcases hstep N (Qr _) Q hQ with⟨he,h1⟩ | ⟨Q',hQ',h1⟩
  ·subst he
   have hno:∀ i,¬ tQ N L N i:=fun i=>zWA N L
   obtain⟨e1,e2⟩:=z9x (Qr _) hno
   exact⟨_,h1,by rw[e1,e2]⟩
  ·exfalso
   have hne:Q≠[]:=by
    intro e
    subst e
    unfold zBu at h1
    simp[len] at h1
   obtain⟨x,hx⟩:=UV Q hne
   obtain⟨h3,_⟩:=hQ.rg x hx
   obtain⟨i,rfl⟩:=Qw h3
   exact zWA N L ((hQ.mem i).1 hx)
theorem zRZ (h:vC N L): zDx ((N:Int),L)=some (zRJ N L):=by
 unfold zDx
 rw[zXs h]
 rfl
end
end
section
abbrev Dm:=Bool×Bool×Bool
def eD (x:Dm): Int:=(if x.1 then 2 else 0)+(if x.2.1 then 4 else 0)+(if x.2.2 then 8 else 0)
def iD (x y:Dm): Dm:=(x.1&&y.1,x.2.1&&y.2.1,x.2.2&&y.2.2)
def mD (x y:Dm): Bool:=(x.1&&y.1)||(x.2.1&&y.2.1)||(x.2.2&&y.2.2)
theorem zZP:∀ x y:Dm,vA .i64 (eD x) (eD y)=eD (iD x y):=by
 rintro ⟨a,b,c⟩ ⟨d,e,f⟩
 revert a b c d e f
 decide +kernel
theorem eD_zero:∀ x:Dm,(eD x==0)=(!(x.1||x.2.1||x.2.2)):=by
 rintro ⟨a,b,c⟩;revert a b c;decide
theorem z3S (x y:Dm): (vA .i64 (eD x) (eD y) != 0)=mD x y:=by
 rw[zZP]
 show(!(eD (iD x y)==0))=_
 rw[eD_zero]
 simp[iD,mD]
theorem z3y:∀ x y:Dm,eD x=eD y->x=y:=by
 rintro ⟨a,b,c⟩ ⟨d,e,f⟩
 revert a b c d e f
 decide +kernel
def tS (x y:Dm): Prop:=(x.1=true->y.1=true)∧(x.2.1=true->y.2.1=true)∧(x.2.2=true->y.2.2=true)
theorem tS.refl (x:Dm): tS x x:=⟨id,id,id⟩
theorem tS.trans{x y z:Dm}(h:tS x y)(k:tS y z): tS x z:=⟨fun a=>k.1 (h.1 a),fun a=>k.2.1 (h.2.1 a),fun a=>k.2.2 (h.2.2 a)⟩
theorem tS.anti{x y:Dm}(h:tS x y)(k:tS y x): x=y:=by
 obtain⟨a,b,c⟩:=x
 obtain⟨d,e,f⟩:=y
 simp only[tS] at h k
 have h1:a=d:=by cases a <;> cases d <;> simp_all
 have h2:b=e:=by cases b <;> cases e <;> simp_all
 have h3:c=f:=by cases c <;> cases f <;> simp_all
 rw[h1,h2,h3]
theorem iD_le (x y:Dm): tS (iD x y) x:=by
 refine⟨fun h=>?_,fun h=>?_,fun h=>?_⟩ <;> (simp[iD] at h;exact h.1)
theorem iD_le2 (x y:Dm): tS (iD x y) y:=by
 refine⟨fun h=>?_,fun h=>?_,fun h=>?_⟩ <;> (simp[iD] at h;exact h.2)
def z3c (x:Dm): Nat:=(if x.1 then 1 else 0)+(if x.2.1 then 1 else 0)+(if x.2.2 then 1 else 0)
theorem z2b:∀ {x y:Dm},tS x y->z3c x≤z3c y∧(z3c x=z3c y->x=y):=by
 rintro ⟨a,b,c⟩ ⟨d,e,f⟩ h
 simp only[tS] at h
 cases a <;> cases b <;> cases c <;> cases d <;> cases e <;> cases f <;> simp_all [z3c]
abbrev DD:=Nat->Dm
def dA (D:DD): List Int:=zW 40 fun j=>eD (D j)
def leF (D E:DD): Prop:=∀ j,tS (D j) (E j)
theorem leF.refl (D:DD): leF D D:=fun _=>tS.refl _
theorem leF.trans{D E G:DD}(h:leF D E)(k:leF E G): leF D G:=fun j=>(h j).trans (k j)
theorem leF.anti{D E:DD}(h:leF D E)(k:leF E D): D=E:=funext fun j=>(h j).anti (k j)
def tO (D:DD)(i:Nat)(x:Dm): DD:=fun j=>if j=i then x else D j
theorem z16 (D:DD){i:Nat}(hi:i<40)(x:Dm): xZ 40 (dA D) (i:Int) (eD x)=dA (tO D i x):=by
 unfold dA
 rw[zXc 40 _ hi]
 apply zBq
 intro j _
 simp only[tO]
 split <;> rfl
theorem zLT (D:DD){i:Nat}(hi:i<40): vY (dA D) (i:Int)=eD (D i):=zQM 40 _ hi
theorem zUO{D:DD}{i:Nat}{x:Dm}(h:tS x (D i)): leF (tO D i x) D:=fun j=>by
 unfold tO
 split
 ·rename_i e;subst e;exact h
 ·exact tS.refl _
def z1V (D:DD): Nat->Nat
 | 0=>0
 | n+1=>z1V D n+z3c (D n)
theorem zWz{D E:DD}(h:leF D E): ∀ n,z1V D n≤z1V E n
 | 0=>Qr _
 | n+1=>Nat.add_le_add (zWz h n) (z2b (h n)).1
theorem z79{D E:DD}(h:leF D E): ∀ n,z1V D n=z1V E n->∀ j,j<n->D j=E j
 | 0,_,j,hj=>absurd hj (UW _)
 | n+1,he,j,hj=>by
  have h1:=zWz h n
  have h2:=(z2b (h n)).1
  simp only[z1V] at he
  rcases Qy.1 hj with hj | rfl
  ·exact z79 h n (by omega) j hj
  ·exact(z2b (h j)).2 (by omega)
def Emp (N:Nat)(D:DD): Prop:=∀ j,N≤j->D j=(false,false,false)
theorem Emp.le{N:Nat}{D E:DD}(h:Emp N E)(k:leF D E): Emp N D:=fun j hj=>by
 have h1:=k j
 rw[h j hj] at h1
 exact tS.anti h1 ⟨fun h=>Bool.noConfusion h,fun h=>Bool.noConfusion h,fun h=>Bool.noConfusion h⟩
section
variable {N:Nat}{L:List qA}
def tP (N:Nat)(L:List qA): List (List Int):=(qS N).map (yB N L)
theorem z6M{i:Nat}(hi:i<N): zB (tP N L) (i:Int)=some (yB N L (i:Int)):=by
 rw[xW,tP,Q2,qS,Q2,List.getElem?_range hi]
 rfl
theorem zTn (hN:N≤40)(D:DD)(at0 fnd:List (List Int))(n:Int)(full:Bool)(a:List Int)(ha:∀ x∈a,∃ k:Nat,x=(k:Int)∧k<N)(hl:a.length≤40)(t:Dm):
  zBc (n,at0,dA D,fnd,full) a (eD t)=some (a.filter fun x=>mD (D x.toNat) t):=by
 unfold zBc
 have h:=zFJ (B:=zEl a (n,at0,dA D,fnd,full) (eD t)) a (fun s x=>if mD (D x.toNat) t then s++[x] else s) id (fun i s=>s.length≤i) ([]:List Int) (by simp) ?_ ?_
 ·have h2:=zHH (fun x:Int=>mD (D x.toNat) t) id a []
  simp only[id,List.map_id,QM] at h2
  rw[h.1,h2];rfl
 ·intro i y s hy hI
  have hlt:=vV hy
  obtain⟨k,rfl,hk⟩:=ha y (wF hy)
  unfold zEl
  simp only[qY hy,Qc,qM hy,zob,qR hy (by omega)]
  rw[zNC (K:=40) rfl (show k<40 by omega),zob,zLT D (by omega),z3S,Ql]
  cases mD (D k) t with
  | true =>
   simp only[Qc]
   rw[wS (by simp;omega)]
   exact⟨rfl,by simp;omega⟩
  | false =>
   simp only[zbf,Qb]
   exact⟨trivial,by omega⟩
 ·intro s _
  unfold zEl
  simp[len]
theorem can2_eq:zDg=zBc:=rfl
theorem zKh{i:Nat}: ∀ x∈yB N L (i:Int),∃ k:Nat,x=(k:Int)∧k<N:=fun x hx=>by
 have h:=(Qk.1 hx).1
 rw[xO] at h
 exact⟨x.toNat,by omega,by omega⟩
theorem zMB{i j:Nat}(hj:j<N): (j:Int)∈yB N L (i:Int)↔vT L j i:=by
 rw[Qk,xO]
 exact⟨fun h=>h.2,fun h=>⟨⟨by omega,by omega⟩,h⟩⟩
def z0O (N:Nat)(L:List qA)(D:DD)(i:Nat): Dm :=
 ((yB N L (i:Int)).all fun x=>(D x.toNat).2.1,(yB N L (i:Int)).any fun x=>(D x.toNat).1,
  ((yB N L (i:Int)).all fun x=>(D x.toNat).2.1||(D x.toNat).2.2)&&(yB N L (i:Int)).any fun x=>(D x.toNat).2.2)
theorem z6x{α:Type}(p:α->Bool)(l:List α): decide (len (l.filter p)<len l)=!(l.all p):=by
 induction l with
 | nil=>rfl
 | cons x l ih =>
  rw[Q7]
  have hle:=QH p l
  cases hp:p x with
  | true =>
   simp only[Qc,UY,hp,Ux]
   rw[←ih]
   simp only[len,QI]
   congr 1
   exact propext (by omega)
  | false =>
   simp only[zbf,Qb,UY,hp,Ui,Q8,Qp,len,QI]
   omega
theorem zON{α:Type}(p:α->Bool)(l:List α): (len (l.filter p)==0)=!(l.any p):=by
 induction l with
 | nil=>rfl
 | cons x l ih =>
  rw[Q7]
  cases hp:p x with
  | true =>
   simp only[Qc,List.any_cons,hp,Bool.true_or,QN,len,QI]
   exact QQ.2 (by omega)
  | false=>simp only[zbf,Qb,List.any_cons,hp,UO];exact ih
theorem zZh (hN:N≤40)(D:DD)(fnd:List (List Int))(full:Bool){i:Nat}(hi:i<N):
  zCL ((N:Int),tP N L,dA D,fnd,full) (i:Int)=some (eD (z0O N L D i)):=by
 have hl:(yB N L (i:Int)).length≤40:=QD (zZ2 _) hN
 have c4:=zTn hN D (tP N L) fnd (N:Int) full (yB N L (i:Int)) zKh hl (false,true,false)
 have c2:=zTn hN D (tP N L) fnd (N:Int) full (yB N L (i:Int)) zKh hl (true,false,false)
 have c12:=zTn hN D (tP N L) fnd (N:Int) full (yB N L (i:Int)) zKh hl (false,true,true)
 have c8:=zTn hN D (tP N L) fnd (N:Int) full (yB N L (i:Int)) zKh hl (false,false,true)
 simp only[mD,U9,Bool.and_true,UO,U0] at c4 c2 c12 c8
 rw[show eD (false,true,false)=4 from rfl] at c4
 rw[show eD (true,false,false)=2 from rfl] at c2
 rw[show eD (false,true,true)=12 from rfl] at c12
 rw[show eD (false,false,true)=8 from rfl] at c8
 unfold zCL
 simp only[z6M hi,zob,c4,c2,c12,c8,z6x,zON]
 unfold z0O
 generalize ((yB N L (i:Int)).all fun x=>(D x.toNat).2.1)=q1
 generalize ((yB N L (i:Int)).any fun x=>(D x.toNat).1)=q2
 generalize ((yB N L (i:Int)).all fun x=>(D x.toNat).2.1||(D x.toNat).2.2)=q3
 generalize ((yB N L (i:Int)).any fun x=>(D x.toNat).2.2)=q4
 revert q1 q2 q3 q4
 decide +kernel
structure CL (N:Nat)(L:List qA)(f:Nat->Nat): Prop where
 r:∀ i,i<N->f i=1∨f i=2∨f i=3
 i1:∀ i,i<N->f i=1->∀ j,j<N->vT L j i->f j=2
 i2:∀ i,i<N->f i=2->∃ j,j<N∧vT L j i∧f j=1
 i3:∀ i,i<N->f i=3->(∃ j,j<N∧vT L j i∧f j=3)∧∀ j,j<N->vT L j i->f j≠1
def zZ8 (x:Dm)(k:Nat): Bool:=match k with
 | 1=>x.1
 | 2=>x.2.1
 | 3=>x.2.2
 | _=>false
def z2U (N:Nat)(D:DD)(f:Nat->Nat): Prop:=∀ i,i<N->zZ8 (D i) (f i)=true
theorem z5n (x y:Dm)(k:Nat): zZ8 (iD x y) k=(zZ8 x k&&zZ8 y k):=by
 match k with
 | 0 | 1 | 2 | 3=>rfl
 | _+4=>rfl
theorem z2o{x y:Dm}(h:tS x y){k:Nat}(hk:zZ8 x k=true): zZ8 y k=true:=by
 match k,hk with
 | 1,hk=>exact h.1 hk
 | 2,hk=>exact h.2.1 hk
 | 3,hk=>exact h.2.2 hk
theorem poss_ok{D:DD}{f:Nat->Nat}(hf:CL N L f)(hc:z2U N D f){i:Nat}(hi:i<N): zZ8 (z0O N L D i) (f i)=true:=by
 have hpr:∀ x∈yB N L (i:Int),∃ k:Nat,x=(k:Int)∧k<N∧vT L k i:=fun x hx=>by
  obtain⟨k,rfl,hk⟩:=zKh x hx
  exact⟨k,rfl,hk,(zMB hk).1 hx⟩
 rcases hf.r i hi with h | h | h <;> rw[h]
 ·show((yB N L (i:Int)).all fun x=>(D x.toNat).2.1)=true
  rw[QE]
  intro x hx
  obtain⟨k,rfl,hk,he⟩:=hpr x hx
  have:=hc k hk
  rw[hf.i1 i hi h k hk he] at this
  exact this
 ·show((yB N L (i:Int)).any fun x=>(D x.toNat).1)=true
  obtain⟨k,hk,he,h1⟩:=hf.i2 i hi h
  rw[QX]
  have:=hc k hk
  rw[h1] at this
  exact⟨(k:Int),(zMB hk).2 he,this⟩
 ·show(_&&_)=true
  obtain⟨⟨k,hk,he,h3⟩,h4⟩:=hf.i3 i hi h
  rw[Qo,QE,QX]
  refine⟨fun x hx=>?_,(k:Int),(zMB hk).2 he,?_⟩
  ·obtain⟨k,rfl,hk,he⟩:=hpr x hx
   have:=hc k hk
   rcases hf.r k hk with q | q | q
   ·exact absurd q (h4 k hk he)
   ·rw[q] at this;simp[show(D k).2.1=true from this]
   ·rw[q] at this;simp[show(D k).2.2=true from this]
  ·have:=hc k hk
   rw[h3] at this
   exact this
end
end
section
inductive SD (b:zI)(S:zC->Prop): Nat->zC->Prop
 | base {n:Nat} {x:zC}:S x->SD b S n x
 | step {n:Nat} {r:zR}:r∈b.2.1->r.2.1=true->(∀ y,y∈r.2.2.2.1->SD b S n y)->SD b S (n+1) r.2.2.2.2
def yI (b:zI)(S:zC->Prop)(x:zC): Prop:=∃ n,SD b S n x
section
variable {b:zI}{S S':zC->Prop}
theorem SD.mono{n m:Nat}{x:zC}(h:SD b S n x)(hm:n≤m): SD b S m x:=by
 induction h generalizing m with
 | base hx=>exact .base hx
 | step hr hs _ ih =>
  obtain⟨k,rfl⟩:∃ k,m=k+1:=⟨m-1,by omega⟩
  exact .step hr hs fun y hy=>ih y hy (by omega)
theorem SD.sub{n:Nat}{x:zC}(h:SD b S n x)(hS:∀ y,S y->S' y): SD b S' n x:=by
 induction h with
 | base hx=>exact .base (hS _ hx)
 | step hr hs _ ih=>exact .step hr hs fun y hy=>ih y hy
theorem yI.sub{x:zC}(h:yI b S x)(hS:∀ y,S y->S' y): yI b S' x:=by
 obtain⟨n,h⟩:=h
 exact⟨n,h.sub hS⟩
theorem yI.base{x:zC}(h:S x): yI b S x:=⟨0,.base h⟩
theorem z0S:∀(l:List zC),(∀ y∈l,yI b S y)->∃ n,∀ y∈l,SD b S n y
 | [],_=>⟨0,fun _ h=>by cases h⟩
 | x::l,h=>by
  obtain⟨n,hn⟩:=z0S l fun y hy=>h y (Qi _ hy)
  obtain⟨m,hm⟩:=h x Qm
  refine⟨max n m,fun y hy=>?_⟩
  rcases Qv.1 hy with rfl | hy
  ·exact hm.mono (by omega)
  ·exact(hn y hy).mono (by omega)
theorem yI.rule{r:zR}(hr:r∈b.2.1)(hs:r.2.1=true)(h:∀ y∈r.2.2.2.1,yI b S y): yI b S r.2.2.2.2:=by
 obtain⟨n,hn⟩:=z0S _ h
 exact⟨n+1,.step hr hs hn⟩
theorem yI.trans{T:zC->Prop}{x:zC}(h:yI b T x)(hT:∀ y,T y->yI b S y): yI b S x:=by
 obtain⟨n,h⟩:=h
 induction h with
 | base hx=>exact hT _ hx
 | step hr hs _ ih=>exact yI.rule hr hs fun y hy=>ih y hy
def TrC (b:zI): Prop:=∀ r∈b.2.1,r.2.1=true->∀ y∈r.2.2.2.1,∃ r'∈b.2.1,r'.2.1=true∧r'.2.2.2.2=xJ y∧∀ z∈r'.2.2.2.1,z=xJ r.2.2.2.2∨z∈r.2.2.2.1
def Inc (b:zI)(S:zC->Prop): Prop:=∃ p,yI b S p∧yI b S (xJ p)
theorem contra (hT:TrC b){x:zC}(hc:¬ Inc b S)(hi:Inc b fun y=>S y∨y=x): yI b (fun y=>S y∨y=x) (xJ x):=by
 apply Classical.byContradiction
 intro hx
 have key:∀ n y,SD b (fun y=>S y∨y=x) n y->yI b (fun y=>S y∨y=x) (xJ y)->yI b S y:=by
  intro n y h
  induction h with
  | base hy =>
   intro hc
   rcases hy with hy | rfl
   ·exact yI.base hy
   ·exact absurd hc hx
  | step hr hs hb ih =>
   intro hc
   refine yI.rule hr hs fun z hz=>ih z hz ?_
   obtain⟨r',h1,h2,h3,h4⟩:=hT _ hr hs z hz
   rw[←h3]
   refine yI.rule h1 h2 fun w hw=>?_
   rcases h4 w hw with rfl | hw
   ·exact hc
   ·exact⟨_,hb w hw⟩
 obtain⟨p,⟨n,h1⟩,⟨m,h2⟩⟩:=hi
 exact hc ⟨p,key n p h1 ⟨m,h2⟩,key m _ h2 (by rw[zWm];exact⟨n,h1⟩)⟩
end
inductive xX (b:zI)(l:List zF): Int->Int->Prop
 | prem {i:Int} {a:zF}:zB l i=some a->0≤a.1->xX b l i i
 | dfs {i:Int} {a:zF} {r:zR}:zB l i=some a->0≤a.2.1->zB b.2.1 a.2.1=some r->r.2.1=false->xX b l i i
 | step {i k j:Int} {a:zF} {r:zR}:zB l i=some a->0≤a.2.1->zB b.2.1 a.2.1=some r->r.2.1=true->k∈a.2.2.1->xX b l k j->xX b l i j
structure Rb (b:zI)(l:List zF): Prop where
 form:FormC b l
 pre:∀(p:Nat) q,b.1[p]?=some q->∃ a,zB l (p:Int)=some a∧a.1=(p:Int)
 all:∀ q r s,zB b.2.1 q=some r->s.length=r.2.2.2.1.length->(∀(j:Nat) k y,s[j]?=some k->r.2.2.2.1[j]?=some y->∃ a',zB l k=some a'∧a'.2.2.2=y)->zEe b l q r s=true->((-1:Int),q,s,r.2.2.2.2)∈l
 kd:∀ p∈b.1,p.2.1=1∨p.2.1=2∨p.2.1=3
section
variable {b:zI}{l:List zF}
theorem xX.sub{i j:Int}(h:xX b l i j): xP l i j:=by
 induction h with
 | prem _ _=>exact .self _
 | dfs _ _ _ _=>exact .self _
 | step h1 _ _ _ h2 _ ih=>exact .step h1 h2 ih
def zR0 (b:zI)(l:List zF)(j:Int): Prop:=∃ a,zB l j=some a∧(0≤a.1∨(0≤a.2.1∧∃ r,zB b.2.1 a.2.1=some r∧r.2.1=false))
theorem xX.leaf{i j:Int}(h:xX b l i j): zR0 b l j:=by
 induction h with
 | prem h1 h2=>exact⟨_,h1,.inl h2⟩
 | dfs h1 h2 h3 h4=>exact⟨_,h1,.inr ⟨h2,_,h3,h4⟩⟩
 | step _ _ _ _ _ _ ih=>exact ih
theorem zR0.self{j:Int}(h:zR0 b l j): xX b l j j:=by
 obtain⟨a,h1,h2 | ⟨h2,r,h3,h4⟩⟩:=h
 ·exact .prem h1 h2
 ·exact .dfs h1 h2 h3 h4
theorem zR0.only (hf:FormB b l){j k:Int}(h:zR0 b l j)(hk:xX b l j k): k=j:=by
 obtain⟨a,h1,h2⟩:=h
 cases hk with
 | prem _ _=>rfl
 | dfs _ _ _ _=>rfl
 | step g1 g2 g3 g4 _ _ =>
  rw[h1] at g1
  cases g1
  rcases h2 with h2 | ⟨_,r,h3,h4⟩
  ·have:=(hf.prem h1).2.2;omega
  ·rw[h3] at g3;cases g3;rw[h4] at g4;cases g4
theorem z2T (hf:FormB b l){i:Int}{a:zF}(hi:zB l i=some a): zR0 b l i∨(a.1<0∧0≤a.2.1∧∃ r,zB b.2.1 a.2.1=some r∧r.2.1=true):=by
 by_cases h:0≤a.1
 ·exact .inl ⟨a,hi,.inl h⟩
 ·obtain⟨r,hr⟩:=(hf.prem hi).2.1 (by omega)
  have h0:=(hf.prem hi).2.2.2 (by omega)
  cases hs:r.2.1 with
  | true=>exact .inr ⟨by omega,h0,r,hr,hs⟩
  | false=>exact .inl ⟨a,hi,.inr ⟨h0,r,hr,hs⟩⟩
theorem z3j (hf:FormB b l){i j:Int}(h:xP l i j){a:zF}(hj:zB l j=some a): (∃ k,xX b l i k∧xP l k j)∨(a.1<0∧0≤a.2.1∧∃ r,zB b.2.1 a.2.1=some r∧r.2.1=true):=by
 induction h with
 | self i =>
  rcases z2T hf hj with h | h
  ·exact .inl ⟨i,h.self,.self i⟩
  ·exact .inr h
 | @step i k j a' hi hk hs ih =>
  rcases z2T hf hi with h | ⟨h1,h2,r,h3,h4⟩
  ·exact .inl ⟨i,h.self,.step hi hk hs⟩
  ·rcases ih hj with⟨q,g1,g2⟩ | g
   ·exact .inl ⟨q,.step hi h2 h3 h4 hk g1,g2⟩
   ·exact .inr g
theorem run_sub{i:Int}{y:zC}(h:zOv b l i y): ∃ j a,xP l i j∧zB l j=some a∧a.2.2.2=y∧∀ k,xX b l j k->xX b l i k:=by
 induction h with
 | here hi=>exact⟨_,_,.self _,hi,rfl,fun _ h=>h⟩
 | step hi h0 hr hs hk _ ih =>
  obtain⟨j,a,h1,h2,h3,h4⟩:=ih
  exact⟨j,a,.step hi hk h1,h2,h3,fun k hk'=>.step hi h0 hr hs hk (h4 k hk')⟩
theorem z61{i y:Int}(h:zNG b l i y): ∃ j,xX b l i j∧zNG b l j y:=by
 induction h with
 | here h1 h2 h3 h4=>exact⟨_,.dfs h1 h2 h3 h4,.here h1 h2 h3 h4⟩
 | step h1 h2 h3 h4 hk _ ih =>
  obtain⟨j,g1,g2⟩:=ih
  exact⟨j,.step h1 h2 h3 h4 hk g1,g2⟩
theorem z6B{i j y:Int}(h:xX b l i j)(hy:zNG b l j y): zNG b l i y:=by
 induction h with
 | prem _ _=>exact hy
 | dfs _ _ _ _=>exact hy
 | step h1 h2 h3 h4 hk _ ih=>exact .step h1 h2 h3 h4 hk (ih hy)
theorem z24 (hf:FormA l){i j:Int}(h:xP l i j)(h0:0≤i)(h1:i<l.length): 0≤j∧j<l.length:=by
 have:=h.le hf h0
 exact⟨this.1,by omega⟩
theorem z7H (hf:FormB b l){i:Int}(h0:0≤i)(h1:i<l.length){y:Int}(hy:y∈vG b l i): ∃ j,xX b l i j∧y∈vG b l j:=by
 obtain⟨m,hm,a,ha,h2,h3,rfl⟩:=(zKD hf h0 h1 y).1 hy
 have hsm:=(zEC hf.toFormA h0 h1 m).1 hm
 rcases z3j hf hsm ha with⟨j,g1,g2⟩ | ⟨_,_,r,g1,g2⟩
 ·have hj:=z24 hf.toFormA g1.sub h0 h1
  exact⟨j,g1,(zKD hf hj.1 hj.2 _).2 ⟨m,(zEC hf.toFormA hj.1 hj.2 m).2 g2,a,ha,h2,h3,rfl⟩⟩
 ·simp only[zUk,g1,g2] at h3
  cases h3
theorem z7g (hf:FormB b l){i j:Int}(h0:0≤i)(h1:i<l.length)(h:xX b l i j){y:Int}(hy:y∈vG b l j): y∈vG b l i:=by
 have hj:=z24 hf.toFormA h.sub h0 h1
 obtain⟨m,hm,k⟩:=(zKD hf hj.1 hj.2 y).1 hy
 exact(zKD hf h0 h1 y).2 ⟨m,(zEC hf.toFormA h0 h1 m).2 (h.sub.trans ((zEC hf.toFormA hj.1 hj.2 m).1 hm)),k⟩
theorem zNl (hf:FormB b l){i:Int}(h0:0≤i)(h1:i<l.length){p:Int}: p∈zJI l i↔xP l i p∧∃ a,zB l p=some a∧0≤a.1:=by
 unfold zJI
 rw[Qk,zEC hf.toFormA h0 h1]
 constructor
 ·rintro ⟨g1,g2⟩
  refine⟨g1,?_⟩
  split at g2
  ·rename_i a ha;exact⟨a,ha,by simpa using g2⟩
  ·cases g2
 ·rintro ⟨g1,a,ha,g2⟩
  refine⟨g1,?_⟩
  rw[ha];simpa using g2
theorem z5g (hf:FormB b l){i:Int}(h0:0≤i)(h1:i<l.length){p:Int}(hp:p∈zJI l i): ∃ j,xX b l i j∧p∈zJI l j:=by
 obtain⟨g1,a,ha,g2⟩:=(zNl hf h0 h1).1 hp
 rcases z3j hf g1 ha with⟨j,k1,k2⟩ | ⟨k1,_⟩
 ·have hj:=z24 hf.toFormA k1.sub h0 h1
  exact⟨j,k1,(zNl hf hj.1 hj.2).2 ⟨k2,a,ha,g2⟩⟩
 ·omega
theorem z7V (hf:FormB b l){i j:Int}(h0:0≤i)(h1:i<l.length)(h:xX b l i j){p:Int}(hp:p∈zJI l j): p∈zJI l i:=by
 have hj:=z24 hf.toFormA h.sub h0 h1
 obtain⟨g1,g2⟩:=(zNl hf hj.1 hj.2).1 hp
 exact(zNl hf h0 h1).2 ⟨h.sub.trans g1,g2⟩
end
theorem z3p:∀ {l:List Int},l≠[]->minF l∈l∧∀ x∈l,minF l≤x:=by
 have key:∀(r:List Int) (x:Int),(r.foldl (fun m y=>if y<m then y else m) x=x∨r.foldl (fun m y=>if y<m then y else m) x∈r)∧r.foldl (fun m y=>if y<m then y else m) x≤x∧∀ y∈r,r.foldl (fun m y=>if y<m then y else m) x≤y:=by
  intro r
  induction r with
  | nil=>intro x;exact⟨.inl rfl,Wc _,fun _ h=>by cases h⟩
  | cons z r ih =>
   intro x
   obtain⟨h1,h2,h3⟩:=ih (if z<x then z else x)
   simp only[Ul]
   by_cases hz:z<x
   ·simp only[hz,Qc] at h1 h2 h3 ⊢
    refine⟨.inr ?_,by omega,fun y hy=>?_⟩
    ·rcases h1 with h1 | h1
     ·rw[h1];exact Qm
     ·exact Qi _ h1
    ·rcases Qv.1 hy with rfl | hy
     ·exact h2
     ·exact h3 y hy
   ·simp only[hz,Qb] at h1 h2 h3 ⊢
    refine⟨h1.imp id (Qi _),h2,fun y hy=>?_⟩
    rcases Qv.1 hy with rfl | hy
    ·omega
    ·exact h3 y hy
 intro l hl
 cases l with
 | nil=>exact absurd rfl hl
 | cons x r =>
  obtain⟨h1,h2,h3⟩:=key r x
  refine⟨?_,fun y hy=>?_⟩
  ·rcases h1 with h1 | h1
   ·show r.foldl _ x∈_;rw[h1];exact Qm
   ·exact Qi _ h1
  ·rcases Qv.1 hy with rfl | hy
   ·exact h2
   ·exact h3 y hy
theorem z3U:∀ {l:List Int},l≠[]->maxF l∈l∧∀ x∈l,x≤maxF l:=by
 have key:∀(r:List Int) (x:Int),(r.foldl (fun m y=>if y > m then y else m) x=x∨r.foldl (fun m y=>if y > m then y else m) x∈r)∧x≤r.foldl (fun m y=>if y > m then y else m) x∧∀ y∈r,y≤r.foldl (fun m y=>if y > m then y else m) x:=by
  intro r
  induction r with
  | nil=>intro x;exact⟨.inl rfl,Wc _,fun _ h=>by cases h⟩
  | cons z r ih =>
   intro x
   obtain⟨h1,h2,h3⟩:=ih (if z > x then z else x)
   simp only[Ul]
   by_cases hz:z > x
   ·simp only[hz,Qc] at h1 h2 h3 ⊢
    refine⟨.inr ?_,by omega,fun y hy=>?_⟩
    ·rcases h1 with h1 | h1
     ·rw[h1];exact Qm
     ·exact Qi _ h1
    ·rcases Qv.1 hy with rfl | hy
     ·exact h2
     ·exact h3 y hy
   ·simp only[hz,Qb] at h1 h2 h3 ⊢
    refine⟨h1.imp id (Qi _),h2,fun y hy=>?_⟩
    rcases Qv.1 hy with rfl | hy
    ·omega
    ·exact h3 y hy
 intro l hl
 cases l with
 | nil=>exact absurd rfl hl
 | cons x r =>
  obtain⟨h1,h2,h3⟩:=key r x
  refine⟨?_,fun y hy=>?_⟩
  ·rcases h1 with h1 | h1
   ·show r.foldl _ x∈_;rw[h1];exact Qm
   ·exact Qi _ h1
  ·rcases Qv.1 hy with rfl | hy
   ·exact h2
   ·exact h3 y hy
theorem z1G{α:Type}(f:α->Int): ∀(l:List α),l≠[]->∃ i∈l,∀ j∈l,f i≤f j
 | [],h=>absurd rfl h
 | [x],_=>⟨x,Qm,fun j hj=>by rw[Qa.1 hj];exact Wc _⟩
 | x::y::l,_=>by
  obtain⟨i,h1,h2⟩:=z1G f (y::l) (by simp)
  by_cases h:f x≤f i
  ·refine⟨x,Qm,fun j hj=>?_⟩
   rcases Qv.1 hj with rfl | hj
   ·exact Wc _
   ·have:=h2 j hj;omega
  ·refine⟨i,Qi _ h1,fun j hj=>?_⟩
   rcases Qv.1 hj with rfl | hj
   ·omega
   ·exact h2 j hj
theorem zZY (D:List Int)(X:Int->List Int)(q:Int)(h:∃ j∈D,X j≠[]): ∃ i∈D,X i≠[]∧∀ z:List Int,(∀ v∈z,∃ j∈D,v∈X j∧∀ w∈X j,w∈z)->zJX z (X i) q=false:=by
 have hne:(D.filter fun j=>!(X j).isEmpty)≠[]:=by
  obtain⟨j,hj,hx⟩:=h
  intro e
  have:j∈D.filter fun j=>!(X j).isEmpty:=Qk.2 ⟨hj,by cases hX:X j with | nil=>exact absurd hX hx | cons _ _=>rfl⟩
  rw[e] at this
  cases this
 obtain⟨i,hi,hmin⟩:=z1G (fun j=>if q=1 then minF (X j) else maxF (X j)) _ hne
 have hf:∀ {j},j∈D.filter (fun j=>!(X j).isEmpty)↔j∈D∧X j≠[]:=fun {j}=>by
  rw[Qk]
  cases X j <;> simp
 obtain⟨hiD,hiX⟩:=hf.1 hi
 refine⟨i,hiD,hiX,fun z hz=>?_⟩
 unfold zJX
 by_cases hze:z=[]
 ·subst hze;simp
 ·have hzE:z.isEmpty=false:=by cases z with | nil=>exact absurd rfl hze | cons _ _=>rfl
  have hiE:(X i).isEmpty=false:=by cases hX:X i with | nil=>exact absurd hX hiX | cons _ _=>rfl
  rw[hzE,hiE]
  by_cases h1:q=1
  ·subst h1
   simp only[Qc] at hmin
   have hm:=z3p hze
   obtain⟨j,hj,hv,_⟩:=hz _ hm.1
   have hjX:X j≠[]:=fun e=>by rw[e] at hv;cases hv
   have h2:=(z3p hjX).2 _ hv
   have h3:=hmin j (hf.2 ⟨hj,hjX⟩)
   have:¬ minF z<minF (X i):=by omega
   simp[this]
  ·simp only[h1,Qb] at hmin
   have hq:(q==1)=false:=QQ.2 h1
   obtain⟨v,hv⟩:∃ v,v∈z:=by cases z with | nil=>exact absurd rfl hze | cons v _=>exact⟨v,Qm⟩
   obtain⟨j,hj,hvj,hw⟩:=hz v hv
   have hjX:X j≠[]:=fun e=>by rw[e] at hvj;cases hvj
   have h2:=(z3U hze).2 _ (hw _ (z3U hjX).1)
   have h3:=hmin j (hf.2 ⟨hj,hjX⟩)
   have:¬ maxF z<maxF (X i):=by omega
   simp[hq,this]
end
section
theorem z62{s:uK}{m n:Int}(h:uB s)(h0:0≤m)(hm:m≤1000000)(h1:1≤n)(h2:n≤26): ∃(l:List zC) (k:Int),zGh s m n=some (l,k)∧(l.length:Int)≤m∧(∀ x∈l,∃ j:Nat,(j:Int)<n∧x.2=zPi j)∧uB (s.1,k):=by
 obtain⟨v,k,hr,hv0,hv1,hk⟩:=zLx (n:=m+1) h (by omega) (by omega)
 unfold zGh
 rw[uL (x:=m+1) (by omega) (by omega),hr]
 obtain⟨r,h3,h4⟩:=zNx (B:=zHe s n) (fun t=>0≤t.2.1∧(t.1.length:Int)+t.2.1=v∧(∀ x∈t.1,∃ j:Nat,(j:Int)<n∧x.2=zPi j)∧uB (s.1,t.2.2)) (fun t=>t.2.1.toNat)
  (fun r=>(r.1.length:Int)≤m∧(∀ x∈r.1,∃ j:Nat,(j:Int)<n∧x.2=zPi j)∧uB (s.1,r.2)) (fun t ht=>by
   obtain⟨l,q,k⟩:=t
   obtain⟨t1,t2,t3,t4⟩:=ht
   dsimp only at t1 t2 t3 t4
   unfold zHe
   by_cases hq:0<q
   ·obtain⟨g,j,k',h5,hj,hk'⟩:=zNJ t4 h1 h2
    refine .inl ⟨(l++[(g,zPi j)],q-1,k'),?_,⟨by grind,by simp;omega,fun x hx=>?_,hk'⟩,by grind⟩
    ·simp[hq,h5]
     rw[wS (by simp;omega),uL (by omega) (by omega)]
     rfl
    grind
   ·refine .inr ⟨(l,k),by simp[hq],by grind,t3,t4⟩) (([]:List zC),v,k) ⟨hv0,by simp,by simp,hk⟩
 grind
theorem z5c (s:List zC)(hs:s.length<1000000)(x:zC)(n:Int): ∃ k:Nat,zN (zHQ (s,n) x) 0=some (k:Int)∧k≤s.length∧(∀ j y,j<k->s[j]?=some y->wQ y x=true)∧∀ y,s[k]?=some y->wQ y x=false:=by
 obtain⟨r,h1,k,h2,h3⟩:=xS (B:=zHQ (s,n) x) (fun i (_:Unit)=>(i:Int)) s (fun i _=>∀ j y,j<i->s[j]?=some y->wQ y x=true)
  (fun r=>∃ k:Nat,r=(k:Int)∧k≤s.length∧(∀ j y,j<k->s[j]?=some y->wQ y x=true)∧∀ y,s[k]?=some y->wQ y x=false) (fun i y _ hi hI=>by
  unfold zHQ
  simp only[qY hi,Qc,qM hi,zob,qR hi (show s.length<4294967296 by omega)]
  have hcond:(if uV y.2 x.2=true then some true else if(y.2==x.2)=true then if(!y.1)=true then some x.1 else some false else some false)=some (wQ y x):=by
   unfold wQ
   cases uV y.2 x.2 <;> cases y.2==x.2 <;> cases y.1 <;> cases x.1 <;> rfl
  rw[hcond]
  simp only[zob]
  cases hc:wQ y x with
  | true =>
   exact .inl ⟨(),by trivial,fun j z hj hz=>by
    grind⟩
  | false =>
   grind) (fun _ hI=>⟨_,by
  unfold zHQ
  grind,s.length,rfl,Qr _,hI,fun y hy=>by grind⟩) () (fun j y hj=>by omega)
 grind
theorem ins_asc{s:List zC}(hs:vX wQ s){k:Nat}{x:zC}(h1:∀ j y,j<k->s[j]?=some y->wQ y x=true)(h2:∀ y,s[k]?=some y->wQ x y=true): vX wQ (s.take k++x::s.drop k):=by
 have hsplit:=QT k s
 rw[←hsplit] at hs
 obtain⟨p1,p2,p3⟩:=List.pairwise_append.1 hs
 refine List.pairwise_append.2 ⟨p1,QJ.2 ⟨fun y hy=>?_,p2⟩,fun y hy z hz=>?_⟩
 ·cases hd:s.drop k with
  | nil=>grind
  | cons z r =>
   have hz:s[k]?=some z:=by
    have:=congrArg (fun l=>l[0]?) hd
    simpa using this
   rw[hd] at hy p2
   rcases Qv.1 hy with rfl | hy
   ·grind
   grind [zMQ,List.pairwise_cons]
 ·have hyx:wQ y x=true:=by
   obtain⟨j,hj⟩:=Qn.1 hy
   rw[Ub] at hj
   split at hj
   ·grind
   ·cases hj
  grind
theorem z8V{α:Type}(s:List α)(z x:α)(k:Nat)(hk:k≤s.length): (zJf (s++[z]) (((k+1:Nat)):Int) ((s++[z]).drop k)).set k x=s.take k++x::s.drop k:=by
 have h1:(s++[z]).drop k=s.drop k++[z]:=Wb hk
 unfold zJf
 rw[h1,Ql]
 have h2:(s.drop k++[z]).take ((s++[z]).length-(k+1))=s.drop k:=by
  rw[show(s++[z]).length-(k+1)=(s.drop k).length by simp,List.take_left']
  rfl
 have h3:(s++[z]).drop (k+1+(s.drop k++[z]).length)=[]:=List.drop_eq_nil_of_le (by simp;omega)
 rw[h2,h3,QB]
 cases hd:s.drop k with
 | nil =>
  grind
 | cons y r =>
  grind
theorem zYL (l:List zC)(hl:l.length≤1000): ∃ r,zMF l=some r∧r.length≤l.length∧vX wQ r∧∀ y∈r,y∈l:=by
 unfold zMF
 refine xS (B:=zJR l) (fun i s=>(s,(i:Int))) l (fun i s=>s.length≤i∧vX wQ s∧∀ y∈s,y∈l) (fun r=>r.length≤l.length∧vX wQ r∧∀ y∈r,y∈l) (fun i x s hi hs=>.inl ?_) (fun s hs=>⟨s,?_,hs⟩) [] ⟨by simp,List.Pairwise.nil,by simp⟩
 ·have hlt:=vV hi
  obtain⟨hs1,hs2,hs3⟩:=hs
  unfold zJR
  obtain⟨k,h1,h2,h3,h4⟩:=z5c s (by omega) x i
  simp only[qY hi,Qc,qM hi,zob,h1,qR hi (show l.length<4294967296 by omega)]
  by_cases hex:s[k]?=some x
  ·simp[qM hex]
   grind
  ·have hc:(if decide ((k:Int)<len s)=true then(zB s (k:Int)).bind fun x5=>some (x5==x) else some false)=some false:=by
    by_cases hk:k<s.length
    ·have hx:s[k]?=some s[k]:=Qe hk
     simp[qM hx]
     simp_all
    ·grind
   rw[hc]
   rw[wS (by simp;omega)]
   have hr1:zM ((k:Int)+1)=((k+1:Nat):Int):=vN k (by omega)
   have hc1:(decide (0≤((k+1:Nat):Int))&&decide (((k+1:Nat):Int)≤len (s++[((false,[]):zC)])))=true:=by simp[len];omega
   have hc2:(decide (0≤(k:Int))&&decide ((k:Int)≤len (s++[((false,[]):zC)])))=true:=by simp[len];omega
   obtain⟨z,hz⟩:=zLM (l:=zJf (s++[((false,[]):zC)]) ((k+1:Nat):Int) (List.drop k (s++[((false,[]):zC)]))) (j:=(k:Int)) (by omega) (by rw[zOy];simp;omega)
   simp only[zob,hr1,wV,hc1,hc2,Qc,Ql,hz,z8V s _ x k h2]
   refine⟨_,rfl,?_,ins_asc hs2 h3 fun y hy=>?_,fun y hy=>?_⟩
   ·simp;omega
   ·grind [zTd]
   grind
 ·unfold zJR
  grind
theorem z6i:∀ {l:List zC},vX wQ l->z2w l=true
 | [],_=>rfl
 | [_],_=>rfl
 | x::y::r,h=>by
  obtain⟨h1,h2⟩:=QJ.1 h
  unfold z2w
  rw[h1 y Qm,z6i h2]
  rfl
theorem z4T{s:uK}{l:List Int}(h:uB s)(h0:l≠[])(h1:l.length≤1000): ∃ x k,zKA s l=some (x,k)∧x∈l∧uB (s.1,k):=by
 have hp:=Q5.2 h0
 obtain⟨v,k,hr,h2,h3,hk⟩:=zLx (n:=len l) h (by grind) (by grind)
 obtain⟨x,hx,hx2⟩:=zVv h2 h3
 grind [zKA]
theorem zQm{j:Nat}(h:j<26): vName (zPi j)=true:=by
 have:∀ j,j<26->vName (zPi j)=true:=by decide
 grind
def zWO (n:Nat): zD:=[114,UInt8.ofNat (97+n)]
theorem zW4{n:Nat}(h:n<26): vName (zWO n)=true:=by
 have:∀ n,n<26->vName (zWO n)=true:=by decide
 grind
theorem z6h{n m:Nat}(h:n<26)(h':m<26)(he:zWO n=zWO m): n=m:=by
 have:∀ n,n<26->∀ m,m<26->zWO n=zWO m->n=m:=by decide
 grind
theorem zSj{n:Nat}(h:n<26): zGQ (n:Int)=some (zWO n):=by
 have:∀ n:Nat,n<26->zGQ (n:Int)=some (zWO n):=by decide
 grind
theorem inj_app{α β:Type}(g:α->β){l:List α}{y:α}(h:∀(i j:Nat) p q,l[i]?=some p->l[j]?=some q->g p=g q->i=j)(hy:∀ x∈l,g x≠g y): ∀(i j:Nat) p q,(l++[y])[i]?=some p->(l++[y])[j]?=some q->g p=g q->i=j:=by grind
structure z7h (n:Int)(l:List qZ): Prop where
 ok:∀ p∈l,zNc p=0
 at_:∀ p∈l,∃ j:Nat,(j:Int)<n∧p.1.2=zPi j
 inj:∀(i j:Nat) p q,l[i]?=some p->l[j]?=some q->p.1=q.1->i=j
theorem Base_L1{s:uK}{n:Int}(h1:1≤n)(h2:n≤26){v k:Int}(hv0:0≤v)(hv1:v≤100)(hk:uB (s.1,k)): ∃ r,zN (zHo s n) (v,k,[])=some r∧uB (s.1,r.1)∧(r.2.length:Int)≤v∧z7h n r.2:=by
 refine zNx (B:=zHo s n) (fun t=>0≤t.1∧(t.2.2.length:Int)+t.1≤v∧uB (s.1,t.2.1)∧z7h n t.2.2) (fun t=>t.1.toNat) (fun r=>uB (s.1,r.1)∧(r.2.length:Int)≤v∧z7h n r.2) (fun t ht=>?_) _ ⟨hv0,by simp,hk,by simp,by simp,by simp⟩
 obtain⟨q,k,l⟩:=t
 obtain⟨t1,t2,t3,t4⟩:=ht
 dsimp only at t1 t2 t3 t4
 unfold zHo
 by_cases hq:0<q
 ·obtain⟨g,j,k1,e1,hj,hk1⟩:=zNJ t3 h1 h2
  obtain⟨p,k2,e2,hp,hk2⟩:=z4T (l:=[1,2,2,2,3]) hk1 (by simp) (by simp)
  obtain⟨x,k3,e3,hx,hk3⟩:=z5p (l:=[[],[],[97,110,110],[98,111,98]]) hk2 (by simp) (by simp)
  obtain⟨u,k4,e4,hu0,hu1,hk4⟩:=zLx (n:=4) hk3 (by omega) (by omega)
  have hr:zN (zFT (q,k,l) ((g,zPi j),k1)) (false,0)=some (l.any fun p=>p.1==(g,zPi j)):=by
   obtain⟨r,hr,hr2⟩:=xS (B:=zFT (q,k,l) ((g,zPi j),k1)) (fun i s=>(s,(i:Int))) l (fun i s=>s=(l.take i).any fun p=>p.1==(g,zPi j)) (fun r=>r=l.any fun p=>p.1==(g,zPi j)) (fun i x s hi hs=>.inl (by
    unfold zFT
    simp only[qY hi,Qc,qM hi,zob,qR hi (show l.length<4294967296 by omega)]
    exact⟨_,rfl,by rw[xY hi,List.any_append,←hs];simp⟩)) (fun s hs=>by
    unfold zFT
    grind) false (by simp)
   rw[←hr2]
   exact hr
  dsimp only at e2 e3 e4 hk2 hk3 hk4
  have hq1:zM (q-1)=q-1:=uL (by omega) (by omega)
  have hmid:∃ w z,(if(p==2)=true then(tC (s.1,k3) 4).bind fun r5=>some (r5.2,r5.1) else some (k3,0):Option (Int×Int))=some (w,z)∧uB (s.1,w)∧tU z=true∧(p==2||z==0)=true:=by
   split
   ·grind
   ·grind
  obtain⟨w,z,hm,hw,hz1,hz2⟩:=hmid
  simp only[hq,decide_true,Qc,e1,zob,e2,e3,hm,hr,hq1]
  cases hany:l.any fun p=>p.1==(g,zPi j) with
  | true=>exact .inl ⟨_,rfl,⟨by grind,by grind,hw,t4⟩,by grind⟩
  | false =>
   rw[wS (by simp;omega)]
   refine .inl ⟨_,rfl,⟨by grind,by grind,hw,fun p' hp'=>?_,fun p' hp'=>?_,inj_app _ t4.inj fun p' hp' he=>?_⟩,by grind⟩
   ·rcases Qd.1 hp' with hp' | hp'
    ·exact t4.ok p' hp'
    ·simp at hp'
     subst hp'
     have hpk:(p==1||p==2||p==3)=true:=by
      simp only[Qv,U6,or_false] at hp
      rcases hp with rfl | rfl | rfl | rfl | rfl <;> rfl
     have hsx:(x==([]:zD)||vName x)=true:=by
      simp only[Qv,U6,or_false] at hx
      rcases hx with rfl | rfl | rfl | rfl <;> decide
     unfold zNc
     rw[Qu hpk,zQm (by omega),hz1,hz2,hsx]
     rfl
   ·rcases Qd.1 hp' with hp' | hp'
    ·exact t4.at_ p' hp'
    grind
   grind
 ·simp[hq]
  grind
structure z6P (l:List zR): Prop where
 bd:∀ r∈l,r.2.2.2.1.length≤2
 ok:∀ r∈l,uJ r=0
 nm:∀(i:Nat) r,l[i]?=some r->r.1=zWO i
theorem Base_L3{s:uK}{n m:Int}(h1:1≤n)(h2:n≤26)(hm:1≤m)(hm2:m≤26){v k:Int}(hv0:0≤v)(hv1:v≤24)(hk:uB (s.1,k)): ∃ r,zN (zHh s n m) (v,k,[])=some r∧uB (s.1,r.1)∧(r.2.length:Int)≤v∧z6P r.2:=by
 refine zNx (B:=zHh s n m) (fun t=>0≤t.1∧(t.2.2.length:Int)+t.1≤v∧uB (s.1,t.2.1)∧z6P t.2.2) (fun t=>t.1.toNat) (fun r=>uB (s.1,r.1)∧(r.2.length:Int)≤v∧z6P r.2) (fun t ht=>?_) _ ⟨hv0,by simp,hk,by simp,by simp,by simp⟩
 obtain⟨q,k,l⟩:=t
 obtain⟨t1,t2,t3,t4⟩:=ht
 dsimp only at t1 t2 t3 t4
 unfold zHh
 by_cases hq:0<q
 ·have e0:=zSj (n:=l.length) (by omega)
  obtain⟨u,k1,e1,_,_,hk1⟩:=zLx (n:=3) t3 (by omega) (by omega)
  obtain⟨bd,k2,e2,hb2,hbn,hk2⟩:=z62 (m:=2) hk1 (by omega) (by omega) h1 h2
  obtain⟨bs,e3,hb3,hb4,hb5⟩:=zYL bd (by omega)
  obtain⟨g,j,k3,e4,hj,hk3⟩:=zNJ hk2 h1 h2
  obtain⟨u5,k5,e5,hu5,hu5',hk5⟩:=zLx (n:=4) hk3 (by omega) (by omega)
  dsimp only at e1 e2 e3 e4 e5 hk1 hk2 hk3 hk5
  have hmid:∃ w z,(if(!(u==0))=true then(tC (s.1,k3) 4).bind fun r12=>some (r12.2,r12.1) else some (k3,0):Option (Int×Int))=some (w,z)∧uB (s.1,w)∧tU z=true∧(!(u==0)||z==0)=true:=by
   split
   ·grind
   ·grind
  obtain⟨w,z,hmm,hw,hz1,hz2⟩:=hmid
  obtain⟨u6,k6,e6,_,_,hk6⟩:=zLx (n:=6) hw (by omega) (by omega)
  obtain⟨u7,k7,e7,_,_,hk7⟩:=zLx (n:=4) hk6 (by omega) (by omega)
  obtain⟨u8,k8,e8,hu8,hu8',hk8⟩:=zLx (n:=m) hk7 (by omega) (by omega)
  obtain⟨n8,rfl⟩:=Qw hu8
  have e9:=zSj (n:=n8) (by omega)
  dsimp only at e6 e7 e8 hk6 hk7 hk8
  have hend:∃ w2 z2 y2,((tC (s.1,w) 6).bind fun r13=>if(r13.1==5)=true then(tC (s.1,r13.2) 4).bind fun r14=>(tC (s.1,r14.2) m).bind fun r15=>(zGQ r15.1).bind fun r16=>some (r15.2,decide (0<r14.1),r16) else some (r13.2,g,zPi j):Option (Int×Bool×zD))=some (w2,z2,y2)∧uB (s.1,w2)∧vName y2=true:=by
   rw[e6]
   simp only[zob]
   split
   ·exact⟨k8,decide (0<u7),zWO n8,by grind,hk8,zW4 (by omega)⟩
   ·exact⟨k6,g,zPi j,rfl,hk6,zQm (by omega)⟩
  obtain⟨w2,z2,y2,he,hw2,hy2⟩:=hend
  have hq1:zM (q-1)=q-1:=uL (by omega) (by omega)
  rw[show len l=((l.length:Nat):Int) from rfl]
  simp only[hq,decide_true,Qc,e0,e1,zob,e2,e3,e4,hmm,he,hq1]
  rw[wS (by simp;omega)]
  refine .inl ⟨_,rfl,⟨by grind,by grind,hw2,fun r hr=>?_,fun r hr=>?_,fun i r hr=>?_⟩,by grind⟩
  ·rcases Qd.1 hr with hr | hr
   ·exact t4.bd r hr
   grind
  ·rcases Qd.1 hr with hr | hr
   ·exact t4.ok r hr
   ·simp at hr
    subst hr
    unfold uJ
    dsimp only
    have hall:(bs.all fun x=>vName x.2)=true:=QE.2 fun x hx=>by
     obtain⟨j,hj,hx2⟩:=hbn x (hb5 x hx)
     rw[hx2]
     exact zQm (by omega)
    rw[Qq (by omega),zW4 (by omega),hy2,hz1,hz2,hall,z6i hb4]
    rfl
  ·by_cases hi:i<l.length
   ·rw[QY hi] at hr
    exact t4.nm i r hr
   grind
 ·simp[hq]
  grind
theorem Base_L4{s:uK}{n:Int}(h1:1≤n)(h2:n≤26)(o:Int)(rs:List zR)(hrs:rs.length≤100){v k:Int}(hv0:0≤v)(hv1:v≤100)(hk:uB (s.1,k)): ∃ r,zN (zHm (o,rs) s n) (v,k,[])=some r∧uB (s.1,r.1)∧(r.2.length:Int)≤v∧∀ p∈r.2,tU p.2.1=true∧vName p.2.2.2=true∧∃ q∈rs,q.1=p.1∧q.2.1=false:=by
 refine zNx (B:=zHm (o,rs) s n) (fun t=>0≤t.1∧(t.2.2.length:Int)+t.1≤v∧uB (s.1,t.2.1)∧∀ p∈t.2.2,tU p.2.1=true∧vName p.2.2.2=true∧∃ q∈rs,q.1=p.1∧q.2.1=false) (fun t=>t.1.toNat) (fun r=>uB (s.1,r.1)∧(r.2.length:Int)≤v∧∀ p∈r.2,tU p.2.1=true∧vName p.2.2.2=true∧∃ q∈rs,q.1=p.1∧q.2.1=false) (fun t ht=>?_) _ ⟨hv0,by simp,hk,by simp⟩
 obtain⟨q,k,l⟩:=t
 obtain⟨t1,t2,t3,t4⟩:=ht
 dsimp only at t1 t2 t3 t4
 unfold zHm
 by_cases hq:0<q∧0<rs.length
 ·have hc:(decide (0<q)&&decide (0<len rs))=true:=by simp[len];omega
  obtain⟨u,k1,e1,hu0,hu1,hk1⟩:=zLx (n:=len rs) t3 (by grind) (by grind)
  obtain⟨r,hr⟩:=zLM (l:=rs) hu0 hu1
  obtain⟨u2,k2,e2,hu2,hu2',hk2⟩:=zLx (n:=10) hk1 (by omega) (by omega)
  obtain⟨g,j,k3,e3,hj,hk3⟩:=zNJ hk2 h1 h2
  dsimp only at e1 e2 e3 hk1 hk2 hk3
  have hq1:zM (q-1)=q-1:=uL (by omega) (by omega)
  simp only[hc,Qc,e1,zob,hr,hq1]
  cases hst:r.2.1 with
  | true =>
   simp only[QN,zbf,Qb]
   grind
  | false =>
   simp only[Q8,Qc,e2,e3,zob]
   rw[wS (by simp;omega)]
   refine .inl ⟨_,rfl,⟨by grind,by grind,hk3,fun p hp=>?_⟩,by grind⟩
   rcases Qd.1 hp with hp | hp
   ·grind
   ·simp at hp
    subst hp
    obtain⟨i,_,hi⟩:=zPM hr
    exact⟨by simp;omega,zQm (by omega),r,wF hi,rfl,hst⟩
 ·have hc:(decide (0<q)&&decide (0<len rs))=false:=by
   rw[Bool.and_eq_false_iff]
   by_cases h:0<q
   ·grind
   ·grind
  simp only[hc,zbf,Qb]
  grind
structure Drawn (b:zI)(n p q:Int): Prop where
 np:(b.1.length:Int)≤p
 nr:(b.2.1.length:Int)≤q
 nm:b.2.2.length≤2
 bd:∀ r∈b.2.1,r.2.2.2.1.length≤2
 valid:xH b
 names:∀(i:Nat) r,b.2.1[i]?=some r->r.1=zWO i
 at_:∀ p∈b.1,∃ j:Nat,(j:Int)<n∧p.1.2=zPi j
theorem z6L{s:uK}(h:uB s){n p q:Int}(h1:1≤n)(h2:n≤26)(hp:0≤p)(hp2:p≤16)(hq:1≤q)(hq2:q≤24): ∃ b k,zKB s n p q=some (b,k)∧uB (s.1,k)∧Drawn b n p q:=by
 unfold zKB
 obtain⟨u1,k1,e1,a1,b1,hk1⟩:=zLx (n:=p+1) h (by omega) (by omega)
 obtain⟨⟨o1,ps⟩,e2,hk2,hl2,hp2'⟩:=Base_L1 (s:=s) h1 h2 a1 (by omega) hk1
 obtain⟨u3,k3,e3,a3,b3,hk3⟩:=zLx (n:=q+1) hk2 (by omega) (by omega)
 obtain⟨⟨o4,rs⟩,e4,hk4,hl4,hb4⟩:=Base_L3 (s:=s) h1 h2 hq (by omega) a3 (by omega) hk3
 obtain⟨u5,k5,e5,a5,b5,hk5⟩:=zLx (n:=3) hk4 (by omega) (by omega)
 dsimp only at hl2 hl4 hb4 hp2'
 obtain⟨⟨o6,ms⟩,e6,hk6,hl6,hm6⟩:=Base_L4 (s:=s) h1 h2 o4 rs (by omega) a5 (by omega) hk5
 dsimp only at e3 e5 hl6 hm6
 rw[uL (x:=p+1) (by omega) (by omega),uL (x:=q+1) (by omega) (by omega)]
 have hinj:∀(i j:Nat) p q,rs[i]?=some p->rs[j]?=some q->p.1=q.1->i=j:=fun i j p q hp hq he=>by
  have:=vV hp
  have:=vV hq
  rw[hb4.nm i p hp,hb4.nm j q hq] at he
  exact z6h (by omega) (by omega) he
 refine⟨(ps,rs,ms),o6,?_,hk6,by grind,by grind,by grind,hb4.bd,⟨by grind,by grind,by grind,hp2'.ok,hb4.ok,hp2'.inj,hinj,fun m hm=>?_⟩,hb4.nm,hp2'.at_⟩
 ·grind
 ·obtain⟨g1,g2,r,g3,g4,g5⟩:=hm6 m hm
  obtain⟨i,hi⟩:=Qn.1 g3
  have hf:=z0E (q:=fun r:zR=>r.1==m.1) hi (by simp[g4])
  grind [zSV,zRj,uY,xW]
end
section
variable {b:zI}{l:List zF}
theorem z3X (h:l.length≤100)(o:vQ): (zF1 b l o).length≤3000000:=QD (QH _ _) (zX9 h)
def ords:List vQ:=[(1,1),(1,2),(2,1),(2,2)]
theorem zYQ:zLr=some ords:=rfl
theorem zWE (h:FormA l){c:Int}(h0:0≤c)(h1:c<l.length): c∈vK l c:=(zEC h h0 h1 c).2 (.self c)
theorem z5y (h:FormB b l){i k c kd:Int}(k0:0≤k)(k1:k<l.length)(hc:c∈vK l k): (i,c,c,kd)∈zTo b l↔(i,k,c,kd)∈zTo b l:=by
 have hr:=z3v hc
 rw[zQP,zQP]
 constructor
 ·rintro ⟨h1,_,_,h4⟩
  exact⟨h1,⟨k0,k1⟩,hc,h4⟩
 ·rintro ⟨h1,_,_,h4⟩
  exact⟨h1,hr,zWE h.toFormA hr.1 hr.2,h4⟩
theorem zSe (h:FormB b l){i k c kd:Int}(o:vQ)(k0:0≤k)(k1:k<l.length)(hc:c∈vK l k): (i,c,c,kd)∈zF1 b l o↔(i,k,c,kd)∈zF1 b l o:=by
 unfold zF1
 rw[Qk,Qk,z5y h k0 k1 hc]
 exact Iff.rfl
theorem z3G (y:List Int)(o:Int): zJX [] y o=false:=by simp[zJX]
end
section
def Ok{α:Type}(x:Option α)(Q:α->Prop): Prop:=∃ a,x=some a∧Q a
section
variable {α β:Type}
theorem Ok.ret{a:α}{Q:α->Prop}(h:Q a): Ok (some a) Q:=⟨a,rfl,h⟩
theorem Ok.bind{x:Option α}{f:α->Option β}{I:α->Prop}{Q:β->Prop}(h:Ok x I)(k:∀ a,I a->Ok (f a) Q): Ok (x.bind f) Q:=by
 obtain⟨a,rfl,ha⟩:=h;grind
theorem Ok.ite{c:Bool}{x y:Option α}{Q:α->Prop}(hx:c=true->Ok x Q)(hy:c=false->Ok y Q): Ok (if c=true then x else y) Q:=by grind
theorem Ok.imp{x:Option α}{I Q:α->Prop}(h:Ok x I)(k:∀ a,I a->Q a): Ok x Q:=by grind [Ok]
end
section
variable {s:uK}
theorem Ok.N{n:Int}(h:uB s)(h0:0≤n)(h1:n≤4611686018427387904): Ok (tC s n) fun r=>0≤r.1∧(1≤n->r.1<n)∧uB (s.1,r.2):=by
 by_cases hn:1≤n
 ·obtain⟨v,k,e,a,b,c⟩:=zLx h hn h1
  exact⟨_,e,a,fun _=>b,c⟩
 ·obtain⟨v,k,hr,hk⟩:=z34 h
  have hn1:n<1:=by omega
  refine⟨(0,k),?_,Wc _,fun h=>absurd h hn,hk⟩
  simp[tC,hr,zMK,hn1]
end
section
variable {α β σ τ ρ:Type}
def Nx (mk:Nat->σ->τ)(I:Nat->σ->Prop)(Q:ρ->Prop)(i:Nat): τ⊕ρ->Prop
 | .inl t=>∃ s,t=mk i s∧I i s
 | .inr r=>Q r
def Fin (Q:ρ->Prop): τ⊕ρ->Prop
 | .inl _=>False
 | .inr r=>Q r
theorem Ok.forI{B:τ->Option (τ⊕ρ)}(mk:Nat->σ->τ)(l:List α)(I:Nat->σ->Prop)(Q:ρ->Prop)(hB:∀ i x s,l[i]?=some x->I i s->Ok (B (mk i s)) (Nx mk I Q (i+1)))
  (he:∀ s,I l.length s->Ok (B (mk l.length s)) (Fin Q)) (s:σ) (h:I 0 s):Ok (zN B (mk 0 s)) Q:=by
 refine xS mk l I Q (fun i x s hx hI=>?_) (fun s hI=>?_) s h
 ·obtain⟨o,h1,h2⟩:=hB i x s hx hI
  cases o with
  | inl t=>obtain⟨s',rfl,h3⟩:=h2;grind
  | inr r=>exact .inr ⟨r,h1,h2⟩
 ·obtain⟨o,h1,h2⟩:=he s hI
  cases o with
  | inl t=>exact h2.elim
  | inr r=>exact⟨r,h1,h2⟩
theorem Ok.seqE{x:Option (σ⊕α)}{f:σ->Option α}{I:σ⊕α->Prop}{Q:α->Prop}(h:Ok x I)(k:∀ a,I (.inl a)->Ok (f a) Q)(k2:∀ r,I (.inr r)->Q r): Ok (wZ x f) Q:=by
 obtain⟨a,rfl,ha⟩:=h
 cases a with
 | inl a=>exact k a ha
 | inr r=>exact⟨r,rfl,k2 r ha⟩
theorem Ok.nat{B:τ->Option (τ⊕ρ)}(μ:τ->Nat)(I:τ->Prop)(Q:ρ->Prop)(hB:∀ s,I s->Ok (B s) (fun o=>match o with | .inl t=>I t∧μ t<μ s | .inr r=>Q r))(s:τ)(h:I s): Ok (zN B s) Q:=by
 refine zTD μ I Q (fun s hs=>?_) s h
 obtain⟨o,h1,h2⟩:=hB s hs
 cases o with
 | inl t=>exact .inl ⟨t,h1,h2⟩
 | inr r=>exact .inr ⟨r,h1,h2⟩
end
theorem z6z{α:Type}{l:List α}{i:Nat}{x:α}(h:l[i]?=some x): decide ((i:Int)<len l)=true:=by grind
theorem z7M{α:Type}{l:List α}: decide ((l.length:Int)<len l)=false:=by grind
theorem zUV{α:Type}{l:List α}(h:l.length<4294967296): qG ([]:List α) l=some l:=by grind [qG]
end
section
def jn (l:List zD): zD:=[(32:UInt8)].intercalate l
theorem z7b:jn []=[]:=rfl
theorem z1i (w:zD): jn [w]=w:=by simp[jn,List.intercalate]
theorem z0C (w x:zD)(l:List zD): jn (w::x::l)=w++32::jn (x::l):=by simp[jn,List.intercalate]
theorem zUy:∀ l:List zD,(jn l).length≤(l.map List.length).sum+l.length
 | []=>by simp[z7b]
 | [w]=>by simp[z1i]
 | w::x::l=>by
  have:=zUy (x::l)
  rw[z0C]
  grind
theorem zUH{l:List zD}(h1:l.length≤1000000)(h2:(l.map List.length).sum≤1000000000): zJH l [32]=some (jn l):=by
 have:=zUy l
 unfold zJH z81
 rw[Qu]
 ·rfl
 ·refine⟨by omega,?_⟩
  show(jn l).length≤_
  omega
def wd (w:zD): Bool:=!w.isEmpty&&w.all fun b=>!Lib.isSp b&&decide (b.toNat<128)
theorem wd_ne{w:zD}(h:wd w=true): w≠[]:=by rintro rfl;simp[wd] at h
theorem zO7:∀(w cur l:zD),(∀ b∈w,Lib.isSp b=false)->Lib.fieldsGo cur (w++l)=Lib.fieldsGo (cur++w) l
 | [],cur,l,_=>by simp
 | b::w,cur,l,h=>by
  rw[UP,Lib.fieldsGo,h b (by simp)]
  rw[zO7 w (cur++[b]) l fun x hx=>h x (by simp[hx])]
  simp
theorem z17:∀ l:List zD,(∀ w∈l,wd w=true)->Lib.fields (jn l)=l
 | [],_=>rfl
 | [w],h=>by
  have hw:=h w (by simp)
  have h1:∀ b∈w,Lib.isSp b=false:=fun b hb=>by
   simp[wd] at hw
   have:=(hw.2 b hb).1
   simpa using this
  rw[z1i]
  unfold Lib.fields
  have:=zO7 w [] [] h1
  rw[QB] at this
  rw[this,Lib.fieldsGo]
  simp[wd_ne hw]
 | w::x::l,h=>by
  have hw:=h w (by simp)
  have h1:∀ b∈w,Lib.isSp b=false:=fun b hb=>by
   simp[wd] at hw
   have:=(hw.2 b hb).1
   simpa using this
  rw[z0C]
  unfold Lib.fields
  rw[zO7 w [] _ h1,Lib.fieldsGo]
  have hs:Lib.isSp 32=true:=by decide
  have ih:=z17 (x::l) fun y hy=>h y (by simp at hy ⊢;exact .inr hy)
  unfold Lib.fields at ih
  rw[Qu hs,ih]
  simp[wd_ne hw]
theorem jn_low{l:List zD}(h:∀ w∈l,wd w=true): ∀ b∈jn l,b.toNat<128:=by
 induction l with
 | nil=>intro b hb;simp[z7b] at hb
 | cons w l ih =>
  have hw:=h w (by simp)
  simp[wd] at hw
  cases l with
  | nil=>intro b hb;rw[z1i] at hb;have:=(hw.2 b hb).2;simpa using this
  | cons x l =>
   intro b hb
   rcases Qd.1 hb with hb | hb
   ·have:=(hw.2 b hb).2;simpa using this
   ·rcases Qv.1 hb with rfl | hb
    ·decide
    ·exact ih (fun y hy=>h y (by simp at hy ⊢;exact .inr hy)) b hb
theorem z5N{l:List zD}(h:∀ w∈l,wd w=true): Lib.fieldsD (jn l)=l:=by rw[Lib.fieldsD_ascii _ (jn_low h),z17 l h]
theorem zOr:∀(f:Nat) (cur l:zD),((Lib.fieldsGoD f cur l).map List.length).sum≤cur.length+l.length∧∀ w∈Lib.fieldsGoD f cur l,w≠[]
 | 0,cur,l=>by
  unfold Lib.fieldsGoD
  split
  ·simp
  ·rename_i h;exact⟨by simp,by simpa using h⟩
 | f+1,cur,l=>by
  unfold Lib.fieldsGoD
  split
  ·split
   ·simp
   ·rename_i h;exact⟨by simp,by simpa using h⟩
  ·split
   ·obtain⟨h1,h2⟩:=zOr f [] (l.drop (Lib.decodeL l).2)
    simp at h1
    constructor
    ·split
     ·simp;omega
     ·simp;omega
    ·intro w hw
     split at hw
     ·exact h2 w (by simpa using hw)
     ·rename_i hc
      rcases Qd.1 hw with hw | hw
      ·simp at hw;subst hw;exact hc
      ·exact h2 w hw
   ·obtain⟨h1,h2⟩:=zOr f (cur++l.take (Lib.decodeL l).2) (l.drop (Lib.decodeL l).2)
    refine⟨?_,h2⟩
    simp at h1
    omega
theorem sum_ge:∀ {l:List zD},(∀ w∈l,w≠[])->l.length≤(l.map List.length).sum
 | [],_=>by simp
 | w::l,h=>by
  have h1:=sum_ge (l:=l) fun x hx=>h x (by simp[hx])
  have h2:0<w.length:=Q5.2 (h w (by simp))
  simp
  omega
theorem zX6 (l:zD): ((Lib.fieldsD l).map List.length).sum≤l.length∧(Lib.fieldsD l).length≤l.length:=by
 obtain⟨h1,h2⟩:=zOr (l.length+1) [] l
 have h3:=sum_ge h2
 simp at h1
 exact⟨h1,by unfold Lib.fieldsD;omega⟩
def tF (n:Int): zD:=[UInt8.ofNat (48+n.toNat)]
theorem z9y{n:Int}(h0:-9223372036854775808≤n)(h1:n≤9223372036854775807): zD9 n=some (Lib.itoa n):=by
 unfold zD9 zGy zEK z8f
 simp[h0,h1]
theorem zZE{n:Int}(h0:0≤n)(h1:n≤9): zD9 n=some (tF n):=by
 rw[z9y (by omega) (by omega)]
 unfold Lib.itoa tF
 rw[Qq (by omega),Lib.decDigits,dif_pos (by omega)]
theorem zUp{s:zD}(h:vName s=true): wd s=true:=by
 cases s with
 | nil=>simp[vName] at h
 | cons c r =>
  have key:∀ b:UInt8,okB b=true->(!Lib.isSp b&&decide (b.toNat<128))=true:=by
   intro b hb
   have:∀ n:_root_.Fin 256,okB (UInt8.ofNat n.val)=true->(!Lib.isSp (UInt8.ofNat n.val)&&decide ((UInt8.ofNat n.val).toNat<128))=true:=by decide +kernel
   have h2:=this ⟨b.toNat,b.toNat_lt⟩
   simpa using h2 (by simpa using hb)
  simp[vName] at h
  obtain⟨⟨h1,h2⟩,h3⟩:=h
  have hlo:okB c=true:=by
   have:∀ n:_root_.Fin 256,loB (UInt8.ofNat n.val)=true->okB (UInt8.ofNat n.val)=true:=by decide +kernel
   have h4:=this ⟨c.toNat,c.toNat_lt⟩
   simpa using h4 (by simpa using h2)
  simp[wd]
  refine⟨by simpa using key c hlo,fun b hb=>?_⟩
  have:=key b (h3 b hb)
  simpa using this
theorem wd_cons{c:UInt8}{s:zD}(hc:(!Lib.isSp c&&decide (c.toNat<128))=true)(h:wd s=true): wd (c::s)=true:=by
 simp[wd] at h ⊢
 exact⟨by simpa using hc,h.2⟩
theorem z2Z{c:UInt8}{s:zD}(hc:(!Lib.isSp c&&decide (c.toNat<128))=true)(h:wd s=true): wd (s++[c])=true:=by
 simp only[wd,Qo,List.all_append,UY,List.all_nil,Bool.and_true] at h ⊢
 exact⟨by simp,h.2,by simpa using hc⟩
theorem z1J{x:zC}(h:vName x.2=true): wd (zFB x)=true:=by
 unfold zFB
 rw[Qu h]
 split
 ·exact wd_cons (by decide) (zUp h)
 ·exact zUp h
end
section
def zN6 (k:Int): zD:=if k=1 then[97,120,105,111,109] else if k=2 then[112,114,101,109,105,115,101] else[97,115,115,117,109,101]
def zZm:zD:=[102,114,111,109]
def tD (p:qZ): List zD:=[zN6 p.2.1,zFB p.1]++(if p.2.1=2 then[tF p.2.2.1] else[])++(if p.2.2.2=[] then[] else[zZm,p.2.2.2])
def yQ:List zC->List zD
 | []=>[]
 | [x]=>[zFB x]
 | x::y::r=>(zFB x++[44])::yQ (y::r)
def zJZ:zD:=[115,116,114,105,99,116]
def zM0:zD:=[114,117,108,101]
def zYt (s:Bool): zD:=if s then[45,62] else[61,62]
def xA (r:zR): List zD:=(if r.2.1 then[zJZ,r.1++[58]] else[zM0,r.1,tF r.2.2.1++[58]])++yQ r.2.2.2.1++[zYt r.2.1,zFB r.2.2.2.2]
def zSy:zD:=[112,114,111,109,111,116,101]
def ifW:zD:=[105,102]
def zMz (p:wB): List zD:=[zSy,p.1,tF p.2.1,ifW,zFB p.2.2]
theorem zWK (k:Int): (zN6 k).length≤7:=by
 unfold zN6
 split
 ·decide
 ·split <;> decide
theorem z7E{k:Int}(h:k=1∨k=2∨k=3): zB zBE k=some (zN6 k):=by rcases h with rfl | rfl | rfl <;> rfl
theorem zZ4{p:qZ}(hk:p.2.1=1∨p.2.1=2∨p.2.1=3)(h0:0≤p.2.2.1)(h9:p.2.2.1≤9)(hs:p.2.2.2.length≤1000000): zDY p=some (jn (tD p)):=by
 obtain⟨x,k,n,s⟩:=p
 simp only at hk h0 h9 hs
 have hl:=zDZ x
 have hkl:=zWK k
 unfold zDY tD
 simp only[z7E hk,zOL,zob]
 by_cases h2:k=2
 ·subst h2
  simp only[Uv,Qc,zZE h0 h9,zob]
  rw[wS (by simp)]
  by_cases hs0:s=[]
  ·subst hs0
   simp only[zob,Uv,QN,zbf,Qb,Qc,QB]
   rw[zUH (by simp) (by simp[tF];omega)]
   rfl
  ·have:(s==[])=false:=by simpa using hs0
   simp only[zob,this,Q8,Qc,Qq hs0]
   rw[wS (by simp)]
   simp only[zob]
   rw[zUH (by simp) (by simp[tF];omega)]
   rfl
 ·have hk2:(k==2)=false:=by simpa using h2
  simp only[hk2,zbf,Qb,zob,Qq h2,QB]
  by_cases hs0:s=[]
  ·subst hs0
   simp only[zob,Uv,QN,zbf,Qb,Qc,QB]
   rw[zUH (by simp) (by simp;omega)]
   rfl
  ·have:(s==[])=false:=by simpa using hs0
   simp only[this,Q8,Qc,Qq hs0]
   rw[wS (by simp)]
   simp only[zob]
   rw[zUH (by simp) (by simp;omega)]
   rfl
theorem zKG:∀ l:List zC,(yQ l).length=l.length
 | []=>rfl
 | [_]=>rfl
 | _::y::r=>by simp[yQ,zKG (y::r)]
theorem z0z:∀(l:List zC) (i:Nat),(yQ l)[i]?=l[i]?.map fun x=>if i+1<l.length then zFB x++[44] else zFB x
 | [],i=>by simp[yQ]
 | [x],i=>by cases i <;> simp[yQ]
 | x::y::r,0=>by simp[yQ]
 | x::y::r,i+1=>by
  simp only[yQ,Uh,z0z (y::r) i,QI]
  congr 1
  have:(i+1<r.length+1)↔(i+1+1<r.length+1+1):=by omega
  simp
theorem zSh:∀ l:List zC,((yQ l).map List.length).sum≤14*l.length
 | []=>by simp[yQ]
 | [x]=>by grind [zDZ,yQ]
 | x::y::r=>by
  have:=zDZ x
  have:=zSh (y::r)
  grind [yQ]
theorem z4E (r:zR)(pre:List zD)(hb:r.2.2.2.1.length≤10000)(hp:pre.length≤3): zN (zDX r) (pre,0)=some (pre++yQ r.2.2.2.1):=by
 have h:=xS (B:=zDX r) (fun i (s:List zD)=>(s,(i:Int))) r.2.2.2.1 (fun i s=>s=pre++(yQ r.2.2.2.1).take i) (fun o=>o=pre++yQ r.2.2.2.1) ?_ ?_ pre (by simp)
 ·obtain⟨o,h1,rfl⟩:=h
  exact h1
 ·intro i x s hx hs
  subst hs
  have hi:=(Qg.1 hx).1
  refine .inl ⟨pre++(yQ r.2.2.2.1).take (i+1),?_,rfl⟩
  have hg:(yQ r.2.2.2.1)[i]?=some (if i+1<r.2.2.2.1.length then zFB x++[44] else zFB x):=by rw[z0z,hx];rfl
  have htk:(yQ r.2.2.2.1).take (i+1)=(yQ r.2.2.2.1).take i++[if i+1<r.2.2.2.1.length then zFB x++[44] else zFB x]:=by rw[QW,hg];rfl
  have hl:=zDZ x
  unfold zDX
  have h1:decide ((i:Int)<len r.2.2.2.1)=true:=by simp;omega
  simp only[h1,Qc,xW,hx,zob,zOL]
  have h2:zM (len r.2.2.2.1-1)=(r.2.2.2.1.length:Int)-1:=uL (x:=(r.2.2.2.1.length:Int)-1) (by omega) (by omega)
  rw[h2]
  have htl:((yQ r.2.2.2.1).take i).length≤10000:=by rw[QL,zKG];omega
  by_cases hlt:i+1<r.2.2.2.1.length
  ·have h3:decide ((i:Int)<(r.2.2.2.1.length:Int)-1)=true:=by simp;omega
   simp[h3]
   rw[zNm (by simp;omega)]
   simp
   rw[wS (by simp;omega),vN i (by omega),htk,Qu hlt,QA]
   rfl
  ·have h3:decide ((i:Int)<(r.2.2.2.1.length:Int)-1)=false:=by simp;omega
   simp[h3]
   rw[wS (by simp;omega),vN i (by omega),htk,Qq hlt,QA]
   rfl
 ·intro s hs
  subst hs
  refine⟨_,?_,rfl⟩
  unfold zDX
  have h1:decide ((r.2.2.2.1.length:Int)<len r.2.2.2.1)=false:=by simp
  have h2:(yQ r.2.2.2.1).take r.2.2.2.1.length=yQ r.2.2.2.1:=Qs (by rw[zKG];exact Qr _)
  simp[h2]
theorem z0D{r:zR}(h0:0≤r.2.2.1)(h9:r.2.2.1≤9)(hn:r.1.length≤1000000)(hb:r.2.2.2.1.length≤10000): zEU r=some (jn (xA r)):=by
 have hl:=zDZ r.2.2.2.2
 have hs:=zSh r.2.2.2.1
 have hbl:=zKG r.2.2.2.1
 unfold zEU xA
 rw[zNm (by simp;omega)]
 cases hst:r.2.1 with
 | true =>
  simp
  rw[z4E r _ hb (by simp)]
  simp[zOL]
  rw[wS (by simp;omega)]
  simp
  rw[zUH (by simp;omega) (by simp;omega)]
  rfl
 | false =>
  simp[zZE h0 h9]
  rw[zNm (by simp[tF])]
  simp
  rw[z4E r _ hb (by simp)]
  simp[zOL]
  rw[wS (by simp;omega)]
  simp
  rw[zUH (by simp;omega) (by simp[tF];omega)]
  rfl
theorem z0G{p:wB}(h0:0≤p.2.1)(h9:p.2.1≤9)(hn:p.1.length≤1000000): zCz p=some (jn (zMz p)):=by
 have hl:=zDZ p.2.2
 unfold zCz zMz
 rw[zNm (by simp;omega)]
 simp
 rw[zNm (by simp;omega)]
 simp[zZE h0 h9]
 rw[zNm (by simp[tF];omega)]
 simp
 rw[zNm (by simp[tF];omega)]
 simp[zOL]
 rw[zNm (by simp[tF];omega)]
 simp[z0C,z1i,zSy,ifW]
end
section
def okP (p:qZ): Prop:=(p.2.1=1∨p.2.1=2∨p.2.1=3)∧vName p.1.2=true∧0≤p.2.2.1∧p.2.2.1≤9∧(p.2.1=2∨p.2.2.1=0)∧(p.2.2.2=[]∨vName p.2.2.2=true)
def okR (r:zR): Prop:=vName r.1=true∧vName r.2.2.2.2.2=true∧0≤r.2.2.1∧r.2.2.1≤9∧(r.2.1=true->r.2.2.1=0)∧∀ x∈r.2.2.2.1,vName x.2=true
def okT (p:wB): Prop:=vName p.1=true∧0≤p.2.1∧p.2.1≤9∧vName p.2.2.2=true
theorem okP_of{p:qZ}(h:zNc p=0): okP p:=by
 unfold zNc at h
 split at h
 ·rename_i hk
  split at h
  ·rename_i h2
   grind [okP]
  grind
 grind
theorem z9h{r:zR}(h:uJ r=0): okR r∧r.2.2.2.1.length≤4:=by
 unfold uJ at h
 split at h
 ·simp at h
 ·split at h
  ·rename_i h2
   simp only[Q6,Ue,Qo,tU,Qp,Bool.not_eq_true',QE] at h2
   obtain⟨⟨⟨⟨h1,h3⟩,h4,h5⟩,h6⟩,h7⟩:=h2
   refine⟨⟨h1,h3,h4,h5,fun hs=>?_,h7⟩,by omega⟩
   grind
  grind
theorem z9s{b:zI}{p:wB}(h:zRj b p=0)(hf:0≤uY b p.1->vName p.1=true): okT p:=by
 unfold zRj at h
 split at h
 ·rename_i h2
  grind [okT]
 grind
def tM (b:zI): zD:=(b.1.flatMap fun p=>jn (tD p)++[10])++((b.2.1.flatMap fun r=>jn (xA r)++[10])++(b.2.2.flatMap fun p=>jn (zMz p)++[10]))
theorem zQa{p:qZ}(h:okP p): (jn (tD p)).length≤200:=by
 have h1:=zUy (tD p)
 have hl:=zDZ p.1
 have hk:=zWK p.2.1
 have hs:p.2.2.2.length≤12:=by
  rcases h.2.2.2.2.2 with h | h
  ·simp[h]
  ·exact(zEc h).2
 have:((tD p).map List.length).sum+(tD p).length≤100:=by
  unfold tD
  split <;> split <;> simp[tF,zZm] <;> omega
 omega
theorem zQH{r:zR}(h:okR r)(hb:r.2.2.2.1.length≤4): (jn (xA r)).length≤400:=by
 have h1:=zUy (xA r)
 have hl:=zDZ r.2.2.2.2
 have hn:=(zEc h.1).2
 have hs:=zSh r.2.2.2.1
 have hbl:=zKG r.2.2.2.1
 have:((xA r).map List.length).sum+(xA r).length≤200:=by
  unfold xA
  cases r.2.1 <;> simp[zJZ,zM0,zYt,tF,hbl] <;> omega
 omega
theorem zUw{p:wB}(h:okT p): (jn (zMz p)).length≤200:=by
 have h1:=zUy (zMz p)
 have hl:=zDZ p.2.2
 have hn:=(zEc h.1).2
 have:((zMz p).map List.length).sum+(zMz p).length≤100:=by
  unfold zMz
  simp[zSy,ifW,tF];omega
 omega
theorem z0L{α:Type}{B:Int×zD->Option ((Int×zD)⊕zD)}(l:List α)(ln:α->zD)(hB:∀(i:Nat) x (t:zD),l[i]?=some x->t.length≤1000000->B ((i:Int),t)=some (.inl (((i+1:Nat):Int),t++(ln x++[10]))))
  (he:∀ t,B ((l.length:Int),t)=some (.inr t)) (hl:∀ x∈l,(ln x).length≤400) (hn:l.length≤100) (t0:zD) (h0:t0.length≤500000):zN B (0,t0)=some (t0++l.flatMap fun x=>ln x++[10]):=by
 have hsum:∀(k:Nat),((l.take k).flatMap fun x=>ln x++[10]).length≤401*k:=by
  intro k
  induction k with
  | zero=>simp
  | succ k ih =>
   rw[QW,U3,Qh]
   cases hx:l[k]? with
   | none=>simp only[Option.toList_none,List.flatMap_nil,Ud];omega
   | some x =>
    have:=hl x (QR hx)
    simp only[Option.toList_some,UJ,List.flatMap_nil,QB,Qh,QI,Ud];omega
 have h:=xS (B:=B) (fun i (t:zD)=>((i:Int),t)) l (fun i t=>t=t0++(l.take i).flatMap fun x=>ln x++[10]) (fun o=>o=t0++l.flatMap fun x=>ln x++[10]) ?_ ?_ t0 (by simp)
 ·obtain⟨o,h1,rfl⟩:=h
  exact h1
 ·intro i x t hx ht
  have hi:=(Qg.1 hx).1
  refine .inl ⟨t++(ln x++[10]),hB i x t hx ?_,?_⟩
  ·have:=hsum i
   subst ht
   rw[Qh];omega
  ·subst ht
   rw[QW,hx]
   simp
 ·intro t ht
  subst ht
  exact⟨_,he _,by rw[Qs (Qr _)]⟩
theorem z7W{b:zI}(h:Cnt b): zIf b=some (if zNb b≠0 then([],zNb b) else if 4096<(tM b).length then([],2) else(tM b,0)):=by
 unfold zIf
 rw[zM9 h]
 simp only[zob]
 by_cases hv:zNb b=0
 ·have hV:=zI5.1 hv
  simp only[hv,bne_self_eq_false,zbf,Qb,ne_eq,not_true_eq_false]
  have hP:∀ p∈b.1,okP p:=fun p hp=>okP_of (hV.prem p hp)
  have hR:∀ r∈b.2.1,okR r∧r.2.2.2.1.length≤4:=fun r hr=>z9h (hV.rule r hr)
  have hT:∀ p∈b.2.2,okT p:=fun p hp=>z9s (hV.prom p hp) (fun hf=>by
   obtain⟨k,r,_,h2,h3,_⟩:=zSV hf
   have:r.1=p.1:=by simpa using h3
   rw[←this]
   exact(hR r (QR h2)).1.1)
  have e1:=z0L (B:=zFs b) b.1 (fun p=>jn (tD p)) (fun i p t hx ht=>by
   have ho:=hP p (QR hx)
   have hlen:=zQa ho
   have hs:p.2.2.2.length≤1000000:=by
    rcases ho.2.2.2.2.2 with h | h
    ·simp[h]
    ·have:=(zEc h).2;omega
   have hi:=(Qg.1 hx).1
   have:=hV.np
   unfold zFs
   have h1:decide ((i:Int)<len b.1)=true:=by simp;omega
   simp only[h1,Qc,xW,hx,zob,zZ4 ho.1 ho.2.2.1 ho.2.2.2.1 hs]
   rw[zNm (by simp;omega)]
   simp only[zob,zBL,z4W]
   rw[Qu (by simp;omega)]
   simp only[zob]
   rw[vN i (by omega)]) (fun t=>by unfold zFs;simp) (fun p hp=>by have:=zQa (hP p hp);omega) (by have:=hV.np;omega) [] (by simp)
  rw[e1]
  simp only[zob,QM]
  have l1:(b.1.flatMap fun p=>jn (tD p)++[10]).length≤100000:=by
   have h1:∀ l:List qZ,(∀ p∈l,okP p)->(l.flatMap fun p=>jn (tD p)++[10]).length≤201*l.length:=by
    intro l hl
    induction l with
    | nil=>simp
    | cons p l ih =>
     have:=zQa (hl p (by simp))
     have:=ih fun q hq=>hl q (by simp[hq])
     simp only[UJ,Qh,QI,Ud] at this ⊢
     omega
   have:=h1 b.1 hP
   have:=hV.np
   omega
  have l2:(b.2.1.flatMap fun r=>jn (xA r)++[10]).length≤100000:=by
   have h1:∀ l:List zR,(∀ p∈l,okR p∧p.2.2.2.1.length≤4)->(l.flatMap fun p=>jn (xA p)++[10]).length≤401*l.length:=by
    intro l hl
    induction l with
    | nil=>simp
    | cons p l ih =>
     have:=zQH (hl p (by simp)).1 (hl p (by simp)).2
     have:=ih fun q hq=>hl q (by simp[hq])
     simp only[UJ,Qh,QI,Ud] at this ⊢
     omega
   have:=h1 b.2.1 hR
   have:=hV.nr
   omega
  have e2:=z0L (B:=zFx b) b.2.1 (fun p=>jn (xA p)) (fun i p t hx ht=>by
   obtain⟨ho,hb⟩:=hR p (QR hx)
   have hlen:=zQH ho hb
   have hs:=(zEc ho.1).2
   have hi:=(Qg.1 hx).1
   have:=hV.nr
   unfold zFx
   have h1:decide ((i:Int)<len b.2.1)=true:=by simp;omega
   simp only[h1,Qc,xW,hx,zob,z0D ho.2.2.1 ho.2.2.2.1 (by omega) (by omega)]
   rw[zNm (by simp;omega)]
   simp only[zob,zBL,z4W]
   rw[Qu (by simp;omega)]
   simp only[zob]
   rw[vN i (by omega)]) (fun t=>by unfold zFx;simp) (fun p hp=>zQH (hR p hp).1 (hR p hp).2) (by have:=hV.nr;omega) (b.1.flatMap fun p=>jn (tD p)++[10]) (by omega)
  rw[e2]
  simp only[zob]
  have e3:=z0L (B:=zFw b) b.2.2 (fun p=>jn (zMz p)) (fun i p t hx ht=>by
   have ho:=hT p (QR hx)
   have hlen:=zUw ho
   have hs:=(zEc ho.1).2
   have hi:=(Qg.1 hx).1
   have:=hV.nm
   unfold zFw
   have h1:decide ((i:Int)<len b.2.2)=true:=by simp;omega
   simp only[h1,Qc,xW,hx,zob,z0G ho.2.1 ho.2.2.1 (by omega)]
   rw[zNm (by simp;omega)]
   simp only[zob,zBL,z4W]
   rw[Qu (by simp;omega)]
   simp only[zob]
   rw[vN i (by omega)]) (fun t=>by unfold zFw;simp) (fun p hp=>by have:=zUw (hT p hp);omega) (by have:=hV.nm;omega) ((b.1.flatMap fun p=>jn (tD p)++[10])++(b.2.1.flatMap fun r=>jn (xA r)++[10])) (by rw[Qh];omega)
  rw[e3]
  have hf:(b.1.flatMap fun p=>jn (tD p)++[10])++(b.2.1.flatMap fun r=>jn (xA r)++[10])++(b.2.2.flatMap fun p=>jn (zMz p)++[10])=tM b:=by unfold tM;rw[QA]
  rw[hf]
  simp only[zob,zIX,zGB]
  by_cases h4:4096<(tM b).length
  ·have:decide ((4096:Int)<len (tM b))=true:=QO (show(4096:Int)<((tM b).length:Int) by omega)
   simp[this,h4]
  ·have:decide ((4096:Int)<len (tM b))=false:=Un (show ¬ (4096:Int)<((tM b).length:Int) by omega)
   simp[this,h4]
 ·have:(zNb b != 0)=true:=by simpa using hv
  simp[this,hv]
end
section
theorem zIL (w:zD)(r:List zD)(b:Bool): zAD (w::r,b)=some (w,r,b):=by
 unfold zAD
 have h2:zB (w::r) 0=some w:=rfl
 have h3:sub (w::r) 1 (len (w::r))=some r:=by rw[z0B (by omega) (by simp;omega)];rfl
 rw[h2]
 rw[h3]
 rfl
theorem z9V (b:Bool): zAD ([],b)=some ([],[],true):=rfl
theorem zOf (l:List zD)(b:Bool): zAD (l,b)=some (l.headD [],l.tail,b||l.isEmpty):=by
 cases l with
 | nil=>rw[z9V];simp
 | cons w r=>rw[zIL];simp
def z38 (s u:zD): zD×Bool:=if u.length≤s.length∧s.drop (s.length-u.length)=u then(s.take (s.length-u.length),true) else(s,false)
theorem zOY{s u:zD}(h:s.length<1000000): zD0 s u=some (z38 s u):=by
 have hs:zCM s u=some (decide (u.length≤s.length∧s.drop (s.length-u.length)=u)):=by
  unfold zCM
  by_cases hl:u.length≤s.length
  ·have h1:decide (len u≤len s)=true:=QO (show(u.length:Int)≤s.length by omega)
   have h2:zM (len s-len u)=((s.length-u.length:Nat):Int):=by rw[uL (x:=(s.length:Int)-u.length) (by omega) (by omega)];omega
   simp only[h1,Qc,h2]
   rw[z0B (by omega) (by omega)]
   simp[hl]
   congr 1
   rw[QV];simp
  ·simp[hl]
 unfold zD0 zDV z38
 rw[hs]
 by_cases hc:u.length≤s.length∧s.drop (s.length-u.length)=u
 ·have h2:zM (len s-len u)=((s.length-u.length:Nat):Int):=by rw[uL (x:=(s.length:Int)-u.length) (by omega) (by omega)];omega
  simp[QO hc,h2,Qu hc]
  rw[zSN (by omega) (by omega)]
  simp
 ·simp[Un hc,Qq hc]
theorem zZA (s u:zD): z38 (s++u) u=(s,true):=by
 unfold z38
 rw[Qu] <;> simp
theorem z9f (s u:zD): (z38 s u).1.length≤s.length:=by
 unfold z38
 split
 ·simp[QL]
 ·simp
def ShT (l:List zD): Prop:=∀ w∈l,w.length≤5000
theorem ShT.head{l:List zD}(h:ShT l): (l.headD []).length≤5000:=by
 cases l with
 | nil=>simp
 | cons w r=>exact h w (by simp)
theorem ShT.tail{l:List zD}(h:ShT l): ShT l.tail:=fun w hw=>h w (List.mem_of_mem_tail hw)
theorem zS8{l:List zD}(h:ShT l)(b:Bool)(u:zD): ∃ s b',zA0 (l,b) u=some (s,l.tail,b')∧s.length≤5000∧(b'=false->b=false∧vName s=true):=by
 have hh:=h.head
 have hc:=z9f (l.headD []) u
 unfold zA0
 rw[zOf]
 simp only[zob,zOY (u:=u) (show(l.headD []).length<1000000 by omega)]
 cases hb:(b||l.isEmpty) with
 | true=>exact⟨_,true,rfl,by omega,by simp⟩
 | false =>
  simp only[Uw] at hb
  simp only[zbf,Qb]
  cases hx:(z38 (l.headD []) u).2 with
  | false=>exact⟨_,true,rfl,by omega,by simp⟩
  | true =>
   simp only[QN,zbf,Qb,zQd,zob]
   exact⟨_,_,rfl,by omega,fun h=>⟨hb.1,by simpa using h⟩⟩
theorem z0I{s:zD}(h:vName s=true)(u:zD)(hu:u.length≤1)(r:List zD)(b:Bool): zA0 ((s++u)::r,b) u=some (s,r,b):=by
 have:=zEc h
 unfold zA0
 rw[zIL]
 simp
 rw[zOY (by simp;omega),zZA]
 simp[zQd,h]
 cases b <;> rfl
theorem z3F{s:zD}(h:(zOk s).2=0): vName (zOk s).1.2=true:=by
 by_cases h1:∃ r,s=126::r
 ·obtain⟨r,rfl⟩:=h1
  rw[zN8] at h ⊢
  split at h
  ·rename_i hv;rw[Qu hv];exact hv
  ·simp at h
 ·rw[zKx fun r hr=>h1 ⟨r,hr⟩] at h ⊢
  split at h
  ·rename_i hv;rw[Qu hv];exact hv
  ·simp at h
theorem zZM{l:List zD}(h:ShT l)(b:Bool)(u:zD): ∃ x b',zBF (l,b) u=some (x,l.tail,b')∧(b'=false->b=false∧vName x.2=true):=by
 have hh:=h.head
 unfold zBF
 rw[zOf]
 simp only[zob,zOY (u:=u) (show(l.headD []).length<1000000 by omega),z1P]
 cases hb:(b||l.isEmpty) with
 | true=>exact⟨_,true,rfl,by simp⟩
 | false =>
  simp only[Uw] at hb
  simp only[zbf,Qb]
  cases hx:(z38 (l.headD []) u).2 with
  | false=>exact⟨_,true,rfl,by simp⟩
  | true =>
   simp only[QN,zbf,Qb,zob]
   exact⟨_,_,rfl,fun h=>⟨hb.1,z3F (by simpa using h)⟩⟩
theorem zZ9{x:zC}(h:vName x.2=true): zOk (zFB x)=(x,0):=by
 obtain⟨g,s⟩:=x
 unfold zFB
 rw[Qu h]
 cases g with
 | true=>simp;rw[zN8,Qu h]
 | false =>
  simp
  rw[zKx,Qu h]
  rintro r rfl
  exact absurd h (by simp[vName,loB])
theorem z1F{x:zC}(h:vName x.2=true)(u:zD)(hu:u.length≤1)(r:List zD)(b:Bool): zBF ((zFB x++u)::r,b) u=some (x,r,b):=by
 have:=zDZ x
 unfold zBF
 rw[zIL]
 simp
 rw[zOY (by simp;omega),zZA]
 simp[z1P,zZ9 h]
 cases b <;> rfl
theorem zZ5{l:List zD}(h:ShT l)(b:Bool)(u:zD): ∃ n b',zBV (l,b) u=some (n,l.tail,b')∧0≤n∧n≤9∧(b'=false->b=false):=by
 have hh:=h.head
 unfold zBV
 rw[zOf]
 simp only[zob,zOY (u:=u) (show(l.headD []).length<1000000 by omega)]
 cases hx:(z38 (l.headD []) u).2 with
 | false=>exact⟨0,true,rfl,by omega,by omega,by simp⟩
 | true =>
  simp only[QN,zbf,Qb]
  by_cases h1:(z38 (l.headD []) u).1.length=1
  ·obtain⟨c,hc⟩:=List.length_eq_one_iff.1 h1
   have e1:((len (z38 (l.headD []) u).1) != 1)=false:=by rw[hc];rfl
   have e2:z2G (z38 (l.headD []) u).1 0=some (c.toNat:Int):=by rw[hc];rfl
   simp only[e1,zbf,Qb,e2,zob]
   by_cases h2:c.toNat<48
   ·have:decide ((c.toNat:Int)<48)=true:=by simp;omega
    simp only[this,Qc,zob]
    exact⟨0,true,rfl,by omega,by omega,by simp⟩
   ·have:decide ((c.toNat:Int)<48)=false:=by simp;omega
    simp only[this,zbf,Qb,zob]
    by_cases h3:57<c.toNat
    ·have:decide ((57:Int)<c.toNat)=true:=by simp;omega
     simp only[this,Qc]
     exact⟨0,true,rfl,by omega,by omega,by simp⟩
    ·have:decide ((57:Int)<c.toNat)=false:=by simp;omega
     simp only[this,zbf,Qb]
     have hw:zM (IntKind.u8.wrap ((c.toNat:Int)-48))=(c.toNat:Int)-48:=by
      have:IntKind.u8.wrap ((c.toNat:Int)-48)=(c.toNat:Int)-48:=by simp only[IntKind.wrap,IntKind.signed,IntKind.bits,Ui,zbf,Qb];omega
      rw[this,uL (by omega) (by omega)]
     rw[hw]
     exact⟨_,_,rfl,by omega,by omega,fun h=>by simp only[Uw] at h;exact h.1⟩
  ·have e1:((len (z38 (l.headD []) u).1) != 1)=true:=bne_iff_ne.2 (show((z38 (l.headD []) u).1.length:Int)≠1 by omega)
   simp only[e1,Qc]
   exact⟨0,true,rfl,by omega,by omega,by simp⟩
theorem z2v{n:Int}(h0:0≤n)(h9:n≤9)(u:zD)(hu:u.length≤1)(r:List zD)(b:Bool): zBV ((tF n++u)::r,b) u=some (n,r,b):=by
 unfold zBV
 rw[zIL]
 simp only[zob]
 rw[zOY (by simp[tF];omega),zZA]
 obtain⟨k,rfl⟩:∃ k:Nat,n=k:=⟨n.toNat,by omega⟩
 have hd:tF (k:Int)=[UInt8.ofNat (48+k)]:=rfl
 have hc:(UInt8.ofNat (48+k)).toNat=48+k:=by simp;omega
 have e3:z2G [UInt8.ofNat (48+k)] 0=some ((UInt8.ofNat (48+k)).toNat:Int):=rfl
 have e2:z2G (tF (k:Int)) 0=some ((48+k:Nat):Int):=by rw[hd,e3,hc]
 have e1:((len (tF (k:Int))) != 1)=false:=rfl
 simp only[zob,QN,zbf,Qb,e1,e2]
 have d1:decide (((48+k:Nat):Int)<48)=false:=by simp;omega
 have d2:decide ((57:Int)<((48+k:Nat):Int))=false:=by simp;omega
 simp only[d1,d2,zbf,Qb,zob]
 have hw:zM (IntKind.u8.wrap (((48+k:Nat):Int)-48))=(k:Int):=by
  have:IntKind.u8.wrap (((48+k:Nat):Int)-48)=(k:Int):=by simp only[IntKind.wrap,IntKind.signed,IntKind.bits,Ui,zbf,Qb];omega
  rw[this,uL (by omega) (by omega)]
 rw[hw]
end
section
theorem z8B{l:List zD}(h:ShT l)(b:Bool){k:Int}(hk:k=1∨k=2∨k=3): ∃ p r b',zCH (l,b) k=some (p,r,b')∧p.2.1=k∧0≤p.2.2.1∧p.2.2.1≤9∧p.2.2.2.length≤5000∧(b'=false->okP p):=by
 obtain⟨x,b1,e1,h1⟩:=zZM h b []
 unfold zCH
 rw[e1]
 simp only[zob]
 have hs1:∃ l2 b2 n,(if k==2 then(zBV (l.tail,b1) []).bind fun r2=>some (r2.2.1,r2.2.2,r2.1) else some (l.tail,b1,0):Option ((List zD)×Bool×Int))=some (l2,b2,n)∧ShT l2∧0≤n∧n≤9∧(k=2∨n=0)∧(b2=false->b1=false):=by
  by_cases h2:k=2
  ·obtain⟨n,b2,e2,h3,h4,h5⟩:=zZ5 h.tail b1 []
   have:(k==2)=true:=by simpa using h2
   simp only[this,Qc,e2,zob]
   exact⟨_,_,_,rfl,h.tail.tail,h3,h4,.inl h2,h5⟩
  ·have:(k==2)=false:=by simpa using h2
   simp only[this,zbf,Qb]
   exact⟨_,_,_,rfl,h.tail,by omega,by omega,.inr rfl,id⟩
 obtain⟨l2,b2,n,e2,hs,hn0,hn9,hkn,h2⟩:=hs1
 rw[e2]
 simp only[zob]
 have hs2:∃ l3 b3 sr,(if decide (0<(len l2)) then
   (if b2 then some (l2,true) else(zAD (l2,b2)).bind fun r3=>some (r3.2.1,!(r3.1==[102,114,111,109])):Option ((List zD)×Bool)).bind fun s3 =>
   (zA0 (s3.1,s3.2) []).bind fun r4=>some (r4.2.1,r4.2.2,r4.1)
  else some (l2,b2,[]):Option ((List zD)×Bool×zD))=some (l3,b3,sr)∧sr.length≤5000∧(b3=false->b2=false∧(sr=[]∨vName sr=true)):=by
  by_cases h0:0<l2.length
  ·have:decide (0<len l2)=true:=QO (show(0:Int)<l2.length by omega)
   simp only[this,Qc]
   cases b2 with
   | true =>
    simp only[Qc,zob]
    obtain⟨sr,b4,e4,h4,h5⟩:=zS8 hs true []
    simp only[e4,zob]
    exact⟨_,_,_,rfl,h4,fun h=>absurd (h5 h).1 (by simp)⟩
   | false =>
    simp only[zbf,Qb,zOf,zob]
    obtain⟨sr,b4,e4,h4,h5⟩:=zS8 hs.tail (!(l2.headD []==[102,114,111,109])) []
    simp only[e4,zob]
    exact⟨_,_,_,rfl,h4,fun h=>⟨by trivial,.inr (h5 h).2⟩⟩
  ·have:decide (0<len l2)=false:=Un (show ¬ (0:Int)<l2.length by omega)
   simp only[this,zbf,Qb]
   exact⟨_,_,_,rfl,by simp,fun h=>⟨h,.inl rfl⟩⟩
 obtain⟨l3,b3,sr,e3,hsr,h3⟩:=hs2
 rw[e3]
 simp only[zob]
 exact⟨(x,k,n,sr),l3,b3,rfl,rfl,hn0,hn9,hsr,fun hb=>⟨hk,(h1 (h2 (h3 hb).1)).2,hn0,hn9,hkn,(h3 hb).2⟩⟩
theorem prem_ok{p:qZ}(h:okP p): zCH ((tD p).tail,false) p.2.1=some (p,[],false):=by
 obtain⟨x,k,n,s⟩:=p
 obtain⟨hk,hx,h0,h9,hkn,hs⟩:=h
 have e1:=fun r=>z1F hx [] (by simp) r false
 simp at e1
 have e2:=fun r=>z2v h0 h9 [] (by simp) r false
 simp at e2
 unfold zCH tD
 simp only[UP,QM,List.tail_cons]
 rw[e1]
 have src:∀ n:Int,((if decide (0<(len (if s=[] then([]:List zD) else[zZm,s]))) then
   (if false then some ((if s=[] then([]:List zD) else[zZm,s]),true) else(zAD ((if s=[] then([]:List zD) else[zZm,s]),false)).bind fun r3=>some (r3.2.1,!(r3.1==[102,114,111,109])):Option ((List zD)×Bool)).bind fun s3 =>
   (zA0 (s3.1,s3.2) []).bind fun r4=>some (r4.2.1,r4.2.2,r4.1)
  else some ((if s=[] then([]:List zD) else[zZm,s]),false,[]):Option ((List zD)×Bool×zD)).bind fun s2=>some ((x,k,n,s2.2.2),s2.1,s2.2.1))=some ((x,k,n,s),[],false):=by
  intro n
  by_cases hs0:s=[]
  ·subst hs0;simp
  ·have hv:=hs.resolve_left hs0
   have e3:=z0I hv [] (by simp) [] false
   simp at e3
   have h1:decide (0<len [zZm,s])=true:=by simp
   have h2:(zZm==[102,114,111,109])=true:=rfl
   simp[Qq hs0,zIL,h2,e3]
 by_cases h2:k=2
 ·have hk2:(k==2)=true:=by simpa using h2
  simp only[hk2,Qc,Qu h2,List.singleton_append,e2,zob]
  exact src n
 ·have hk2:(k==2)=false:=by simpa using h2
  obtain rfl:n=0:=hkn.resolve_left h2
  simp only[hk2,zbf,Qb,Qq h2,QM,zob]
  exact src 0
theorem z94{l:List zD}(h:ShT l)(b:Bool): ∃ p r b',zBt (l,b)=some (p,r,b')∧0≤p.2.1∧p.2.1≤9∧p.1.length≤5000∧(b'=false->okT p):=by
 obtain⟨s,b1,e1,h1,h1'⟩:=zS8 h b []
 obtain⟨n,b2,e2,h2,h2',h2''⟩:=zZ5 h.tail b1 []
 unfold zBt
 rw[e1]
 simp only[zob,e2]
 have hs1:∃ l3 b3,(if b2 then some (l.tail.tail,true) else(zAD (l.tail.tail,b2)).bind fun r3=>some (r3.2.1,!(r3.1==[105,102])):Option ((List zD)×Bool))=some (l3,b3)∧ShT l3∧(b3=false->b2=false):=by
  cases b2 with
  | true=>exact⟨_,_,rfl,h.tail.tail,by simp⟩
  | false =>
   simp only[zbf,Qb,zOf,zob]
   exact⟨_,_,rfl,h.tail.tail.tail,fun _=>by trivial⟩
 obtain⟨l3,b3,e3,h3,h3'⟩:=hs1
 rw[e3]
 obtain⟨x,b4,e4,h4⟩:=zZM h3 b3 []
 simp only[zob,e4]
 exact⟨(s,n,x),_,b4,rfl,h2,h2',h1,fun hb=>⟨(h1' (h2'' (h3' (h4 hb).1))).2,h2,h2',(h4 hb).2⟩⟩
theorem prom_ok{p:wB}(h:okT p): zBt ((zMz p).tail,false)=some (p,[],false):=by
 obtain⟨s,n,x⟩:=p
 obtain⟨hs,h0,h9,hx⟩:=h
 have e1:=fun r=>z0I hs [] (by simp) r false
 simp at e1
 have e2:=fun r=>z2v h0 h9 [] (by simp) r false
 simp at e2
 have e3:=fun r=>z1F hx [] (by simp) r false
 simp at e3
 unfold zBt zMz
 simp[e1,e2,zIL]
 have h2:(ifW==[105,102])=true:=rfl
 simp[h2,e3]
theorem z91{l:List zD}(h:ShT l)(b:Bool)(acc:List zC)(ha:acc.length+l.length≤10000)(hv:b=false->∀ x∈acc,vName x.2=true):
  ∃ r b' body,zN zBm (l,b,acc)=some (r,b',body)∧ShT r∧body.length≤10000∧(b'=false->b=false∧∀ x∈body,vName x.2=true):=by
 have h:=zTD (B:=zBm) (fun s=>s.1.length) (fun s=>ShT s.1∧s.2.2.length+s.1.length≤10000∧(s.2.1=false->b=false∧∀ x∈s.2.2,vName x.2=true))
  (fun o=>ShT o.1∧o.2.2.length≤10000∧(o.2.1=false->b=false∧∀ x∈o.2.2,vName x.2=true)) ?_ (l,b,acc) ⟨h,ha,fun hb=>⟨hb,hv hb⟩⟩
 ·obtain⟨⟨r,b',body⟩,h1,h2,h3,h4⟩:=h
  exact⟨r,b',body,h1,h2,h3,h4⟩
 ·rintro ⟨l,bb,acc⟩ ⟨hs,hl,hv⟩
  unfold zBm
  simp only at hs hl hv ⊢
  by_cases hc:2<l.length∧bb=false
  ·obtain⟨h2,rfl⟩:=hc
   have:(decide (2<len l)&&!false)=true:=by simp;exact(show(2:Int)<l.length by omega)
   simp only[this,Qc]
   have hcm:∃ u:zD,(if(len l)==3 then some [] else some [44]:Option zD)=some u:=by split <;> exact⟨_,rfl⟩
   obtain⟨u,hu⟩:=hcm
   rw[hu]
   obtain⟨x,b1,e1,h1⟩:=zZM hs false u
   simp only[zob,e1]
   rw[wS (by simp;omega)]
   simp only[zob]
   refine .inl ⟨_,rfl,⟨hs.tail,by simp;omega,fun hb=>⟨(hv rfl).1,fun y hy=>?_⟩⟩,by simp;omega⟩
   rcases Qd.1 hy with hy | hy
   ·exact(hv rfl).2 y hy
   ·simp at hy;subst hy;exact(h1 hb).2
  ·have:(decide (2<len l)&&!bb)=false:=by
    cases bb with
    | true=>simp
    | false =>
     simp only[Q8,Bool.and_true]
     exact Un (show ¬ (2:Int)<l.length by simp at hc;omega)
   simp only[this,zbf,Qb]
   exact .inr ⟨_,rfl,hs,by show acc.length≤10000;omega,hv⟩
theorem zNX{σ ρ:Type}{B:σ->Option (σ⊕ρ)}{s s':σ}(h:B s=some (.inl s')): zN B s=zN B s':=by rw[vR,h]
theorem zRo{σ ρ:Type}{B:σ->Option (σ⊕ρ)}{s:σ}{r:ρ}(h:B s=some (.inr r)): zN B s=some r:=by rw[vR,h]
theorem z2D:∀(l:List zC) (a h:zD) (acc:List zC),(∀ x∈l,vName x.2=true)->acc.length+l.length≤10000->zN zBm (yQ l++[a,h],false,acc)=some ([a,h],false,acc++l)
 | [],a,h,acc,_,_=>by
  rw[QB]
  exact zRo rfl
 | x::r,a,h,acc,hv,hl=>by
  have hx:=hv x (by simp)
  have ih:=z2D r a h (acc++[x]) (fun y hy=>hv y (by simp[hy])) (by simp at hl ⊢;omega)
  have step:zBm (yQ (x::r)++[a,h],false,acc)=some (.inl (yQ r++[a,h],false,acc++[x])):=by
   unfold zBm
   have hc:(decide (2<len (yQ (x::r)++[a,h]))&&!false)=true:=by
    simp only[Q8,Bool.and_true]
    exact QO (show(2:Int)<(yQ (x::r)++[a,h]).length by rw[Qh,zKG];simp;omega)
   simp only[hc,Qc]
   cases r with
   | nil =>
    have h3:((len (yQ [x]++[a,h]))==3)=true:=rfl
    have e1:=z1F hx [] (by simp) [a,h] false
    rw[QB] at e1
    have e0:yQ [x]++[a,h]=zFB x::[a,h]:=rfl
    simp[h3]
    rw[e0,e1]
    simp
    rw[wS (by simp;omega)]
    rfl
   | cons y r =>
    have h3:((len (yQ (x::y::r)++[a,h]))==3)=false:=by
     have:((yQ (x::y::r)++[a,h]).length:Int)≠3:=by rw[Qh,zKG];simp;omega
     exact UX this
    have e1:=z1F hx [44] (by simp) (yQ (y::r)++[a,h]) false
    have e0:yQ (x::y::r)++[a,h]=(zFB x++[44])::(yQ (y::r)++[a,h]):=rfl
    simp[h3]
    rw[e0,e1]
    simp
    rw[wS (by simp;omega)]
    rfl
  rw[zNX step,ih]
  simp
theorem z8L{l:List zD}(h:ShT l)(hl:l.length≤5000)(st:Bool): ∃ q r b',zCw (l,false) st=some (q,r,b')∧q.2.1=st∧0≤q.2.2.1∧q.2.2.1≤9∧q.1.length≤5000∧q.2.2.2.1.length≤10000∧(b'=false->okR q):=by
 unfold zCw
 have hs1:∃ ar l1 b1 nm rk,(if st then(zA0 (l,false) [58]).bind fun r1=>some ([45,62],r1.2.1,r1.2.2,r1.1,0)
  else(zA0 (l,false) []).bind fun r2=>(zBV (r2.2.1,r2.2.2) [58]).bind fun r3=>some ([61,62],r3.2.1,r3.2.2,r2.1,r3.1):Option (zD×(List zD)×Bool×zD×Int))=some (ar,l1,b1,nm,rk) ∧
   ShT l1∧l1.length≤5000∧nm.length≤5000∧0≤rk∧rk≤9∧(st=true->rk=0)∧(b1=false->vName nm=true):=by
  cases st with
  | true =>
   obtain⟨s,b1,e1,h1,h1'⟩:=zS8 h false [58]
   simp only[Qc,e1,zob]
   exact⟨_,_,_,_,_,rfl,h.tail,by simp;omega,h1,by omega,by omega,fun _=>rfl,fun hb=>(h1' hb).2⟩
  | false =>
   obtain⟨s,b1,e1,h1,h1'⟩:=zS8 h false []
   obtain⟨n,b2,e2,h2,h2',h2''⟩:=zZ5 h.tail b1 [58]
   simp only[zbf,Qb,e1,zob,e2]
   exact⟨_,_,_,_,_,rfl,h.tail.tail,by simp;omega,h1,h2,h2',fun h=>(by cases h),fun hb=>(h1' (h2'' hb)).2⟩
 obtain⟨ar,l1,b1,nm,rk,e1,hs,hl1,hnm,hr0,hr9,hst,h1⟩:=hs1
 rw[e1]
 obtain⟨l2,b2,body,e2,h2,hbd,h2'⟩:=z91 hs b1 [] (by simp;omega) (by simp)
 simp only[zob,e2]
 have hs2:∃ l3 b3,(if b2 then some (l2,true) else(zAD (l2,b2)).bind fun r5=>some (r5.2.1,!(r5.1==ar)):Option ((List zD)×Bool))=some (l3,b3)∧ShT l3∧(b3=false->b2=false):=by
  cases b2 with
  | true=>exact⟨_,_,rfl,h2,by simp⟩
  | false =>
   simp only[zbf,Qb,zOf,zob]
   exact⟨_,_,rfl,h2.tail,fun _=>by trivial⟩
 obtain⟨l3,b3,e3,h3,h3'⟩:=hs2
 rw[e3]
 obtain⟨x,b4,e4,h4⟩:=zZM h3 b3 []
 simp only[zob,e4]
 exact⟨(nm,st,rk,body,x),_,b4,rfl,rfl,hr0,hr9,hnm,hbd,fun hb=>⟨h1 (h2' (h3' (h4 hb).1)).1,(h4 hb).2,hr0,hr9,hst,(h2' (h3' (h4 hb).1)).2⟩⟩
theorem rule_ok{r:zR}(h:okR r)(hb:r.2.2.2.1.length≤5000): zCw ((xA r).tail,false) r.2.1=some (r,[],false):=by
 obtain⟨nm,st,rk,body,x⟩:=r
 obtain⟨hn,hx,h0,h9,hst,hv⟩:=h
 simp only at hn hx h0 h9 hst hv hb
 have e5:=z1F hx [] (by simp) [] false
 rw[QB] at e5
 unfold zCw xA
 cases st with
 | true =>
  obtain rfl:=hst rfl
  simp
  rw[z0I hn [58] (by simp)]
  simp
  rw[z2D body _ _ [] hv (by simp;omega)]
  have h2:(zYt true==[45,62])=true:=rfl
  simp[zIL,h2,e5]
 | false =>
  simp
  have e1:=fun r=>z0I hn [] (by simp) r false
  simp at e1
  rw[e1]
  simp
  rw[z2v h0 h9 [58] (by simp)]
  simp
  rw[z2D body _ _ [] hv (by simp;omega)]
  have h2:(zYt false==[61,62])=true:=rfl
  simp[zIL,h2,e5]
end
section
inductive El
 | p (x:qZ)
 | r (x:zR)
 | t (x:wB)
def El.ok:El->Prop
 | .p x=>okP x
 | .r x=>okR x
 | .t x=>okT x
def El.ws:El->List zD
 | .p x=>tD x
 | .r x=>xA x
 | .t x=>zMz x
abbrev El.line (e:El): zD:=jn e.ws
def El.kind:El->Int
 | .p _=>1
 | .r _=>2
 | .t _=>3
def El.add (b:zI): El->zI
 | .p x=>(b.1++[x],b.2.1,b.2.2)
 | .r x=>(b.1,b.2.1++[x],b.2.2)
 | .t x=>(b.1,b.2.1,b.2.2++[x])
theorem z5j{n:Int}(h0:0≤n)(h9:n≤9): wd (tF n)=true:=by
 obtain⟨k,rfl⟩:∃ k:Nat,n=k:=⟨n.toNat,by omega⟩
 have:∀ k:_root_.Fin 10,wd (tF (k.val:Int))=true:=by decide +kernel
 exact this ⟨k,by omega⟩
theorem z4L:∀ l:List zC,(∀ x∈l,vName x.2=true)->∀ w∈yQ l,wd w=true
 | [],_,w,hw=>by cases hw
 | [x],h,w,hw=>by
  simp[yQ] at hw
  subst hw;exact z1J (h x (by simp))
 | x::y::r,h,w,hw=>by
  simp[yQ] at hw
  rcases hw with rfl | hw
  ·exact z2Z (by decide) (z1J (h x (by simp)))
  ·exact z4L (y::r) (fun z hz=>h z (by simp at hz ⊢;exact .inr hz)) w hw
theorem z93 (k:Int): wd (zN6 k)=true:=by
 unfold zN6
 split
 ·decide
 ·split <;> decide
theorem El.wd{e:El}(h:e.ok): ∀ w∈e.ws,wd w=true:=by
 cases e with
 | p x =>
  obtain⟨hk,hx,h0,h9,hkn,hs⟩:=h
  intro w hw
  simp only[El.ws,tD,Qd,Qv,U6,or_false] at hw
  rcases hw with((rfl | rfl) | hw) | hw
  ·exact z93 _
  ·exact z1J hx
  ·split at hw
   ·simp at hw;subst hw;exact z5j h0 h9
   ·cases hw
  ·split at hw
   ·cases hw
   ·rename_i hs0
    simp at hw
    rcases hw with rfl | rfl
    ·decide
    ·exact zUp (hs.resolve_left hs0)
 | r x =>
  obtain⟨hn,hx,h0,h9,hst,hv⟩:=h
  intro w hw
  simp only[El.ws,xA,Qd,Qv,U6,or_false] at hw
  rcases hw with(hw | hw) | (rfl | rfl)
  ·split at hw
   ·simp at hw
    rcases hw with rfl | rfl
    ·decide
    ·exact z2Z (by decide) (zUp hn)
   ·simp at hw
    rcases hw with rfl | rfl | rfl
    ·decide
    ·exact zUp hn
    ·exact z2Z (by decide) (z5j h0 h9)
  ·exact z4L _ hv w hw
  ·unfold zYt;split <;> decide
  ·exact z1J hx
 | t x =>
  obtain⟨hn,h0,h9,hx⟩:=h
  intro w hw
  simp[El.ws,zMz] at hw
  rcases hw with rfl | rfl | rfl | rfl | rfl
  ·decide
  ·exact zUp hn
  ·exact z5j h0 h9
  ·decide
  ·exact z1J hx
theorem El.fields{e:El}(h:e.ok): Lib.fieldsD e.line=e.ws:=z5N (El.wd h)
theorem z1S{w:zD}(rest:List zD×Bool)(k:Int)(hw:w=zN6 k)(hk:k=1∨k=2∨k=3): zN (zJv (w,rest)) (1,0)=some k:=by
 have hw':zN6 k=w:=hw.symm
 rcases hk with rfl | rfl | rfl <;>
  (subst hw'
   refine zLQ (n:=6) ?_
   rfl)
def BSh (b:zI): Prop:=b.1.length≤10000∧b.2.1.length≤10000∧b.2.2.length≤10000
theorem sel3 (w a b c:zD): (if w==a then some (w==a) else if w==b then some (w==b) else some (w==c):Option Bool)=some (decide (w=a∨w=b∨w=c)):=by
 by_cases h1:w=a
 ·subst h1;simp
 ·by_cases h2:w=b
  ·subst h2;simp
  ·have e1:(w==a)=false:=UX h1
   have e2:(w==b)=false:=UX h2
   simp[e1,e2]
   congr 1
   rw[QV]
   simp[h1,h2]
theorem sel2 (w a b:zD): (if w==a then some (w==a) else some (w==b):Option Bool)=some (decide (w=a∨w=b)):=by
 by_cases h1:w=a
 ·subst h1;simp
 ·have e1:(w==a)=false:=UX h1
  simp[e1]
  congr 1
  rw[QV]
  simp[h1]
theorem add_any{l:List zD}(h:ShT l)(hl:l.length≤5000){b:zI}(hb:BSh b): ∃ k t r bad b',zDJ (l,false) b=some (k,t,r,bad,b')∧(bad=false->1≤k->∃ e:El,e.ok∧t=e.line∧k=e.kind∧b'=e.add b):=by
 unfold zDJ
 rw[zOf]
 simp only[zob]
 have hs1:(if(l.headD [])==[97,120,105,111,109] then some ((l.headD [])==[97,120,105,111,109]) else
   if(l.headD [])==[112,114,101,109,105,115,101] then some ((l.headD [])==[112,114,101,109,105,115,101]) else some ((l.headD [])==[97,115,115,117,109,101]):Option Bool) =
   some (decide (l.headD []=zN6 1∨l.headD []=zN6 2∨l.headD []=zN6 3)):=sel3 _ _ _ _
 have hs4:(if(l.headD [])==[115,116,114,105,99,116] then some ((l.headD [])==[115,116,114,105,99,116]) else some ((l.headD [])==[114,117,108,101]):Option Bool) =
   some (decide (l.headD []=zJZ∨l.headD []=zM0)):=sel2 _ _ _
 rw[hs1]
 simp only[zob,UO]
 by_cases hk:l.headD []=zN6 1∨l.headD []=zN6 2∨l.headD []=zN6 3
 ·obtain⟨k,hw,hk'⟩:∃ k:Int,l.headD []=zN6 k∧(k=1∨k=2∨k=3):=by
   rcases hk with h | h | h
   ·exact⟨1,h,by simp⟩
   ·exact⟨2,h,by simp⟩
   ·exact⟨3,h,by simp⟩
  simp only[QO hk,Qc]
  rw[z1S _ k hw hk']
  obtain⟨p,r,b',e1,h1,h2,h3,h4,h5⟩:=z8B h.tail l.isEmpty hk'
  simp only[zob,e1]
  rw[wS (by have:=hb.1;simp;omega),zZ4 (by rw[h1];exact hk') h2 h3 (by omega)]
  exact⟨1,_,r,b',_,rfl,fun hbb _=>⟨.p p,h5 hbb,rfl,rfl,rfl⟩⟩
 ·simp only[Un hk,zbf,Qb]
  rw[hs4]
  simp only[zob]
  by_cases hr:l.headD []=zJZ∨l.headD []=zM0
  ·simp only[QO hr,Qc]
   have hne:l.isEmpty=false:=by
    cases l with
    | nil=>rcases hr with h | h <;> cases h
    | cons=>rfl
   rw[hne]
   obtain⟨q,r,b',e1,h1,h2,h3,h4,h5,h6⟩:=z8L h.tail (by simp;omega) (l.headD []==[115,116,114,105,99,116])
   rw[e1]
   simp only[zob]
   rw[wS (by have:=hb.2.1;simp;omega),z0D h2 h3 (by omega) h5]
   exact⟨2,_,r,b',_,rfl,fun hbb _=>⟨.r q,h6 hbb,rfl,rfl,rfl⟩⟩
  ·simp only[Un hr,zbf,Qb]
   split
   ·obtain⟨p,r,b',e1,h1,h2,h3,h4⟩:=z94 h.tail l.isEmpty
    rw[e1]
    simp only[zob]
    rw[wS (by have:=hb.2.2;simp;omega),z0G h1 h2 (by omega)]
    exact⟨3,_,r,b',_,rfl,fun hbb _=>⟨.t p,h4 hbb,rfl,rfl,rfl⟩⟩
   ·exact⟨0,_,_,_,_,rfl,fun _ h=>absurd h (by omega)⟩
theorem z7p{e:El}(h:e.ok){b:zI}(hb:BSh b)(hl:∀ x,e=.r x->x.2.2.2.1.length≤5000): zDJ (e.ws,false) b=some (e.kind,e.line,[],false,e.add b):=by
 unfold zDJ
 cases e with
 | p x =>
  have h':okP x:=h
  have hw:∃ r,tD x=zN6 x.2.1::r:=⟨_,rfl⟩
  obtain⟨r,hr⟩:=hw
  have ht:(tD x).tail=r:=by rw[hr];rfl
  have e1:=prem_ok h'
  rw[ht] at e1
  simp only[El.ws]
  rw[hr,zIL]
  simp only[zob]
  have hs1:(if(zN6 x.2.1)==[97,120,105,111,109] then some ((zN6 x.2.1)==[97,120,105,111,109]) else
   if(zN6 x.2.1)==[112,114,101,109,105,115,101] then some ((zN6 x.2.1)==[112,114,101,109,105,115,101]) else some ((zN6 x.2.1)==[97,115,115,117,109,101]):Option Bool)=some true:=by
   rcases h'.1 with h | h | h <;> rw[h] <;> rfl
  rw[hs1]
  rw[z1S _ x.2.1 rfl h'.1]
  have hsl:x.2.2.2.length≤1000000:=by
   rcases h'.2.2.2.2.2 with h | h
   ·simp[h]
   ·have:=(zEc h).2;omega
  simp[e1]
  rw[wS (by have:=hb.1;simp;omega),zZ4 h'.1 h'.2.2.1 h'.2.2.2.1 hsl]
  rfl
 | r x =>
  have h':okR x:=h
  have hbl:=hl x rfl
  have hw:∃ r,xA x=(if x.2.1 then zJZ else zM0)::r:=by unfold xA;cases x.2.1 <;> exact⟨_,rfl⟩
  obtain⟨r,hr⟩:=hw
  have ht:(xA x).tail=r:=by rw[hr];rfl
  have e1:=rule_ok h' hbl
  rw[ht] at e1
  simp only[El.ws]
  rw[hr,zIL]
  have hst:((if x.2.1 then zJZ else zM0)==([115,116,114,105,99,116]:zD))=x.2.1:=by cases x.2.1 <;> rfl
  have hs1:(if(if x.2.1 then zJZ else zM0)==([97,120,105,111,109]:zD) then some ((if x.2.1 then zJZ else zM0)==([97,120,105,111,109]:zD)) else
   if(if x.2.1 then zJZ else zM0)==([112,114,101,109,105,115,101]:zD) then some ((if x.2.1 then zJZ else zM0)==([112,114,101,109,105,115,101]:zD)) else some ((if x.2.1 then zJZ else zM0)==([97,115,115,117,109,101]:zD)):Option Bool)=some false:=by
   cases x.2.1 <;> rfl
  have hs4:(if(if x.2.1 then zJZ else zM0)==([115,116,114,105,99,116]:zD) then some ((if x.2.1 then zJZ else zM0)==([115,116,114,105,99,116]:zD)) else some ((if x.2.1 then zJZ else zM0)==([114,117,108,101]:zD)):Option Bool)=some true:=by
   cases x.2.1 <;> rfl
  have hn:=(zEc h'.1).2
  simp only[zob]
  rw[hs1]
  rw[hs4]
  simp[hst,e1]
  rw[wS (by have:=hb.2.1;simp;omega),z0D h'.2.2.1 h'.2.2.2.1 (by omega) (by omega)]
  rfl
 | t x =>
  have h':okT x:=h
  have e1:=prom_ok h'
  have hn:=(zEc h'.1).2
  have hr:zMz x=zSy::(zMz x).tail:=rfl
  simp[El.ws]
  rw[hr,zIL]
  simp[e1]
  rw[wS (by have:=hb.2.2;simp;omega),z0G h'.2.1 h'.2.2.1 (by omega)]
  rfl
end
section
def wC:zD->zD×zD×Bool
 | []=>([],[],false)
 | c::r=>if c=10 then([],r,true) else(c::(wC r).1,(wC r).2.1,(wC r).2.2)
theorem zX2:∀ s:zD,s=(wC s).1++(if(wC s).2.2 then 10::(wC s).2.1 else[])
 | []=>rfl
 | c::r=>by
  have ih:=zX2 r
  unfold wC
  split
  ·rename_i h;subst h;rfl
  ·simp;rw[←ih]
theorem zZJ:∀ s:zD,(wC s).2.2=false->(wC s).2.1=[]
 | [],_=>rfl
 | c::r,h=>by
  unfold wC at h ⊢
  split
  ·rename_i hc;simp[hc] at h
  ·rename_i hc;rw[Qq hc] at h;exact zZJ r h
theorem z3m (s:zD): (wC s).1.length≤s.length:=by
 have h:=congrArg List.length (zX2 s)
 rw[Qh] at h
 omega
theorem zWH{s:zD}(h:s≠[]): (wC s).2.1.length<s.length:=by
 have h1:=congrArg List.length (zX2 s)
 cases he:(wC s).2.2 with
 | false=>rw[zZJ s he];exact Q5.2 h
 | true=>rw[he] at h1;simp at h1;omega
theorem z7x{a:zD}(ha:(10:UInt8)∉a)(r:zD): wC (a++10::r)=(a,r,true):=by
 induction a with
 | nil=>rfl
 | cons c a ih =>
  have hc:c≠10:=fun e=>ha (by simp[e])
  rw[UP,wC,Qq hc,ih fun h=>ha (by simp[h])]
theorem z3n:∀ s:zD,Lib.indexByte s 10=if(wC s).2.2 then((wC s).1.length:Int) else -1
 | []=>rfl
 | c::r=>by
  have ih:=z3n r
  unfold wC Lib.indexByte
  by_cases hc:c=10
  ·subst hc;rfl
  ·have hb:(c==10)=false:=UX hc
   simp only[hb,zbf,Qb,Qq hc,ih]
   cases (wC r).2.2 with
   | false=>rfl
   | true =>
    have:(((wC r).1.length:Int)==-1)=false:=UX (by omega)
    simp only[Qc,this,zbf,Qb,QI]
    omega
theorem z9j{s:zD}(h:s.length<1000000): zMC s [10]=some (wC s):=by
 unfold zMC zFA zEJ z4I
 have hs:=zX2 s
 have hl:=congrArg List.length hs
 rw[Qh] at hl
 simp only[zob]
 rw[z3n]
 cases he:(wC s).2.2 with
 | false =>
  have h2:=zZJ s he
  rw[he] at hs
  simp at hs
  have:decide ((0:Int)≤-1)=false:=rfl
  simp
  have:wC s=((wC s).1,(wC s).2.1,(wC s).2.2):=rfl
  rw[this,he,h2,←hs]
 | true =>
  rw[he] at hs hl
  simp at hs hl
  have:decide ((0:Int)≤((wC s).1.length:Int))=true:=by simp
  simp
  rw[zSN (by omega) (by omega)]
  have h1:len ([10]:zD)=1:=rfl
  have hw:zM (((wC s).1.length:Int)+len ([10]:zD))=(((wC s).1.length+1:Nat):Int):=by rw[h1,uL (x:=((wC s).1.length:Int)+1) (by omega) (by omega)];omega
  rw[hw,z0B (by omega) (by omega)]
  simp only[zob,Ql]
  have e0:wC s=((wC s).1,(wC s).2.1,(wC s).2.2):=rfl
  have e1:s.take (wC s).1.length=(wC s).1:=by
   have:s.take (wC s).1.length=((wC s).1++10::(wC s).2.1).take (wC s).1.length:=by rw[←hs]
   rw[this,U4]
  have e2:s.drop ((wC s).1.length+1)=(wC s).2.1:=by
   have:s.drop ((wC s).1.length+1)=((wC s).1++10::(wC s).2.1).drop ((wC s).1.length+1):=by rw[←hs]
   rw[this,←Wh,List.drop_left];rfl
  rw[e0,he,e1,e2]
theorem le_sum{w:zD}: ∀ {l:List zD},w∈l->w.length≤(l.map List.length).sum
 | x::l,h=>by
  simp only[Ua,List.sum_cons]
  rcases Qv.1 h with rfl | h
  ·omega
  ·have:=le_sum h;omega
open Classical in
noncomputable def z9w (ln:zD): Option El:=if h:∃ e:El,e.ok∧e.line=ln then some h.choose else none
theorem zSv{ln:zD}{e:El}(h:z9w ln=some e): e.ok∧e.line=ln:=by
 unfold z9w at h
 split at h
 ·rename_i hx;cases h;exact hx.choose_spec
 ·cases h
theorem z15{ln:zD}(h:z9w ln=none): ¬ ∃ e:El,e.ok∧e.line=ln:=by
 unfold z9w at h
 split at h
 ·cases h
 ·assumption
theorem El.short{e:El}(h:e.ok){n:Nat}(hl:e.line.length≤n): e.ws.length≤n∧∀ x,e=.r x->x.2.2.2.1.length≤n:=by
 have h1:=(zX6 e.line).2
 rw[El.fields h] at h1
 refine⟨by omega,fun x hx=>?_⟩
 subst hx
 have:(xA x).length=(yQ x.2.2.2.1).length+(if x.2.1 then 4 else 5):=by
  unfold xA;cases x.2.1 <;> simp <;> omega
 rw[zKG] at this
 have h2:(xA x).length≤(jn (xA x)).length:=h1
 have h3:(jn (xA x)).length≤n:=hl
 omega
theorem El.inj{e e':El}(h:e.ok)(h':e'.ok)(hl:e.line.length≤5000)(he:e.line=e'.line): e=e':=by
 have hw:e.ws=e'.ws:=by rw[←El.fields h,←El.fields h',he]
 have h1:=z7p h (b:=([],[],[])) ⟨by simp,by simp,by simp⟩ (fun x hx=>(El.short h hl).2 x hx)
 have h2:=z7p h' (b:=([],[],[])) ⟨by simp,by simp,by simp⟩ (fun x hx=>(El.short h' (by rw[←he];exact hl)).2 x hx)
 rw[hw,h2] at h1
 simp only[Qf,Prod.mk.injEq] at h1
 obtain⟨hk,_,_,_,ha⟩:=h1
 cases e with
 | p x=>cases e' with
  | p y=>have h:=congrArg (fun b:zI=>b.1) ha;simp[El.add] at h;rw[h]
  | r y=>simp[El.kind] at hk
  | t y=>simp[El.kind] at hk
 | r x=>cases e' with
  | p y=>simp[El.kind] at hk
  | r y=>have h:=congrArg (fun b:zI=>b.2.1) ha;simp[El.add] at h;rw[h]
  | t y=>simp[El.kind] at hk
 | t x=>cases e' with
  | p y=>simp[El.kind] at hk
  | r y=>simp[El.kind] at hk
  | t y=>have h:=congrArg (fun b:zI=>b.2.2) ha;simp[El.add] at h;rw[h]
theorem z6Z{e:El}(h:e.ok)(hl:e.line.length≤5000): z9w e.line=some e:=by
 cases hx:z9w e.line with
 | none=>exact absurd ⟨e,h,rfl⟩ (z15 hx)
 | some e' =>
  obtain⟨h1,h2⟩:=zSv hx
  rw[El.inj h h1 hl h2.symm]
noncomputable def zMe:Nat->zD->Int->Int->zI->zI⊕Int
 | 0,_,_,_,b=>.inl b
 | f+1,s,last,n,b=>if s=[] then .inl b else match z9w (wC s).1 with
  | some e=>if(wC s).2.2=true∧last≤e.kind then zMe f (wC s).2.1 e.kind (n+1) (e.add b) else .inr n
  | none=>.inr n
abbrev noB:zI:=(([]:List qZ),([]:List zR),([]:List wB))
def endP:zI⊕Int->zI⊕(zI×Int×Int)
 | .inl b=>.inl b
 | .inr n=>.inr (noB,n,3)
theorem El.kind_pos (e:El): 1≤e.kind:=by cases e <;> simp[El.kind]
theorem zYi:∀(f:Nat) (s:zD) (last n:Int) (b:zI),s.length≤f->s.length≤4096->1≤last->1≤n->n+s.length≤6000->b.1.length+s.length≤9000->b.2.1.length+s.length≤9000->b.2.2.length+s.length≤9000->
  zN zE3 (s,last,n,b.1,b.2.1,b.2.2)=some (endP (zMe f s last n b))
 | 0,s,last,n,b,hf,_,_,_,_,_,_,_=>by
  obtain rfl:s=[]:=List.length_eq_zero_iff.1 (by omega)
  exact zRo rfl
 | f+1,s,last,n,b,hf,h4,hla,hn,hns,hb1,hb2,hb3=>by
  unfold zMe
  by_cases hs:s=[]
  ·subst hs
   exact zRo rfl
  ·rw[Qq hs]
   have hne:(!(s==[]))=true:=by simpa using hs
   have hcl:=z3m s
   have hless:=zWH hs
   have hfl:=zX6 (wC s).1
   have hsh:ShT (Lib.fieldsD (wC s).1):=fun w hw=>by
    have:w.length≤((Lib.fieldsD (wC s).1).map List.length).sum:=le_sum hw
    omega
   have hff:zJQ (wC s).1=some (Lib.fieldsD (wC s).1):=by
    unfold zJQ zZp
    rw[Qu (by omega)]
   have hbs:BSh b:=⟨by omega,by omega,by omega⟩
   cases hx:z9w (wC s).1 with
   | some e =>
    obtain⟨ho,hl⟩:=zSv hx
    have hadd:=z7p ho hbs (fun x hx=>(El.short ho (n:=5000) (by rw[hl];omega)).2 x hx)
    have hwf:Lib.fieldsD (wC s).1=e.ws:=by rw[←hl];exact El.fields ho
    have hB:zE3 (s,last,n,b.1,b.2.1,b.2.2)=if(wC s).2.2=true∧last≤e.kind then some (.inl ((wC s).2.1,e.kind,n+1,(e.add b).1,(e.add b).2.1,(e.add b).2.2)) else some (.inr (.inr (noB,n,3))):=by
     unfold zE3
     simp only[hne,Qc,z9j (show s.length<1000000 by omega),zob,hff,hwf]
     have:((b.1,b.2.1,b.2.2):zI)=b:=rfl
     rw[this,hadd]
     simp only[zob]
     have e1:(!(e.line==(wC s).1))=false:=by rw[hl];simp
     have e2:decide ((0:Int)<len ([]:List zD))=false:=rfl
     have hw:zM (n+1)=n+1:=uL (by omega) (by omega)
     simp only[e1,e2,UO,hw]
     by_cases hc:(wC s).2.2=true∧last≤e.kind
     ·have e3:decide (e.kind<last)=false:=Un (by omega)
      rw[Qu hc,e3,hc.1]
      rfl
     ·rw[Qq hc]
      have e3:((!(wC s).2.2)||decide (e.kind<last))=true:=by
       cases h1:(wC s).2.2 with
       | false=>rfl
       | true =>
        rw[h1] at hc
        have:e.kind<last:=by simp at hc;omega
        simpa using this
      rw[e3]
      rfl
    simp only
    by_cases hc:(wC s).2.2=true∧last≤e.kind
    ·rw[Qu hc] at hB ⊢
     rw[zNX hB]
     have hk:=e.kind_pos
     have ha1:(e.add b).1.length≤b.1.length+1∧(e.add b).2.1.length≤b.2.1.length+1∧(e.add b).2.2.length≤b.2.2.length+1:=by
      cases e <;> simp[El.add]
     exact zYi f (wC s).2.1 e.kind (n+1) (e.add b) (by omega) (by omega) hk (by omega) (by omega) (by omega) (by omega) (by omega)
    ·rw[Qq hc] at hB ⊢
     exact zRo hB
   | none =>
    simp only
    have hno:=z15 hx
    obtain⟨k,t,r,bad,b',hadd,himp⟩:=add_any hsh (by omega) hbs
    apply zRo
    unfold zE3
    simp only[hne,Qc,z9j (show s.length<1000000 by omega),zob,hff]
    have:((b.1,b.2.1,b.2.2):zI)=b:=rfl
    rw[this,hadd]
    simp only[zob]
    have hcond:((!(wC s).2.2)||(bad||((decide ((0:Int)<len r))||((!(t==(wC s).1))||(decide (k<last))))))=true:=by
     cases hbad:bad with
     | true=>simp
     | false =>
      by_cases hk:k<last
      ·simp[hk]
      ·obtain⟨e,ho,ht,_,_⟩:=himp hbad (by omega)
       have:t≠(wC s).1:=fun he=>hno ⟨e,ho,ht▸he⟩
       have:(t==(wC s).1)=false:=UX this
       simp[this]
    rw[hcond]
    rfl
noncomputable def zUv (s:zD): zI×Int×Int :=
 if 4096<s.length then(noB,0,2) else match zMe s.length s 1 1 noB with
  | .inl b=>if zNb b≠0 then(noB,0,zNb b) else(b,0,0)
  | .inr n=>(noB,n,3)
theorem add_cnt{e:El}{b:zI}{n:Nat}(hl:∀ x,e=.r x->x.2.2.2.1.length≤n)(h:∀ r∈b.2.1,r.2.2.2.1.length≤n): ∀ r∈(e.add b).2.1,r.2.2.2.1.length≤n:=by
 cases e with
 | p x=>exact h
 | t x=>exact h
 | r x =>
  intro r hr
  rcases Qd.1 hr with hr | hr
  ·exact h r hr
  ·simp at hr;subst hr;exact hl r rfl
theorem zWQ:∀(f:Nat) (s:zD) (last n:Int) (b b':zI),s.length≤5000->(∀ r∈b.2.1,r.2.2.2.1.length≤5000)->zMe f s last n b=.inl b'->
  b'.1.length≤b.1.length+f∧b'.2.1.length≤b.2.1.length+f∧b'.2.2.length≤b.2.2.length+f∧∀ r∈b'.2.1,r.2.2.2.1.length≤5000
 | 0,s,last,n,b,b',_,h,he=>by cases he;exact⟨by omega,by omega,by omega,h⟩
 | f+1,s,last,n,b,b',hs5,h,he=>by
  unfold zMe at he
  split at he
  ·cases he;exact⟨by omega,by omega,by omega,h⟩
  ·rename_i hs
   have hcl:=z3m s
   have hless:=zWH hs
   split at he
   ·rename_i e hx
    split at he
    ·obtain⟨ho,hl⟩:=zSv hx
     obtain⟨h1,h2,h3,h4⟩:=zWQ f _ _ _ _ b' (by omega) (add_cnt (fun x hx=>(El.short ho (n:=5000) (by rw[hl];omega)).2 x hx) h) he
     have ha1:(e.add b).1.length≤b.1.length+1∧(e.add b).2.1.length≤b.2.1.length+1∧(e.add b).2.2.length≤b.2.2.length+1:=by
      cases e <;> simp[El.add]
     exact⟨by omega,by omega,by omega,h4⟩
    ·cases he
   ·cases he
theorem zZr (s:zD): zFF s=some (zUv s):=by
 unfold zFF zUv
 by_cases h4:4096<s.length
 ·have:decide ((4096:Int)<len s)=true:=QO (show(4096:Int)<(s.length:Int) by omega)
  rw[Qu h4,this]
  rfl
 ·have:decide ((4096:Int)<len s)=false:=Un (show ¬ (4096:Int)<(s.length:Int) by omega)
  rw[Qq h4,this]
  simp only[zbf,Qb]
  have hp:=zYi s.length s 1 1 noB (Qr _) (by omega) (by omega) (by omega) (by omega) (by simp;omega) (by simp;omega) (by simp;omega)
  have e0:(s,(1:Int),(1:Int),([]:List qZ),([]:List zR),([]:List wB))=(s,1,1,noB.1,noB.2.1,noB.2.2):=rfl
  rw[e0,hp]
  cases hg:zMe s.length s 1 1 noB with
  | inr n=>rfl
  | inl b =>
   obtain⟨h1,h2,h3,h5⟩:=zWQ _ _ _ _ _ _ (by omega) (by simp) hg
   simp only[Ud,UF] at h1 h2 h3
   have hc:Cnt b:=⟨by omega,by omega,by omega,fun r hr=>by have:=h5 r hr;omega⟩
   simp only[endP,wZ]
   have:((b.1,b.2.1,b.2.2):zI)=b:=rfl
   simp only[this,zM9 hc,zob]
   by_cases hv:zNb b=0
   ·simp[hv]
   ·have:(zNb b != 0)=true:=by simpa using hv
    simp[this,hv]
end
section
theorem zZl{α:Type}(g:α->zD)(c:Nat): ∀ l:List α,(∀ x∈l,(g x).length≤c)->(l.flatMap fun x=>g x++[10]).length≤(c+1)*l.length
 | [],_=>by simp
 | x::l,h=>by
  have h1:=h x (by simp)
  have h2:=zZl g c l fun y hy=>h y (by simp[hy])
  simp[Nat.mul_add] at h2 ⊢
  omega
theorem z14{b:zI}(hV:xH b): (∀ p∈b.1,okP p)∧(∀ r∈b.2.1,okR r∧r.2.2.2.1.length≤4)∧∀ p∈b.2.2,okT p:=by
 have hR:∀ r∈b.2.1,okR r∧r.2.2.2.1.length≤4:=fun r hr=>z9h (hV.rule r hr)
 exact⟨fun p hp=>okP_of (hV.prem p hp),hR,fun p hp=>z9s (hV.prom p hp) (fun hf=>by
  obtain⟨k,r,_,h2,h3,_⟩:=zSV hf
  have:r.1=p.1:=by simpa using h3
  rw[←this]
  exact(hR r (QR h2)).1.1)⟩
theorem z03{b:zI}(hV:xH b): (tM b).length≤4000:=by
 obtain⟨hP,hR,hT⟩:=z14 hV
 have h1:=zZl (fun p=>jn (tD p)) 42 b.1 (fun p hp=>by
  have h:=hP p hp
  have h1:=zUy (tD p)
  have hl:=zDZ p.1
  have hk:=zWK p.2.1
  have hs:p.2.2.2.length≤12:=by
   rcases h.2.2.2.2.2 with h | h
   ·simp[h]
   ·exact(zEc h).2
  have:((tD p).map List.length).sum+(tD p).length≤42:=by
   unfold tD
   split <;> split <;> simp[tF,zZm] <;> omega
  grind)
 have h2:=zZl (fun r=>jn (xA r)) 100 b.2.1 (fun r hr=>by
  obtain⟨h,hb⟩:=hR r hr
  have h1:=zUy (xA r)
  have hl:=zDZ r.2.2.2.2
  have hn:=(zEc h.1).2
  have hs:=zSh r.2.2.2.1
  have hbl:=zKG r.2.2.2.1
  have:((xA r).map List.length).sum+(xA r).length≤100:=by
   unfold xA
   cases r.2.1 <;> simp[zJZ,zM0,zYt,tF,hbl] <;> omega
  grind)
 have h3:=zZl (fun p=>jn (zMz p)) 50 b.2.2 (fun p hp=>by
  have h:=hT p hp
  have h1:=zUy (zMz p)
  have hl:=zDZ p.2.2
  have hn:=(zEc h.1).2
  have:((zMz p).map List.length).sum+(zMz p).length≤50:=by
   unfold zMz
   simp[zSy,ifW,tF];omega
  grind)
 have:=hV.np
 have:=hV.nr
 have:=hV.nm
 grind [tM]
theorem jn_no10{l:List zD}(h:∀ w∈l,wd w=true): (10:UInt8)∉jn l:=by
 intro hm
 induction l with
 | nil=>simp[z7b] at hm
 | cons w l ih =>
  have hw:=h w (by simp)
  simp only[wd,Qo,QE] at hw
  have hs:Lib.isSp 10=true:=by decide
  have hnw:(10:UInt8)∉w:=fun hx=>by have:=(hw.2 10 hx).1;rw[hs] at this;cases this
  cases l with
  | nil=>rw[z1i] at hm;exact hnw hm
  | cons x l =>
   rw[z0C] at hm
   rcases Qd.1 hm with hm | hm
   ·exact hnw hm
   ·rcases Qv.1 hm with hm | hm
    ·cases hm
    ·exact ih (fun y hy=>h y (by simp at hy ⊢;exact .inr hy)) hm
def txt (es:List El): zD:=es.flatMap fun e=>e.line++[10]
def Up:Int->List El->Prop
 | _,[]=>True
 | k,e::es=>k≤e.kind∧Up e.kind es
theorem zWd:∀(es:List El) (f:Nat) (last n:Int) (b:zI),(∀ e∈es,e.ok)->(txt es).length≤f->(txt es).length≤4096->Up last es->zMe f (txt es) last n b=.inl (es.foldl (fun b e=>e.add b) b)
 | [],f,last,n,b,_,_,_,_=>by cases f <;> rfl
 | e::es,0,last,n,b,_,hf,_,_=>by simp[txt] at hf
 | e::es,f+1,last,n,b,ho,hf,h4,hu=>by
  have h1:=ho e (by simp)
  have ht:txt (e::es)=e.line++10::txt es:=by simp[txt]
  rw[ht] at hf h4 ⊢
  simp only[Qh,QI] at hf h4
  unfold zMe
  rw[Qq (by simp),z7x (jn_no10 (El.wd h1)),z6Z h1 (by omega)]
  simp only[true_and]
  rw[Qu hu.1]
  exact zWd es f e.kind (n+1) (e.add b) (fun x hx=>ho x (by simp[hx])) (by omega) (by omega) hu.2
def els (b:zI): List El:=b.1.map .p++(b.2.1.map .r++b.2.2.map .t)
theorem z9o (x:qZ): (El.p x).line=jn (tD x):=rfl
theorem line_r (x:zR): (El.r x).line=jn (xA x):=rfl
theorem z9m (x:wB): (El.t x).line=jn (zMz x):=rfl
theorem z6l (b:zI): txt (els b)=tM b:=by simp[txt,els,tM,U3,List.flatMap_map,z9o,line_r,z9m]
theorem z9O (b:zI): (els b).foldl (fun b e=>e.add b) noB=b:=by
 have h1:∀(l:List qZ) (a:zI),(l.map El.p).foldl (fun b e=>e.add b) a=(a.1++l,a.2.1,a.2.2):=by
  intro l
  induction l with
  | nil=>simp
  | cons x l ih=>intro a;rw[Ua,Ul,ih];simp[El.add]
 have h2:∀(l:List zR) (a:zI),(l.map El.r).foldl (fun b e=>e.add b) a=(a.1,a.2.1++l,a.2.2):=by
  intro l
  induction l with
  | nil=>simp
  | cons x l ih=>intro a;rw[Ua,Ul,ih];simp[El.add]
 have h3:∀(l:List wB) (a:zI),(l.map El.t).foldl (fun b e=>e.add b) a=(a.1,a.2.1,a.2.2++l):=by
  intro l
  induction l with
  | nil=>simp
  | cons x l ih=>intro a;rw[Ua,Ul,ih];simp[El.add]
 unfold els
 rw[List.foldl_append,List.foldl_append,h1,h2,h3]
 simp
theorem els_up (b:zI): Up 1 (els b):=by
 have h3:∀(l:List wB) (k:Int),k≤3->Up k (l.map El.t):=by
  intro l
  induction l with
  | nil=>intro k _;trivial
  | cons x l ih=>intro k hk;exact⟨hk,ih 3 (by omega)⟩
 have h2:∀(l:List zR) (k:Int),k≤2->Up k (l.map El.r++b.2.2.map El.t):=by
  intro l
  induction l with
  | nil=>intro k hk;exact h3 _ k (by omega)
  | cons x l ih=>intro k hk;exact⟨hk,ih 2 (by omega)⟩
 have h1:∀(l:List qZ) (k:Int),k≤1->Up k (l.map El.p++(b.2.1.map El.r++b.2.2.map El.t)):=by
  intro l
  induction l with
  | nil=>intro k hk;exact h2 _ k (by omega)
  | cons x l ih=>intro k hk;exact⟨hk,ih 1 (by omega)⟩
 exact h1 b.1 1 (by omega)
theorem els_ok{b:zI}(hV:xH b): ∀ e∈els b,e.ok:=by
 obtain⟨hP,hR,hT⟩:=z14 hV
 intro e he
 simp only[els,Qd,Qj] at he
 rcases he with⟨x,hx,rfl⟩ | ⟨x,hx,rfl⟩ | ⟨x,hx,rfl⟩
 ·exact hP x hx
 ·exact(hR x hx).1
 ·exact hT x hx
theorem z0n{b:zI}(hV:xH b): zUv (tM b)=(b,0,0):=by
 have hs:=z03 hV
 unfold zUv
 rw[Qq (by omega),←z6l,zWd (els b) _ 1 1 noB (els_ok hV) (Qr _) (by rw[z6l];omega) (els_up b),z9O]
 simp[zI5.2 hV]
def Srt (last:Int)(b:zI): Prop:=(last≤1->b.2.1=[])∧(last≤2->b.2.2=[])
theorem add_fmt{e:El}{b:zI}{last:Int}(h:Srt last b)(hk:last≤e.kind): tM (e.add b)=tM b++(e.line++[10])∧Srt e.kind (e.add b):=by
 cases e with
 | p x =>
  have h1:=h.1 hk
  have h2:=h.2 (by simp[El.kind] at hk;omega)
  refine⟨by simp[tM,El.add,h1,h2,z9o],fun _=>h1,fun _=>h2⟩
 | r x =>
  have h2:=h.2 hk
  refine⟨by simp[tM,El.add,h2,line_r],fun h=>by simp[El.kind] at h,fun _=>h2⟩
 | t x =>
  refine⟨by simp[tM,El.add,z9m],fun h=>by simp[El.kind] at h,fun h=>by simp[El.kind] at h⟩
theorem zUr:∀(f:Nat) (s:zD) (last n:Int) (b b':zI),s.length≤f->Srt last b->zMe f s last n b=.inl b'->tM b'=tM b++s
 | 0,s,last,n,b,b',hf,_,he=>by
  cases he
  obtain rfl:s=[]:=List.length_eq_zero_iff.1 (by omega)
  rw[QB]
 | f+1,s,last,n,b,b',hf,hs,he=>by
  unfold zMe at he
  split at he
  ·rename_i h0;cases he;rw[h0,QB]
  ·rename_i hne
   have hless:=zWH hne
   split at he
   ·rename_i e hx
    split at he
    ·rename_i hc
     obtain⟨ho,hl⟩:=zSv hx
     obtain⟨h1,h2⟩:=add_fmt hs hc.2
     rw[zUr f _ _ _ _ b' (by omega) h2 he,h1,hl]
     have:=zX2 s
     rw[hc.1,Qu rfl] at this
     conv=>rhs;rw[this]
     simp
    ·cases he
   ·cases he
theorem z3H{s:zD}{d:zI}{n:Int}(h:zUv s=(d,n,0)): n=0∧xH d∧tM d=s:=by
 unfold zUv at h
 split at h
 ·simp at h
 ·split at h
  ·rename_i b hg
   split at h
   ·rename_i hv;simp at h;exact absurd h.2.2 hv
   ·rename_i hv
    simp only[Prod.mk.injEq] at h
    obtain⟨rfl,rfl,_⟩:=h
    refine⟨rfl,zI5.1 (by simpa using hv),?_⟩
    have:=zUr _ _ _ _ noB _ (Qr _) ⟨fun _=>rfl,fun _=>rfl⟩ hg
    simpa [tM] using this
  ·simp at h
open Classical in
theorem z8i{α ρ:Type}{B:Int->Option (Int⊕ρ)}(l m:List α)(hlen:l.length=m.length)(yes no:ρ)
  (hB:∀(i:Nat) x y,l[i]?=some x->m[i]?=some y->B (i:Int)=some (if x=y then .inl ((i+1:Nat):Int) else .inr no)) (he:B (l.length:Int)=some (.inr yes)) :
  zN B 0=some (if l=m then yes else no):=by
 have h:=zTD (B:=B) (fun i=>l.length-i.toNat) (fun i=>∃ k:Nat,i=k∧k≤l.length∧l.take k=m.take k) (fun r=>r=if l=m then yes else no) ?_ 0 ⟨0,rfl,by omega,by simp⟩
 ·obtain⟨r,h1,rfl⟩:=h
  exact h1
 ·rintro i ⟨k,rfl,hk,ht⟩
  by_cases hkl:k=l.length
  ·subst hkl
   refine .inr ⟨yes,he,?_⟩
   rw[Qs (Qr _),Qs (by omega)] at ht
   rw[Qu ht]
  ·have hx:l[k]?=some l[k]:=Qe (by omega)
   have hy:m[k]?=some m[k]:=Qe (by omega)
   have:=hB k _ _ hx hy
   by_cases hxy:l[k]=m[k]
   ·rw[Qu hxy] at this
    refine .inl ⟨_,this,⟨k+1,rfl,by omega,?_⟩,by omega⟩
    rw[QW,QW,ht,hx,hy,hxy]
   ·rw[Qq hxy] at this
    refine .inr ⟨no,this,?_⟩
    rw[Qq fun e=>hxy (by subst e;rfl)]
end
section
theorem z2e{l m:List zC}(h:l.length<4294967296): zEj l m=some (decide (l=m)):=by
 unfold zEj
 by_cases hl:l.length=m.length
 ·have e0:((len l) != (len m))=false:=by simp[len,hl]
  rw[e0]
  simp only[zbf,Qb]
  rw[z8i l m hl true false (fun i x y hx hy=>by
   have hi:=(Qg.1 hx).1
   unfold zF4
   simp only[z6z hx,Qc,xW,hx,hy,zob,vN i (by omega)]
   by_cases hxy:x=y <;> simp[hxy]) (by unfold zF4;simp)]
  by_cases e:l=m <;> simp[e]
 ·have e0:((len l) != (len m))=true:=bne_iff_ne.2 (show(l.length:Int)≠m.length by omega)
  have e1:l≠m:=by rintro rfl;exact hl rfl
  rw[e0,Qu rfl]
  simp[e1]
def z1e (y:List zC)(r:zR)(k:Int)(p:wB): Int:=if(!r.2.1&&p.1==r.1&&decide (p.2.2∈y))=true then p.2.1 else k
def rankS (ps:List wB)(y:List zC)(r:zR): Int:=ps.foldl (z1e y r) r.2.2.1
def zPj (ps:List wB)(y:List zC)(r:zR): zR:=(r.1,r.2.1,rankS ps y r,r.2.2.2.1,r.2.2.2.2)
def yV (b:zI)(y:List zC): zI:=(b.1,b.2.1.map (zPj b.2.2 y),b.2.2)
def upto (b:zI)(y:List zC)(i:Nat): List zR:=(b.2.1.take i).map (zPj b.2.2 y)++b.2.1.drop i
theorem z8t (b:zI)(y:List zC)(i:Nat): (upto b y i).length=b.2.1.length:=by simp[upto];omega
theorem upto_at{b:zI}{y:List zC}{i:Nat}{r:zR}(hr:b.2.1[i]?=some r): (upto b y i)[i]?=some r:=by grind [upto]
theorem z8G{b:zI}{y:List zC}{i:Nat}{r:zR}(hr:b.2.1[i]?=some r): (upto b y i).set i (zPj b.2.2 y r)=upto b y (i+1):=by
 have hi:=(Qg.1 hr).1
 have h1:((b.2.1.take i).map (zPj b.2.2 y)).length=i:=by simp;omega
 unfold upto
 rw[List.set_append_right _ _ (by omega),h1,Nat.sub_self,QW,hr]
 grind [List.drop_eq_getElem_cons]
theorem z88 (b:zI)(y:List zC): upto b y b.2.1.length=b.2.1.map (zPj b.2.2 y):=by simp[upto]
def mid (b:zI)(y:List zC)(i:Nat)(r:zR)(k:Nat): List zR:=(upto b y i).set i (r.1,r.2.1,(b.2.2.take k).foldl (z1e y r) r.2.2.1,r.2.2.2.1,r.2.2.2.2)
theorem mid_all{b:zI}{y:List zC}{i:Nat}{r:zR}(hr:b.2.1[i]?=some r): mid b y i r b.2.2.length=upto b y (i+1):=by
 unfold mid
 rw[Qs (Qr _)]
 exact z8G hr
theorem z9T{b:zI}{y:List zC}{i:Nat}{r:zR}: mid b y i r 0=(upto b y i).set i r:=by simp[mid]
theorem mid_at{b:zI}{y:List zC}{i:Nat}{r:zR}(hr:b.2.1[i]?=some r)(k:Nat): (mid b y i r k)[i]?=some (r.1,r.2.1,(b.2.2.take k).foldl (z1e y r) r.2.2.1,r.2.2.2.1,r.2.2.2.2):=by
 have hi:=(Qg.1 hr).1
 unfold mid
 rw[List.getElem?_set_self (by rw[z8t];exact hi)]
theorem mid_suc{b:zI}{y:List zC}{i:Nat}{r:zR}{k:Nat}{p:wB}(hp:b.2.2[k]?=some p):
  (if(!r.2.1&&p.1==r.1&&decide (p.2.2∈y))=true then(mid b y i r k).set i (r.1,r.2.1,p.2.1,r.2.2.2.1,r.2.2.2.2) else mid b y i r k)=mid b y i r (k+1):=by
 unfold mid
 rw[QW,hp]
 simp
 unfold z1e
 by_cases hc:(!r.2.1&&p.1==r.1&&decide (p.2.2∈y))=true
 ·simp_all
 grind
theorem zY6{b:zI}{y:List zC}(h:Cnt b)(hy:y.length<4294967296): zDE b y=some (yV b y):=by
 unfold zDE
 have c1:zEh b.1=some b.1:=by simp[zEh,zUV h.p]
 have c2:zGw b.2.1=some b.2.1:=by simp[zGw,zUV h.r]
 have c3:zDj b.2.2=some b.2.2:=by simp[zDj,zUV h.m]
 simp only[c1,c2,c3,zob]
 suffices hh:Ok (zN (zCu b y) (0,b.2.1)) fun r=>r=upto b y b.2.1.length by
  obtain⟨r,e,rfl⟩:=hh
  rw[e,z88]
  rfl
 refine Ok.forI (fun i (s:List zR)=>((i:Int),s)) b.2.1 (fun i s=>s=upto b y i) _ (fun i r s hr hs=>?_) (fun s hs=>?_) b.2.1 (by simp[upto])
 ·have hi:=(Qg.1 hr).1
  have hbr:=h.r
  subst hs
  unfold zCu
  have hx:=upto_at (y:=y) hr
  simp only[z6z hr,Qc,xW,hr,hx,zob,zXO (h.q r (QR hr)),Ql]
  refine Ok.forI (fun k (s:List zR)=>((k:Int),s)) b.2.2 (fun k s=>s=mid b y i r k) _ (fun k p s hp hs=>?_) (fun s hs=>?_) _ z9T.symm
  ·have hk:=(Qg.1 hp).1
   have hbm:=h.m
   subst hs
   unfold zDa
   simp only[z6z hp,Qc,xW,hp,zob,z5d _ (show y.length<9223372036854775807 by omega),Ql,mid_at hr k]
   have hif:(if(!r.2.1)=true then(if(p.1==r.1)=true then some (decide (p.2.2∈y)) else some false) else some false)=some (!r.2.1&&p.1==r.1&&decide (p.2.2∈y)):=by
    cases hg:(!r.2.1) <;> cases hh:(p.1==r.1) <;> simp
   rw[hif,zob]
   have hm:=mid_suc (b:=b) (y:=y) (i:=i) (r:=r) hp
   refine .ite (fun hc=>?_) fun hc=>?_
   ·rw[Qu hc] at hm
    exact .ret ⟨_,by rw[vN k (by omega)],hm⟩
   ·rw[hc] at hm
    simp only[zbf,Qb] at hm
    exact .ret ⟨_,by rw[vN k (by omega)],hm⟩
  ·subst hs
   unfold zDa
   simp only[z7M,zbf,Qb]
   exact .ret ⟨_,by simp only[vN i (by omega)],mid_all hr⟩
 ·subst hs
  unfold zCu
  simp only[z7M,zbf,Qb]
  exact .ret rfl
theorem zWV{y:List zC}{r:zR}(h:r.2.1=true): ∀(ps:List wB) (a:Int),ps.foldl (z1e y r) a=a
 | [],a=>rfl
 | p::ps,a=>by rw[Ul,zWV h ps];simp[z1e,h]
theorem zXa{y:List zC}{r:zR}: ∀(ps:List wB) (a:Int),(∀ p∈ps,tU p.2.1=true)->tU a=true->tU (ps.foldl (z1e y r) a)=true
 | [],a,_,h=>h
 | p::ps,a,hp,h=>by
  rw[Ul]
  refine zXa ps _ (fun q hq=>hp q (Qi _ hq)) ?_
  unfold z1e
  split
  ·exact hp p Qm
  ·exact h
theorem z8x{y:List zC}{ps:List wB}{r:zR}(hp:∀ p∈ps,tU p.2.1=true)(h:uJ r=0): uJ (zPj ps y r)=0:=by
 have hr:tU r.2.2.1=true∧(r.2.1=true->r.2.2.1=0):=by
  unfold uJ at h
  split at h
  ·cases h
  ·split at h
   ·rename_i hc
    simp only[Qo] at hc
    refine⟨by simpa using hc.1.1.2,fun hs=>?_⟩
    have:=hc.1.2
    simpa [hs] using this
   ·cases h
 have h1:tU (rankS ps y r)=true:=zXa ps _ hp hr.1
 have h2:(!r.2.1||rankS ps y r==0)=(!r.2.1||r.2.2.1==0):=by
  cases hs:r.2.1
  ·rfl
  ·unfold rankS
   rw[zWV hs]
 unfold uJ at h ⊢
 show(if 4<r.2.2.2.1.length then 2 else if(vName r.1&&vName r.2.2.2.2.2&&tU (rankS ps y r)&&(!r.2.1||rankS ps y r==0)&&r.2.2.2.1.all (fun x=>vName x.2))=true then(if z2w r.2.2.2.1=true then 0 else 8) else 1)=(0:Int)
 rw[h1,h2]
 rw[hr.1] at h
 exact h
theorem z8w{α β:Type}(f:α->β)(q:β->Bool)(l:List α): tL q (l.map f)=tL (fun x=>q (f x)) l:=by
 unfold tL
 rw[List.any_map,List.findIdx_map]
 rfl
theorem z3A{b:zI}{y:List zC}(h:xH b): xH (yV b y):=by
 have hp:∀ p∈b.2.2,tU p.2.1=true:=fun p hp=>by
  have:=h.prom p hp
  unfold zRj at this
  split at this
  ·rename_i hc
   simp only[Qo] at hc
   simpa using hc.1
  ·cases this
 refine⟨h.np,by simp[yV];exact h.nr,h.nm,h.prem,fun r hr=>?_,h.dp,fun i j p q hi hj e=>?_,fun p hp=>?_⟩
 ·obtain⟨r0,h0,rfl⟩:=Qj.1 hr
  exact z8x hp (h.rule r0 h0)
 ·simp only[yV,Q2,Uo] at hi hj
  obtain⟨p0,hi,rfl⟩:=hi
  obtain⟨q0,hj,rfl⟩:=hj
  exact h.dr i j p0 q0 hi hj e
 ·have hf:uY (yV b y) p.1=uY b p.1:=z8w (zPj b.2.2 y) _ _
  have:=h.prom p hp
  unfold zRj at this ⊢
  rw[hf]
  show(if(tU p.2.1&&vName p.2.2.2)=true then(if uY b p.1<0 then 6 else match zB (b.2.1.map (zPj b.2.2 y)) (uY b p.1) with | some r=>if r.2.1=true then 4 else 0 | none=>0) else 1)=(0:Int)
  have hi:zB (b.2.1.map (zPj b.2.2 y)) (uY b p.1)=(zB b.2.1 (uY b p.1)).map (zPj b.2.2 y):=by
   unfold zB
   split
   ·simp
   ·rfl
  rw[hi]
  cases hq:zB b.2.1 (uY b p.1) with
  | none=>rw[hq] at this;exact this
  | some r=>rw[hq] at this;exact this
end
section
variable {b:zI}{l:List zF}
theorem z4i{i:Int}(h:¬ (0≤i∧i<l.length)): zB4 l i=some false:=by
 unfold zB4
 congr 1
 rw[Bool.and_eq_false_iff]
 by_cases h0:0≤i
 ·exact .inr (by simp[len];omega)
 ·exact .inl (by simpa using h0)
def zV3 (l:List zF)(i:Int): List zC:=match zB l i with | some a=>[a.2.2.2] | none=>[]
theorem idx_out{α:Type}{l:List α}{i:Int}(h:¬ (0≤i∧i<l.length)): zB l i=none:=by grind [zB]
theorem zW7 (is:List Int): (is.flatMap (zV3 l)).length≤is.length*1:=zQ7 (zV3 l) 1 is fun i _=>by
 grind [zV3]
theorem zQi (is:List Int)(h:is.length<1000000): zCG l is=some (nrm wQ (is.flatMap (zV3 l))):=by
 unfold zCG
 have hloop:=zPp (B:=zD7 is l) is (zV3 l) (fun s=>s) 1 (fun i _=>by unfold zV3;split <;> simp) [] (fun i x s hi hs=>by
  have hlt:=vV hi
  unfold zD7 zV3
  simp only[qY hi,Qc,qM hi,zob,qR hi (show is.length<4294967296 by omega)]
  by_cases hin:0≤x∧x<l.length
  ·obtain⟨a,ha⟩:=zLM (l:=l) hin.1 hin.2
   have:zB4 l x=some true:=by
    unfold zB4
    congr 1
    rw[Qo]
    exact⟨by simpa using hin.1,by simpa [len] using hin.2⟩
   simp only[this,zob,Qc,ha]
   rw[wS (by simp at hs ⊢;omega)]
   rfl
  ·simp only[z4i hin,zob,zbf,Qb,idx_out hin,QB]) (fun s=>by
  unfold zD7
  simp only[uU,zbf,Qb])
 rw[hloop]
 have hl:=zW7 (l:=l) is
 simp only[zob,QM]
 rw[zML (by omega)]
 rfl
end
section
def yG (l:List Int)(x:Int): List Int:=(qS l.length).filter fun i=>decide (l[i.toNat]?=some x)
theorem zJO (l:List Int)(x:Int): (yG l x).length≤l.length:=QD (QH _ _) (by rw[zGJ];grind)
theorem z0w{l:List Int}{x:Int}{j:Nat}: (j:Int)∈yG l x↔l[j]?=some x:=by
 rw[yG,Qk,xO,Ql,Qp]
 exact⟨fun h=>h.2,fun h=>⟨⟨by omega,by have:=vV h;omega⟩,h⟩⟩
theorem zMD (l:List Int)(x:Int)(hl:l.length<4294967000): zBX l x=some (yG l x):=by
 unfold zBX
 have h:=zFJ (B:=zHD l x) (qS l.length) (fun s i=>if decide (l[i.toNat]?=some x) then s++[i] else s) id (fun i s=>s.length≤i) ([]:List Int) (by simp) ?_ ?_
 ·have h2:=zHH (fun i:Int=>decide (l[i.toNat]?=some x)) id (qS l.length) []
  simp only[id,List.map_id,QM] at h2
  rw[h.1,h2];rfl
 ·intro i y s hy hI
  obtain⟨rfl,hi⟩:=zVA hy
  have hx:l[i]?=some l[i]:=Qe hi
  unfold zHD
  simp[qM hx,qR hx (by omega)]
  by_cases he:l[i]=x
  ·rw[wS (by simp;omega)]
   grind
  grind
 ·rw[zGJ]
  unfold zHD
  simp
def badO (o:vQ): Bool:=if o.1 != 1 then(o.1 != 2)||((o.2 != 1)&&(o.2 != 2)) else(o.2 != 1)&&(o.2 != 2)
noncomputable def zXF (b:zI)(l:List zF)(o:vQ): List qA:=nrm tR (zIZ (zF1 b l o))
noncomputable def z9d (b:zI)(l:List zF)(o:vQ): List zC:=nrm wQ ((yG (zRJ l.length (zXF b l o)) 1).flatMap (zV3 l))
noncomputable def zXp (b:zI)(l:List zF)(o:vQ): zFE:=(yV b (z9d b l o),l,zF1 (yV b (z9d b l o)) l o,((l.length:Int),zXF (yV b (z9d b l o)) l o))
theorem zQg{b:zI}{l:List zF}(hl:l.length≤40)(o:vQ): zWX (len l) (zF1 b l o)=(((l.length:Int),zXF b l o),0)∧vC l.length (zXF b l o):=by
 have h0:(decide (len l<0)||decide (40<len l))=false:=by
  simp only[len,Uw,QS];omega
 have h1:(zF1 b l o).any (z5W (len l))=false:=by
  rw[Q9]
  intro y hy
  have hy:=zQP (b:=b) (l:=l) y |>.1 (Qk.1 hy).1
  simp only[z5W,len,Q6,Qp,not_or]
  omega
 have h2:zWX (len l) (zF1 b l o)=(((l.length:Int),zXF b l o),0):=by
  unfold zWX zXF
  simp only[h0,h1,zbf,Qb]
 obtain⟨N,e1,e2,e3,_⟩:=z2g h2
 have:N=l.length:=by simp only[len] at e1;omega
 grind
theorem z1H{b:zI}{l:List zF}{y:List zC}(h:FormB b l): FormB (yV b y) l :=
 ⟨h.toFormA,by simpa [yV] using h.np,by simpa [yV] using h.nr,fun i a ha=>by simpa [yV] using h.kind i a ha⟩
theorem z9Y (b:zI)(l:List zF)(o:vQ): (z9d b l o).length≤l.length:=by
 refine QD (zTq _ _) (QD (zW7 _) ?_)
 rw[UN]
 refine QD (zJO _ _) ?_
 rw[zRJ,zHB];grind
end
section
section
variable {b:zI}{l:List zF}{o:vQ}{f:Nat->Nat}
def Inn (l:List zF)(f:Nat->Nat)(i:Int): Prop:=0≤i∧i<l.length∧f i.toNat=1
theorem z3h{i j:Nat}: vT (zXF b l o) i j↔∃ c kd,((i:Int),(j:Int),c,kd)∈zF1 b l o:=by
 show ed _ _ _=true↔_
 rw[zWp,zXF,(zGu z7u _).2,zIZ,Qj]
 constructor
 ·rintro ⟨⟨a,b',c,kd⟩,h1,h2⟩
  simp only[Prod.mk.injEq] at h2
  obtain⟨rfl,rfl⟩:=h2
  exact⟨c,kd,h1⟩
 ·rintro ⟨c,kd,h⟩
  exact⟨_,h,rfl⟩
theorem zUY{m j c kd:Int}: (m,j,c,kd)∈zF1 b l o↔((0≤m∧m<l.length)∧(0≤j∧j<l.length)∧c∈vK l j∧(kd=1∨kd=2∨kd=3)∧z4g b l m c kd=true)∧(kd=3∨zSP b l m c o=false):=by
 rw[zF1,Qk,zQP,z7C]
 show _∧((kd==3)||!zSP b l m c o)=true↔_
 rw[Q6,Ue,Bool.not_eq_true']
theorem z5u (hf:CL l.length (zXF b l o) f){j m c kd:Int}(hj:Inn l f j)(h:(m,j,c,kd)∈zF1 b l o): f m.toNat=2:=by
 have hm:=(zUY.1 h).1.1
 obtain⟨j0,j1,j2⟩:=hj
 refine hf.i1 j.toNat (by omega) j2 m.toNat (by omega) (z3h.2 ⟨c,kd,?_⟩)
 rw[show((m.toNat:Nat):Int)=m by omega,show((j.toNat:Nat):Int)=j by omega]
 exact h
theorem in_of (hf:CL l.length (zXF b l o) f){j:Int}(j0:0≤j)(j1:j<l.length)(h:∀ m c kd,(m,j,c,kd)∈zF1 b l o->f m.toNat=2): Inn l f j:=by
 have hall:∀ m:Nat,m<l.length->vT (zXF b l o) m j.toNat->f m=2:=fun m hm he=>by
  obtain⟨c,kd,h1⟩:=z3h.1 he
  rw[show((j.toNat:Nat):Int)=j by omega] at h1
  have:=h _ c kd h1
  rwa [Ql] at this
 refine⟨j0,j1,?_⟩
 have hjN:j.toNat<l.length:=by omega
 rcases hf.r j.toNat hjN with h1 | h1 | h1
 ·exact h1
 ·obtain⟨m,hm,he,h2⟩:=hf.i2 _ hjN h1
  have:=hall m hm he
  omega
 ·obtain⟨⟨m,hm,he,h2⟩,_⟩:=hf.i3 _ hjN h1
  have:=hall m hm he
  omega
theorem sub_in (hB:FormB b l)(hf:CL l.length (zXF b l o) f){i j:Int}(hi:Inn l f i)(hs:xP l i j): Inn l f j:=by
 have hj:=z24 hB.toFormA hs hi.1 hi.2.1
 refine in_of hf hj.1 hj.2 fun m c kd h=>?_
 have hc:=(zUY.1 h).1.2.2.1
 have hci:c∈vK l i:=(zEC hB.toFormA hi.1 hi.2.1 c).2 (hs.trans ((zEC hB.toFormA hj.1 hj.2 c).1 hc))
 exact z5u hf hi ((zSe hB o hi.1 hi.2.1 hci).1 ((zSe hB o hj.1 hj.2 hc).2 h))
theorem z48{m i kd:Int}{a:zF}{r:zR}(ha:zB l i=some a)(h0:0≤a.2.1)(hr:zB b.2.1 a.2.1=some r)(hs:r.2.1=true): z4g b l m i kd=false:=by
 unfold z4g
 rw[ha]
 cases zB l m with
 | none=>rfl
 | some x =>
  have:¬ a.2.1<0:=by omega
  simp only[this,decide_false,zbf,Qb,hr,hs,QN,Ui]
theorem z7K{m i kd:Int}{a:zF}{p:qZ}(ha:zB l i=some a)(h0:a.2.1<0)(hp:zB b.1 a.1=some p)(hk:p.2.1=1): z4g b l m i kd=false:=by
 unfold z4g
 rw[ha]
 cases zB l m with
 | none=>rfl
 | some x=>simp[h0,hp,hk]
theorem z65 (hB:FormB b l)(hf:CL l.length (zXF b l o) f){i:Int}{a:zF}{r:zR}(ha:zB l i=some a)(h0:0≤a.2.1)(hr:zB b.2.1 a.2.1=some r)(hs:r.2.1=true)(hsub:∀ k∈a.2.2.1,Inn l f k): Inn l f i:=by
 have hi:=zSf ha
 refine in_of hf hi.1 hi.2 fun m c kd h=>?_
 have hd:=zUY.1 h
 have hc:=(zEC hB.toFormA hi.1 hi.2 c).1 hd.1.2.2.1
 rcases(xP.iff ha).1 hc with rfl | ⟨k,hk,hck⟩
 ·rw[z48 ha h0 hr hs] at hd
  exact Bool.noConfusion hd.1.2.2.2.2
 ·have hkin:=hsub k hk
  have hck':c∈vK l k:=(zEC hB.toFormA hkin.1 hkin.2.1 c).2 hck
  exact z5u hf hkin ((zSe hB o hkin.1 hkin.2.1 hck').1 ((zSe hB o hi.1 hi.2 hd.1.2.2.1).2 h))
def z2K (b:zI)(l:List zF)(j:Int): Prop:=∃ a p,zB l j=some a∧0≤a.1∧zB b.1 a.1=some p∧p.2.1=1
def Cnc (b:zI)(l:List zF)(D:Int->Prop)(x:zC): Prop:=(∃ j a,D j∧zB l j=some a∧a.2.2.2=x)∨∃ p∈b.1,p.2.1=1∧p.1=x
theorem z6a{α:Type}{l:List α}{x:α}(h:x∈l): ∃ i:Int,zB l i=some x:=by
 obtain⟨n,hn⟩:=Qn.1 h
 exact⟨(n:Int),by rw[xW];exact hn⟩
theorem z2u{α:Type}{l:List α}{i:Int}{x:α}(h:zB l i=some x): x∈l:=by
 obtain⟨n,rfl,hn⟩:=zPM h
 exact wF hn
theorem zWN{α β:Type}{P:α->β->Prop}: ∀(l:List α),(∀ x∈l,∃ y,P x y)->∃ m:List β,m.length=l.length∧∀(j:Nat) x y,l[j]?=some x->m[j]?=some y->P x y
 | [],_=>⟨[],rfl,fun j x y h=>by simp at h⟩
 | x::l,h=>by
  obtain⟨y,hy⟩:=h x Qm
  obtain⟨m,h1,h2⟩:=zWN l fun z hz=>h z (Qi _ hz)
  refine⟨y::m,by simp[h1],fun j u v hu hv=>?_⟩
  cases j with
  | zero=>simp at hu hv;subst hu hv;exact hy
  | succ j=>exact h2 j u v (by simpa using hu) (by simpa using hv)
theorem arg_of (hR:Rb b l)(hf:CL l.length (zXF b l o) f){D:Int->Prop}(hD:∀ j,D j->Inn l f j∧zR0 b l j){n:Nat}{x:zC}(h:SD b (Cnc b l D) n x):
  ∃ i a,Inn l f i∧zB l i=some a∧a.2.2.2=x∧∀ j,xX b l i j->D j∨z2K b l j:=by
 have hB:=hR.form.toFormB
 induction h with
 | base hx =>
  rcases hx with⟨j,a,hj,ha,rfl⟩ | ⟨p,hp,hk,rfl⟩
  ·obtain⟨h1,h2⟩:=hD j hj
   exact⟨j,a,h1,ha,rfl,fun k hk=>by rw[h2.only hB hk];exact .inl hj⟩
  ·obtain⟨q,hq⟩:=Qn.1 hp
   obtain⟨a,ha,h1⟩:=hR.pre q p hq
   have hpq:zB b.1 a.1=some p:=by rw[h1,xW];exact hq
   have h0:0≤a.1:=by rw[h1];omega
   have hneg:a.2.1<0:=by have:=(hB.prem ha).2.2;omega
   have hpr:=hR.form.prI ha h0 hpq
   have hi:=zSf ha
   refine⟨(q:Int),a,in_of hf hi.1 hi.2 fun m c kd hd=>?_,ha,hpr.1,fun k hk'=>?_⟩
   ·have hd':=(zUY.1 hd).1
    have hc:=(zEC hB.toFormA hi.1 hi.2 c).1 hd'.2.2.1
    rcases(xP.iff ha).1 hc with rfl | ⟨k,hk',_⟩
    ·rw[z7K ha hneg hpq hk] at hd'
     exact Bool.noConfusion hd'.2.2.2.2
    ·rw[hpr.2] at hk';cases hk'
   ·have hlf:zR0 b l (q:Int):=⟨a,ha,.inl h0⟩
    rw[hlf.only hB hk']
    exact .inr ⟨a,p,ha,h0,hpq,hk⟩
 | @step n r hr hs hb ih =>
  obtain⟨q,hq⟩:=z6a hr
  obtain⟨s,h1,h2⟩:=zWN (P:=fun y i=>∃ a,Inn l f i∧zB l i=some a∧a.2.2.2=y∧∀ j,xX b l i j->D j∨z2K b l j) r.2.2.2.1 fun y hy=>ih y hy
  have hs2:∀ k∈s,∃ a y,Inn l f k∧zB l k=some a∧a.2.2.2=y∧∀ j,xX b l k j->D j∨z2K b l j:=fun k hk=>by
   obtain⟨j,hj⟩:=Qn.1 hk
   have hjl:=vV hj
   obtain⟨a,g⟩:=h2 j _ k (Qe (by omega)) hj
   exact⟨a,_,g⟩
  cases hw:zEe b l q r s with
  | true =>
   have hm:=hR.all q r s hq h1 (fun j k y hk hy=>by
    obtain⟨a,_,g2,g3,_⟩:=h2 j y k hy hk
    exact⟨a,g2,g3⟩) hw
   obtain⟨i,hi⟩:=z6a hm
   have h0:(0:Int)≤q:=(zSf hq).1
   refine⟨i,_,z65 hB hf hi h0 hq hs fun k hk=>?_,hi,rfl,fun j hj=>?_⟩
   ·obtain⟨_,_,g,_⟩:=hs2 k hk;exact g
   ·cases hj with
    | prem g1 g2=>rw[hi] at g1;cases g1;omega
    | dfs g1 g2 g3 g4=>rw[hi] at g1;cases g1;rw[hq] at g3;cases g3;rw[hs] at g4;cases g4
    | step g1 g2 g3 g4 g5 g6 =>
     rw[hi] at g1;cases g1
     obtain⟨_,_,_,_,_,g⟩:=hs2 _ g5
     exact g j g6
  | false =>
   unfold zEe at hw
   have hw':s.any (z7s b l q r)=true:=by simpa using hw
   obtain⟨k,hk,hc⟩:=QX.1 hw'
   unfold z7s at hc
   simp only[hs,Qc,Qp] at hc
   obtain⟨_,_,g1,g2,_,g4⟩:=hs2 k hk
   obtain⟨j,a,k1,k2,k3,k4⟩:=run_sub hc
   exact⟨j,a,sub_in hB hf g1 k1,k2,k3,fun w hw=>g4 w (k4 w hw)⟩
theorem der_of (hR:Rb b l){D:Int->Prop}: ∀(n:Nat) (i:Int) (a:zF),i<n->zB l i=some a->(∀ j,xX b l i j->D j∨z2K b l j)->yI b (Cnc b l D) a.2.2.2
 | 0,i,a,hn,ha,_=>by have:=(zSf ha).1;omega
 | n+1,i,a,hn,ha,hl=>by
  have hB:=hR.form.toFormB
  rcases z2T hB ha with h | ⟨h1,h2,r,hr,hs⟩
  ·rcases hl i h.self with hd | ⟨a',p,g1,g2,g3,g4⟩
   ·exact yI.base (.inl ⟨i,a,hd,ha,rfl⟩)
   ·rw[ha] at g1;cases g1
    exact yI.base (.inr ⟨p,z2u g3,g4,(hR.form.prI ha g2 g3).1.symm⟩)
  ·have hru:=hR.form.ruI ha h2 hr
   rw[hru.1]
   refine yI.rule (z2u hr) hs fun y hy=>?_
   obtain⟨j,hj⟩:=Qn.1 hy
   have hjl:=vV hj
   have hk:a.2.2.1[j]?=some a.2.2.1[j]:=Qe (by omega)
   obtain⟨a',g1,g2⟩:=hru.2.2 j _ y hk hj
   have hkm:=wF hk
   have hlt:=(hB.toFormA.at ha).2.2.2 _ hkm
   rw[←g2]
   exact der_of hR n _ a' (by omega) g1 fun w hw=>hl w (.step ha h2 hr hs hkm hw)
theorem z6s (hR:Rb b l)(D:List Int)(hD:∀ j∈D,(0≤j∧j<l.length)∧zR0 b l j∧¬ z2K b l j)(hne:D≠[]): ∃ i∈D,∀ m:Int,0≤m->m<l.length->(∀ j,xX b l m j->j∈D∨z2K b l j)->zSP b l m i o=false:=by
 have hB:=hR.form.toFormB
 have ax_last:∀ {j y:Int},z2K b l j->¬ zNG b l j y:=fun {j y} ⟨a,p,g1,g2,_,_⟩ h=>by
  have:=(hB.prem g1).2.2
  cases h with
  | here k1 k2 _ _=>rw[g1] at k1;cases k1;omega
  | step k1 k2 _ _ _ _=>rw[g1] at k1;cases k1;omega
 have ax_sub:∀ {j k:Int},z2K b l j->xP l j k->k=j:=fun {j k} ⟨a,p,g1,g2,g3,_⟩ h=>by
  rcases(xP.iff g1).1 h with h | ⟨q,hq,_⟩
  ·exact h
  ·rw[(hR.form.prI g1 g2 g3).2] at hq;cases hq
 have ax_defs:∀ {j y:Int},0≤j->j<l.length->z2K b l j->y∉vG b l j:=fun {j y} h0 h1 hj hy=>by
  obtain⟨m,hm,a,ha,h2,_⟩:=(zKD hB h0 h1 y).1 hy
  have hmj:=ax_sub hj ((zEC hB.toFormA h0 h1 m).1 hm)
  obtain⟨a',p,g1,g2,_⟩:=hj
  rw[hmj,g1] at ha;cases ha
  have:=(hB.prem g1).2.2;omega
 have ax_prem:∀ {j v:Int},0≤j->j<l.length->z2K b l j->v∉xU b l j:=fun {j v} h0 h1 hj hv=>by
  obtain⟨p,hp,hv⟩:=Qz.1 hv
  have hpj:=ax_sub hj ((zNl hB h0 h1).1 hp).1
  obtain⟨a,q,g1,g2,g3,g4⟩:=hj
  have:a.1=j:=((hB.prem g1).1 g2).1
  rw[this] at g3
  rw[hpj] at hv
  simp[zMI,g3,g4] at hv
 have unL:∀ m:Int,0≤m->m<l.length->(∀ j,xX b l m j->j∈D∨z2K b l j)->∀ v∈uZ b (yH b l m),∃ j∈D,v∈uZ b (yH b l j)∧∀ w∈uZ b (yH b l j),w∈uZ b (yH b l m):=by
  intro m m0 m1 hm v hv
  obtain⟨y,hy,rfl⟩:=Qj.1 hv
  obtain⟨j,hj,hyj⟩:=z61 ((zKF hB m y).1 hy)
  rcases hm j hj with hjD | hax
  ·refine⟨j,hjD,Qj.2 ⟨y,(zKF hB j y).2 hyj,rfl⟩,fun w hw=>?_⟩
   obtain⟨z,hz,rfl⟩:=Qj.1 hw
   exact Qj.2 ⟨z,(zKF hB m z).2 (z6B hj ((zKF hB j z).1 hz)),rfl⟩
  ·exact absurd hyj (ax_last hax)
 have unD:∀ m:Int,0≤m->m<l.length->(∀ j,xX b l m j->j∈D∨z2K b l j)->∀ v∈uZ b (vG b l m),∃ j∈D,v∈uZ b (vG b l j)∧∀ w∈uZ b (vG b l j),w∈uZ b (vG b l m):=by
  intro m m0 m1 hm v hv
  obtain⟨y,hy,rfl⟩:=Qj.1 hv
  obtain⟨j,hj,hyj⟩:=z7H hB m0 m1 hy
  have hjr:=z24 hB.toFormA hj.sub m0 m1
  rcases hm j hj with hjD | hax
  ·refine⟨j,hjD,Qj.2 ⟨y,hyj,rfl⟩,fun w hw=>?_⟩
   obtain⟨z,hz,rfl⟩:=Qj.1 hw
   exact Qj.2 ⟨z,z7g hB m0 m1 hj hz,rfl⟩
  ·exact absurd hyj (ax_defs hjr.1 hjr.2 hax)
 have unP:∀ m:Int,0≤m->m<l.length->(∀ j,xX b l m j->j∈D∨z2K b l j)->∀ v∈xU b l m,∃ j∈D,v∈xU b l j∧∀ w∈xU b l j,w∈xU b l m:=by
  intro m m0 m1 hm v hv
  obtain⟨p,hp,hv⟩:=Qz.1 hv
  obtain⟨j,hj,hpj⟩:=z5g hB m0 m1 hp
  have hjr:=z24 hB.toFormA hj.sub m0 m1
  rcases hm j hj with hjD | hax
  ·refine⟨j,hjD,Qz.2 ⟨p,hpj,hv⟩,fun w hw=>?_⟩
   obtain⟨z,hz,hw⟩:=Qz.1 hw
   exact Qz.2 ⟨z,z7V hB m0 m1 hj hz,hw⟩
  ·exact absurd (Qz.2 ⟨p,hpj,hv⟩) (ax_prem hjr.1 hjr.2 hax)
 have premD:∀ j∈D,(yH b l j=[]∨vG b l j=[])->xU b l j≠[]:=by
  intro j hj he
  obtain⟨⟨j0,j1⟩,⟨a,ha,h1 | ⟨h2,r,hr,hs⟩⟩,hnax⟩:=hD j hj
  ·obtain⟨p,hp⟩:=((hB.prem ha).1 h1).2.1
   have hk:=hR.kd p (z2u hp)
   have haj:a.1=j:=((hB.prem ha).1 h1).1
   have hmem:j∈zJI l j:=(zNl hB j0 j1).2 ⟨.self j,a,ha,h1⟩
   intro e
   have hnil:∀ v,v∉zMI b j:=fun v hv=>by
    have:v∈xU b l j:=Qz.2 ⟨j,hmem,hv⟩
    rw[e] at this;cases this
   rw[haj] at hp
   unfold zMI at hnil
   rw[hp] at hnil
   rcases hk with hk | hk | hk
   ·exact hnax ⟨a,p,ha,h1,by rw[haj];exact hp,hk⟩
   ·simp[hk] at hnil
   ·simp[hk] at hnil
  ·rcases he with he | he
   ·have:a.2.1∈yH b l j:=(zKF hB j _).2 (.here ha h2 hr hs)
    rw[he] at this;cases this
   ·have:a.2.1∈vG b l j:=(zKD hB j0 j1 _).2 ⟨j,zWE hB.toFormA j0 j1,a,ha,h2,by simp[zUk,hr,hs],rfl⟩
    rw[he] at this;cases this
 have hne':∃ j,j∈D:=by cases D with | nil=>exact absurd rfl hne | cons j _=>exact⟨j,Qm⟩
 have bool4:∀ {p q r s t x:Bool},x=false->(p&&q&&r&&s&&t&&x)=false:=fun h=>by rw[h,U9]
 by_cases ho1:o.1=1
 ·
  have e1:(o.1==1)=true:=by simpa using ho1
  by_cases hex:∃ j∈D,uZ b (yH b l j)≠[]
  ·obtain⟨i,hi,hX,hw⟩:=zZY D (fun j=>uZ b (yH b l j)) o.2 hex
   refine⟨i,hi,fun m m0 m1 hm=>?_⟩
   unfold zSP
   refine bool4 ?_
   have hX':(yH b l i).isEmpty=false:=by
    cases hq:yH b l i with
    | nil=>exact absurd (by rw[hq];rfl) hX
    | cons _ _=>rfl
   simp only[e1,Qc,hw _ (unL m m0 m1 hm),hX',U9,Ui,U0]
  ·have hall:∀ j∈D,yH b l j=[]:=fun j hj=>by
    cases hq:yH b l j with
    | nil=>rfl
    | cons y z=>exact absurd ⟨j,hj,by rw[hq];simp⟩ hex
   obtain⟨j0,hj0⟩:=hne'
   obtain⟨i,hi,hX,hw⟩:=zZY D (fun j=>xU b l j) o.2 ⟨j0,hj0,premD j0 hj0 (.inl (hall j0 hj0))⟩
   refine⟨i,hi,fun m m0 m1 hm=>?_⟩
   have hme:yH b l m=[]:=by
    cases hq:yH b l m with
    | nil=>rfl
    | cons y z =>
     obtain⟨j,hj,h2,_⟩:=unL m m0 m1 hm (z04 b y) (by rw[hq];exact Qm)
     rw[hall j hj] at h2;cases h2
   unfold zSP
   refine bool4 ?_
   simp only[e1,Qc,hme,hw _ (unP m m0 m1 hm),U9,U0]
   exact z3G _ _
 ·have e1:(o.1==1)=false:=QQ.2 ho1
  by_cases ho2:o.1=2
  ·have e2:(o.1==2)=true:=by simpa using ho2
   by_cases hex:∃ j∈D,uZ b (vG b l j)≠[]
   ·obtain⟨i,hi,hX,hw⟩:=zZY D (fun j=>uZ b (vG b l j)) o.2 hex
    refine⟨i,hi,fun m m0 m1 hm=>?_⟩
    unfold zSP
    refine bool4 ?_
    have hX':(vG b l i).isEmpty=false:=by
     cases hq:vG b l i with
     | nil=>exact absurd (by rw[hq];rfl) hX
     | cons _ _=>rfl
    simp only[e1,e2,zbf,Qb,Qc,hX',U9,hw _ (unD m m0 m1 hm)]
    split <;> rfl
   ·have hall:∀ j∈D,vG b l j=[]:=fun j hj=>by
     cases hq:vG b l j with
     | nil=>rfl
     | cons y z=>exact absurd ⟨j,hj,by rw[hq];simp⟩ hex
    obtain⟨j0,hj0⟩:=hne'
    obtain⟨i,hi,hX,hw⟩:=zZY D (fun j=>xU b l j) o.2 ⟨j0,hj0,premD j0 hj0 (.inr (hall j0 hj0))⟩
    refine⟨i,hi,fun m m0 m1 hm=>?_⟩
    have hme:vG b l m=[]:=by
     cases hq:vG b l m with
     | nil=>rfl
     | cons y z =>
      obtain⟨j,hj,h2,_⟩:=unD m m0 m1 hm (z04 b y) (by rw[hq];exact Qm)
      rw[hall j hj] at h2;cases h2
    unfold zSP
    refine bool4 ?_
    simp only[e1,e2,zbf,Qb,Qc,hme,hall i hi,List.isEmpty_nil,Bool.and_self,hw _ (unP m m0 m1 hm)]
  ·have e2:(o.1==2)=false:=QQ.2 ho2
   obtain⟨j0,hj0⟩:=hne'
   refine⟨j0,hj0,fun m m0 m1 hm=>?_⟩
   unfold zSP
   refine bool4 ?_
   simp only[e1,e2,zbf,Qb]
def Out (l:List zF)(f:Nat->Nat)(x:zC): Prop:=∃ i a,Inn l f i∧zB l i=some a∧a.2.2.2=x
abbrev Fal (b:zI)(l:List zF)(f:Nat->Nat)(j:Int): Prop:=Inn l f j∧zR0 b l j∧¬ z2K b l j
theorem zZG (hR:Rb b l)(hf:CL l.length (zXF b l o) f)(x:zC): Out l f x↔yI b (Cnc b l (Fal b l f)) x:=by
 constructor
 ·rintro ⟨i,a,h1,h2,rfl⟩
  refine der_of hR (i.toNat+1) i a (by have:=h1.1;omega) h2 fun j hj=>?_
  by_cases hax:z2K b l j
  ·exact .inr hax
  ·exact .inl ⟨sub_in hR.form.toFormB hf h1 hj.sub,hj.leaf,hax⟩
 ·rintro ⟨n,h⟩
  obtain⟨i,a,h1,h2,h3,_⟩:=arg_of hR hf (D:=Fal b l f) (fun j hj=>⟨hj.1,hj.2.1⟩) h
  exact⟨i,a,h1,h2,h3⟩
theorem z4h (hR:Rb b l)(hf:CL l.length (zXF b l o) f){x:zC}(h:yI b (fun y=>Out l f y∨∃ p∈b.1,p.2.1=1∧p.1=y) x): Out l f x:=by
 rw[zZG hR hf]
 refine h.trans fun y hy=>?_
 rcases hy with hy | hy
 ·exact(zZG hR hf y).1 hy
 ·exact yI.base (.inr hy)
theorem zYU (hR:Rb b l)(hT:TrC b)(hA:¬ Inc b fun x=>∃ p∈b.1,p.2.1=1∧p.1=x)(hf:CL l.length (zXF b l o) f)(x:zC): ¬ (Out l f x∧Out l f (xJ x)):=by
 rintro ⟨h1,h2⟩
 have hB:=hR.form.toFormB
 have hinc:Inc b (Cnc b l (Fal b l f)):=⟨x,(zZG hR hf x).1 h1,(zZG hR hf _).1 h2⟩
 have hlist:∃ n,∃ D:List Int,D.length=n∧(∀ j∈D,Fal b l f j)∧Inc b (Cnc b l (·∈D)):=by
  classical
  refine⟨_,(qS l.length).filter fun j=>decide (Fal b l f j),rfl,fun j hj=>by simpa using (Qk.1 hj).2,?_⟩
  obtain⟨p,g1,g2⟩:=hinc
  have hsub:∀ y,Cnc b l (Fal b l f) y->Cnc b l (·∈(qS l.length).filter fun j=>decide (Fal b l f j)) y:=fun y hy=>by
   rcases hy with⟨j,a,hj,ha,e⟩ | hy
   ·exact .inl ⟨j,a,Qk.2 ⟨xO.2 ⟨hj.1.1,hj.1.2.1⟩,by simpa using hj⟩,ha,e⟩
   ·exact .inr hy
  exact⟨p,g1.sub hsub,g2.sub hsub⟩
 have hmin:∃ D:List Int,(∀ j∈D,Fal b l f j)∧Inc b (Cnc b l (·∈D))∧∀ D':List Int,D'.length<D.length->(∀ j∈D',Fal b l f j)->¬ Inc b (Cnc b l (·∈D')):=by
  obtain⟨n,hn⟩:=hlist
  induction n using Nat.strongRecOn with
  | _ n ih =>
   obtain⟨D,hl,h3,h4⟩:=hn
   by_cases hex:∃ D':List Int,D'.length<D.length∧(∀ j∈D',Fal b l f j)∧Inc b (Cnc b l (·∈D'))
   ·obtain⟨D',g1,g2,g3⟩:=hex
    exact ih D'.length (by omega) ⟨D',rfl,g2,g3⟩
   ·exact⟨D,h3,h4,fun D' g1 g2 g3=>hex ⟨D',g1,g2,g3⟩⟩
 obtain⟨D,hD,hDi,hDm⟩:=hmin
 have hne:D≠[]:=by
  rintro rfl
  obtain⟨p,g1,g2⟩:=hDi
  have hsub:∀ y,Cnc b l (·∈([]:List Int)) y->∃ p∈b.1,p.2.1=1∧p.1=y:=fun y hy=>by
   rcases hy with⟨j,a,hj,_⟩ | hy
   ·cases hj
   ·exact hy
  exact hA ⟨p,g1.sub hsub,g2.sub hsub⟩
 obtain⟨i,hi,hw⟩:=z6s (o:=o) hR D (fun j hj=>⟨⟨(hD j hj).1.1,(hD j hj).1.2.1⟩,(hD j hj).2⟩) hne
 obtain⟨hin,hleaf,hnax⟩:=hD i hi
 obtain⟨a,ha⟩:=zLM hin.1 hin.2.1
 have hcon:¬ Inc b (Cnc b l (·∈D.erase i)):=hDm _ (by
  have:=List.length_pos_of_mem hi
  rw[List.length_erase_of_mem hi];omega) fun j hj=>hD j (List.mem_of_mem_erase hj)
 have hsub1:∀ y,Cnc b l (·∈D) y->Cnc b l (·∈D.erase i) y∨y=a.2.2.2:=fun y hy=>by
  rcases hy with⟨j,a',hj,ha',e⟩ | hy
  ·by_cases hji:j=i
   ·subst hji;rw[ha] at ha';cases ha';exact .inr e.symm
   ·exact .inl (.inl ⟨j,a',(List.mem_erase_of_ne hji).2 hj,ha',e⟩)
  ·exact .inl (.inr hy)
 have hsub2:∀ y,(Cnc b l (·∈D.erase i) y∨y=a.2.2.2)->Cnc b l (·∈D) y:=fun y hy=>by
  rcases hy with(⟨j,a',hj,ha',e⟩ | hy) | rfl
  ·exact .inl ⟨j,a',List.mem_of_mem_erase hj,ha',e⟩
  ·exact .inr hy
  ·exact .inl ⟨i,a,hi,ha,rfl⟩
 have hinc2:Inc b fun y=>Cnc b l (·∈D.erase i) y∨y=a.2.2.2:=by
  obtain⟨p,g1,g2⟩:=hDi
  exact⟨p,g1.sub hsub1,g2.sub hsub1⟩
 obtain⟨n,hn⟩:=(contra hT hcon hinc2).sub hsub2
 obtain⟨m,am,hm,ham,hcm,hlm⟩:=arg_of hR hf (D:=(·∈D)) (fun j hj=>⟨(hD j hj).1,(hD j hj).2.1⟩) hn
 have hless:=hw m hm.1 hm.2.1 hlm
 have hdef:∃ kd,(m,i,i,kd)∈zF1 b l o:=by
  obtain⟨a',ha',h3 | ⟨h3,r,hr,hs⟩⟩:=hleaf
  ·rw[ha] at ha';cases ha'
   obtain⟨p,hp⟩:=((hB.prem ha).1 h3).2.1
   have hk:p.2.1≠1:=fun e=>hnax ⟨a,p,ha,h3,hp,e⟩
   have hneg:a.2.1<0:=by have:=(hB.prem ha).2.2;omega
   refine⟨1,zUY.2 ⟨⟨⟨hm.1,hm.2.1⟩,⟨hin.1,hin.2.1⟩,zWE hB.toFormA hin.1 hin.2.1,.inl rfl,?_⟩,.inr hless⟩⟩
   unfold z4g
   rw[ham,ha]
   simp[hneg,hp,hk,hcm]
  ·rw[ha] at ha';cases ha'
   have hneg:¬ a.2.1<0:=by omega
   refine⟨2,zUY.2 ⟨⟨⟨hm.1,hm.2.1⟩,⟨hin.1,hin.2.1⟩,zWE hB.toFormA hin.1 hin.2.1,.inr (.inl rfl),?_⟩,.inr hless⟩⟩
   unfold z4g
   rw[ham,ha]
   simp[hneg,hr,hs,hcm]
 obtain⟨kd,hd⟩:=hdef
 have:=z5u hf hin hd
 have:=hm.2.2
 omega
end
end
section
def z0t (b:zI)(r:zR): Bool:=b.2.1.any fun x=>x.2.1&&((x.2.2.2.2==r.2.2.2.2)&&decide (x.2.2.2.1=r.2.2.2.1))
theorem z6W{b:zI}{r:zR}: z0t b r=true↔∃ x∈b.2.1,x.2.1=true∧x.2.2.2.2=r.2.2.2.2∧x.2.2.2.1=r.2.2.2.1:=by
 rw[z0t,QX]
 constructor
 ·rintro ⟨x,h1,h2⟩
  simp only[Qo,Ue,Qp] at h2
  exact⟨x,h1,h2⟩
 ·rintro ⟨x,h1,h2,h3,h4⟩
  exact⟨x,h1,by simp[h2,h3,h4]⟩
def tY (b:zI)(s:List zC): Nat:=(b.2.1.filter fun r=>!decide (r.2.2.2.2∈s)).length
end
section
section
variable {N:Nat}{L:List qA}
def xK (N:Nat)(L:List qA)(D E:DD): Prop:=leF E D∧∀ f,CL N L f->z2U N D f->z2U N E f
theorem xK.refl (D:DD): xK N L D D:=⟨leF.refl D,fun _ _ h=>h⟩
theorem xK.trans{D E G:DD}(h:xK N L D E)(k:xK N L E G): xK N L D G:=⟨k.1.trans h.1,fun f hf hc=>k.2 f hf (h.2 f hf hc)⟩
theorem z1K{D E:DD}(h:xK N L D E){k:Nat}(t:Dm)(ht:∀ f,CL N L f->z2U N D f->zZ8 t (f k)=true): xK N L D (tO E k (iD (E k) t)):=by
 refine⟨(zUO (iD_le _ _)).trans h.1,fun f hf hc j hj=>?_⟩
 unfold tO
 split
 ·rename_i e;subst e
  rw[z5n,h.2 f hf hc j hj,ht f hf hc];rfl
 ·exact h.2 f hf hc j hj
theorem zY0{ρ:Type}{B:Int×List Int->Option ((Int×List Int)⊕ρ)}(hN:N≤40)(D:DD)(a:List Int)(ha:∀ x∈a,∃ k:Nat,x=(k:Int)∧k<N)(t:Dm)(ht:∀ f,CL N L f->z2U N D f->∀ k:Nat,(k:Int)∈a->zZ8 t (f k)=true)(fin:List Int->ρ)
  (hB:∀(i:Nat) (k:Nat) s,a[i]?=some (k:Int)->k<40->B ((i:Int),s)=some (.inl (((i+1:Nat):Int),xZ 40 s (k:Int) (vA .i64 (vY s (k:Int)) (eD t)))))
  (he:∀ s,B ((a.length:Int),s)=some (.inr (fin s))):∃ E,zN B (0,dA D)=some (fin (dA E))∧xK N L D E:=by
 have h:=zTy (B:=B) a (fun s x=>xZ 40 s x (vA .i64 (vY s x) (eD t))) fin (fun _ s=>∃ E,s=dA E∧xK N L D E) (dA D) ⟨D,rfl,xK.refl D⟩ ?_ fun s _=>he s
 ·obtain⟨h1,E,h2,h3⟩:=h
  exact⟨E,by rw[h1,h2],h3⟩
 ·rintro i x s hx ⟨E,rfl,hE⟩
  obtain⟨k,rfl,hk⟩:=ha x (wF hx)
  refine⟨hB i k _ hx (by omega),tO E k (iD (E k) t),?_,z1K hE t fun f hf hc=>ht f hf hc k (wF hx)⟩
  rw[zLT E (by omega),zZP,z16 E (by omega)]
theorem z2k (x y:Dm): (eD x==eD y)=decide (x=y):=by
 by_cases h:x=y
 ·subst h;simp
 ·simp only[h,decide_false,QQ]
  exact fun e=>h (z3y _ _ e)
theorem z5J (hN:N≤40)(D:DD)(fnd:List (List Int))(full:Bool){i:Nat}(hi:i<N):
  ∃ E,zC0 ((N:Int),tP N L,dA D,fnd,full) (i:Int)=some (dA E,fnd)∧xK N L D E:=by
 have hl:(yB N L (i:Int)).length≤40:=QD (zZ2 _) hN
 have hne:∀ f,CL N L f->z2U N D f->zZ8 (D i) (f i)=true:=fun f _ hc=>hc i hi
 have hon:∀(f:Nat->Nat) (k:Nat),CL N L f->z2U N D f->(∀ q,q=1∨q=2∨q=3->zZ8 (D i) q=true->q=k)->f i=k:=fun f k hf hc hq=>hq _ (hf.r i hi) (hc i hi)
 have first:∃(t:Dm) (E:DD),((wV (decide (0≤(i:Int))&&decide ((i:Int)<40))).bind fun _ =>
   if(vY (dA D) (i:Int))==2 then
    zN (zC5 (yB N L (i:Int))) (0,dA D)
   else
    if(vY (dA D) (i:Int))==4 then
     some (2,dA D)
    else
     if(vY (dA D) (i:Int))==8 then
      (zN (zC3 (yB N L (i:Int))) (0,dA D):Option (List Int)).bind fun s3 =>
      some (8,s3)
     else
      some (0,dA D):Option (Int×(List Int)))=some (eD t,dA E)∧xK N L D E∧(t=(false,false,false)∨∃ c:Nat,(t=(true,false,false)∧c=1∨t=(false,false,true)∧c=3) ∧
    ∀ f,CL N L f->z2U N D f->∃ j,j<N∧vT L j i∧f j=c):=by
  rw[zNC (K:=40) rfl (show i<40 by omega),zob,zLT D (by omega)]
  rw[show(2:Int)=eD (true,false,false) from rfl,show(4:Int)=eD (false,true,false) from rfl,show(8:Int)=eD (false,false,true) from rfl,z2k,z2k,z2k]
  by_cases h1:D i=(true,false,false)
  ·have hf1:∀ f,CL N L f->z2U N D f->f i=1:=fun f hf hc=>hon f 1 hf hc fun q hq hh=>by
    rw[h1] at hh
    rcases hq with rfl | rfl | rfl
    ·rfl
    ·exact Bool.noConfusion hh
    ·exact Bool.noConfusion hh
   obtain⟨E,h2,h3⟩:=zY0 (B:=zC5 (yB N L (i:Int))) hN D (yB N L (i:Int)) zKh (false,true,false) (fun f hf hc k hk=>by
    have hkN:k<N:=by obtain⟨k',e,h⟩:=zKh _ hk;omega
    rw[hf.i1 i hi (hf1 f hf hc) k hkN ((zMB hkN).1 hk)];rfl) (fun s=>(0,s)) (fun q k s hq hk=>by
     unfold zC5
     simp only[qY hq,Qc,qM hq,zob,qR hq (by omega)]
     rw[zNC (K:=40) rfl hk]
     rfl) (fun s=>by unfold zC5;simp[len])
   refine⟨(false,false,false),E,?_,h3,.inl rfl⟩
   simp only[h1,decide_true,Qc]
   exact h2
  ·simp only[h1,decide_false,zbf,Qb]
   by_cases h2:D i=(false,true,false)
   ·refine⟨(true,false,false),D,by simp only[h2,decide_true,Qc],xK.refl D,.inr ⟨1,.inl ⟨rfl,rfl⟩,fun f hf hc=>?_⟩⟩
    refine hf.i2 i hi (hon f 2 hf hc fun q hq hh=>?_)
    rw[h2] at hh
    rcases hq with rfl | rfl | rfl
    ·exact Bool.noConfusion hh
    ·rfl
    ·exact Bool.noConfusion hh
   ·simp only[h2,decide_false,zbf,Qb]
    by_cases h3:D i=(false,false,true)
    ·have hf3:∀ f,CL N L f->z2U N D f->f i=3:=fun f hf hc=>hon f 3 hf hc fun q hq hh=>by
      rw[h3] at hh
      rcases hq with rfl | rfl | rfl
      ·exact Bool.noConfusion hh
      ·exact Bool.noConfusion hh
      ·rfl
     obtain⟨E,h4,h5⟩:=zY0 (B:=zC3 (yB N L (i:Int))) hN D (yB N L (i:Int)) zKh (false,true,true) (fun f hf hc k hk=>by
      have hkN:k<N:=by obtain⟨k',e,h⟩:=zKh _ hk;omega
      have h6:=(hf.i3 i hi (hf3 f hf hc)).2 k hkN ((zMB hkN).1 hk)
      rcases hf.r k hkN with h | h | h
      ·exact absurd h h6
      ·rw[h];rfl
      ·rw[h];rfl) (fun s=>s) (fun q k s hq hk=>by
       unfold zC3
       simp only[qY hq,Qc,qM hq,zob,qR hq (by omega)]
       rw[zNC (K:=40) rfl hk]
       rfl) (fun s=>by unfold zC3;simp[len])
     refine⟨(false,false,true),E,?_,h5,.inr ⟨3,.inr ⟨rfl,rfl⟩,fun f hf hc=>(hf.i3 i hi (hf3 f hf hc)).1⟩⟩
     simp only[h3,decide_true,Qc]
     rw[h4];rfl
    ·refine⟨(false,false,false),D,by simp only[h3,decide_false,zbf,Qb];rfl,xK.refl D,.inl rfl⟩
 obtain⟨t,E,h1,h2,h3⟩:=first
 unfold zC0
 simp only[z6M hi,zob]
 rw[h1,zob,can2_eq,zTn hN E _ fnd (N:Int) full _ zKh hl t,zob]
 by_cases hlen:len ((yB N L (i:Int)).filter fun x=>mD (E x.toNat) t)=1
 ·have hb:(len ((yB N L (i:Int)).filter fun x=>mD (E x.toNat) t)==1)=true:=by rw[hlen];rfl
  rw[hb]
  simp only[Qc]
  obtain⟨x,hx⟩:∃ x,(yB N L (i:Int)).filter (fun x=>mD (E x.toNat) t)=[x]:=by
   have:((yB N L (i:Int)).filter fun x=>mD (E x.toNat) t).length=1:=by simp only[len] at hlen;omega
   exact List.length_eq_one_iff.1 this
  rw[hx]
  have hxm:x∈(yB N L (i:Int)).filter fun x=>mD (E x.toNat) t:=by rw[hx];exact Qm
  obtain⟨k,rfl,hk⟩:=zKh x (Qk.1 hxm).1
  refine⟨tO E k (iD (E k) t),?_,z1K h2 t fun f hf hc=>?_⟩
  ·rw[show zB [(k:Int)] 0=some (k:Int) from rfl,zob,zNC (K:=40) rfl (show k<40 by omega),zob,zob,zLT E (by omega),zZP,z16 E (by omega)]
  ·rcases h3 with rfl | ⟨c,hc1,hc2⟩
   ·have:=(Qk.1 hxm).2
    simp[mD] at this
   ·obtain⟨j,hj,he,hfj⟩:=hc2 f hf hc
    have hEj:=h2.2 f hf hc j hj
    rw[hfj] at hEj
    have hjm:(j:Int)∈(yB N L (i:Int)).filter fun x=>mD (E x.toNat) t:=by
     rw[Qk]
     refine⟨(zMB hj).2 he,?_⟩
     rw[Ql]
     rcases hc1 with⟨rfl,rfl⟩ | ⟨rfl,rfl⟩
     ·have:(E j).1=true:=hEj
      simp[mD,this]
     ·have:(E j).2.2=true:=hEj
      simp[mD,this]
    rw[hx,Qa] at hjm
    have:j=k:=by omega
    subst this
    rw[hfj]
    rcases hc1 with⟨rfl,rfl⟩ | ⟨rfl,rfl⟩ <;> rfl
 ·have hb:(len ((yB N L (i:Int)).filter fun x=>mD (E x.toNat) t)==1)=false:=QQ.2 hlen
  rw[hb]
  exact⟨E,rfl,h2⟩
def Dead (N:Nat)(L:List qA)(D:DD): Prop:=∀ f,CL N L f->¬ z2U N D f
def Fix (N:Nat)(L:List qA)(D:DD): Prop:=∀ i,i<N->tS (D i) (z0O N L D i)
theorem z6g{D E:DD}(h:xK N L D E){i:Nat}(hi:i<N)(h0:E i=(false,false,false)): Dead N L D:=fun f hf hc=>by
 have:=h.2 f hf hc i hi
 rw[h0] at this
 rcases hf.r i hi with h | h | h <;> rw[h] at this <;> exact Bool.noConfusion this
theorem z3Q (hN:N≤40)(D:DD)(fnd:List (List Int))(n2:List Int)(f2:List (List Int))(full:Bool):
  (∃ E,zN (zAU ((N:Int),tP N L,n2,f2,full)) (0,dA D,fnd)=some (.inl (dA E,fnd))∧xK N L D E∧(E=D->Fix N L D)) ∨
  ∃ E,zN (zAU ((N:Int),tP N L,n2,f2,full)) (0,dA D,fnd)=some (.inr (.inr (false,dA E,fnd)))∧leF E D∧Dead N L D:=by
 have key:∀(m i:Nat) (E:DD),i+m=N->xK N L D E->(E=D->∀ j,j<i->tS (D j) (z0O N L D j))->
   (∃ G,zN (zAU ((N:Int),tP N L,n2,f2,full)) ((i:Int),dA E,fnd)=some (.inl (dA G,fnd))∧xK N L D G∧(G=D->Fix N L D)) ∨
   ∃ G,zN (zAU ((N:Int),tP N L,n2,f2,full)) ((i:Int),dA E,fnd)=some (.inr (.inr (false,dA G,fnd)))∧leF G D∧Dead N L D:=by
  intro m
  induction m with
  | zero =>
   intro i E h hE hI
   rw[Q4] at h
   subst h
   refine .inl ⟨E,?_,hE,fun e j hj=>hI e j hj⟩
   rw[vR]
   unfold zAU
   simp
  | succ m ih =>
   intro i E h hE hI
   have hi:i<N:=by omega
   have hd:decide ((i:Int)<(N:Int))=true:=by simp;omega
   have hp:=zZh (L:=L) hN E fnd full hi
   have hK1:xK N L D (tO E i (iD (E i) (z0O N L E i))):=by
    refine hE.trans ⟨zUO (iD_le _ _),fun f hf hc j hj=>?_⟩
    unfold tO
    split
    ·rename_i e;subst e
     rw[z5n,hc j hj,poss_ok hf hc hj];rfl
    ·exact hc j hj
   obtain⟨G,hG1,hG2⟩:=z5J (L:=L) hN (tO E i (iD (E i) (z0O N L E i))) fnd full hi
   have hstep:zAU ((N:Int),tP N L,n2,f2,full) ((i:Int),dA E,fnd) =
     if(tO E i (iD (E i) (z0O N L E i)) i)=(false,false,false) then some (.inr (.inr (.inr (false,dA (tO E i (iD (E i) (z0O N L E i))),fnd)))) else some (.inl (((i+1:Nat):Int),dA G,fnd)):=by
    unfold zAU
    simp only[hd,Qc]
    rw[zNC (K:=40) rfl (show i<40 by omega),zob,hp,zob,zob,zob,zLT E (by omega),zZP,z16 E (by omega),zLT _ (by omega)]
    rw[show(0:Int)=eD (false,false,false) from rfl,z2k]
    by_cases h0:tO E i (iD (E i) (z0O N L E i)) i=(false,false,false)
    ·simp only[h0,decide_true,Qc]
    ·simp only[h0,decide_false,zbf,Qb]
     rw[hG1,zob,vN i (by omega)]
   rw[vR,hstep]
   by_cases h0:tO E i (iD (E i) (z0O N L E i)) i=(false,false,false)
   ·rw[Qu h0]
    exact .inr ⟨_,rfl,hK1.1,z6g hK1 hi h0⟩
   ·rw[Qq h0]
    refine ih (i+1) G (by omega) (hK1.trans hG2) fun e j hj=>?_
    have e1:tO E i (iD (E i) (z0O N L E i))=D:=hK1.1.anti (by rw[←e];exact hG2.1)
    have e2:E=D:=hE.1.anti (by rw[←e1];exact zUO (iD_le _ _))
    rcases Qy.1 hj with hj | rfl
    ·exact hI e2 j hj
    ·have h3:iD (E j) (z0O N L E j)=E j:=by
      have:=congrFun (e1.trans e2.symm) j
      simpa [tO] using this
     rw[e2] at h3
     have:=iD_le2 (D j) (z0O N L D j)
     rwa [h3] at this
 exact key N 0 D (by omega) (xK.refl D) fun _ j hj=>absurd hj (UW _)
theorem z9v (D E:DD): aeq 40 (dA D) (dA E)=true↔∀ j,j<40->D j=E j:=by
 unfold aeq
 rw[QE]
 refine⟨fun h j hj=>?_,fun h j hj=>?_⟩
 ·have:=h j (Ug.2 hj)
  rw[Ue] at this
  have h1:=zLT D hj
  have h2:=zLT E hj
  simp only[vY,Ql] at h1 h2
  rw[h1,h2] at this
  exact z3y _ _ this
 ·have hj:=Ug.1 hj
  have h1:=zLT D hj
  have h2:=zLT E hj
  simp only[vY,Ql] at h1 h2
  rw[h1,h2,h j hj];simp
theorem asub_dA (hN:N≤40)(D:DD): z8o 40 (dA D) (N:Int)=some (zW N fun j=>eD (D j)):=by
 unfold z8o
 rw[Qu ⟨by omega,by omega⟩,Ql]
 congr 1
 apply Wo
 intro j hj
 have hj:=Ug.1 hj
 have h1:=zLT D (show j<40 by omega)
 simpa only[vY,Ql] using h1
theorem z6N (D:DD): ((0:Int)∈zW N fun j=>eD (D j))↔∃ j,j<N∧D j=(false,false,false):=by
 constructor
 ·intro h
  obtain⟨j,hj,he⟩:=Qj.1 h
  refine⟨j,Ug.1 hj,z3y _ _ ?_⟩
  rw[he];rfl
 ·rintro ⟨j,hj,he⟩
  refine Qj.2 ⟨j,Ug.2 hj,?_⟩
  rw[he];rfl
theorem z3J (hN:N≤40)(D:DD)(hD:Emp N D)(fnd:List (List Int))(full:Bool):
  (∃ E,zBl ((N:Int),tP N L,dA D,fnd,full)=some (true,dA E,fnd)∧xK N L D E∧Fix N L E∧∀ i,i<N->E i≠(false,false,false)) ∨
  ∃ E,zBl ((N:Int),tP N L,dA D,fnd,full)=some (false,dA E,fnd)∧leF E D∧Dead N L D:=by
 have h:=zNx (B:=zCP ((N:Int),tP N L,dA D,fnd,full)) (fun s=>∃ E,s=(dA E,fnd)∧xK N L D E)
  (fun s=>open Classical in if h:∃ E,s=(dA E,fnd)∧xK N L D E then z1V (Classical.choose h) 40 else 0)
  (fun r=>(∃ E,r=(true,dA E,fnd)∧xK N L D E∧Fix N L E∧∀ i,i<N->E i≠(false,false,false))∨∃ E,r=(false,dA E,fnd)∧leF E D∧Dead N L D) ?_ (dA D,fnd) ⟨D,rfl,xK.refl D⟩
 ·obtain⟨r,h1,⟨E,rfl,h2⟩ | ⟨E,rfl,h2⟩⟩:=h
  ·exact .inl ⟨E,h1,h2⟩
  ·exact .inr ⟨E,h1,h2⟩
 ·rintro s ⟨E,rfl,hE⟩
  have dinj:∀ {G H:DD},leF G D->leF H D->dA G=dA H->G=H:=by
   intro G H hG hH he
   funext j
   by_cases hj:j<40
   ·have h1:=zLT G hj
    rw[he,zLT H hj] at h1
    exact(z3y _ _ h1).symm
   ·rw[hD.le hG j (by omega),hD.le hH j (by omega)]
  have hmu:∀ G,xK N L D G->(open Classical in if h:∃ E,((dA G,fnd):List Int×List (List Int))=(dA E,fnd)∧xK N L D E then z1V (Classical.choose h) 40 else 0)=z1V G 40:=by
   intro G hG
   have hex:∃ E,((dA G,fnd):List Int×List (List Int))=(dA E,fnd)∧xK N L D E:=⟨G,rfl,hG⟩
   rw[dif_pos hex]
   have h1:=Classical.choose_spec hex
   exact congrArg (fun z=>z1V z 40) (dinj h1.2.1 hG.1 (congrArg Prod.fst h1.1).symm)
  unfold zCP
  rcases z3Q (L:=L) hN E fnd (dA D) fnd full with⟨G,h1,h2,h3⟩ | ⟨G,h1,h2,h3⟩
  ·rw[h1]
   simp only[wZ,zob]
   rw[asub_dA hN,zob,zLC _ _ (by simp only[zW,Um,List.length_range];omega),zob]
   by_cases h0:(0:Int)∈zW N fun j=>eD (G j)
   ·simp only[h0,decide_true,Qc]
    obtain⟨j,hj,hz⟩:=(z6N G).1 h0
    exact .inr ⟨_,rfl,.inr ⟨G,rfl,h2.1.trans hE.1,z6g (hE.trans h2) hj hz⟩⟩
   ·simp only[h0,decide_false,zbf,Qb]
    by_cases he:∀ j,j<40->G j=E j
    ·rw[(z9v G E).2 he]
     simp only[Qc]
     have hGE:G=E:=funext fun j=>by
      by_cases hj:j<40
      ·exact he j hj
      ·rw[hD.le (h2.1.trans hE.1) j (by omega),hD.le hE.1 j (by omega)]
     subst hGE
     refine .inr ⟨_,rfl,.inl ⟨G,rfl,hE,h3 rfl,fun i hi hz=>h0 ((z6N G).2 ⟨i,hi,hz⟩)⟩⟩
    ·have hb:aeq 40 (dA G) (dA E)=false:=by
      cases hq:aeq 40 (dA G) (dA E) with
      | false=>rfl
      | true=>exact absurd ((z9v G E).1 hq) he
     rw[hb]
     simp only[zbf,Qb]
     refine .inl ⟨_,rfl,⟨G,rfl,hE.trans h2⟩,?_⟩
     rw[hmu G (hE.trans h2),hmu E hE]
     have h4:=zWz h2.1 40
     rcases Nat.lt_or_eq_of_le h4 with h5 | h5
     ·exact h5
     ·exact absurd (z79 h2.1 40 h5) he
  ·rw[h1]
   simp only[wZ,zob]
   exact .inr ⟨_,rfl,.inr ⟨G,rfl,h2.trans hE.1,fun f hf hc=>h3 f hf (hE.2 f hf hc)⟩⟩
end
end
end Go.GD
