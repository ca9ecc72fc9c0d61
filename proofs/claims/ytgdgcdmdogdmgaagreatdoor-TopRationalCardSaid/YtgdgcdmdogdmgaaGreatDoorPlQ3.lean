/- A part. Conditions: none. -/
import Derived.Test.YtgdgcdmdogdmgaaGreatDoorPlQ2
namespace Go.GD
set_option autoImplicit false
set_option linter.unusedVariables false
section
def uF (N:Nat)(f:Nat->Nat): List Int:=zW N fun j=>((f j:Nat):Int)
theorem zOn{N i:Nat}(hi:i<N)(f:Nat->Nat): (uF N f)[i]?=some ((f i:Nat):Int):=by rw[uF,zJW,Qu hi]
theorem zTZ (N:Nat)(f:Nat->Nat): (uF N f).length=N:=by simp[uF,zW]
theorem labL_eq{N:Nat}{f g:Nat->Nat}(h:∀ j,j<N->f j=g j): uF N f=uF N g:=zBq fun j hj=>by rw[h j hj]
theorem z30{N:Nat}{f g:Nat->Nat}(h:uF N f=uF N g): ∀ j,j<N->f j=g j:=fun j hj=>by
 have h1:=zOn hj f
 rw[h,zOn hj g] at h1
 simp only[Qf] at h1
 omega
def vZ (c:Nat): Dm:=(decide (c=1),decide (c=2),decide (c=3))
theorem z3d{c k:Nat}(hc:c=1∨c=2∨c=3)(h:zZ8 (vZ c) k=true): k=c:=by
 match k,h with
 | 1,h=>simpa [zZ8,vZ,eq_comm] using h
 | 2,h=>simpa [zZ8,vZ,eq_comm] using h
 | 3,h=>simpa [zZ8,vZ,eq_comm] using h
theorem z5o{c:Nat}(hc:c=1∨c=2∨c=3): zZ8 (vZ c) c=true:=by
 rcases hc with rfl | rfl | rfl <;> rfl
theorem sgl_le{c:Nat}{x:Dm}(hc:c=1∨c=2∨c=3)(h:zZ8 x c=true): tS (vZ c) x:=by
 rcases hc with rfl | rfl | rfl
 ·exact⟨fun _=>h,fun k=>by simp[vZ] at k,fun k=>by simp[vZ] at k⟩
 ·exact⟨fun k=>by simp[vZ] at k,fun _=>h,fun k=>by simp[vZ] at k⟩
 ·exact⟨fun k=>by simp[vZ] at k,fun k=>by simp[vZ] at k,fun _=>h⟩
theorem z7A:∀ x:Dm,x≠(false,false,false)->(∃ c,(c=1∨c=2∨c=3)∧x=vZ c)∨2≤z3c x:=by
 rintro ⟨a,b,c⟩ h
 cases a <;> cases b <;> cases c
 ·exact absurd rfl h
 ·exact .inl ⟨3,by decide,rfl⟩
 ·exact .inl ⟨2,by decide,rfl⟩
 ·exact .inr (by decide)
 ·exact .inl ⟨1,by decide,rfl⟩
 ·exact .inr (by decide)
 ·exact .inr (by decide)
 ·exact .inr (by decide)
theorem z6c{c:Nat}(hc:c=1∨c=2∨c=3): z3c (vZ c)=1:=by rcases hc with rfl | rfl | rfl <;> rfl
theorem z3u{D:DD}{i:Nat}{x:Dm}(h:tS x (D i))(hp:z3c x<z3c (D i)): ∀ n,i<n->z1V (tO D i x) n<z1V D n
 | 0,hn=>absurd hn (UW _)
 | n+1,hn=>by
  simp only[z1V]
  rcases Qy.1 hn with h1 | rfl
  ·have h2:=z3u h hp n h1
   have h3:tO D i x n=D n:=Qq (by omega)
   rw[h3];omega
  ·have h2:=zWz (zUO h) i
   have h3:tO D i x i=x:=Qu rfl
   rw[h3];omega
section
variable {N:Nat}{L:List qA}
theorem z2p (hN:N≤40)(D:DD)(h0:∀ i,i<N->D i≠(false,false,false))(at0 fnd:List (List Int))(full:Bool):
  (∃ f:Nat->Nat,zBk ((N:Int),at0,dA D,fnd,full)=some (uF N f,-1)∧∀ j,j<N->(f j=1∨f j=2∨f j=3)∧D j=vZ (f j)) ∨
  ∃ i,i<N∧zBk ((N:Int),at0,dA D,fnd,full)=some ([],(i:Int))∧2≤z3c (D i):=by
 have key:∀(m i:Nat) (f:Nat->Nat),i+m=N->(∀ j,j<i->(f j=1∨f j=2∨f j=3)∧D j=vZ (f j))->
   (∃ g:Nat->Nat,zN (zAx ((N:Int),at0,dA D,fnd,full)) (uF i f,(i:Int))=some (uF N g,-1)∧∀ j,j<N->(g j=1∨g j=2∨g j=3)∧D j=vZ (g j)) ∨
   ∃ q,q<N∧zN (zAx ((N:Int),at0,dA D,fnd,full)) (uF i f,(i:Int))=some ([],(q:Int))∧2≤z3c (D q):=by
  intro m
  induction m with
  | zero =>
   intro i f h hf
   rw[Q4] at h
   subst h
   refine .inl ⟨f,?_,hf⟩
   rw[vR]
   unfold zAx
   simp
  | succ m ih =>
   intro i f h hf
   have hi:i<N:=by omega
   have hd:decide ((i:Int)<(N:Int))=true:=by simp;omega
   have hstep:∀ c:Nat,c=1∨c=2∨c=3->D i=vZ c->zAx ((N:Int),at0,dA D,fnd,full) (uF i f,(i:Int))=some (.inl (uF i f++[(c:Int)],((i+1:Nat):Int))):=by
    intro c hc hDi
    unfold zAx
    simp only[hd,Qc]
    rw[zNC (K:=40) rfl (show i<40 by omega),zob,zLT D (by omega),hDi]
    have hl:=zTZ i f
    rcases hc with rfl | rfl | rfl
    ·rw[show(eD (vZ 1)==2)=true from rfl]
     simp only[Qc]
     rw[wS (by simp only[QI,Ud];omega),zob,vN i (by omega)];rfl
    ·rw[show(eD (vZ 2)==2)=false from rfl,show(eD (vZ 2)==4)=true from rfl]
     simp only[Qc,zbf,Qb]
     rw[wS (by simp only[QI,Ud];omega),zob,vN i (by omega)];rfl
    ·rw[show(eD (vZ 3)==2)=false from rfl,show(eD (vZ 3)==4)=false from rfl,show(eD (vZ 3)==8)=true from rfl]
     simp only[Qc,zbf,Qb]
     rw[wS (by simp only[QI,Ud];omega),zob,vN i (by omega)];rfl
   rcases z7A (D i) (h0 i hi) with⟨c,hc,hDi⟩ | hp
   ·rw[vR,hstep c hc hDi]
    have e1:uF i f++[(c:Int)]=uF (i+1) fun j=>if j=i then c else f j:=by
     unfold uF
     rw[z7r]
     congr 1
     ·exact zBq fun j hj=>by
       have:¬ j=i:=by omega
       simp only[this,Qb]
     ·simp
    rw[e1]
    refine ih (i+1) _ (by omega) fun j hj=>?_
    rcases Qy.1 hj with hj | rfl
    ·have:¬ j=i:=by omega
     simp only[this,Qb]
     exact hf j hj
    ·simp only[Qc]
     exact⟨hc,hDi⟩
   ·refine .inr ⟨i,hi,?_,hp⟩
    rw[vR]
    have:zAx ((N:Int),at0,dA D,fnd,full) (uF i f,(i:Int))=some (.inr ([],(i:Int))):=by
     unfold zAx
     simp only[hd,Qc]
     rw[zNC (K:=40) rfl (show i<40 by omega),zob,zLT D (by omega)]
     rw[show(2:Int)=eD (vZ 1) from rfl,show(4:Int)=eD (vZ 2) from rfl,show(8:Int)=eD (vZ 3) from rfl,z2k,z2k,z2k]
     have hn:∀ c,c=1∨c=2∨c=3->¬ D i=vZ c:=fun c hc he=>by rw[he,z6c hc] at hp;omega
     simp only[hn 1 (by decide),hn 2 (by decide),hn 3 (by decide),decide_false,zbf,Qb]
    rw[this]
 exact key N 0 (fun _=>0) (by omega) fun j hj=>absurd hj (UW _)
structure Sp (N:Nat)(L:List qA)(P:(Nat->Nat)->Prop)(n0:Nat)(full:Bool)(new:List (List Int))(full':Bool): Prop where
 snd:∀ x∈new,∃ f,CL N L f∧P f∧x=uF N f
 nd:new.Nodup
 ful:full=true->new=[]∧full'=true
 hi:full=false->full'=true->n0+new.length=201
 lo:full=false->full'=false->n0+new.length≤200∧∀ f,CL N L f->P f->uF N f∈new
theorem Sp.none{P:(Nat->Nat)->Prop}{n0:Nat}{full:Bool}(h:full=false->n0≤200)(hP:∀ f,CL N L f->¬ P f): Sp N L P n0 full [] full :=
 ⟨fun x hx=>(by cases hx),Wa,fun h=>⟨rfl,h⟩,fun h1 h2=>(by rw[h1] at h2;cases h2),fun h1 _=>⟨h h1,fun f hf hp=>absurd hp (hP f hf)⟩⟩
theorem Sp.or{P Q:(Nat->Nat)->Prop}{n0:Nat}{full f1 f2:Bool}{new1 new2:List (List Int)}(h1:Sp N L P n0 full new1 f1)(h2:Sp N L Q (n0+new1.length) f1 new2 f2)(hd:∀ f g,P f->Q g->uF N f≠uF N g):
  Sp N L (fun f=>P f∨Q f) n0 full (new1++new2) f2:=by
 refine⟨fun x hx=>?_,?_,fun hf=>?_,fun h3 h4=>?_,fun h3 h4=>?_⟩
 ·rcases Qd.1 hx with h | h
  ·obtain⟨f,a,b,c⟩:=h1.snd x h;exact⟨f,a,.inl b,c⟩
  ·obtain⟨f,a,b,c⟩:=h2.snd x h;exact⟨f,a,.inr b,c⟩
 ·refine QK.2 ⟨h1.nd,h2.nd,fun x hx y hy e=>?_⟩
  obtain⟨f,_,a,b⟩:=h1.snd x hx
  obtain⟨g,_,c,d⟩:=h2.snd y hy
  exact hd f g a c (by rw[←b,←d];exact e)
 ·obtain⟨rfl,k1⟩:=h1.ful hf
  obtain⟨rfl,k2⟩:=h2.ful k1
  exact⟨rfl,k2⟩
 ·rw[Qh]
  cases hq:f1 with
  | true =>
   obtain⟨rfl,_⟩:=h2.ful hq
   have:=h1.hi h3 hq
   simpa using this
  | false =>
   have:=h2.hi hq h4
   omega
 ·have hq:f1=false:=by
   cases hq:f1 with
   | false=>rfl
   | true=>rw[(h2.ful hq).2] at h4;cases h4
  have k1:=h1.lo h3 hq
  have k2:=h2.lo hq h4
  rw[Qh]
  refine⟨by omega,fun f hf hp=>Qd.2 ?_⟩
  rcases hp with h | h
  ·exact .inl (k1.2 f hf h)
  ·exact .inr (k2.2 f hf h)
theorem Sp.of{P Q:(Nat->Nat)->Prop}{n0:Nat}{full f1:Bool}{new:List (List Int)}(h:Sp N L P n0 full new f1)(h1:∀ f,CL N L f->P f->Q f)(h2:∀ f,CL N L f->Q f->P f): Sp N L Q n0 full new f1 :=
 ⟨fun x hx=>by obtain⟨f,a,b,c⟩:=h.snd x hx;exact⟨f,a,h1 f a b,c⟩,h.nd,h.ful,h.hi,fun a b=>⟨(h.lo a b).1,fun f hf hq=>(h.lo a b).2 f hf (h2 f hf hq)⟩⟩
theorem Sp.pre{P:(Nat->Nat)->Prop}{n0:Nat}{full f1:Bool}{new:List (List Int)}(h:Sp N L P n0 full new f1): f1=false->n0+new.length≤200:=fun hf=>by
 cases hq:full with
 | true=>rw[(h.ful hq).2] at hf;cases hf
 | false=>exact(h.lo hq hf).1
theorem Sp.len{P:(Nat->Nat)->Prop}{n0:Nat}{full f1:Bool}{new:List (List Int)}(h:Sp N L P n0 full new f1)(h0:n0≤201): n0+new.length≤201:=by
 cases hq:full with
 | true=>rw[(h.ful hq).1];simpa using h0
 | false =>
  cases hf:f1 with
  | true=>rw[h.hi hq hf];exact Qr _
  | false=>have:=(h.lo hq hf).1;omega
theorem fix_CL{E:DD}(hF:Fix N L E){f:Nat->Nat}(h:∀ j,j<N->(f j=1∨f j=2∨f j=3)∧E j=vZ (f j)): CL N L f:=by
 have hpr:∀ {i j:Nat},j<N->vT L j i->(j:Int)∈yB N L (i:Int):=fun hj he=>(zMB hj).2 he
 refine⟨fun i hi=>(h i hi).1,fun i hi h1 j hj he=>?_,fun i hi h1=>?_,fun i hi h1=>?_⟩
 ·have h2:=hF i hi
  rw[(h i hi).2,h1] at h2
  have h3:(z0O N L E i).1=true:=h2.1 rfl
  have h4:=QE.1 h3 (j:Int) (hpr hj he)
  rw[Ql,(h j hj).2] at h4
  simpa [vZ] using h4
 ·have h2:=hF i hi
  rw[(h i hi).2,h1] at h2
  have h3:(z0O N L E i).2.1=true:=h2.2.1 rfl
  obtain⟨x,hx,h4⟩:=QX.1 h3
  obtain⟨j,rfl,hj⟩:=zKh x hx
  rw[Ql,(h j hj).2] at h4
  exact⟨j,hj,(zMB hj).1 hx,by simpa [vZ] using h4⟩
 ·have h2:=hF i hi
  rw[(h i hi).2,h1] at h2
  have h3:(z0O N L E i).2.2=true:=h2.2.2 rfl
  unfold z0O at h3
  simp only[Qo] at h3
  obtain⟨h4,h5⟩:=h3
  obtain⟨x,hx,h6⟩:=QX.1 h5
  obtain⟨j,rfl,hj⟩:=zKh x hx
  rw[Ql,(h j hj).2] at h6
  refine⟨⟨j,hj,(zMB hj).1 hx,by simpa [vZ] using h6⟩,fun j hj he h7=>?_⟩
  have h8:=QE.1 h4 (j:Int) (hpr hj he)
  rw[Ql,(h j hj).2,h7] at h8
  exact Bool.noConfusion h8
theorem z0b (hN:N≤40): ∀(k:Nat) (D:DD) (fnd:List (List Int)) (full:Bool),Emp N D->z1V D 40<k->fnd.length≤201->(full=false->fnd.length≤200)->
  ∃ d' new full',(∀ m,k≤m->zBi m ((N:Int),tP N L,dA D,fnd,full)=some (d',fnd++new,full'))∧Sp N L (z2U N D) fnd.length full new full'
 | 0,_,_,_,_,h,_,_=>absurd h (UW _)
 | k+1,D,fnd,full,hE,hk,hl,hf=>by
  cases full with
  | true =>
   refine⟨dA D,[],true,fun m hm=>?_,⟨fun x hx=>(by cases hx),Wa,fun _=>⟨rfl,rfl⟩,fun h=>(by cases h),fun h=>(by cases h)⟩⟩
   obtain⟨m,rfl⟩:∃ q,m=q+1:=⟨m-1,by omega⟩
   simp[zBi,zBP]
  | false =>
   have hf:=hf rfl
   rcases z3J (L:=L) hN D hE fnd false with⟨E,hs,hK,hF,hne⟩ | ⟨E,hs,hle,hdead⟩
   ·rcases z2p hN E hne (tP N L) fnd false with⟨f,hlab,hsg⟩ | ⟨i,hi,hlab,hp⟩
    ·
     have hcl:=fix_CL hF hsg
     have hcE:z2U N E f:=fun j hj=>by rw[(hsg j hj).2];exact z5o (hsg j hj).1
     refine⟨dA E,[uF N f],decide (fnd.length=200),fun m hm=>?_,?_⟩
     ·obtain⟨m,rfl⟩:∃ q,m=q+1:=⟨m-1,by omega⟩
      show zBP _ _=_
      unfold zBP
      simp only[zbf,Qb,hs,zob,QN,hlab]
      rw[show decide ((-1:Int)<0)=true from rfl]
      simp only[Qc]
      rw[wS (by simp only[QI,Ud];omega),zob]
      congr 3
      rw[QV]
      simp only[len,Ue,Qp]
      omega
     ·refine⟨fun x hx=>?_,UC.2 ⟨by simp,Wa⟩,fun h=>(by cases h),fun _ h=>?_,fun _ h=>?_⟩
      ·simp only[Qa] at hx
       exact⟨f,hcl,fun j hj=>z2o (hK.1 j) (hcE j hj),hx⟩
      ·simp only[Qp] at h
       simp only[QI,Ud];omega
      ·simp only[QS] at h
       simp only[QI,Ud]
       refine⟨by omega,fun g hg hc=>Qa.2 (labL_eq fun j hj=>?_)⟩
       have:=hK.2 g hg hc j hj
       rw[(hsg j hj).2] at this
       exact z3d (hsg j hj).1 this
    ·
     have hlt:z1V E 40≤z1V D 40:=zWz hK.1 40
     have hEmpE:=hE.le hK.1
     have one:∀ c:Nat,c=1∨c=2∨c=3->∀(fn:List (List Int)) (fu:Bool),fn.length≤201->(fu=false->fn.length≤200)->
       ∃ new fu',(∀ m,k≤m->∀(q:Int) (z:List Int),zB ([2,4,8]:List Int) q=some (eD (vZ c))->decide (q<(len ([2,4,8]:List Int)))=true->
        zB9 ([],(i:Int)) (false,dA E,fnd) (zBi m) ((N:Int),tP N L,dA D,fnd,false) (q,fn,fu)=some (.inl (zM (q+1),fn++new,fu')))∧Sp N L (fun f=>z2U N E f∧f i=c) fn.length fu new fu':=by
      intro c hc fn fu hfn hfu
      by_cases hh:zZ8 (E i) c=true
      ·have hle:=sgl_le hc hh
       have hpp:z3c (vZ c)<z3c (E i):=by rw[z6c hc];omega
       have hsum:=z3u hle hpp 40 (by omega)
       obtain⟨d',new,fu',h1,h2⟩:=z0b hN k (tO E i (vZ c)) fn fu (hEmpE.le (zUO hle)) (by omega) hfn hfu
       refine⟨new,fu',fun m hm q z hq hd=>?_,h2.of (fun f hf hcn=>⟨fun j hj=>z2o (zUO hle j) (hcn j hj),z3d hc (by have:=hcn i hi;rwa [show tO E i (vZ c) i=vZ c from Qu rfl] at this)⟩)
        (fun f hf hcn j hj=>by
         unfold tO
         split
         ·rename_i e;subst e;rw[hcn.2];exact z5o hc
         ·exact hcn.1 j hj)⟩
       unfold zB9
       simp only[hd,Qc,hq,zob]
       rw[zNC (K:=40) rfl (show i<40 by omega),zob,zLT E (by omega),z3S]
       have hm1:mD (E i) (vZ c)=true:=by
        rcases hc with rfl | rfl | rfl
        ·simp[mD,vZ,show(E i).1=true from hh]
        ·simp[mD,vZ,show(E i).2.1=true from hh]
        ·simp[mD,vZ,show(E i).2.2=true from hh]
       rw[hm1]
       simp only[Qc,zob]
       rw[z16 E (by omega),h1 m hm,zob]
      ·refine⟨[],fu,fun m hm q z hq hd=>?_,Sp.none hfu fun f hf hcn=>hh (by have:=hcn.1 i hi;rwa [hcn.2] at this)⟩
       unfold zB9
       simp only[hd,Qc,hq,zob]
       rw[zNC (K:=40) rfl (show i<40 by omega),zob,zLT E (by omega),z3S]
       have hm1:mD (E i) (vZ c)=false:=by
        have hh':zZ8 (E i) c=false:=by simpa using hh
        rcases hc with rfl | rfl | rfl
        ·simp[mD,vZ,show(E i).1=false from hh']
        ·simp[mD,vZ,show(E i).2.1=false from hh']
        ·simp[mD,vZ,show(E i).2.2=false from hh']
       rw[hm1]
       simp only[zbf,Qb,QB]
     obtain⟨n1,f1,a1,b1⟩:=one 1 (by decide) fnd false hl fun _=>hf
     obtain⟨n2,f2,a2,b2⟩:=one 2 (by decide) (fnd++n1) f1 (by rw[Qh];exact b1.len hl) (by rw[Qh];exact b1.pre)
     rw[Qh] at b2
     have c2:=b1.or b2 fun f g hf hg he=>by have:=z30 he i hi;omega
     obtain⟨n3,f3,a3,b3⟩:=one 3 (by decide) (fnd++n1++n2) f2 (by rw[QA,Qh];exact c2.len hl) (by rw[QA,Qh];exact c2.pre)
     rw[QA,Qh] at b3
     have c3:=c2.or b3 fun f g hf hg he=>by have:=z30 he i hi;rcases hf with hf | hf <;> omega
     refine⟨dA E,n1++n2++n3,f3,fun m hm=>?_,c3.of (fun f hf hp=>?_) fun f hf hc=>?_⟩
     ·obtain⟨m,rfl⟩:∃ q,m=q+1:=⟨m-1,by omega⟩
      show zBP _ _=_
      unfold zBP
      simp only[zbf,Qb,hs,zob,QN,hlab]
      have hneg:decide ((i:Int)<0)=false:=by simp
      rw[hneg]
      simp only[zbf,Qb]
      rw[vR,a1 m (by omega) 0 [] rfl rfl]
      show zN _ (zM (0+1),_)=_
      rw[show zM (0+1)=1 from rfl,vR,a2 m (by omega) 1 [] rfl rfl]
      show zN _ (zM (1+1),_)=_
      rw[show zM (1+1)=2 from rfl,vR,a3 m (by omega) 2 [] rfl rfl]
      show zN _ (zM (2+1),_)=_
      rw[show zM (2+1)=3 from rfl,vR]
      have hend:zB9 ([],(i:Int)) (false,dA E,fnd) (zBi m) ((N:Int),tP N L,dA D,fnd,false) (3,fnd++n1++n2++n3,f3)=some (.inr (dA E,fnd++n1++n2++n3,f3)):=by
       unfold zB9
       rw[show decide ((3:Int)<(len ([2,4,8]:List Int)))=false from rfl]
       rfl
      rw[hend]
      simp only[QA]
     ·rcases hp with(hp | hp) | hp <;> exact fun j hj=>z2o (hK.1 j) (hp.1 j hj)
     ·have hcE:=hK.2 f hf hc
      rcases hf.r i hi with h | h | h
      ·exact .inl (.inl ⟨hcE,h⟩)
      ·exact .inl (.inr ⟨hcE,h⟩)
      ·exact .inr ⟨hcE,h⟩
   ·refine⟨dA E,[],false,fun m hm=>?_,Sp.none (fun _=>hf) fun f hcl hc=>hdead f hcl hc⟩
    obtain⟨m,rfl⟩:∃ q,m=q+1:=⟨m-1,by omega⟩
    show zBP _ _=_
    unfold zBP
    simp only[zbf,Qb,hs,zob,Q8,Qc,QB]
theorem z2I (h:vC N L): zN (zCE ((N:Int),L)) (0,([]:List (List Int)),(List.replicate 40 (0:Int)))=some (tP N L,dA fun j=>if j<N then(true,true,true) else(false,false,false)):=by
 have hN:=h.hN
 have key:∀(m i:Nat),i+m=N->zN (zCE ((N:Int),L)) ((i:Int),(qS i).map (yB N L),dA fun j=>if j<i then(true,true,true) else(false,false,false))=some (tP N L,dA fun j=>if j<N then(true,true,true) else(false,false,false)):=by
  intro m
  induction m with
  | zero =>
   intro i hi
   rw[Q4] at hi
   subst hi
   rw[vR]
   unfold zCE
   simp[tP]
  | succ m ih =>
   intro i hi
   have hd:decide ((i:Int)<(N:Int))=true:=by simp;omega
   rw[vR]
   have hstep:zCE ((N:Int),L) ((i:Int),(qS i).map (yB N L),dA fun j=>if j<i then(true,true,true) else(false,false,false)) =
     some (.inl (((i+1:Nat):Int),(qS (i+1)).map (yB N L),dA fun j=>if j<i+1 then(true,true,true) else(false,false,false))):=by
    unfold zCE
    simp only[hd,Qc]
    rw[zXM h,zob,wS (by simp[zGJ];omega),zob,zNC (K:=40) rfl (show i<40 by omega),zob,show(14:Int)=eD (true,true,true) from rfl,z16 _ (by omega),vN i (by omega)]
    congr 4
    ·simp[qS,List.range_succ]
    ·refine congrArg dA (funext fun j=>?_)
     unfold tO
     by_cases hj:j=i
     ·simp[hj]
     ·simp only[hj,Qb]
      have:j<i↔j<i+1:=by omega
      simp only[this]
   rw[hstep]
   exact ih (i+1) (by omega)
 have:=key N 0 (by omega)
 rw[z4M]
 refine Eq.trans ?_ this
 congr 1
theorem zXX (h:vC N L): ∃ l:List (List Int),(∀ x∈l,∃ f,CL N L f∧x=uF N f)∧l.Nodup ∧
  ((zBH ((N:Int),L)=some (l,0)∧l.length≤200∧∀ f,CL N L f->uF N f∈l)∨(zBH ((N:Int),L)=some ([],2)∧l.length=201)):=by
 have hN:=h.hN
 obtain⟨d',new,fu,h1,h2⟩:=z0b (L:=L) hN (z1V (fun j=>if j<N then(true,true,true) else(false,false,false)) 40+1) (fun j=>if j<N then(true,true,true) else(false,false,false)) [] false
  (fun j hj=>Qq (by omega)) (Wk _) (by simp) (fun _=>by simp)
 have hfind:zEF ((N:Int),tP N L,dA (fun j=>if j<N then(true,true,true) else(false,false,false)),[],false)=some (d',new,fu):=zUN _ h1
 refine⟨new,fun x hx=>by obtain⟨f,a,_,b⟩:=h2.snd x hx;exact⟨f,a,b⟩,h2.nd,?_⟩
 have hall:∀ f,CL N L f->z2U N (fun j=>if j<N then(true,true,true) else(false,false,false)) f:=fun f hf j hj=>by
  simp only[hj,Qc]
  rcases hf.r j hj with q | q | q <;> rw[q] <;> rfl
 unfold zBH
 rw[h.v1]
 simp only[zob,bne_self_eq_false,zbf,Qb]
 rw[z2I h,zob,hfind]
 simp only[zob]
 cases hfu:fu with
 | true =>
  have:=h2.hi rfl hfu
  exact .inr ⟨by simp,by simpa using this⟩
 | false =>
  have:=h2.lo rfl hfu
  exact .inl ⟨by simp,by simpa using this.1,fun f hf=>this.2 f hf (hall f hf)⟩
end
end
section
theorem zY3:zL6=some ():=rfl
theorem z0e{N:Nat}{L:List qA}(h:vC N L): zBZ ((N:Int),L) 1=some ([yG (zRJ N L) 1],0):=by
 have hgl:(zRJ N L).length=N:=zHB _ _
 have hN:=h.hN
 have h1:zAr ((N:Int),L)=some ([zRJ N L],0):=by
  unfold zAr zFN
  rw[zRZ h]
  rfl
 have h2:zBR ((N:Int),L)=some ([yG (zRJ N L) 1],0):=by
  unfold zBR
  rw[h1]
  simp only[zob,bne_self_eq_false,zbf,Qb]
  have hl:=zFJ (B:=zAs ([zRJ N L],0)) [zRJ N L] (fun s x=>s++[yG x 1]) (fun s=>(s,(0:Int))) (fun i s=>s.length≤i) ([]:List (List Int)) (by simp) ?_ ?_
  ·rw[hl.1];rfl
  ·intro i x s hx hI
   have:=vV hx
   have hx2:x.length=N:=by
    have:=wF hx
    simp only[Qa] at this
    rw[this,hgl]
   unfold zAs
   simp only[qY hx,Qc,qM hx,zob,qR hx (by simp),zMD x 1 (by omega)]
   rw[wS (by simp at this ⊢;omega)]
   exact⟨rfl,by simp;omega⟩
  ·intro s _
   unfold zAs
   simp[len]
 unfold zBZ
 rw[h.v1]
 simp only[zob,bne_self_eq_false,zbf,Qb,zY3]
 have hd:(decide ((1:Int)<1)||decide (((10:Nat):Int)≤1))=false:=by decide
 rw[hd]
 simp only[zbf,Qb,Uv,Qc]
 rw[h2]
 rfl
def zMA (l:List zF)(s:List Int): List zC:=nrm wQ (s.flatMap (zV3 l))
theorem z5A (l:List zF)(s:List Int): vX wQ (zMA l s):=(zGu zLi _).1
theorem z4n (l:List zF)(s:List Int): (zMA l s).length≤s.length:=QD (zTq _ _) (by have:=zW7 (l:=l) s;omega)
theorem zRd{c:zFE}{q:Int}{es:List (List Int)}(h:zBZ c.2.2.2 q=some (es,0))(hl:es.length≤100000)(hs:∀ s∈es,s.length<1000000):
  zBg c q=some (es.map (zMA c.2.1),0):=by
 unfold zBg
 rw[h]
 simp only[zob,bne_self_eq_false,zbf,Qb]
 have hlp:=zFJ (B:=zCZ (es,0) c) es (fun r s=>r++[zMA c.2.1 s]) (fun r=>(r,(0:Int))) (fun i s=>s.length≤i) ([]:List (List zC)) (by simp) ?_ ?_
 ·rw[hlp.1,zId];rfl
 ·intro i x s hx hI
  have:=vV hx
  unfold zCZ
  simp only[qY hx,Qc,qM hx,zob,qR hx (by omega),zQi x (hs x (wF hx))]
  rw[wS (by simp;omega)]
  exact⟨rfl,by simp;omega⟩
 ·intro s _
  unfold zCZ
  simp[len]
end
section
section
variable {N:Nat}{L:List qA}
theorem grf_1{i:Nat}: (qV N L N i).toNat=1↔xC N L N i:=by
 rw[←lab1 N L]
 rcases zPm N L N i with h | h | h <;> rw[h] <;> decide
theorem grf_2{i:Nat}: (qV N L N i).toNat=2↔att (vT L) (xC N L N) i:=by
 rw[←zXv N L]
 rcases zPm N L N i with h | h | h <;> rw[h] <;> decide
theorem zXQ (h:vC N L): CL N L fun i=>(qV N L N i).toNat:=by
 refine⟨fun i _=>by rcases zPm N L N i with h | h | h <;> rw[h] <;> decide,fun i _ hi j _ he=>?_,fun i _ hi=>?_,fun i hiN hi=>?_⟩
 ·have:=zQI (grf_1.1 hi)
  exact grf_2.2 (this.2 j he)
 ·obtain⟨m,h1,h2⟩:=grf_2.1 hi
  exact⟨m,zYe (D:=(· < N)) h1,h2,grf_1.2 h1⟩
 ·have h3:qV N L N i=3:=by rcases zPm N L N i with h | h | h <;> rw[h] at hi ⊢ <;> first | rfl | (exact absurd hi (by decide))
  obtain⟨g1,g2⟩:=(lab3 N L).1 h3
  refine⟨?_,fun j _ he h1=>g2 ⟨j,grf_1.1 h1,he⟩⟩
  apply Classical.byContradiction
  intro hno
  refine zWA N L (i:=i) ⟨⟨hiN,fun j he=>?_⟩,g1⟩
  have hj:j<N:=by
   obtain⟨m,hm,e⟩:=h.hR _ _ he
   omega
  rcases zPm N L N j with q | q | q
  ·exact absurd ⟨j,(lab1 N L).1 q,he⟩ g2
  ·exact(zXv N L).1 q
  ·exact absurd ⟨j,hj,he,by rw[q];rfl⟩ hno
theorem zWG{α:Type}{B:Int->Option (Int⊕Int)}(l:List α)(q:α->Bool)(hB:∀(i:Nat) x,l[i]?=some x->B (i:Int)=some (if q x then .inr (i:Int) else .inl ((i+1:Nat):Int)))(he:B (l.length:Int)=some (.inr (-1))):
  ((zN B 0:Option Int).bind fun r=>some (decide (0≤r)))=some (l.any q):=by
 rw[zWv q l (-1) id hB he]
 show((some (if l.any q then tL q l else -1):Option Int).bind _)=_
 rw[z2y,zob]
 congr 1
 cases ha:l.any q with
 | true=>exact QO (by have:=mt zVy.1 (show ¬ _=false by rw[ha];simp);omega)
 | false=>exact Un (by have:=zVy.2 ha;omega)
theorem zUX{α β:Type}{B:List β×Int->Option ((List β×Int)⊕(List β×Int))}(l:List α)(g:α->β)(hl:l.length≤100000)(hB:∀(i:Nat) x s,l[i]?=some x->B (s,(i:Int))=(qG s [g x]).bind fun z=>some (.inl (z,((i+1:Nat):Int))))(he:∀ s,B (s,(l.length:Int))=some (.inr (s,0))):
  zN B ([],0)=some (l.map g,0):=by
 have h:=zFJ (B:=B) l (fun s x=>s++[g x]) (fun s=>(s,(0:Int))) (fun i s=>s.length≤i) ([]:List β) (by simp) (fun i x s hx hI=>by
  have:=vV hx
  rw[hB i x s hx,wS (by simp;omega)]
  exact⟨rfl,by simp;omega⟩) (fun s _=>he s)
 rw[h.1,zId];rfl
theorem zQv{α β:Type}{B:List α×Int->Option ((List α×Int)⊕β)}(l:List α)(q:α->Bool)(fin:List α->β)(hl:l.length≤100000)(hB:∀(i:Nat) x s,l[i]?=some x->B (s,(i:Int))=if q x=true then(qG s [x]).bind fun z=>some (.inl (z,((i+1:Nat):Int))) else some (.inl (s,((i+1:Nat):Int))))(he:∀ s,B (s,(l.length:Int))=some (.inr (fin s))):
  zN B ([],0)=some (fin (l.filter q)):=by
 have h:=zFJ (B:=B) l (fun s x=>if q x=true then s++[x] else s) fin (fun i s=>s.length≤i) ([]:List α) (by simp) (fun i x s hx hI=>by
  have:=vV hx
  rw[hB i x s hx]
  cases q x with
  | true=>simp only[Qc];rw[wS (by simp;omega)];exact⟨rfl,by simp;omega⟩
  | false=>exact⟨rfl,by simp;omega⟩) (fun s _=>he s)
 rw[h.1,zHH q (fun x=>x) l []]
 simp
def z4q (x y:List Int): Bool:=decide (x.length<y.length)&&x.all fun i=>decide (i∈y)
theorem zYj (x y:List Int)(hx:x.length<4294967296)(hy:y.length<4294967296): zDH x y=some (z4q x y):=by
 have h1:zAH x y=some (x.any fun i=>!decide (i∈y)):=by
  unfold zAH zAc
  refine zWG x (fun i=>!decide (i∈y)) (fun i u hu=>?_) (by unfold zA2;simp[len])
  unfold zA2 zED
  simp only[qY hu,Qc,qM hu,zob,qR hu hx,zLC y u (by omega)]
  cases decide (u∈y) <;> rfl
 unfold zDH
 rw[h1]
 unfold z4q
 have hd:decide ((len x)<(len y))=decide (x.length<y.length):=by rw[UR];simp only[len];omega
 rw[hd,show(x.all fun i=>decide (i∈y))=!(x.any fun i=>!decide (i∈y)) from Ws]
 cases decide (x.length<y.length) <;> simp
theorem zNw (x:List Int)(hx:x.length<1000000)(k:Int): zBo x [k]=some (yG x k):=by
 have h:=zJO x k
 unfold zBo
 rw[zNX (s':=(yG x k,1)) (by unfold zDh;simp only[zMD x _ (show x.length<4294967000 by omega),zB,len];simp[wS (show([]:List Int).length+(yG x k).length<4294967296 by simp;omega)];rfl)]
 rw[zRo (r:=yG x k) (by unfold zDh;rfl)]
def zZs (x y:List Int): Bool:=z4q (yG y 1) (yG x 1)
theorem z8A (x y:List Int)(hx:x.length<1000000)(hy:y.length<1000000): zC1 x y=some (zZs x y):=by
 have h1:=zJO x 1
 have h2:=zJO y 1
 unfold zC1
 rw[zNw y hy,zob,zNw x hx,zob,zYj _ _ (by omega) (by omega)]
 rfl
theorem z8N{l:List (List Int)}(hl:l.length<4294967296)(hs:∀ x∈l,x.length<1000000){y:List Int}(hy:y.length<1000000): zAM l y=some (l.any fun x=>zZs x y):=by
 unfold zAM zAt
 refine zWG l (fun x=>zZs x y) (fun i u hu=>?_) (by unfold zA7;simp[len])
 unfold zA7 zAn
 simp only[qY hu,Qc,qM hu,zob,qR hu hl,z8A u y (hs u (wF hu)) hy]
 cases zZs u y <;> rfl
end
end
section
def trP (r:zR)(k:Nat)(y:zC): zR:=([],true,0,nrm wQ (r.2.2.2.1.take k++r.2.2.2.1.drop (k+1)++[xJ r.2.2.2.2]),xJ y)
theorem z67{r:zR}{k:Nat}{y z:zC}(h:z∈(trP r k y).2.2.2.1): z=xJ r.2.2.2.2∨z∈r.2.2.2.1:=by
 have h:=(zGu zLi _).2 z |>.1 h
 rw[Qd,Qd,Qa] at h
 rcases h with(h | h) | h
 ·exact .inr (UH h)
 ·exact .inr (List.mem_of_mem_drop h)
 ·exact .inl h
theorem trP_len{r:zR}{k:Nat}{y:zC}(hk:k<r.2.2.2.1.length): (trP r k y).2.2.2.1.length≤r.2.2.2.1.length:=by
 refine QD (zTq _ _) ?_
 simp only[Qh,QL,Uj,Ur]
 omega
theorem Ok.transposes{r:zR}(hl:r.2.2.2.1.length<1000000): Ok (zEZ r) fun v=>v.length=r.2.2.2.1.length∧∀(k:Nat) y,r.2.2.2.1[k]?=some y->v[k]?=some (trP r k y):=by
 unfold zEZ
 refine Ok.forI (B:=zEm r) (fun i (s:List zR)=>(s,(i:Int))) r.2.2.2.1 (fun i s=>s.length=i∧∀(k:Nat) y,k<i->r.2.2.2.1[k]?=some y->s[k]?=some (trP r k y)) _ ?_ ?_ [] ⟨rfl,by omega⟩
 ·rintro i y s hy ⟨h1,h2⟩
  have hi:=vV hy
  unfold zEm
  simp only[qY hy,Qc,qM hy,zob,qR hy (show r.2.2.2.1.length<4294967296 by omega)]
  rw[zXO (by omega)]
  have hd:zEH r.2.2.2.1 (i:Int) ((i+1:Nat):Int)=some (r.2.2.2.1.take i++r.2.2.2.1.drop (i+1)):=by
   unfold zEH delM
   rw[Qu ⟨by omega,by omega,by omega⟩]
   rfl
  simp only[zob,hd]
  rw[show zCF r.2.2.2.2=some (xJ r.2.2.2.2) from rfl,show zCF y=some (xJ y) from rfl]
  simp only[zob]
  have hlen:(r.2.2.2.1.take i++r.2.2.2.1.drop (i+1)).length+1≤r.2.2.2.1.length:=by
   simp only[Qh,QL,Uj];omega
  rw[wS (by simp only[Ur];omega)]
  simp only[zob]
  rw[zML (by simp only[Qh,Ur] at hlen ⊢;omega)]
  simp only[zob]
  rw[wS (by simp only[Ur];omega)]
  refine Ok.ret ⟨_,rfl,by simp[h1],fun k z hk hz=>?_⟩
  rcases Qy.1 hk with h' | rfl
  ·rw[QY (by omega)]
   exact h2 k z h' hz
  ·rw[hy] at hz;cases hz
   rw[Uf (by omega),h1,Nat.sub_self]
   rfl
 ·rintro s ⟨h1,h2⟩
  unfold zEm
  simp only[uU,zbf,Qb]
  exact Ok.ret ⟨h1,fun k y hy=>h2 k y (vV hy) hy⟩
theorem z3Y (l:List zR)(r:zR)(hl:l.length<4294967296)(hq:∀ x∈l,x.2.2.2.1.length<4294967296): zAe l r=some (l.any fun x=>x.2.1&&((x.2.2.2.2==r.2.2.2.2)&&decide (x.2.2.2.1=r.2.2.2.1))):=by
 unfold zAe zCT
 refine zWG l _ (fun i x hx=>?_) (by unfold zCC;simp[len])
 have hq:=hq x (wF hx)
 unfold zCC zLc
 simp only[qY hx,Qc,qM hx,zob,qR hx hl,z2e hq]
 cases h1:x.2.1 <;> cases h2:(x.2.2.2.2==r.2.2.2.2) <;> cases h3:decide (x.2.2.2.1=r.2.2.2.1) <;> simp_all
theorem Ok.SClosed{b:zI}(hc:Cnt b)(hq:∀ r∈b.2.1,r.2.2.2.1.length<1000000): Ok (zJw b) fun v=>v=true->TrC b:=by
 unfold zJw
 refine Ok.forI (B:=zHk b) (fun i (_:Unit)=>(i:Int)) b.2.1 (fun i _=>∀(j:Nat) r,j<i->b.2.1[j]?=some r->r.2.1=true->∀ k y,r.2.2.2.1[k]?=some y->z0t b (trP r k y)=true) _ ?_ ?_ () (fun j r hj=>by omega)
 ·intro i x _ hx hI
  have hxq:=hq x (wF hx)
  unfold zHk
  simp only[qY hx,Qc,qM hx,zob]
  refine Ok.ite (fun hs=>?_) (fun hs=>?_)
  ·refine Ok.ret ?_
   rw[qR hx hc.r]
   refine⟨(),rfl,fun j r hj hr hst=>?_⟩
   rcases Qy.1 hj with h' | rfl
   ·exact hI j r h' hr hst
   ·rw[hx] at hr;cases hr;rw[hst] at hs;cases hs
  ·refine Ok.bind (Ok.transposes hxq) fun v hv=>?_
   obtain⟨v1,v2⟩:=hv
   refine Ok.forI (B:=zHn v b (i:Int)) (fun k (_:Unit)=>(k:Int)) v (fun k _=>∀(j:Nat) y,j<k->v[j]?=some y->z0t b y=true) _ ?_ ?_ () (fun j r hj=>by omega)
   ·intro k y _ hy hK
    unfold zHn
    simp only[qY hy,Qc,qM hy,zob]
    rw[show zJK y=some y from rfl]
    simp only[zob]
    rw[z3Y b.2.1 y hc.r hc.q]
    simp only[zob]
    refine Ok.ite (fun h=>Ok.ret ?_) (fun h=>Ok.ret ?_)
    ·exact fun h'=>by cases h'
    ·rw[qR hy (by omega)]
     refine⟨(),rfl,fun j z hj hz=>?_⟩
     rcases Qy.1 hj with h' | rfl
     ·exact hK j z h' hz
     ·rw[hy] at hz;cases hz;simpa [z0t] using h
   ·intro _ hK
    unfold zHn
    simp only[uU,zbf,Qb]
    refine Ok.ret ?_
    rw[qR hx hc.r]
    refine⟨(),rfl,fun j r hj hr hst k y hy=>?_⟩
    rcases Qy.1 hj with h' | rfl
    ·exact hI j r h' hr hst k y hy
    ·rw[hx] at hr;cases hr
     have:=v2 k y hy
     exact hK k _ (vV this) this
 ·intro _ hI
  unfold zHk
  simp only[uU,zbf,Qb]
  refine Ok.ret fun _=>?_
  intro r hr hst y hy
  obtain⟨j,hj⟩:=Qn.1 hr
  obtain⟨k,hk⟩:=Qn.1 hy
  obtain⟨x,h1,h2,h3,h4⟩:=z6W.1 (hI j r (vV hj) hj hst k y hk)
  exact⟨x,h1,h2,h3,fun z hz=>by rw[h4] at hz;exact z67 hz⟩
theorem Ok.SAxioms{b:zI}(hp:b.1.length<1000000): Ok (zJq b) fun l=>vX wQ l∧(∀ x,x∈l↔∃ p∈b.1,p.2.1=1∧p.1=x)∧l.length≤b.1.length:=by
 unfold zJq
 refine Ok.bind (I:=fun s=>(∀ x,x∈s↔∃ p∈b.1,p.2.1=1∧p.1=x)∧s.length≤b.1.length) ?_ fun s hs=>?_
 ·refine Ok.forI (B:=zHg b) (fun i (s:List zC)=>(s,(i:Int))) b.1 (fun i s=>(∀ x,x∈s↔∃ p∈b.1.take i,p.2.1=1∧p.1=x)∧s.length≤i) _ ?_ ?_ [] ⟨by simp,by simp⟩
  ·rintro i p s hp' ⟨h2,h3⟩
   have hi:=vV hp'
   unfold zHg
   simp only[qY hp',Qc,qM hp',zob,qR hp' (show b.1.length<4294967296 by omega)]
   refine Ok.ite (fun he=>?_) (fun he=>?_)
   ·rw[wS (by simp only[Ur];omega),zob]
    refine Ok.ret ⟨_,rfl,fun x=>?_,by simp;omega⟩
    have he':p.2.1=1:=by simpa using he
    rw[Qd,h2,xY hp',Qa]
    constructor
    ·rintro (⟨q,hq,hq2⟩ | rfl)
     ·exact⟨q,List.mem_append_left _ hq,hq2⟩
     ·exact⟨p,by simp,he',rfl⟩
    ·rintro ⟨q,hq,hq2,hq3⟩
     rcases Qd.1 hq with hq | hq
     ·exact .inl ⟨q,hq,hq2,hq3⟩
     ·rw[Qa] at hq;subst hq;exact .inr hq3.symm
   ·refine Ok.ret ⟨s,rfl,fun x=>?_,by omega⟩
    rw[h2,xY hp']
    have he':¬ p.2.1=1:=by simpa using he
    constructor
    ·rintro ⟨q,hq,hq2⟩
     exact⟨q,List.mem_append_left _ hq,hq2⟩
    ·rintro ⟨q,hq,hq2,hq3⟩
     rcases Qd.1 hq with hq | hq
     ·exact⟨q,hq,hq2,hq3⟩
     ·rw[Qa] at hq;subst hq;exact absurd hq2 he'
  ·rintro s ⟨h2,h3⟩
   unfold zHg
   simp only[uU,zbf,Qb]
   exact Ok.ret ⟨fun x=>by rw[h2,QU],h3⟩
 ·rw[zML (by omega)]
  simp only[zob]
  have hn:=zTq wQ s
  exact Ok.ret ⟨(zGu zLi s).1,fun x=>by rw[(zGu zLi s).2,hs.1],by omega⟩
end
section
abbrev z5h:=List (zC×Unit)
def ky (m:z5h): List zC:=m.map Prod.fst
theorem z3l:∀(m:z5h) (q:zC),(uW m q).isSome=decide (q∈ky m)
 | [],q=>rfl
 | x::r,q=>by
  have:=z3l r q
  unfold uW
  by_cases h:q=x.1
  ·subst h;simp[ky]
  ·have hb:(q==x.1)=false:=by simpa using h
   rw[hb]
   simp only[zbf,Qb]
   rw[this,UR]
   simp[ky,h]
theorem z1h{m:z5h}{k q:zC}: q∈ky (uQ m k ())↔q=k∨q∈ky m:=by
 have h:=zZf m k () q
 rw[z3l,z3l] at h
 have:(decide (q∈ky (uQ m k ()))=true)↔((q==k)||decide (q∈ky m))=true:=by rw[h]
 simpa using this
theorem z2E:∀(m:z5h) (k:zC),(uQ m k ()).length≤m.length+1
 | [],k=>by simp[uQ]
 | x::r,k=>by
  unfold uQ
  have:=z2E r k
  split
  ·simp
  ·simp only[QI];omega
theorem sg_no (x:zC)(m:z5h): zFS x m=some (!decide (x∈ky m)):=by unfold zFS;rw[z3l]
theorem sg_any (q:List zC)(m:z5h)(hq:q.length<4294967296): zAv q m=some (q.any fun x=>!decide (x∈ky m)):=by
 unfold zAv zBp
 refine zWG q _ (fun i u hu=>?_) (by unfold zBe;simp[len])
 unfold zBe
 simp only[qY hu,Qc,qM hu,zob,sg_no,qR hu hq]
 cases decide (u∈ky m) <;> rfl
theorem z96{b:zI}{s t:List zC}(h:∀ y∈s,y∈t){r:zR}(hr:r∈b.2.1)(h1:r.2.2.2.2∉s)(h2:r.2.2.2.2∈t): tY b t<tY b s:=by
 have key:∀ D:List zR,r∈D->(D.filter fun r=>!decide (r.2.2.2.2∈t)).length<(D.filter fun r=>!decide (r.2.2.2.2∈s)).length:=by
  intro D
  induction D with
  | nil=>intro h;cases h
  | cons d D ih =>
   intro hm
   have hle:(D.filter fun r=>!decide (r.2.2.2.2∈t)).length≤(D.filter fun r=>!decide (r.2.2.2.2∈s)).length:=by
    rw[←List.countP_eq_length_filter,←List.countP_eq_length_filter]
    refine List.countP_mono_left fun r _ hr=>?_
    simp only[Bool.not_eq_true',QS] at hr ⊢
    exact fun h'=>hr (h _ h')
   rcases Qv.1 hm with rfl | hm
   ·simp only[Q7,h1,h2,decide_true,decide_false,QN,Q8,zbf,Qc,Qb,QI]
    omega
   ·have:=ih hm
    simp only[Q7]
    by_cases ht:d.2.2.2.2∈t
    ·by_cases hs:d.2.2.2.2∈s <;> simp[ht,hs] <;> omega
    ·have hs:d.2.2.2.2∉s:=fun h'=>ht (h _ h')
     simp[ht,hs];omega
 exact key b.2.1 hr
structure CloM (b:zI)(S:zC->Prop)(m:z5h): Prop where
 snd:∀ y∈ky m,yI b S y
 sup:∀ y,S y->y∈ky m
theorem Ok.SClosure{b:zI}(hc:Cnt b)(hq:∀ r∈b.2.1,r.2.2.2.1.length<1000000)(hr:b.2.1.length≤1000){xs:List zC}(hx:xs.length≤1000):
  Ok (zDz b xs) fun l=>vX wQ l∧(∀ y,y∈l↔yI b (·∈xs) y)∧l.length≤10000:=by
 unfold zDz
 refine Ok.bind (I:=fun m:z5h=>(∀ y,y∈ky m↔y∈xs)∧m.length≤xs.length) ?_ fun m hm=>?_
 ·refine Ok.forI (B:=zGx xs) (fun i (s:z5h)=>((i:Int),s)) xs (fun i s=>(∀ y,y∈ky s↔y∈xs.take i)∧s.length≤i) _ ?_ ?_ [] ⟨by simp[ky],by simp⟩
  ·rintro i x s hx' ⟨h1,h2⟩
   unfold zGx
   simp only[qY hx',Qc,qM hx',zob,qR hx' (show xs.length<4294967296 by omega)]
   have:=z2E s x
   refine Ok.ret ⟨_,rfl,fun y=>?_,by omega⟩
   rw[z1h,h1,xY hx',Qd,Qa]
   exact Or.comm
  ·rintro s ⟨h1,h2⟩
   unfold zGx
   simp only[uU,zbf,Qb]
   exact Ok.ret ⟨fun y=>by rw[h1,QU],h2⟩
 obtain⟨m1,m2⟩:=hm
 refine Ok.bind (I:=fun t:z5h=>(∀ y,y∈ky t↔yI b (·∈xs) y)∧t.length≤10000) ?_ fun t ht=>?_
 ·refine Ok.nat (B:=zJ4 b) (fun s=>2*tY b (ky s.2)+(if s.1 then 1 else 0)) (fun s=>CloM b (·∈xs) s.2∧s.2.length+tY b (ky s.2)≤xs.length+b.2.1.length∧(s.1=false->∀ r∈b.2.1,r.2.1=true->(∀ y∈r.2.2.2.1,y∈ky s.2)->r.2.2.2.2∈ky s.2)) _ ?_ _ ⟨⟨fun y hy=>yI.base ((m1 y).1 hy),fun y hy=>(m1 y).2 hy⟩,?_,(fun h=>nomatch h)⟩
  ·rintro ⟨go,s⟩ ⟨hI,hL,hD⟩
   unfold zJ4
   refine Ok.ite (fun hg=>?_) (fun hg=>?_)
   ·have hg':go=true:=hg
    subst hg'
    have hT:Ok (zN (zE5 b) (false,((0:Nat):Int),s)) (fun o=>match o with
      | .inl t=>CloM b (·∈xs) t.2∧t.2.length+tY b (ky t.2)≤xs.length+b.2.1.length∧(t.1=true->tY b (ky t.2)<tY b (ky s))∧tY b (ky t.2)≤tY b (ky s)∧(t.1=false->∀ r∈b.2.1,r.2.1=true->(∀ y∈r.2.2.2.1,y∈ky t.2)->r.2.2.2.2∈ky t.2)
      | .inr r=>False):=by
     refine Ok.forI (B:=zE5 b) (fun i (t:Bool×z5h)=>(t.1,(i:Int),t.2)) b.2.1 (fun i t=>CloM b (·∈xs) t.2∧t.2.length+tY b (ky t.2)≤xs.length+b.2.1.length∧(t.1=true->tY b (ky t.2)<tY b (ky s))∧tY b (ky t.2)≤tY b (ky s)∧(t.1=false->∀(j:Nat) r,j<i->b.2.1[j]?=some r->r.2.1=true->(∀ y∈r.2.2.2.1,y∈ky t.2)->r.2.2.2.2∈ky t.2)) _ ?_ ?_ (false,s) ⟨hI,hL,(fun h=>nomatch h),Qr _,(fun _ j r hj=>absurd hj (UW _))⟩
     ·rintro i r ⟨c,t⟩ hr' ⟨h1,h2,h3,h4,h6⟩
      have hrm:=wF hr'
      have hrq:=hq r hrm
      unfold zE5
      dsimp only
      simp only[qY hr',Qc,qM hr',zob,sg_no,sg_any r.2.2.2.1 t (show r.2.2.2.1.length<4294967296 by omega),qR hr' hc.r]
      have hcase:(if r.2.1=true then if(!decide (r.2.2.2.2∈ky t))=true then some (!(r.2.2.2.1.any fun x=>!decide (x∈ky t))) else some false else some false)=some (r.2.1&&(!decide (r.2.2.2.2∈ky t)&&!(r.2.2.2.1.any fun x=>!decide (x∈ky t)))):=by
       cases r.2.1 <;> cases decide (r.2.2.2.2∈ky t) <;> simp
      rw[hcase,zob]
      refine Ok.ite (fun he=>?_) (fun he=>?_)
      ·simp only[Qo,Bool.not_eq_true',Q9,QS,Wm,Bool.not_eq_false',Qp] at he
       obtain⟨e1,e3,e2⟩:=he
       have hlt:tY b (ky (uQ t r.2.2.2.2 ()))<tY b (ky t):=z96 (fun y hy=>z1h.2 (.inr hy)) hrm e3 (z1h.2 (.inl rfl))
       have hpl:=z2E t r.2.2.2.2
       refine Ok.ret ⟨(true,uQ t r.2.2.2.2 ()),rfl,⟨fun y hy=>?_,fun y hy=>z1h.2 (.inr (h1.sup y hy))⟩,?_,fun _=>?_,?_,(fun h=>nomatch h)⟩
       ·rcases z1h.1 hy with rfl | hy
        ·exact yI.rule hrm e1 fun z hz=>h1.snd z (by have:=e2 z hz;simpa using this)
        ·exact h1.snd y hy
       ·show(uQ t r.2.2.2.2 ()).length+tY b (ky (uQ t r.2.2.2.2 ()))≤_;dsimp only at h2;omega
       ·show tY b (ky (uQ t r.2.2.2.2 ()))<tY b (ky s);dsimp only at h4;omega
       ·show tY b (ky (uQ t r.2.2.2.2 ()))≤tY b (ky s);dsimp only at h4;omega
      ·refine Ok.ret ⟨(c,t),rfl,h1,h2,h3,h4,fun hcf j q hj hq' hst hb=>?_⟩
       rcases Qy.1 hj with h' | rfl
       ·exact h6 hcf j q h' hq' hst hb
       ·rw[hr'] at hq';cases hq'
        apply Classical.byContradiction
        intro hno
        have:(r.2.1&&(!decide (r.2.2.2.2∈ky t)&&!(r.2.2.2.1.any fun x=>!decide (x∈ky t))))=true:=by
         have ha:(r.2.2.2.1.any fun x=>!decide (x∈ky t))=false:=Q9.2 fun x hx=>by simpa using hb x hx
         have hn:decide (r.2.2.2.2∈ky t)=false:=Un hno
         rw[ha,hn,hst];rfl
        rw[this] at he;cases he
     ·rintro ⟨c,t⟩ ⟨h1,h2,h3,h4,h6⟩
      unfold zE5
      simp only[uU,zbf,Qb]
      refine Ok.ret ⟨h1,h2,h3,h4,fun hcf r hr' hst hb=>?_⟩
      obtain⟨j,hj⟩:=Qn.1 hr'
      exact h6 hcf j r (vV hj) hj hst hb
    refine hT.imp fun o ho=>?_
    cases o with
    | inr r=>exact ho.elim
    | inl t =>
     obtain⟨h1,h2,h3,h4,h5⟩:=ho
     refine⟨⟨h1,h2,h5⟩,?_⟩
     obtain⟨c,t⟩:=t
     dsimp only at h3 h4 ⊢
     cases c with
     | true=>have:=h3 rfl;simp;omega
     | false=>simp;omega
   ·have hg':go=false:=hg
    subst hg'
    refine Ok.ret ⟨fun y=>⟨hI.snd y,fun hy=>?_⟩,?_⟩
    ·obtain⟨n,hn⟩:=hy
     induction hn with
     | base h=>exact hI.sup _ h
     | step hr' hs _ ih=>exact hD rfl _ hr' hs ih
    ·dsimp only at hL ⊢;omega
  ·show m.length+tY b (ky m)≤_
   have:tY b (ky m)≤b.2.1.length:=QH _ _
   omega
 ·obtain⟨t1,t2⟩:=ht
  have hk:(ky t).length=t.length:=by simp[ky]
  have e1:(mkS 0 ((List.length t:Nat):Int) ((false,[]):zC))=some []:=by
   unfold mkS
   rw[Qu ⟨by omega,by omega,by omega⟩]
   rfl
  rw[e1,zob]
  show Ok ((gd (ky t).length).bind fun _=>(zB7 (ky t)).bind fun r3=>some r3) _
  have e2:gd (ky t).length=some ():=by unfold gd;rw[Qu (by omega)]
  rw[e2,zob,zML (by omega),zob]
  have hn:=zTq wQ (ky t)
  exact Ok.ret ⟨(zGu zLi _).1,fun y=>by rw[(zGu zLi _).2,t1],by omega⟩
theorem Ok.SSound{b:zI}(hv:xH b): Ok (zKt b) fun v=>v=true->TrC b∧¬ Inc b fun x=>∃ p∈b.1,p.2.1=1∧p.1=x:=by
 have hc:=zJa hv
 unfold zKt
 rw[zM9 hc,zI5.2 hv,zob]
 refine Ok.bind (I:=fun v=>v=true->TrC b∧¬ Inc b fun x=>∃ p∈b.1,p.2.1=1∧p.1=x) ?_ fun v hv=>Ok.ret hv
 refine Ok.ite (fun h0=>?_) (fun _=>Ok.ret fun h=>by cases h)
 have hq:∀ r∈b.2.1,r.2.2.2.1.length<1000000:=fun r hr=>by have:=zOV (hv.rule r hr);omega
 refine Ok.bind (Ok.SClosed hc hq) fun c hcl=>?_
 refine Ok.ite (fun h1=>?_) (fun _=>Ok.ret fun h=>by cases h)
 have hnp:=hv.np
 have hnr:=hv.nr
 refine Ok.bind (Ok.SAxioms (by omega)) fun ax hax=>?_
 refine Ok.bind (Ok.SClosure hc hq (by omega) (xs:=ax) (by omega)) fun cl hcl2=>?_
 obtain⟨g1,g2,g3⟩:=hcl2
 rw[zR6 (by omega),zob]
 refine Ok.ret fun hcon=>⟨hcl h1,?_⟩
 rintro ⟨p,hp1,hp2⟩
 have e1:=(g2 p).2 (hp1.sub fun z hz=>(hax.2.1 z).2 hz)
 have e2:=(g2 (xJ p)).2 (hp2.sub fun z hz=>(hax.2.1 z).2 hz)
 rw[zMM,QE] at hcon
 have:=hcon p e1
 rw[QO e2] at this
 cases this
end
section
def nmS (n:Nat): zD:=if n<10 then[UInt8.ofNat (48+n)] else[UInt8.ofNat (48+n / 10),UInt8.ofNat (48+n % 10)]
def zWa (n:Nat): zD:=116::nmS n
theorem z6S:∀ i j:Nat,i<26->j<26->zWa i=zWa j->i=j:=by
 have:∀ i j:_root_.Fin 26,zWa i.val=zWa j.val->i.val=j.val:=by decide
 exact fun i j hi hj h=>this ⟨i,hi⟩ ⟨j,hj⟩ h
end
section
theorem itoa_nm{n:Nat}(h:n<100): zD9 (n:Int)=some (nmS n):=by
 rw[z9y (by omega) (by omega)]
 unfold Lib.itoa nmS
 rw[Qq (by omega),Ql,Lib.decDigits]
 by_cases h1:n<10
 ·rw[Qu h1];simp[h1]
 ·rw[Qq h1,Lib.decDigits]
  have:n / 10<10:=by omega
  simp[h1,this]
theorem z89:∀ i:Nat,i<26->vName (zWa i)=true:=by
 have:∀ i:_root_.Fin 26,vName (zWa i.val)=true:=by decide
 exact fun i hi=>this ⟨i,hi⟩
theorem Ok.fresh{b:zI}(hr:b.2.1.length≤24): Ok (zKu b) fun nm=>vName nm=true∧uY b nm<0:=by
 unfold zKu
 show Ok (zN (zIg b) ((1:Nat):Int)) _
 refine Ok.nat (B:=zIg b) (fun s=>26-s.toNat) (fun s=>∃ n:Nat,s=(n:Int)∧1≤n∧n≤25∧∀ j,1≤j->j<n->∃ r∈b.2.1,r.1=zWa j) _ ?_ _ ⟨1,rfl,Qr _,by omega,fun j h1 h2=>by omega⟩
 rintro s ⟨n,rfl,h1,h2,h3⟩
 unfold zIg
 rw[itoa_nm (show n<100 by omega),zob,zNm (by unfold nmS;split <;> simp),zob,z2a b _ (by omega),zob]
 refine Ok.ite (fun he=>?_) (fun he=>?_)
 ·exact Ok.ret ⟨z89 n (by omega),of_decide_eq_true he⟩
 ·have he':0≤uY b ([116]++nmS n):=by have:=of_decide_eq_false he;omega
  obtain⟨k,x,_,hx,hq,_⟩:=zSV he'
  have hxn:x.1=zWa n:=by simpa [zWa] using hq
  have hall:∀ j,1≤j->j<n+1->∃ r∈b.2.1,r.1=zWa j:=fun j g1 g2=>by
   rcases Qy.1 g2 with g | rfl
   ·exact h3 j g1 g
   ·exact⟨x,wF hx,hxn⟩
  have hlen:n≤24:=by
   have hnd:((List.range n).map fun j=>zWa (j+1)).Nodup:=by
    rw[List.nodup_iff_pairwise_ne,UA]
    refine List.Pairwise.imp_of_mem (R:=fun a b=>a≠b) (fun {a c} ha hc hne h=>hne ?_) List.nodup_range
    have:=z6S _ _ (by have:=Ug.1 ha;omega) (by have:=Ug.1 hc;omega) h
    omega
   have:=zS9 hnd (m:=b.2.1.map fun r=>r.1) fun y hy=>by
    obtain⟨j,hj,rfl⟩:=Qj.1 hy
    obtain⟨r,g1,g2⟩:=hall (j+1) (by omega) (by have:=Ug.1 hj;omega)
    exact Qj.2 ⟨r,g1,g2⟩
   simp only[Um,List.length_range] at this
   omega
  refine Ok.ret ⟨⟨n+1,?_,by omega,by omega,hall⟩,?_⟩
  ·rw[vN n (by omega)]
  ·rw[vN n (by omega)];simp only[Ql];omega
theorem z8H{α:Type}{q:α->Bool}{l m:List α}(h:0≤tL q l): tL q (l++m)=tL q l:=by
 have ha:l.any q=true:=by
  apply Classical.byContradiction
  intro hn
  have:=zVy.2 (Bool.eq_false_iff.2 hn)
  omega
 have hb:(l++m).any q=true:=by rw[List.any_append,ha];rfl
 unfold tL
 rw[Qu ha,Qu hb,List.findIdx_append,Qu]
 obtain⟨x,h1,h2⟩:=QX.1 ha
 exact List.findIdx_lt_length_of_exists ⟨x,h1,h2⟩
theorem z6k{p:List qZ}{t:List zR}{m:List wB}(h:xH (p,t,m))(hl:t.length<24){r:zR}(hr:uJ r=0)(hf:uY (p,t,m) r.1<0): xH (p,t++[r],m):=by
 have hno:∀ x∈t,x.1≠r.1:=fun x hx e=>by
  have:=zVy.1 hf
  have:=Q9.1 this x hx
  simp[e] at this
 refine⟨h.np,by simp;omega,h.nm,h.prem,fun x hx=>?_,h.dp,fun i j x y hi hj e=>?_,fun q hq=>?_⟩
 ·rcases Qd.1 hx with hx | hx
  ·exact h.rule x hx
  ·rw[Qa] at hx;subst hx;exact hr
 ·dsimp only at hi hj
  have key:∀(i:Nat) (x:zR),(t++[r])[i]?=some x->(t[i]?=some x∧i<t.length)∨(i=t.length∧x=r):=fun i x hx=>by
   by_cases hi:i<t.length
   ·rw[QY hi] at hx;exact .inl ⟨hx,hi⟩
   ·rw[Uf (by omega)] at hx
    have:i-t.length=0:=by
     have:=vV hx;simp at this;omega
    rw[this] at hx
    cases hx
    exact .inr ⟨by omega,rfl⟩
  rcases key i x hi with⟨h1,_⟩ | ⟨h1,rfl⟩ <;> rcases key j y hj with⟨h2,_⟩ | ⟨h2,rfl⟩
  ·exact h.dr i j x y h1 h2 e
  ·exact absurd e (hno x (wF h1))
  ·exact absurd e.symm (hno y (wF h2))
  ·omega
 ·have hp:=h.prom q hq
  have hge:0≤uY (p,t,m) q.1:=by
   unfold zRj at hp
   by_cases hlt:uY (p,t,m) q.1<0
   ·rw[Qu hlt] at hp
    split at hp <;> cases hp
   ·omega
  have hfe:uY (p,t++[r],m) q.1=uY (p,t,m) q.1:=z8H hge
  unfold zRj at hp ⊢
  rw[hfe]
  obtain⟨k,x,hk,hx,_⟩:=zSV hge
  have hk':uY (p,t,m) q.1=(k:Int):=hk
  rw[hk'] at hp ⊢
  have e1:zB t (k:Int)=some x:=qM hx
  have e2:zB (t++[r]) (k:Int)=some x:=qM (by rw[QY (vV hx)];exact hx)
  dsimp only at hp ⊢
  rw[e1] at hp
  rw[e2]
  exact hp
theorem z28{r:zR}(h:uJ r=0): r.2.2.2.1.length≤4∧vName r.2.2.2.2.2=true∧∀ x∈r.2.2.2.1,vName x.2=true:=by
 unfold uJ at h
 by_cases h4:4<r.2.2.2.1.length
 ·rw[Qu h4] at h;cases h
 ·rw[Qq h4] at h
  split at h
  ·rename_i hc
   simp only[Qo,QE] at hc
   exact⟨by omega,hc.1.1.1.2,hc.2⟩
  ·cases h
theorem z3f:∀ {l:List zC},vX wQ l->z2w l=true
 | [],_=>rfl
 | [_],_=>rfl
 | x::y::r,h=>by
  obtain⟨h1,h2⟩:=QJ.1 h
  unfold z2w
  rw[h1 y Qm,z3f h2]
  rfl
theorem trP_ok{r:zR}(h:uJ r=0){k:Nat}{y:zC}(hy:r.2.2.2.1[k]?=some y){nm:zD}(hn:vName nm=true): uJ (nm,(trP r k y).2.1,(trP r k y).2.2.1,(trP r k y).2.2.2.1,(trP r k y).2.2.2.2)=0:=by
 obtain⟨h1,h2,h3⟩:=z28 h
 have hl:=trP_len (y:=y) (vV hy)
 have hall:((trP r k y).2.2.2.1.all fun x=>vName x.2)=true:=QE.2 fun x hx=>by
  rcases z67 hx with rfl | hx
  ·exact h2
  ·exact h3 x hx
 have hasc:z2w (trP r k y).2.2.2.1=true:=z3f (zGu zLi _).1
 have hh:vName (trP r k y).2.2.2.2.2=true:=h3 y (wF hy)
 unfold uJ
 dsimp only
 rw[Qq (by omega),hn,hh,hall,hasc]
 rfl
end
section
theorem Ok.STranspose{b:zI}(hv:xH b): Ok (zHr b) fun v=>xH v.1∧(v.2=0∨v.2=2):=by
 have hc:=zJa hv
 unfold zHr
 rw[zM9 hc,zI5.2 hv,zob]
 refine Ok.ite (fun h0=>by simp at h0) (fun h0=>?_)
 rw[zY6 hc (by simp),zob]
 have hV:xH (yV b []):=z3A hv
 generalize yV b []=b' at hV
 obtain⟨p,rs0,m⟩:=b'
 have hnp:p.length≤16:=hV.np
 have hnm:m.length≤8:=hV.nm
 have hz:xH (([]:List qZ),([]:List zR),([]:List wB)):=zI5.1 (by decide)
 have hloop:Ok (zN (zFR (p,rs0,m)) (((0:Nat):Int),rs0)) fun o=>match o with
   | .inl rs=>xH (p,rs,m)
   | .inr v=>v=((([]:List qZ),([]:List zR),([]:List wB)),2):=by
  refine Ok.nat (B:=zFR (p,rs0,m)) (fun s=>25-s.1.toNat) (fun s=>∃ i:Nat,s.1=(i:Int)∧i≤24∧xH (p,s.2,m)) _ ?_ _ ⟨0,rfl,by omega,hV⟩
  rintro ⟨s1,rs⟩ ⟨i,hi,hi2,hS⟩
  dsimp only at hi hS
  subst hi
  have hL:rs.length≤24:=hS.nr
  unfold zFR
  refine Ok.ite (fun hlt=>?_) (fun hlt=>Ok.ret hS)
  have hlt':i<rs.length:=by have:=of_decide_eq_true hlt;simp only[len] at this;omega
  have hx:rs[i]?=some rs[i]:=Qe hlt'
  dsimp only
  rw[qM hx,zob]
  have hxm:=wF hx
  generalize hxe:rs[i]=x at hx hxm
  have hxr:uJ x=0:=hS.rule x hxm
  refine Ok.ite (fun hs=>?_) (fun hs=>?_)
  ·exact Ok.ret ⟨⟨i+1,by rw[vN i (by omega)],by omega,hS⟩,by rw[vN i (by omega)];simp only[Ql];omega⟩
  ·rw[zob]
   have hxl:=zOV hxr
   refine Ok.bind (Ok.transposes (r:=x) (by omega)) fun v hv2=>?_
   obtain⟨v1,v2⟩:=hv2
   refine(Ok.forI (B:=zF3 v (p,rs0,m) ((i:Int),rs)) (fun j (t:List zR)=>((j:Int),t)) v (fun j t=>xH (p,t,m)) (fun o=>match o with | .inl (i',t)=>i'=((i+1:Nat):Int)∧xH (p,t,m) | .inr o'=>match o' with | .inl _=>False | .inr v=>v=((([]:List qZ),([]:List zR),([]:List wB)),2)) ?_ ?_ rs hS).imp ?_
   ·rintro j y t hy h1
    have ht:t.length≤24:=h1.nr
    have hjl:=vV hy
    obtain⟨z,hz1⟩:∃ z,x.2.2.2.1[j]?=some z:=⟨_,Qe (by omega)⟩
    have hyz:y=trP x j z:=by have:=v2 j z hz1;rw[hy] at this;exact QC this
    unfold zF3
    dsimp only
    simp only[qY hy,Qc,qM hy,zob]
    rw[show zJK y=some y from rfl]
    simp only[zob]
    rw[z3Y t y (by omega) fun q hq=>by have:=zOV (h1.rule q hq);omega]
    simp only[zob]
    refine Ok.ite (fun ha=>?_) (fun ha=>?_)
    ·exact Ok.ret ⟨t,by rw[qR hy (by omega)],h1⟩
    ·refine Ok.ite (fun hf=>Ok.ret rfl) (fun hf=>?_)
     have hf':t.length≠24:=by
      intro h'
      have:((len t)==24)=true:=by simp[len,h']
      rw[this] at hf;cases hf
     refine Ok.bind (Ok.fresh (b:=(p,t,m)) (by show t.length≤24;omega)) fun nm hnm2=>?_
     rw[wS (by simp;omega),zob]
     refine Ok.ret ⟨_,by rw[qR hy (by omega)],?_⟩
     refine z6k h1 (by omega) ?_ hnm2.2
     rw[hyz]
     exact trP_ok hxr hz1 hnm2.1
   ·rintro t h1
    unfold zF3
    simp only[uU,zbf,Qb]
    exact Ok.ret ⟨by rw[vN i (by omega)],h1⟩
   ·rintro o ho
    match o,ho with
    | .inl (i',t),⟨h1,h2⟩=>exact⟨⟨i+1,h1,by omega,h2⟩,by show 25-i'.toNat<25-((i:Int)).toNat;rw[h1];simp only[Ql];omega⟩
    | .inr (.inr v),h=>exact h
 refine Ok.seqE hloop (fun rs h=>Ok.ret ⟨h,.inl rfl⟩) fun v h=>?_
 have h':v=_:=h
 rw[h']
 exact⟨hz,.inr rfl⟩
end
section
section
variable {N:Nat}{L:List qA}
theorem CL.two{f:Nat->Nat}(h:CL N L f){i:Nat}(hi:i<N){j:Nat}(hj:j<N)(he:vT L j i)(h1:f j=1): f i=2:=by
 rcases h.r i hi with q | q | q
 ·have:=h.i1 i hi q j hj he
  omega
 ·exact q
 ·exact absurd h1 ((h.i3 i hi q).2 j hj he)
theorem CL.one{f:Nat->Nat}(h:CL N L f){i:Nat}(hi:i<N)(ha:∀ j,j<N->vT L j i->f j=2): f i=1:=by
 rcases h.r i hi with q | q | q
 ·exact q
 ·obtain⟨j,hj,he,h1⟩:=h.i2 i hi q
  have:=ha j hj he
  omega
 ·obtain⟨⟨j,hj,he,h1⟩,_⟩:=h.i3 i hi q
  have:=ha j hj he
  omega
end
end
section
section
variable {N:Nat}{L:List qA}
theorem z9a{m:Nat}(hm:m<18446744073709551616): zET (m:Int)=some (zRQ m) :=
 (show zET (m:Int)=zID (m:Int) from rfl).trans (z6o hm)
theorem z9Q{l:List Int}(hb:l.length<4294967296)(hl:∀ x∈l,0≤x∧x<64): zFy l=some ((zQb l:Nat):Int):=by
 have h:=zFJ (B:=zFu l) l (fun(m:Int) x=>((m.toNat ||| 2 ^ x.toNat:Nat):Int)) id (fun i m=>m=((zQb (l.take i):Nat):Int)) (0:Int) (by simp[zQb]) ?_ ?_
 ·have h2:=h.2
  rw[QU] at h2
  have h1:=h.1
  rw[h2] at h1
  exact h1
 ·rintro i x s hx rfl
  obtain⟨x0,x1⟩:=hl x (wF hx)
  obtain⟨j,rfl⟩:=Qw x0
  have hlt:zQb (l.take i)<18446744073709551616:=zZI fun y hy=>(hl y (UH hy)).2
  unfold zFu
  simp only[qY hx,Qc,qM hx,zob]
  rw[zZQ (by omega)]
  simp only[zob,qR hx hb]
  rw[zYy hlt (zOe (by omega))]
  refine⟨by simp,?_⟩
  rw[xY hx]
  simp[zQb,List.foldl_append]
 ·intro s hI
  unfold zFu
  simp[len]
theorem z6G{i:Nat}(h:i<64): z6f .u64 0 (i:Int)=some 0:=by
 unfold z6f shl
 rw[Qq (by omega)]
 simp[IntKind.wrap,IntKind.signed,IntKind.bits]
theorem zQK (h:vC N L){m:Nat}(hm:m<18446744073709551616): ∃ r:Nat,zCU ((N:Int),L) (m:Int)=some (r:Int)∧r<18446744073709551616∧∀ j:Nat,r.testBit j=true↔∃ i:Nat,vT L i j∧m.testBit i=true:=by
 have hN:=h.hN
 obtain⟨v,h1,r,rfl,h2,h3⟩:=xS (B:=zDn ((N:Int),L) (m:Int)) (fun k (s:Nat)=>((s:Int),(k:Int))) L (fun k s=>s<18446744073709551616∧∀ j:Nat,s.testBit j=true↔∃ i:Nat,((i:Int),(j:Int))∈L.take k∧m.testBit i=true)
  (fun v=>∃ r:Nat,v=(r:Int)∧r<18446744073709551616∧∀ j:Nat,r.testBit j=true↔∃ i:Nat,vT L i j∧m.testBit i=true)
  (fun k p s hp hI=>by
   obtain⟨g1,g2⟩:=hI
   left
   obtain⟨a,b,ha,hb,rfl⟩:=zKw (h.inr p (wF hp))
   refine⟨if m.testBit a then s ||| 2 ^ b else s,?_,?_,fun j=>?_⟩
   ·have hs:=shrK_u (m:=m) (i:=a) (by omega)
    rw[zKC (by omega)] at hs
    have hbit:vA .u64 ((m / 2 ^ a:Nat):Int) 1=if m.testBit a then 1 else 0:=by
     have:=zSu (a:=m / 2 ^ a) (b:=1) (div_lt' hm) (by decide)
     rw[show((1:Nat):Int)=1 from rfl] at this
     rw[this]
     have h2:=bit_eq m a
     cases hbt:m.testBit a with
     | true=>rw[hbt,Ue] at h2;simp only[Qc];exact congrArg (fun n:Nat=>(n:Int)) h2
     | false =>
      rw[hbt,QQ] at h2
      have:(m / 2 ^ a) &&& 1≤1:=Nat.and_le_right
      simp only[zbf,Qb]
      exact congrArg (fun n:Nat=>(n:Int)) (show(m / 2 ^ a) &&& 1=0 by omega)
    unfold zDn
    dsimp only
    simp only[qY hp,Qc,qM hp,zob,hs,hbit,qR hp h.len']
    cases hbt:m.testBit a with
    | true =>
     simp only[Qc]
     rw[zZQ (by omega),zob,zYy g1 (zOe (by omega))]
    | false =>
     simp only[zbf,Qb]
     rw[z6G (by omega),zob,show(0:Int)=((0:Nat):Int) from rfl,zYy g1 (by decide),Nat.or_zero]
   ·cases m.testBit a with
    | true=>exact or_lt g1 (zOe (by omega))
    | false=>exact g1
   ·rw[xY hp]
    simp only[Qd,Qa,Prod.mk.injEq]
    cases hbt:m.testBit a with
    | true =>
     simp only[Qc]
     rw[Nat.testBit_or,Q6,g2,Nat.testBit_two_pow,Qp]
     constructor
     ·rintro (⟨i,q1,q2⟩ | rfl)
      ·exact⟨i,.inl q1,q2⟩
      ·exact⟨a,.inr ⟨rfl,rfl⟩,hbt⟩
     ·rintro ⟨i,q1 | ⟨q1,q3⟩,q2⟩
      ·exact .inl ⟨i,q1,q2⟩
      ·exact .inr (by omega)
    | false =>
     simp only[zbf,Qb]
     rw[g2]
     constructor
     ·rintro ⟨i,q1,q2⟩
      exact⟨i,.inl q1,q2⟩
     ·rintro ⟨i,q1 | ⟨q1,q3⟩,q2⟩
      ·exact⟨i,q1,q2⟩
      ·rw[show i=a by omega,hbt] at q2;cases q2)
  (fun s hI=>⟨(s:Int),by unfold zDn;simp[len],s,rfl,hI.1,fun j=>by
   rw[hI.2,QU]
   simp only[vT,zWp]⟩) 0 ⟨by decide,by simp⟩
 exact⟨r,h1,h2,h3⟩
def dfd (N:Nat)(L:List qA)(X:Nat->Prop)(i:Nat): Prop:=i<N∧∀ j,j<N->vT L j i->∃ k,vT L k j∧X k
theorem z7T (hN:N≤40): zFU ((N:Int),L)=some ((2 ^ N-1:Nat):Int):=by
 have h1:=zOe (i:=N) (by omega)
 have h0:0<2 ^ N:=Nat.pow_pos (by decide)
 unfold zFU
 rw[zZQ (by omega),zob]
 rw[show((2 ^ N:Nat):Int)-1=((2 ^ N-1:Nat):Int) by omega,zKC (by omega)]
theorem z8S (h:vC N L){m:Nat}(hm:m<18446744073709551616): ∃ r:Nat,zES ((N:Int),L) (m:Int)=some (r:Int)∧r<18446744073709551616∧∀ i:Nat,r.testBit i=true↔dfd N L (fun k=>m.testBit k=true) i:=by
 have hN:=h.hN
 have hw:=zOe (i:=N) (by omega)
 obtain⟨r1,e1,l1,b1⟩:=zQK h hm
 obtain⟨r2,e2,l2,b2⟩:=zQK h (m:=andn (2 ^ N-1) r1) (z3D (by omega))
 refine⟨andn (2 ^ N-1) r2,?_,z3D (by omega),fun i=>?_⟩
 ·unfold zES
  rw[z7T hN,zob,zob,e1,zob,zWT (by omega) l1,e2,zob,zWT (by omega) l2]
 ·rw[zNI,UM,Qo,Qp,Bool.not_eq_true',←Wm,b2]
  refine and_congr_right fun hi=>?_
  constructor
  ·intro hno j hj he
   apply Classical.byContradiction
   intro hk
   refine hno ⟨j,he,?_⟩
   rw[zNI,UM,Qo,Qp,Bool.not_eq_true',←Wm,b1]
   exact⟨hj,hk⟩
  ·rintro hall ⟨j,he,hb⟩
   rw[zNI,UM,Qo,Qp,Bool.not_eq_true',←Wm,b1] at hb
   exact hb.2 (hall j hb.1 he)
structure z1n (N:Nat)(L:List qA)(P Z:Nat->Prop): Prop where
 sub:∀ i,Z i->P i
 own:∀ i,Z i->dfd N L Z i
 all:∀ X:Nat->Prop,(∀ i,X i->P i)->(∀ i,X i->dfd N L X i)->∀ i,X i->Z i
theorem zVz{X Y:Nat->Prop}(h:∀ i,X i->Y i){i:Nat}(hi:dfd N L X i): dfd N L Y i :=
 ⟨hi.1,fun j hj he=>by obtain⟨k,h1,h2⟩:=hi.2 j hj he;exact⟨k,h1,h _ h2⟩⟩
theorem z6I (h:vC N L){m:Nat}(hm:m<18446744073709551616): ∃ r:Nat,zAz (m:Int) ((N:Int),L)=some (r:Int)∧r<18446744073709551616∧z1n N L (fun i=>m.testBit i=true) (fun i=>r.testBit i=true):=by
 have hN:=h.hN
 have hlp:=zTD (B:=zAQ ((N:Int),L)) (fun s=>s.toNat)
  (fun s=>∃ k:Nat,s=(k:Int)∧k<18446744073709551616∧(∀ i,k.testBit i=true->m.testBit i=true)∧∀ X:Nat->Prop,(∀ i,X i->m.testBit i=true)->(∀ i,X i->dfd N L X i)->∀ i,X i->k.testBit i=true)
  (fun v=>∃ r:Nat,v=(r:Int)∧r<18446744073709551616∧z1n N L (fun i=>m.testBit i=true) (fun i=>r.testBit i=true)) ?_ (m:Int) ⟨m,rfl,hm,fun _ h=>h,fun X h1 _ i hi=>h1 i hi⟩
 ·obtain⟨v,e,r,rfl,hr,hg⟩:=hlp
  exact⟨r,e,hr,hg⟩
 ·rintro s ⟨k,rfl,hk,h1,h2⟩
  obtain⟨q,e,hq,hb⟩:=z8S h hk
  have hand:vA .u64 (k:Int) (q:Int)=((k &&& q:Nat):Int):=zSu hk hq
  by_cases hs:k &&& q=k
  ·right
   refine⟨(k:Int),?_,k,rfl,hk,h1,fun i hi=>?_,h2⟩
   ·unfold zAQ zCv
    rw[e]
    simp only[zob,hand,hs,Uv,Qc]
   ·rw[←hs,Wf,Qo] at hi
    exact(hb i).1 hi.2
  ·left
   refine⟨((k &&& q:Nat):Int),?_,⟨k &&& q,rfl,z3e hk,fun i hi=>?_,fun X hX hd i hi=>?_⟩,?_⟩
   ·unfold zAQ zCv
    rw[e]
    have hne:((((k &&& q:Nat):Int))==(k:Int))=false:=by rw[QQ];omega
    simp only[zob,hand,hne,zbf,Qb]
   ·rw[Wf,Qo] at hi
    exact h1 i hi.1
   ·rw[Wf,Qo]
    exact⟨h2 X hX hd i hi,(hb i).2 (zVz (fun k hk=>h2 X hX hd k hk) (hd i hi))⟩
   ·have:k &&& q≤k:=Nat.and_le_left
    simp only[Ql]
    omega
theorem z4S (h:vC N L){l:List Int}(ha:vX xE l)(hl:∀ x∈l,0≤x∧x<(N:Int))(hfree:∀ i j:Nat,(i:Int)∈l->(j:Int)∈l->¬ vT L i j):
  ∃ r:List Int,zCR ((N:Int),L) l=some (r,0)∧r.length≤64∧(∀ x∈r,0≤x∧x<(N:Int))∧z1n N L (fun i=>(i:Int)∈l) (fun i=>(i:Int)∈r):=by
 have hN:=h.hN
 have hlN:l.length≤N:=z3w (ha.imp fun {x y} hh e=>by subst e;rw[zE9.irrefl] at hh;cases hh) hl
 have hl64:∀ x∈l,0≤x∧x<64:=fun x hx=>by have:=hl x hx;omega
 have hmk:zQb l<18446744073709551616:=zZI fun x hx=>(hl64 x hx).2
 have hv:zFQ ((N:Int),L) l=some true:=by
  refine zZj (l:=l) (fun i x hx=>?_) (by unfold zIJ;simp[len])
  obtain⟨x0,x1⟩:=hl x (wF hx)
  unfold zIJ
  simp only[qY hx,Qc,qM hx,zob]
  rw[Qq (by simp;omega),Qq (by simp;omega)]
  by_cases hi:0<i
  ·obtain⟨k,rfl⟩:∃ k,i=k+1:=⟨i-1,by omega⟩
   have hk:k<l.length:=by have:=vV hx;omega
   have hy:l[k]?=some l[k]:=Qe hk
   have hlt:=z4K ha hy hx
   have hw:zM (((k+1:Nat):Int)-1)=(k:Int):=by
    rw[show((k+1:Nat):Int)-1=(k:Int) by omega]
    exact z5t _ (by omega)
   have hle:decide (x≤l[k])=false:=by simpa using hlt
   rw[Qu (QO (show(0:Int)<((k+1:Nat):Int) by omega)),hw,qM hy,zob,hle,zob]
   simp only[zbf,Qb,qR hx (show l.length<4294967296 by omega)]
  ·rw[Qq (by simpa using hi),zob]
   simp only[zbf,Qb,qR hx (show l.length<4294967296 by omega)]
 obtain⟨a,e1,l1,b1⟩:=zQK h hmk
 have hbit:∀ i:Nat,(zQb l).testBit i=true↔(i:Int)∈l:=fun i=>by rw[z1D (fun x hx=>(hl64 x hx).1),Qp]
 have hz:a &&& zQb l=0:=by
  apply Wi
  intro j
  rw[Wf,U8]
  cases h1:a.testBit j with
  | false=>rfl
  | true =>
   cases h2:(zQb l).testBit j with
   | false=>rfl
   | true =>
    obtain⟨i,q1,q2⟩:=(b1 j).1 h1
    exact absurd q1 (hfree i j ((hbit i).1 q2) ((hbit j).1 h2))
 obtain⟨r,e2,l2,g⟩:=z6I h hmk
 have hr:∀ i:Nat,(i:Int)∈zRQ r↔r.testBit i=true:=fun i=>zYc l2
 refine⟨zRQ r,?_,z1W r,fun x hx=>?_,⟨fun i hi=>(hbit i).1 (g.sub i ((hr i).1 hi)),fun i hi=>?_,fun X h1 h2 i hi=>(hr i).2 (g.all X (fun k hk=>(hbit k).2 (h1 k hk)) h2 i hi)⟩⟩
 ·unfold zCR zG0
  rw[hv,zob]
  simp only[QN,zbf,Qb]
  rw[z9Q (by omega) hl64,zob,e1,zob,zSu l1 hmk,hz]
  simp only[zob]
  rw[Qq (by decide),e2,zob,z9a l2]
  rfl
 ·obtain⟨i,rfl,_,h2⟩:=zMV.1 hx
  exact hl _ ((hbit i).1 (g.sub i h2))
 ·exact zVz (fun k hk=>(hr k).2 hk) (g.own i ((hr i).1 hi))
theorem z2x (h:vC N L){r:List Int}(hb:r.length≤64)(hr:∀ x∈r,0≤x∧x<(N:Int)): ∃ l:List Int,zCS ((N:Int),L) r=some l∧l.length=N∧∀ i:Nat,l[i]?=some 1↔(i:Int)∈r:=by
 have hN:=h.hN
 unfold zCS
 rw[zY8 3 hN,zob]
 obtain⟨l1,e1,n1,o1⟩:=xS (B:=zCc ((N:Int),L) r) (fun k (s:List Int)=>(s,(k:Int))) L (fun k s=>s.length=N∧∀ i:Nat,s[i]?≠some 1) (fun s=>s.length=N∧∀ i:Nat,s[i]?≠some 1)
  (fun k p s hp hI=>by
   obtain⟨g1,g2⟩:=hI
   left
   obtain⟨a,b,ha,hbN,rfl⟩:=zKw (h.inr p (wF hp))
   unfold zCc
   dsimp only
   simp only[qY hp,Qc,qM hp,zob,zLC r _ (by omega),qR hp h.len']
   cases decide ((a:Int)∈r) with
   | false=>exact⟨s,rfl,g1,g2⟩
   | true =>
    obtain⟨u,hu⟩:=zLM (l:=s) (j:=(b:Int)) (by omega) (by omega)
    refine⟨s.set b 2,by simp only[Qc,hu,zob,Ql],by rw[UB,g1],fun i=>?_⟩
    rw[List.getElem?_set]
    split
    ·split
     ·simp
     ·simp
    ·exact g2 i)
  (fun s hI=>⟨s,by unfold zCc;simp[len],hI⟩) (zW N fun _=>3) ⟨zHB _ _,fun i=>by rw[zJW];split <;> simp⟩
 rw[show((0:Int))=((0:Nat):Int) from rfl,e1,zob]
 obtain⟨l2,e2,n2,o2⟩:=xS (B:=zEi r ((N:Int),L)) (fun k (s:List Int)=>(s,(k:Int))) r (fun k s=>s.length=N∧∀ i:Nat,s[i]?=some 1↔(i:Int)∈r.take k) (fun s=>s.length=N∧∀ i:Nat,s[i]?=some 1↔(i:Int)∈r)
  (fun k x s hx hI=>by
   obtain⟨g1,g2⟩:=hI
   left
   obtain⟨x0,x1⟩:=hr x (wF hx)
   obtain⟨b,rfl⟩:=Qw x0
   obtain⟨u,hu⟩:=zLM (l:=s) (j:=(b:Int)) (by omega) (by omega)
   have hd:(decide (0≤(b:Int))&&decide ((b:Int)<(N:Int)))=true:=by simp;omega
   refine⟨s.set b 1,?_,by rw[UB,g1],fun i=>?_⟩
   ·unfold zEi
    dsimp only
    simp only[qY hx,Qc,qM hx,zob,hd,hu,qR hx (show r.length<4294967296 by omega),Ql]
   ·rw[List.getElem?_set,xY hx,Qd,Qa]
    split
    ·rename_i hib
     subst hib
     rw[Qu (by omega)]
     simp
    ·rename_i hib
     rw[g2]
     constructor
     ·exact .inl
     ·rintro (q | q)
      ·exact q
      ·exact absurd q (by omega))
  (fun s hI=>⟨s,by unfold zEi;simp[len],hI.1,fun i=>by rw[hI.2,QU]⟩) l1 ⟨n1,fun i=>by simp[o1 i]⟩
 exact⟨l2,e2,n2,o2⟩
end
end
section
section
variable {N:Nat}{L:List qA}
def zZU (x y:List Int): Bool:=z4q (yG x 3) (yG y 3)
def z1j (x y:List Int): Bool:=decide (0<(yG y 3).length)
theorem z9b (x y:List Int)(hx:x.length<1000000)(hy:y.length<1000000): zCJ x y=some (zZU x y):=by
 have h1:=zJO x 3
 have h2:=zJO y 3
 unfold zCJ
 rw[zNw x hx,zob,zNw y hy,zob,zYj _ _ (by omega) (by omega)]
 rfl
theorem z8c (x y:List Int)(hx:x.length<1000000)(hy:y.length<1000000): zDN x y=some (z1j x y):=by
 unfold zDN
 rw[zNw y hy,zob]
 unfold z1j
 rw[show decide (0<len (yG y 3))=decide (0<(yG y 3).length) from by rw[UR];simp only[len];omega]
def zT3 (p:List Int->List Int->Bool)(l:List (List Int)): List (List Int):=l.filter fun y=>!l.any fun x=>p x y
theorem z73{p:List Int->List Int->Bool}{l:List (List Int)}: ∀ x∈zT3 p l,x∈l:=fun x hx=>(Qk.1 hx).1
theorem top_len (p:List Int->List Int->Bool)(l:List (List Int)): (zT3 p l).length≤l.length:=QH _ _
theorem zZK (hN:N≤40){l:List (List Int)}(e1:zBH ((N:Int),L)=some (l,0))(e2:l.length≤200)(hlen:∀ x∈l,x.length=N): zBA ((N:Int),L)=some (zT3 zZs l,0):=by
 unfold zBA zAL
 rw[e1,zob,Qq (by simp)]
 have hl:zN (zAC (l,0)) ([],0)=some (zT3 zZs l,0):=by
  refine zQv (B:=zAC (l,0)) l (fun x=>!l.any fun y=>zZs y x) (fun s=>(s,(0:Int))) (by omega) (fun i x s hx=>?_) (fun s=>by unfold zAC;simp[len])
  unfold zAC
  simp only[qY hx,Qc,qM hx,zob,qR hx (show l.length<4294967296 by omega),z8N (show l.length<4294967296 by omega) (fun z hz=>by have:=hlen z hz;omega) (show x.length<1000000 by have:=hlen x (wF hx);omega)]
 rw[hl]
 rfl
theorem z2r{l:List (List Int)}(hl:l.length<4294967296)(hs:∀ x∈l,x.length<1000000){y:List Int}(hy:y.length<1000000): zAJ l y=some (l.any fun x=>z1j x y):=by
 unfold zAJ zAg
 refine zWG l (fun x=>z1j x y) (fun i u hu=>?_) (by unfold zA1;simp[len])
 unfold zA1 zBG
 simp only[qY hu,Qc,qM hu,zob,qR hu hl,z8c u y (hs u (wF hu)) hy]
 cases z1j u y <;> rfl
theorem z5X (hN:N≤40){l:List (List Int)}(e1:zBH ((N:Int),L)=some (l,0))(e2:l.length≤200)(hlen:∀ x∈l,x.length=N): zC8 ((N:Int),L)=some (zT3 z1j l,0):=by
 unfold zC8 zAj
 rw[e1,zob,Qq (by simp)]
 have hl:zN (zAK (l,0)) ([],0)=some (zT3 z1j l,0):=by
  refine zQv (B:=zAK (l,0)) l (fun x=>!l.any fun y=>z1j y x) (fun s=>(s,(0:Int))) (by omega) (fun i x s hx=>?_) (fun s=>by unfold zAK;simp[len])
  unfold zAK
  simp only[qY hx,Qc,qM hx,zob,qR hx (show l.length<4294967296 by omega),z2r (show l.length<4294967296 by omega) (fun z hz=>by have:=hlen z hz;omega) (show x.length<1000000 by have:=hlen x (wF hx);omega)]
 rw[hl]
 rfl
theorem zWk{l:List (List Int)}(hl:l.length<4294967296)(hs:∀ x∈l,x.length<1000000){y:List Int}(hy:y.length<1000000): zAI l y=some (l.any fun x=>zZU x y):=by
 unfold zAI zAh
 refine zWG l (fun x=>zZU x y) (fun i u hu=>?_) (by unfold zA4;simp[len])
 unfold zA4 zAd
 simp only[qY hu,Qc,qM hu,zob,qR hu hl,z9b u y (hs u (wF hu)) hy]
 cases zZU u y <;> rfl
theorem zXu (hN:N≤40){l:List (List Int)}(e1:zBH ((N:Int),L)=some (l,0))(e2:l.length≤200)(hlen:∀ x∈l,x.length=N): zAo ((N:Int),L)=some (zT3 zZU l,0):=by
 unfold zAo zAG
 rw[e1,zob,Qq (by simp)]
 have hl:zN (zAB (l,0)) ([],0)=some (zT3 zZU l,0):=by
  refine zQv (B:=zAB (l,0)) l (fun x=>!l.any fun y=>zZU y x) (fun s=>(s,(0:Int))) (by omega) (fun i x s hx=>?_) (fun s=>by unfold zAB;simp[len])
  unfold zAB
  simp only[qY hx,Qc,qM hx,zob,qR hx (show l.length<4294967296 by omega),zWk (show l.length<4294967296 by omega) (fun z hz=>by have:=hlen z hz;omega) (show x.length<1000000 by have:=hlen x (wF hx);omega)]
 rw[hl]
 rfl
theorem zZi (hN:N≤40){l:List (List Int)}(e1:zBH ((N:Int),L)=some (l,0))(e2:l.length≤200)(hlen:∀ x∈l,x.length=N): zAV ((N:Int),L)=some (l.map fun x=>yG x 1,0):=by
 unfold zAV
 rw[e1,zob,Qq (by simp)]
 refine zUX (B:=zAq (l,0)) l (fun x=>yG x 1) (by omega) (fun i x s hx=>?_) (fun s=>by unfold zAq;simp[len])
 unfold zAq
 simp only[qY hx,Qc,qM hx,zob,qR hx (show l.length<4294967296 by omega),zMD x 1 (show x.length<4294967000 by have:=hlen x (wF hx);omega)]
theorem zYN (hN:N≤40){l:List (List Int)}(e1:zBA ((N:Int),L)=some (l,0))(e2:l.length≤200)(hlen:∀ x∈l,x.length=N): zAF ((N:Int),L)=some (l.map fun x=>yG x 1,0):=by
 unfold zAF
 rw[e1,zob,Qq (by simp)]
 refine zUX (B:=zA3 (l,0)) l (fun x=>yG x 1) (by omega) (fun i x s hx=>?_) (fun s=>by unfold zA3;simp[len])
 unfold zA3
 simp only[qY hx,Qc,qM hx,zob,qR hx (show l.length<4294967296 by omega),zMD x 1 (show x.length<4294967000 by have:=hlen x (wF hx);omega)]
theorem z2B (hN:N≤40){l:List (List Int)}(e1:zC8 ((N:Int),L)=some (l,0))(e2:l.length≤200)(hlen:∀ x∈l,x.length=N): zAT ((N:Int),L)=some (l.map fun x=>yG x 1,0):=by
 unfold zAT
 rw[e1,zob,Qq (by simp)]
 refine zUX (B:=zAi (l,0)) l (fun x=>yG x 1) (by omega) (fun i x s hx=>?_) (fun s=>by unfold zAi;simp[len])
 unfold zAi
 simp only[qY hx,Qc,qM hx,zob,qR hx (show l.length<4294967296 by omega),zMD x 1 (show x.length<4294967000 by have:=hlen x (wF hx);omega)]
theorem zWr (hN:N≤40){l:List (List Int)}(e1:zAo ((N:Int),L)=some (l,0))(e2:l.length≤200)(hlen:∀ x∈l,x.length=N): zAE ((N:Int),L)=some (l.map fun x=>yG x 1,0):=by
 unfold zAE
 rw[e1,zob,Qq (by simp)]
 refine zUX (B:=zAY (l,0)) l (fun x=>yG x 1) (by omega) (fun i x s hx=>?_) (fun s=>by unfold zAY;simp[len])
 unfold zAY
 simp only[qY hx,Qc,qM hx,zob,qR hx (show l.length<4294967296 by omega),zMD x 1 (show x.length<4294967000 by have:=hlen x (wF hx);omega)]
theorem z4V{x:List Int}(hx:x.length≤40)(e1:zGa ((N:Int),L)=some (x,0)): zAN ((N:Int),L)=some ([yG x 1],0):=by
 have e2:zBJ ((N:Int),L)=some ([x],0):=by
  unfold zBJ
  rw[e1]
  rfl
 unfold zAN
 rw[e2,zob,Qq (by simp)]
 refine zUX (B:=zAa ([x],0)) [x] (fun x=>yG x 1) (by simp) (fun i y s hy=>?_) (fun s=>by unfold zAa;simp[len])
 have hyx:y=x:=Qa.1 (wF hy)
 unfold zAa
 simp only[qY hy,Qc,qM hy,zob,qR hy (by simp),zMD y 1 (show y.length<4294967000 by rw[hyx];omega)]
theorem z5C{x:List Int}(hx:x.length≤40)(e1:zGb ((N:Int),L)=some (x,0)): zAO ((N:Int),L)=some ([yG x 1],0):=by
 have e2:zBK ((N:Int),L)=some ([x],0):=by
  unfold zBK
  rw[e1]
  rfl
 unfold zAO
 rw[e2,zob,Qq (by simp)]
 refine zUX (B:=zA9 ([x],0)) [x] (fun x=>yG x 1) (by simp) (fun i y s hy=>?_) (fun s=>by unfold zA9;simp[len])
 have hyx:y=x:=Qa.1 (wF hy)
 unfold zA9
 simp only[qY hy,Qc,qM hy,zob,qR hy (by simp),zMD y 1 (show y.length<4294967000 by rw[hyx];omega)]
theorem ext_in (y:List Int)(k:Nat)(hy:y.length≤100): zKq y (k:Int)=some (decide (y[k]?=some 1)):=by
 unfold zKq
 rw[Qu (QO (by omega))]
 by_cases hk:k<y.length
 ·have hx:y[k]?=some y[k]:=Qe hk
  rw[Qu (QO (by simp only[len];omega)),qM hx,hx]
  simp only[zob,Qf]
  exact QV.2 (by simp)
 ·rw[Qq (by simp only[len,Qp];omega),UD (by omega)]
  rfl
theorem ext_All (l:List (List Int))(k:Nat)(hl:l.length≤200)(hs:∀ x∈l,x.length≤100): zGN l (k:Int)=some (l.all fun x=>decide (x[k]?=some 1)):=by
 have h1:zAP l (k:Int)=some (l.any fun x=>!decide (x[k]?=some 1)):=by
  unfold zAP zAy
  refine zWG l (fun x:List Int=>!decide (x[k]?=some 1)) (fun i u hu=>?_) (by unfold zCB;simp[len])
  unfold zCB zKe
  simp only[qY hu,Qc,qM hu,zob,qR hu (show l.length<4294967296 by omega),ext_in u k (hs u (wF hu))]
  cases decide (u[k]?=some 1) <;> rfl
 unfold zGN
 rw[h1,zob,show(l.all fun x=>decide (x[k]?=some 1))=!(l.any fun x:List Int=>!decide (x[k]?=some 1)) from Ws]
def ComP (l:List (List Int))(k:Nat): Prop:=∀ x∈l,x[k]?=some 1
theorem zWS (h:vC N L){l:List (List Int)}(hl:l.length≤200)(hne:l≠[])(hc:∀ x∈l,∃ f,CL N L f∧x=uF N f):
  ∃ r lb:List Int,zGp l=some ((qS N).filter fun k=>l.all fun x=>decide (x[k.toNat]?=some 1))∧zCR ((N:Int),L) ((qS N).filter fun k=>l.all fun x=>decide (x[k.toNat]?=some 1))=some (r,0) ∧
   zCS ((N:Int),L) r=some lb∧lb.length=N∧z1n N L (ComP l) (fun i=>lb[i]?=some 1):=by
 have hN:=h.hN
 have hlen:∀ x∈l,x.length=N:=fun x hx=>by
  obtain⟨f,_,rfl⟩:=hc x hx
  exact zTZ N f
 have hmem:∀ i:Nat,(i:Int)∈((qS N).filter fun k=>l.all fun x=>decide (x[k.toNat]?=some 1))↔ComP l i:=fun i=>by
  rw[Qk,xO,QE]
  constructor
  ·rintro ⟨_,h2⟩ x hx
   simpa using h2 x hx
  ·intro hp
   obtain⟨x,hx⟩:=UV l hne
   have:=(Qg.1 (hp x hx)).1
   rw[hlen x hx] at this
   exact⟨by omega,fun y hy=>by simpa using hp y hy⟩
 obtain⟨r,e2,hb,hr,g⟩:=z4S h (l:=(qS N).filter fun k=>l.all fun x=>decide (x[k.toNat]?=some 1)) ((zKf N).filter _) (fun x hx=>xO.1 (Qk.1 hx).1) (fun i j hi hj he=>by
  obtain⟨x,hx⟩:=UV l hne
  have h1:=(hmem i).1 hi x hx
  have h2:=(hmem j).1 hj x hx
  obtain⟨f,hf,rfl⟩:=hc x hx
  have hiN:=(Qg.1 h1).1
  have hjN:=(Qg.1 h2).1
  rw[zTZ] at hiN hjN
  rw[zOn hiN] at h1
  rw[zOn hjN] at h2
  have h3:f i=1:=by
              have:((f i:Nat):Int)=1:=by simpa using h1
              omega
  have h4:f j=1:=by
              have:((f j:Nat):Int)=1:=by simpa using h2
              omega
  have:=hf.i1 j hjN h4 i hiN he
  omega)
 obtain⟨lb,e3,n3,o3⟩:=z2x h hb hr
 refine⟨r,lb,?_,e2,e3,n3,⟨fun i hi=>(hmem i).1 (g.sub i ((o3 i).1 hi)),fun i hi=>zVz (fun k hk=>(o3 k).2 hk) (g.own i ((o3 i).1 hi)),fun X h1 h2 i hi=>(o3 i).2 (g.all X (fun k hk=>(hmem k).2 (h1 k hk)) h2 i hi)⟩⟩
 unfold zGp
 have hpos:0<l.length:=Q5.2 hne
 have h0:l[0]?=some l[0]:=Qe hpos
 rw[Qq (by simp only[len,Ue];omega),show(0:Int)=((0:Nat):Int) from rfl,qM h0,zob]
 have hx1:=hlen _ (wF h0)
 refine(zQv (B:=zFC l[0] l) (qS N) (fun k=>l.all fun x=>decide (x[k.toNat]?=some 1)) id (by rw[zGJ];omega) (fun i k s hk=>?_) (fun s=>?_))
 ·obtain⟨rfl,hi⟩:=zVA hk
  unfold zFC
  dsimp only
  rw[Qu (QO (by simp only[len];omega)),ext_All l i hl (fun x hx=>by have:=hlen x hx;omega),zob,Ql,vN i (by omega)]
 ·unfold zFC
  rw[Qq (by simp only[len,zGJ,Qp];omega)]
  rfl
theorem zXw (h:vC N L){l:List (List Int)}(e:zBA ((N:Int),L)=some (l,0))(hl:l.length≤200)(hne:l≠[])(hc:∀ x∈l,∃ f,CL N L f∧x=uF N f):
  ∃ lb:List Int,zGa ((N:Int),L)=some (lb,0)∧lb.length=N∧z1n N L (ComP l) (fun i=>lb[i]?=some 1):=by
 obtain⟨r,lb,e1,e2,e3,n3,g⟩:=zWS h hl hne hc
 refine⟨lb,?_,n3,g⟩
 unfold zGa zAk
 rw[e,zob,Qq (by simp),e1,zob,e2,zob,Qq (by simp),e3]
 rfl
theorem zXd (h:vC N L){l:List (List Int)}(e:zAo ((N:Int),L)=some (l,0))(hl:l.length≤200)(hne:l≠[])(hc:∀ x∈l,∃ f,CL N L f∧x=uF N f):
  ∃ lb:List Int,zGb ((N:Int),L)=some (lb,0)∧lb.length=N∧z1n N L (ComP l) (fun i=>lb[i]?=some 1):=by
 obtain⟨r,lb,e1,e2,e3,n3,g⟩:=zWS h hl hne hc
 refine⟨lb,?_,n3,g⟩
 unfold zGb zA8
 rw[e,zob,Qq (by simp),e1,zob,e2,zob,Qq (by simp),e3]
 rfl
theorem zPI (h:vC N L){q:Int}{v:List (List Int)×Int}(hq:(q=2∧zAV ((N:Int),L)=some v)∨(q=3∧zAF ((N:Int),L)=some v)∨(q=4∧zAT ((N:Int),L)=some v) ∨
  (q=5∧zAE ((N:Int),L)=some v)∨(q=6∧zAN ((N:Int),L)=some v)∨(q=7∧zAO ((N:Int),L)=some v)):zBZ ((N:Int),L) q=some v:=by
 unfold zBZ
 rw[h.v1]
 simp only[zob,bne_self_eq_false,zbf,Qb,zY3]
 rcases hq with⟨rfl,e⟩ | ⟨rfl,e⟩ | ⟨rfl,e⟩ | ⟨rfl,e⟩ | ⟨rfl,e⟩ | ⟨rfl,e⟩ <;>
 ·repeat rw[Qq (by decide)]
  rw[Qu (by decide),e]
  rfl
theorem most{μ:List Int->Nat}: ∀ {l:List (List Int)},l≠[]->∃ y∈l,∀ x∈l,μ x≤μ y
 | [],h=>absurd rfl h
 | a::l,_=>by
  by_cases h:l=[]
  ·subst h;exact⟨a,by simp,by simp⟩
  ·obtain⟨y,h1,h2⟩:=most (μ:=μ) h
   by_cases hc:μ a≤μ y
   ·exact⟨y,Qi _ h1,fun x hx=>by
     rcases Qv.1 hx with rfl | hx
     ·exact hc
     ·exact h2 x hx⟩
   ·exact⟨a,Qm,fun x hx=>by
     rcases Qv.1 hx with rfl | hx
     ·exact Qr _
     ·have:=h2 x hx;omega⟩
theorem z9z{p:List Int->List Int->Bool}{μ:List Int->Nat}{l:List (List Int)}(hp:∀ x∈l,∀ y∈l,p x y=true->μ y<μ x)(hne:l≠[]): zT3 p l≠[]:=by
 obtain⟨y,h1,h2⟩:=most (μ:=μ) hne
 refine List.ne_nil_of_mem (a:=y) (Qk.2 ⟨h1,?_⟩)
 rw[Bool.not_eq_true',Q9]
 intro x hx hpx
 have:=h2 x hx
 have:=hp x hx y h1 hpx
 omega
end
end
section
section
variable {N:Nat}{L:List qA}
open Classical in
theorem z90{ls:List (List Int)}(hne:ls≠[])(hc:∀ x∈ls,∃ f,CL N L f∧x=uF N f){Z:Nat->Prop}(hg:z1n N L (ComP ls) Z): ∃ f,CL N L f∧∀ i,i<N->(Z i↔f i=1):=by
 obtain⟨x0,hx0⟩:=UV ls hne
 have hcom:∀ g,CL N L g->uF N g∈ls->∀ i,Z i->g i=1:=fun g _ hm i hi=>by
  have:=hg.sub i hi _ hm
  rw[zOn (hg.own i hi).1,Qf] at this
  omega
 have hfree:∀ i k,Z i->Z k->¬ vT L k i:=fun i k hi hk he=>by
  obtain⟨f0,hf0,rfl⟩:=hc x0 hx0
  have h1:=hcom f0 hf0 hx0 i hi
  have h2:=hcom f0 hf0 hx0 k hk
  have:=hf0.i1 i (hg.own i hi).1 h1 k (hg.own k hk).1 he
  omega
 refine⟨fun i=>if Z i then 1 else if ∃ k,vT L k i∧Z k then 2 else 3,⟨fun i _=>?_,fun i hi h1 j hj he=>?_,fun i hi h2=>?_,fun i hi h3=>?_⟩,fun i _=>?_⟩
 ·by_cases h1:Z i
  ·exact .inl (Qu h1)
  ·by_cases h2:∃ k,vT L k i∧Z k
   ·exact .inr (.inl (by rw[Qq h1,Qu h2]))
   ·exact .inr (.inr (by rw[Qq h1,Qq h2]))
 ·have hz:Z i:=Classical.byContradiction fun hn=>by
   rw[Qq hn] at h1
   split at h1 <;> omega
  have hnj:¬ Z j:=fun hzj=>hfree i j hz hzj he
  show(if Z j then _ else _)=_
  rw[Qq hnj,Qu ((hg.own i hz).2 j hj he)]
 ·have hn:¬ Z i:=fun hz=>by rw[Qu hz] at h2;omega
  rw[Qq hn] at h2
  have hex:∃ k,vT L k i∧Z k:=Classical.byContradiction fun hne=>by rw[Qq hne] at h2;omega
  obtain⟨k,h1,hk⟩:=hex
  exact⟨k,(hg.own k hk).1,h1,Qu hk⟩
 ·have hn:¬ Z i:=fun hz=>by rw[Qu hz] at h3;omega
  rw[Qq hn] at h3
  have hno:¬ ∃ k,vT L k i∧Z k:=fun hex=>by rw[Qu hex] at h3;omega
  refine⟨Classical.byContradiction fun hall=>hn ?_,fun j _ he hj=>?_⟩
  ·have hdf:∀ j,j<N->vT L j i->∃ k,vT L k j∧Z k:=fun j hj he=>Classical.byContradiction fun hk=>hall ⟨j,hj,he,by
    have hzj:¬ Z j:=fun hz=>hno ⟨j,he,hz⟩
    show(if Z j then _ else _)=_
    rw[Qq hzj,Qq hk]⟩
   refine hg.all (fun a=>Z a∨a=i) (fun a ha=>?_) (fun a ha=>?_) i (.inr rfl)
   ·rcases ha with ha | rfl
    ·exact hg.sub a ha
    ·intro x hx
     obtain⟨g,hgc,rfl⟩:=hc x hx
     have h1:g a=1:=hgc.one hi fun j hj he=>by
      obtain⟨k,hk1,hk2⟩:=hdf j hj he
      exact hgc.two hj (hg.own k hk2).1 hk1 (hcom g hgc hx k hk2)
     rw[zOn hi,h1]
     rfl
   ·rcases ha with ha | rfl
    ·exact zVz (fun k hk=>.inl hk) (hg.own a ha)
    ·exact⟨hi,fun j hj he=>by obtain⟨k,h1,h2⟩:=hdf j hj he;exact⟨k,h1,.inl h2⟩⟩
  ·have hz:Z j:=Classical.byContradiction fun hn'=>by
    rw[Qq hn'] at hj
    split at hj <;> omega
   exact hno ⟨j,he,hz⟩
 ·show Z i↔(if Z i then 1 else _)=1
  by_cases hz:Z i
  ·simp[hz]
  ·rw[Qq hz]
   constructor
   ·exact fun h=>absurd h hz
   ·intro h;split at h <;> omega
def ExtOk (N:Nat)(L:List qA)(es:List (List Int)): Prop:=∀ s∈es,∃(lb:List Int) (f:Nat->Nat),s=yG lb 1∧lb.length=N∧CL N L f∧∀ i,i<N->(lb[i]?=some 1↔f i=1)
theorem zO2{l:List (List Int)}(hc:∀ x∈l,∃ f,CL N L f∧x=uF N f): ExtOk N L (l.map fun x=>yG x 1):=fun s hs=>by
 obtain⟨x,hx,rfl⟩:=Qj.1 hs
 obtain⟨f,hf,rfl⟩:=hc x hx
 exact⟨uF N f,f,rfl,zTZ N f,hf,fun i hi=>by rw[zOn hi,Qf];omega⟩
theorem ext_all (h:vC N L)(q:Int)(q1:1≤q)(q7:q≤7): (∃ es,zBZ ((N:Int),L) q=some (es,0)∧es.length≤200∧ExtOk N L es)∨zBZ ((N:Int),L) q=some ([],2):=by
 have hN:=h.hN
 by_cases hq1:q=1
 ·subst hq1
  refine .inl ⟨_,z0e h,by simp,fun s hs=>?_⟩
  rw[Qa] at hs
  subst hs
  refine⟨zRJ N L,_,rfl,zHB _ _,zXQ h,fun i hi=>?_⟩
  show(zW N (qV N L (N+1)))[i]?=some 1↔_
  rw[zJW,Qu hi,Qf,zZW N L (fun i=>zWA N L) (N+1) (by omega) i]
  rcases zPm N L N i with e | e | e <;> rw[e] <;> decide
 ·obtain⟨l,h1,h2,h3⟩:=zXX h
  have hlen:∀ x∈l,x.length=N:=fun x hx=>by
   obtain⟨f,_,rfl⟩:=h1 x hx
   exact zTZ N f
  have hcase:q=2∨q=3∨q=4∨q=5∨q=6∨q=7:=by omega
  rcases h3 with⟨e1,e2,e3⟩ | ⟨e1,_⟩
  ·left
   have hne:l≠[]:=List.ne_nil_of_mem (e3 _ (zXQ h))
   have tp:=zZK hN e1 e2 hlen
   have tt:=z5X hN e1 e2 hlen
   have ts:=zXu hN e1 e2 hlen
   have tl:∀ p,(zT3 p l).length≤200:=fun p=>QD (top_len p l) e2
   have tc:∀ p,∀ x∈zT3 p l,∃ f,CL N L f∧x=uF N f:=fun p x hx=>h1 x (z73 x hx)
   have tn:∀ p,∀ x∈zT3 p l,x.length=N:=fun p x hx=>hlen x (z73 x hx)
   have hpn:zT3 zZs l≠[]:=z9z (μ:=fun x=>(yG x 1).length) (fun x _ y _ h=>by
    unfold zZs z4q at h
    simp only[Qo,Qp] at h
    exact h.1) hne
   have hsn:zT3 zZU l≠[]:=z9z (μ:=fun x=>1000-(yG x 3).length) (fun x hx y hy h=>by
    unfold zZU z4q at h
    simp only[Qo,Qp] at h
    have h1:=h.1
    have h2:=zJO y 3
    rw[hlen y hy] at h2
    omega) hne
   have hone:∀ {lb:List Int} {ls:List (List Int)},ls≠[]->(∀ x∈ls,∃ f,CL N L f∧x=uF N f)->lb.length=N->z1n N L (ComP ls) (fun i=>lb[i]?=some 1)->ExtOk N L [yG lb 1]:=fun {lb ls} a b c d s hs=>by
    rw[Qa] at hs
    subst hs
    obtain⟨f,hf,hi⟩:=z90 a b d
    exact⟨lb,f,rfl,c,hf,hi⟩
   rcases hcase with rfl | rfl | rfl | rfl | rfl | rfl
   ·exact⟨_,zPI h (.inl ⟨rfl,zZi hN e1 e2 hlen⟩),by rw[Um];exact e2,zO2 h1⟩
   ·exact⟨_,zPI h (.inr (.inl ⟨rfl,zYN hN tp (tl _) (tn _)⟩)),by rw[Um];exact tl _,zO2 (tc _)⟩
   ·exact⟨_,zPI h (.inr (.inr (.inl ⟨rfl,z2B hN tt (tl _) (tn _)⟩))),by rw[Um];exact tl _,zO2 (tc _)⟩
   ·exact⟨_,zPI h (.inr (.inr (.inr (.inl ⟨rfl,zWr hN ts (tl _) (tn _)⟩)))),by rw[Um];exact tl _,zO2 (tc _)⟩
   ·obtain⟨lb,c1,n1,g1⟩:=zXw h tp (tl _) hpn (tc _)
    exact⟨_,zPI h (.inr (.inr (.inr (.inr (.inl ⟨rfl,z4V (by omega) c1⟩))))),by simp,hone hpn (tc _) n1 g1⟩
   ·obtain⟨lb,c1,n1,g1⟩:=zXd h ts (tl _) hsn (tc _)
    exact⟨_,zPI h (.inr (.inr (.inr (.inr (.inr ⟨rfl,z5C (by omega) c1⟩))))),by simp,hone hsn (tc _) n1 g1⟩
  ·right
   rcases hcase with rfl | rfl | rfl | rfl | rfl | rfl
   ·exact zPI h (.inl ⟨rfl,by unfold zAV;rw[e1];rfl⟩)
   ·exact zPI h (.inr (.inl ⟨rfl,by unfold zAF zBA zAL;rw[e1];rfl⟩))
   ·exact zPI h (.inr (.inr (.inl ⟨rfl,by unfold zAT zC8 zAj;rw[e1];rfl⟩)))
   ·exact zPI h (.inr (.inr (.inr (.inl ⟨rfl,by unfold zAE zAo zAG;rw[e1];rfl⟩))))
   ·exact zPI h (.inr (.inr (.inr (.inr (.inl ⟨rfl,by unfold zAN zBJ zGa zAk zBA zAL;rw[e1];rfl⟩)))))
   ·exact zPI h (.inr (.inr (.inr (.inr (.inr ⟨rfl,by unfold zAO zBK zGb zA8 zAo zAG;rw[e1];rfl⟩)))))
end
end
section
section
variable {b:zI}{l:List zF}(y:List zC)
theorem z0K (q:Int): zB (yV b y).2.1 q=(zB b.2.1 q).map (zPj b.2.2 y):=by
 show zB (b.2.1.map _) q=_
 unfold zB
 split
 ·rw[Q2]
 ·rfl
theorem z9M{q:Int}{r:zR}(h:zB b.2.1 q=some r): zB (yV b y).2.1 q=some (zPj b.2.2 y r):=by rw[z0K,h];rfl
theorem z0J{q:Int}{r:zR}(h:zB (yV b y).2.1 q=some r): ∃ r',zB b.2.1 q=some r'∧r=zPj b.2.2 y r':=by
 rw[z0K] at h
 cases h1:zB b.2.1 q with
 | none=>rw[h1] at h;cases h
 | some r'=>rw[h1] at h;cases h;exact⟨r',rfl,rfl⟩
theorem z8U{i:Int}{x:zC}: zOv (yV b y) l i x↔zOv b l i x:=by
 constructor
 ·intro h
  induction h with
  | here h=>exact .here h
  | step h1 h2 h3 h4 h5 _ ih =>
   obtain⟨r',e1,rfl⟩:=z0J y h3
   exact .step h1 h2 e1 h4 h5 ih
 ·intro h
  induction h with
  | here h=>exact .here h
  | step h1 h2 h3 h4 h5 _ ih=>exact .step h1 h2 (z9M y h3) h4 h5 ih
theorem z5I (a:zF): zUk (yV b y) a=zUk b a:=by
 unfold zUk
 rw[z0K]
 cases zB b.2.1 a.2.1 <;> rfl
theorem z6O (i:Int): vG (yV b y) l i=vG b l i:=by
 unfold vG
 simp only[z5I]
open Classical in
theorem z29 (q:Int)(r:zR)(s:List Int): zEe (yV b y) l q (zPj b.2.2 y r) s=zEe b l q r s:=by
 unfold zEe
 have:z7s (yV b y) l q (zPj b.2.2 y r)=z7s b l q r:=by
  funext k
  unfold z7s
  rw[z6O]
  have hh:zOv (yV b y) l k r.2.2.2.2↔zOv b l k r.2.2.2.2:=z8U y
  show(if r.2.1=true then decide (zOv (yV b y) l k r.2.2.2.2) else decide (q∈vG b l k))=_
  cases r.2.1 with
  | true=>exact UR.2 hh
  | false=>rfl
 rw[this]
theorem rb_prom (h:Rb b l): Rb (yV b y) l:=by
 refine⟨⟨z1H h.form.toFormB,h.form.l41,fun i a p hi h0 hp=>h.form.pr i a p hi h0 hp,fun i a r hi h0 hr=>?_⟩,h.pre,fun q r s hr hs hk hw=>?_,h.kd⟩
 ·obtain⟨r',e1,rfl⟩:=z0J y hr
  exact h.form.ru i a r' hi h0 e1
 ·obtain⟨r',e1,rfl⟩:=z0J y hr
  rw[z29] at hw
  exact h.all q r' s e1 hs hk hw
theorem z9J (h:TrC b): TrC (yV b y):=by
 intro r hr hs x hx
 obtain⟨r',e1,rfl⟩:=Qj.1 hr
 obtain⟨q,g1,g2,g3,g4⟩:=h r' e1 hs x hx
 exact⟨zPj b.2.2 y q,Qj.2 ⟨q,g1,rfl⟩,g2,g3,g4⟩
theorem z3t{S:zC->Prop}{x:zC}: yI (yV b y) S x↔yI b S x:=by
 constructor
 ·rintro ⟨n,h⟩
  induction h with
  | base h=>exact yI.base h
  | step hr hs _ ih =>
   obtain⟨r',e1,rfl⟩:=Qj.1 hr
   exact yI.rule (r:=r') e1 hs ih
 ·rintro ⟨n,h⟩
  induction h with
  | base h=>exact yI.base h
  | @step _ r hr hs _ ih=>exact yI.rule (b:=yV b y) (r:=zPj b.2.2 y r) (Qj.2 ⟨r,hr,rfl⟩) hs ih
theorem z8Q{S:zC->Prop}: Inc (yV b y) S↔Inc b S:=by
 unfold Inc
 simp only[z3t]
theorem z7U.rb (h:z7U b l)(hv:xH b): Rb b l:=by
 refine⟨h.form.toFormC,fun p q hp=>?_,h.all,fun p hp=>?_⟩
 ·obtain⟨m,rfl⟩:=h.pre
  have hlt:p<(zPT b).length:=by rw[zPh];exact vV hp
  obtain⟨a,ha⟩:∃ a,(zPT b)[p]?=some a:=⟨_,Qe hlt⟩
  obtain⟨_,_,e⟩:=zJV ha
  exact⟨a,by rw[xW,QY hlt];exact ha,by rw[e]⟩
 ·have:=hv.prem p hp
  unfold zNc at this
  split at this
  ·rename_i h1
   simp only[Q6,Ue] at h1
   omega
  ·cases this
end
section
variable {b:zI}{D:List zC}{c:Nat}
theorem z1v (hs:zOg b D c){x:List zF}(hx:zPt b=some x): zO0 b x∧x.length≤40 :=
 ⟨(zQA hs hx).form,(zQA hs hx).len⟩
theorem zWZ (hs:zOg b D c){l:List zF}(hb:zPt b=some l){o:vQ}(ho:badO o=false): zDO b o=some (zXp b l o,0):=by
 have hv:=hs.valid
 obtain⟨hf,hl⟩:=z1v hs hb
 have hB:=hf.toFormC.toFormB
 unfold zDO
 rw[z1X hs,hb]
 simp only[ansB,zob,bne_self_eq_false,zbf,Qb]
 show(if badO o=true then _ else _)=_
 have hd:=z3X (b:=b) (l:=l) (by omega) o
 obtain⟨hg,hG⟩:=zQg (b:=b) hl o
 have hac:=z9Y b l o
 have hd2:=z3X (b:=yV b (z9d b l o)) (l:=l) (by omega) o
 obtain⟨hg2,_⟩:=zQg (b:=yV b (z9d b l o)) hl o
 have hgl:(zRJ l.length (zXF b l o)).length=l.length:=zHB _ _
 have hw:=zJO (zRJ l.length (zXF b l o)) 1
 simp only[ho,zbf,Qb,zW0 hB o,zob]
 rw[zVF _ _ (by omega),hg]
 simp only[zob,bne_self_eq_false,zbf,Qb]
 rw[zRZ hG]
 simp only[zob]
 rw[zMD _ _ (by omega)]
 simp only[zob]
 rw[zQi _ (by omega)]
 simp only[zob]
 rw[show nrm wQ ((yG (zRJ l.length (zXF b l o)) 1).flatMap (zV3 l))=z9d b l o from rfl,zY6 (zJa hv) (by omega)]
 simp only[zob,zW0 (z1H hB) o]
 rw[zVF _ _ (by omega),hg2]
 rfl
end
structure z4B (b:zI)(l:List zF): Prop where
 small:∃(D:List zC) (c:Nat),zOg b D c
 tr:TrC b
 ax:¬ Inc b fun x=>∃ p∈b.1,p.2.1=1∧p.1=x
 bld:zPt b=some l
 len:l.length≤16
end
section
theorem z8n{i:Int}{o:vQ}(h:zB ords i=some o): badO o=false:=by
 obtain⟨n,rfl,hn⟩:=zPM h
 have hm:=wF hn
 have:∀ o∈ords,badO o=false:=by decide
 exact this o hm
end
section
theorem z8u{l m:List zC}(h1:vX wQ l)(h2:vX wQ m)(h:∀ y,y∈l↔y∈m): l=m :=
 (zYY zLi h1 h).symm.trans (zYY zLi h2 fun _=>Iff.rfl)
theorem z5k{b:zI}{l:List zF}(h:z4B b l)(o:vQ)(acc:List zC){f:Nat->Nat}(hf:CL l.length (zXF (yV b acc) l o) f):
  (∀ x,yI b (fun y=>Out l f y∨∃ p∈b.1,p.2.1=1∧p.1=y) x->Out l f x)∧∀ x,¬ (Out l f x∧Out l f (xJ x)):=by
 obtain⟨D,c,hs⟩:=h.small
 have hW:=zQA hs h.bld
 have hR:Rb (yV b acc) l:=rb_prom acc (hW.rb hs.valid)
 refine⟨fun x hx=>z4h hR hf ((z3t acc).2 hx),fun x=>zYU hR (z9J acc h.tr) (fun hi=>h.ax ((z8Q acc).1 hi)) hf x⟩
end
section
section
variable {b:zI}{l:List zF}{o:vQ}{acc:List zC}{f:Nat->Nat}
structure InL (l:List zF)(f:Nat->Nat)(s:List Int): Prop where
 mem:∀ i:Int,i∈s↔Inn l f i
 len:s.length≤40
theorem z9Z (hl:l.length≤40){lb:List Int}(hn:lb.length=l.length)(h:∀ i:Nat,i<l.length->(lb[i]?=some 1↔f i=1)): InL l f (yG lb 1):=by
 have hw:=zJO lb 1
 refine⟨fun i=>?_,by omega⟩
 constructor
 ·intro hi
  have hr:=xO.1 (Qk.1 hi).1
  obtain⟨n,rfl⟩:=Qw hr.1
  refine⟨hr.1,by omega,?_⟩
  rw[Ql]
  exact(h n (by omega)).1 (z0w.1 hi)
 ·rintro ⟨h0,h1,h2⟩
  obtain⟨n,rfl⟩:=Qw h0
  rw[Ql] at h2
  exact z0w.2 ((h n (by omega)).2 h2)
theorem zZc{s:List Int}(h:InL l f s)(x:zC): x∈zMA l s↔Out l f x:=by
 rw[zMA,(zGu zLi _).2,Qz]
 constructor
 ·rintro ⟨i,hi,hx⟩
  unfold zV3 at hx
  cases ha:zB l i with
  | none=>rw[ha] at hx;cases hx
  | some a =>
   rw[ha] at hx
   exact⟨i,a,(h.mem i).1 hi,ha,(Qa.1 hx).symm⟩
 ·rintro ⟨i,a,h1,ha,rfl⟩
  refine⟨i,(h.mem i).2 h1,?_⟩
  unfold zV3
  rw[ha]
  exact Qa.2 rfl
end
end
section
section
variable {b:zI}{l:List zF}{o:vQ}{acc:List zC}{f:Nat->Nat}
theorem z7j{l m:List zC}(h1:vX wQ l)(h2:vX wQ m)(h:∀ y,y∈l↔y∈m): l=m:=z8u h1 h2 h
theorem z8k (hS:z4B b l)(hf:CL l.length (zXF (yV b acc) l o) f){s:List Int}(hs:InL l f s):
  zDM (zMA l s)=some true∧zDz b (zMA l s)=some (zMA l s)∧(zMA l s).length≤40:=by
 obtain⟨D,c,hsm⟩:=hS.small
 have hv:=hsm.valid
 have hnr:=hv.nr
 have hc:=zJa hv
 have hq:∀ r∈b.2.1,r.2.2.2.1.length<1000000:=fun r hr=>by have:=zOV (hv.rule r hr);omega
 obtain⟨g1,g2⟩:=z5k hS o acc hf
 have hlen:=z4n l s
 have hl:=hs.len
 refine⟨?_,?_,by omega⟩
 ·rw[zR6 (by omega)]
  refine congrArg some ?_
  rw[zMM,QE]
  intro x hx
  rw[Bool.not_eq_true',QS]
  exact fun hx'=>g2 x ⟨(zZc hs x).1 hx,(zZc hs _).1 hx'⟩
 ·obtain⟨r,e2,c1,c2,_⟩:=Ok.SClosure hc hq (by omega) (xs:=zMA l s) (by omega)
  rw[e2]
  refine congrArg some (z7j c1 (z5A l s) fun y=>⟨fun hy=>?_,fun hy=>(c2 y).2 (yI.base hy)⟩)
  exact(zZc hs y).2 (g1 y (((c2 y).1 hy).sub fun z hz=>.inl ((zZc hs z).1 hz)))
end
theorem z8d{b:zI}{l:List zF}{e:Int}(hS:z4B b l): zN (zFr ords (b,e)) 0=some (.inl ()):=by
 obtain⟨D,c,hs⟩:=hS.small
 have hl:=hS.len
 refine zZj (l:=ords) (fun i o ho=>?_) (by unfold zFr;rfl)
 have hi:i<4:=vV ho
 unfold zFr
 simp only[qY ho,Qc,qM ho,zob]
 rw[zWZ hs hS.bld (z8n (qM ho)),zob,Qq (by simp)]
 have hG:=(zQg (b:=yV b (z9d b l o)) (l:=l) (by omega) o).2
 have hgr:(zXp b l o).2.2.2=((l.length:Int),zXF (yV b (z9d b l o)) l o):=rfl
 have hstep:∀ q:Nat,1≤q->q≤7->zFt (zXp b l o,0) (b,e) (i:Int) (q:Int)=some (.inl ((q+1:Nat):Int)):=fun q q1 q7=>by
  unfold zFt
  rw[Qu (QO (by omega))]
  rcases ext_all hG (q:Int) (by omega) (by omega) with⟨es,f1,f2,f3⟩ | f1
  ·have hcon:=zRd (c:=zXp b l o) (q:=(q:Int)) (es:=es) (by rw[hgr];exact f1) (by omega) (fun s hs'=>by
    obtain⟨lb,f,rfl,hn,hf,hin⟩:=f3 s hs'
    have:=zJO lb 1
    omega)
   rw[hcon,zob,Qq (by simp),Qq (by simp)]
   refine zZj (l:=es.map (zMA (zXp b l o).2.1)) (fun j x hj=>?_) (by unfold zIy;simp[len,vN q (by omega)])
   obtain⟨s,hs',rfl⟩:=Qj.1 (wF hj)
   obtain⟨lb,f,rfl,hn,hf,hin⟩:=f3 s hs'
   obtain⟨h1,h2,h3⟩:=z8k hS hf (z9Z (by omega) hn hin)
   have h1':zDM (zMA (zXp b l o).2.1 (yG lb 1))=some true:=h1
   have h2':zDz b (zMA (zXp b l o).2.1 (yG lb 1))=some (zMA (zXp b l o).2.1 (yG lb 1)):=h2
   have h3':(zMA (zXp b l o).2.1 (yG lb 1)).length≤40:=h3
   unfold zIy
   simp only[qY hj,Qc,qM hj,zob,h1',h2']
   rw[z9N _ _ (by omega),qR hj (by rw[Um];omega)]
   simp
  ·have hcon:zBg (zXp b l o) (q:Int)=some ([],2):=by
    unfold zBg
    rw[hgr,f1]
    rfl
   rw[hcon,zob,Qu (by decide),vN q (by omega)]
 rw[show(1:Int)=((1:Nat):Int) from rfl,zNX (hstep 1 (by omega) (by omega)),zNX (hstep 2 (by omega) (by omega)),zNX (hstep 3 (by omega) (by omega)),zNX (hstep 4 (by omega) (by omega)),zNX (hstep 5 (by omega) (by omega)),zNX (hstep 6 (by omega) (by omega)),zNX (hstep 7 (by omega) (by omega))]
 refine zRo ?_
 unfold zFt
 rw[Qq (by decide),vN i (by omega)]
theorem zUZ (hw:zDF=some true)(y0:List Int)(y1:zD): zGT y0 y1=some true:=by
 have key:Ok (zGT y0 y1) fun v=>v=true:=by
  unfold zGT
  rw[z9H,zob,zZr,zob]
  refine Ok.seqE (I:=fun o=>match o with | .inl t=>xH t | .inr _=>False) ?_ (fun t ht=>?_) (fun r hr=>hr.elim)
  ·refine Ok.bind (I:=fun s2:Bool×Int=>uB (y0.take 2000,s2.2)∧(s2.1=false->(zUv y1).2.2=0)) ?_ fun s2 h2=>?_
   ·refine Ok.ite (fun _=>Ok.ret ⟨zSd y0,fun h=>by cases h⟩) fun h0=>?_
    refine Ok.ite (fun _=>Ok.ret ⟨zSd y0,fun h=>by cases h⟩) fun _=>?_
    refine Ok.ite (fun _=>Ok.ret ⟨zSd y0,fun h=>by cases h⟩) fun _=>?_
    exact Ok.bind (Ok.N (zSd y0) (n:=4) (by omega) (by omega)) fun r3 h3=>Ok.ret ⟨h3.2.2,fun _=>by simpa using h0⟩
   ·refine Ok.ite (fun _=>?_) fun hf=>?_
    ·obtain⟨b,k,e1,hk,hd⟩:=z6L h2.1 (n:=3) (p:=4) (q:=4) (by omega) (by omega) (by omega) (by omega) (by omega) (by omega)
     dsimp only
     rw[e1,zob]
     have hV:=hd.valid
     have hfs:=z03 hV
     dsimp only
     rw[z7W (zJa hV),Qq (by rw[zI5.2 hV];simp),Qq (by omega),zob]
     dsimp only
     rw[zZr,z0n hV,zob,Qq (by simp)]
     exact Ok.ret hV
    ·cases hp:zUv y1 with
     | mk d rest =>
      obtain⟨n,e⟩:=rest
      have he:=h2.2 hf
      rw[hp] at he
      have he':e=0:=he
      subst he'
      exact Ok.ret (z3H hp).2.1
  ·have ht':xH t:=ht
   refine Ok.bind (Ok.STranspose ht') fun r7 h7=>?_
   obtain⟨b,e⟩:=r7
   obtain⟨hV,h7⟩:=h7
   have hV':xH b:=hV
   have hsm:zOg b [] 0:=⟨hV'⟩
   have h7':e=0∨e=2:=h7
   dsimp only
   rw[z1X hsm,zob]
   have hr8:(ansB (zPt b)).2=0∨(ansB (zPt b)).2=2:=by
    cases zPt b with
    | none=>exact .inr rfl
    | some x=>exact .inl rfl
   refine Ok.bind (I:=fun s3:Bool=>s3=false->∃ l,z4B b l) ?_ fun s3 h3=>?_
   ·refine Ok.ite (fun _=>Ok.ret fun h=>by cases h) fun _=>?_
    refine Ok.ite (fun _=>Ok.ret fun h=>by cases h) fun h8=>?_
    cases hb:zPt b with
    | none=>rw[hb] at h8;cases h8
    | some l =>
     refine Ok.bind (Ok.SSound hV') fun r9 h9=>?_
     refine Ok.ite (fun _=>Ok.ret fun h=>by cases h) fun h9'=>?_
     obtain⟨g1,g2⟩:=h9 (by simpa using h9')
     refine Ok.ret fun hlen=>⟨l,⟨⟨_,_,hsm⟩,g1,g2,hb,?_⟩⟩
     have:=of_decide_eq_false hlen
     simp only[ansB,len] at this
     omega
   ·refine Ok.ite (fun _=>?_) fun hf=>?_
    ·rw[hw]
     generalize (ansB (zPt b)).2=u at hr8
     rcases h7' with rfl | rfl <;> rcases hr8 with rfl | rfl <;> exact⟨true,rfl,rfl⟩
    ·obtain⟨l,hS⟩:=h3 hf
     rw[zYQ,zob,z8d hS,hw]
     exact⟨true,rfl,rfl⟩
 obtain⟨v,h1,h2⟩:=key
 rw[h1,h2]
end
section
def awkB:zI:=([((false,[112]),2,1,[]),((true,[112]),2,1,[]),((false,[120]),1,0,[])],[([97],false,1,[],(false,[113])),([98],false,1,[],(true,[113]))],[([98],2,(false,[120]))])
theorem z6T:xH awkB:=zI5.1 (by decide)
theorem z9E:tM awkB=[112,114,101,109,105,115,101,32,112,32,49,10,112,114,101,109,105,115,101,32,126,112,32,49,10,97,120,105,111,109,32,120,10,114,117,108,101,32,97,32,49,58,32,61,62,32,113,10,114,117,108,101,32,98,32,49,58,32,61,62,32,126,113,10,112,114,111,109,111,116,101,32,98,32,50,32,105,102,32,120,10]:=by decide
noncomputable def awkM:Option Bool:=(zDO awkB (1,1)).bind fun r2 =>
 (zD5 r2.1 1 true).bind fun r3 =>
 (zD5 r2.1 3 false).bind fun r4 =>
 (
   if r2.2==0 then
    if r3.2==0 then
     if(len r3.1)==2 then
      (zB r3.1 0).bind fun x1 =>
      if x1==(true,[113]) then
       if r4.2==0 then
        some ((len r4.1)==4)
       else
        some false
      else
       some false
     else
      some false
    else
     some false
   else
    some false:Option Bool).bind fun s1 =>
 some s1
noncomputable def w_awkM (n_:Nat): Tw awkM:=by
 delta awkM
 repeat with_reducible (first | intro _ | apply zVa n_ | apply zU3 n_ | apply ti | apply ts | apply tb | apply tl n_ | exact td _)
theorem z8s:awkM=some true:=(w_awkM 200).el (by kernel_rfl)
theorem z7X:zDF=some true:=by
 unfold zDF
 rw[zZr,←z9E,z0n z6T,zob]
 exact z8s
theorem zSp (y0:List Int)(y1:zD){W0 W1:Prop}(_w0:W0)(_w1:W1): zGT y0 y1=some true:=zUZ z7X y0 y1
end
end Go.GD
