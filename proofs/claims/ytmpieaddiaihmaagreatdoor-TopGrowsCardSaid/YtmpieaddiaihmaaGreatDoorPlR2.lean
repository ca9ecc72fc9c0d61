/- A part. Conditions: none. -/
import Derived.Test.YtmpieaddiaihmaaGreatDoorPlR1
namespace Go.GD
set_option autoImplicit false
set_option linter.unusedVariables false
section
section
variable {N:Nat}{L:List zT}
theorem pred_eq (h:wY N L)(i:Int): (L.filter fun p=>p.2==i).map (·.1)=yF N L i:=by
 apply vO.ext tM ?_ ((zNA N).filter _)
 ·intro x
  rw[Qm,Qr,tU,zY5]
  constructor
  ·rintro ⟨p,hp,rfl⟩
   obtain⟨h1,h2⟩:=Qr.1 hp
   have h3:p.2=i:=by simpa using h2
   obtain⟨a,b,h4,h5,h6⟩:=zMh (h.inr p h1)
   subst h6
   exact⟨⟨by show(0:Int)≤(a:Int);omega,by show(a:Int)<(N:Int);omega⟩,by rw[←h3];exact h1⟩
  ·rintro ⟨_,h1⟩
   exact⟨_,Qr.2 ⟨h1,by simp⟩,rfl⟩
 ·have h1:=h.asc.filter fun p:zT=>p.2==i
  rw[vO,UA]
  refine List.Pairwise.imp_of_mem ?_ h1
  intro p q hp hq hlt
  have h2:p.2=i:=by simpa using (Qr.1 hp).2
  have h3:q.2=i:=by simpa using (Qr.1 hq).2
  simp only[uJ,z6I,h2,h3,tM.irrefl,Bool.and_false,Bool.or_false] at hlt
  exact hlt
def qZ (N:Nat)(L:List zT)(f:Nat->Int)(j:Nat): Nat:=((yF N L (j:Int)).filter fun b=>!(f b.toNat==2)).length
theorem cnt_le (f:Nat->Int)(j:Nat): qZ N L f j≤N:=Qv (QF _ _) (zXL _)
theorem z4x{f:Nat->Int}{j:Nat}: qZ N L f j=0↔∀ b,b<N->vV L b j->f b=2:=by
 unfold qZ
 rw[List.length_eq_zero_iff,U4]
 constructor
 ·intro h b hb he
  have:=h (b:Int) (Qr.2 ⟨tU.2 ⟨by omega,by omega⟩,he⟩)
  simpa using this
 ·intro h x hx
  obtain⟨h1,h2⟩:=Qr.1 hx
  obtain⟨h3,h4⟩:=tU.1 h1
  obtain⟨a,rfl⟩:=Qz h3
  simp[h a (by omega) h2]
theorem zVU{α:Type}[DecidableEq α]{p q:α->Bool}{x:α}: ∀ {l:List α},l.Nodup->x∈l->p x=true->q x=false->(∀ y∈l,y≠x->p y=q y)->(l.filter p).length=(l.filter q).length+1
 | [],_,hx,_,_,_=>by cases hx
 | y::l,hn,hx,h1,h2,h3=>by
  obtain⟨hy,hl⟩:=U5.1 hn
  by_cases he:y=x
  ·subst he
   have:l.filter p=l.filter q:=UT fun z hz=>h3 z (Ql _ hz) fun e=>by subst e;exact hy hz
   simp[h1,h2,this]
  ·have hm:x∈l:=by
    rcases QB.1 hx with h | h
    ·exact absurd h.symm he
    ·exact h
   have ih:=zVU hl hm h1 h2 fun z hz=>h3 z (Ql _ hz)
   have hpq:=h3 y Qx he
   cases hq:q y with
   | true=>simp[hpq,hq,ih]
   | false=>simp[hpq,hq,ih]
theorem cnt_out{f:Nat->Int}{a:Nat}(ha:a<N)(h3:f a=3)(j:Nat):
  qZ N L f j=qZ N L (fun b=>if b=a then 2 else f b) j+(if ed L (a:Int) (j:Int)=true then 1 else 0):=by
 unfold qZ
 by_cases he:ed L (a:Int) (j:Int)=true
 ·rw[Qp he]
  refine zVU (x:=(a:Int)) ?_ (Qr.2 ⟨tU.2 ⟨by omega,by omega⟩,he⟩) (by simp[h3]) (by simp) ?_
  ·exact((zNA N).filter _).imp fun {x y} hh e=>by subst e;simp at hh
  ·intro y hy hne
   obtain⟨h1,h2⟩:=Qr.1 hy
   obtain⟨h4,h5⟩:=tU.1 h1
   obtain⟨b,rfl⟩:=Qz h4
   have h6:b≠a:=fun e=>hne (by rw[e])
   simp[h6]
 ·rw[Qo he,QM]
  congr 1
  apply UT
  intro x hx
  obtain⟨h1,h2⟩:=Qr.1 hx
  obtain⟨h4,h5⟩:=tU.1 h1
  obtain⟨b,rfl⟩:=Qz h4
  have hne:b≠a:=fun e=>by subst e;exact he h2
  simp[hne]
theorem zXG{k b:Nat}: z1M N L k b=2↔qP N L k b=2:=by
 unfold z1M
 by_cases h:tF N L k b
 ·have:=now3 N L h
  simp[h,this]
 ·rw[Qo h]
theorem zXn{f f':Nat->Int}(h:∀ b,b<N->(f b=2↔f' b=2))(j:Nat): qZ N L f j=qZ N L f' j:=by
 unfold qZ
 congr 1
 apply UT
 intro x hx
 obtain⟨h4,h5⟩:=tU.1 (Qr.1 hx).1
 obtain⟨b,rfl⟩:=Qz h4
 have h1:=h b (by omega)
 rw[Qi,QU]
 simp[h1]
theorem zYV (h:wY N L){k j:Nat}(hj:j<N): (qP N L k j=3∧qZ N L (qP N L k) j=0)↔tF N L k j:=by
 rw[z4x,z71 N L hj h.hR]
structure Nxt (N:Nat)(L:List zT)(f:Nat->Int)(nx:List Int): Prop where
 nd:nx.Nodup
 rg:∀ x∈nx,0≤x∧x<N
 mem:∀ j:Nat,(j:Int)∈nx↔j<N∧f j=3∧qZ N L f j=0
theorem z7u{nx:List Int}(h1:nx.Nodup)(h2:∀ x∈nx,0≤x∧x<(N:Int)): nx.length≤N:=by
 have:=zYl (m:=wI N) h1 fun x hx=>tU.2 (h2 x hx)
 rwa [zGB] at this
theorem z33{i:Int}{q:Nat}{x:Int}(h:(zN4 N L i)[q]?=some x): ∃ a:Nat,x=(a:Int)∧a<N∧ed L i (a:Int)=true:=by
 obtain⟨h1,h2⟩:=Qr.1 (vZ h)
 obtain⟨h3,h4⟩:=tU.1 h1
 obtain⟨a,rfl⟩:=Qz h3
 exact⟨a,rfl,by omega,h2⟩
theorem z56 (i:Int): (zN4 N L i).Nodup:=((zNA N).filter _).imp fun {x y} hh e=>by subst e;simp at hh
theorem z0y{i:Int}{j:Nat}(hj:j<N): (j:Int)∈zN4 N L i↔ed L i (j:Int)=true:=by
 rw[Qr,tU]
 exact⟨fun h=>h.2,fun h=>⟨⟨by omega,by omega⟩,h⟩⟩
theorem z9g{α:Type}{l:List α}(hn:l.Nodup){i:Nat}{x:α}(hx:l[i]?=some x): x∉l.take i:=by
 intro hm
 obtain⟨j,hj⟩:=List.getElem?_of_mem hm
 rw[Q1] at hj
 split at hj
 ·rename_i hji
  obtain⟨h1,h2⟩:=Qf.1 hj
  obtain⟨h3,h4⟩:=Qf.1 hx
  have:=(List.getElem_inj hn).1 (h2.trans h4.symm)
  omega
 ·cases hj
theorem grp_L7 (h:wY N L){f:Nat->Int}(l2:List Int){a:Nat}(ha:a<N)(h3:f a=3)(hca:qZ N L f a≠0)(q:Int)(s6:List Int×List Int×List Int×Int×List Int){nx:List Int}(hnx:Nxt N L f nx)(hq:0≤q∧q<1000):
  ∃ nx',Nxt N L (fun b=>if b=a then 2 else f b) nx' ∧
   zO (zEN (zN4 N L (a:Int)) (zV N f,l2,nx,q,zV 40 fun j=>(qZ N L f j:Int)) (a:Int) s6) (nx,0,zV 40 fun j=>(qZ N L f j:Int)) =
    some (.inl (zV N (fun b=>if b=a then 2 else f b),List.set l2 a s6.2.2.2.1,nx',q+1,zV 40 fun j=>(qZ N L (fun b=>if b=a then 2 else f b) j:Int))):=by
 have hN:=h.hN
 let f':Nat->Int:=fun b=>if b=a then 2 else f b
 let o (t j:Nat):Nat:=qZ N L f' j+if ed L (a:Int) (j:Int)=true∧(j:Int)∉(zN4 N L (a:Int)).take t then 1 else 0
 have ho0:∀ j,o 0 j=qZ N L f j:=fun j=>by
  show qZ N L f' j+_=_
  rw[cnt_out ha h3 j]
  simp[f']
 have hsl:=z0f (N:=N) (L:=L) (a:Int)
 have hl:=uU (B:=zEN (zN4 N L (a:Int)) (zV N f,l2,nx,q,zV 40 fun j=>(qZ N L f j:Int)) (a:Int) s6) (fun t (s:List Int×List Int)=>(s.1,(t:Int),s.2)) (zN4 N L (a:Int))
  (fun t s=>s.2=zV 40 (fun j=>(o t j:Int))∧s.1.Nodup∧(∀ x∈s.1,0≤x∧x<(N:Int))∧∀ j:Nat,(j:Int)∈s.1↔j<N∧f' j=3∧o t j=0)
  (fun r=>∃ nx',Nxt N L f' nx'∧r=.inl (zV N f',List.set l2 a s6.2.2.2.1,nx',q+1,zV 40 fun j=>(qZ N L f' j:Int))) ?_ ?_ (nx,zV 40 fun j=>(qZ N L f j:Int)) ?_
 ·obtain⟨r,h1,nx',h2,rfl⟩:=hl
  exact⟨nx',h2,h1⟩
 ·rintro t x ⟨n1,op⟩ hx ⟨hop,hnd,hrg,hmem⟩
  simp only at hop hnd hrg hmem
  subst hop
  obtain⟨j0,rfl,hj0,he⟩:=z33 hx
  have hnot:=z9g (z56 (N:=N) (L:=L) (a:Int)) hx
  have hn1:=z7u hnd hrg
  have ho1:o t j0=qZ N L f' j0+1:=by
   show qZ N L f' j0+_=_
   rw[Qp ⟨he,hnot⟩]
  have ho2:o (t+1) j0=qZ N L f' j0:=by
   show qZ N L f' j0+_=_
   rw[Qo (fun hh=>hh.2 (by rw[uO hx];simp)),QM]
  have ho3:∀ j,j≠j0->o (t+1) j=o t j:=fun j hj=>by
   show qZ N L f' j+_=qZ N L f' j+_
   congr 1
   have:(j:Int)∉(zN4 N L (a:Int)).take (t+1)↔(j:Int)∉(zN4 N L (a:Int)).take t:=by
    rw[uO hx,Qb,Qa]
    have:¬ (j:Int)=(j0:Int):=by omega
    simp[this]
   simp only[this]
  have hc0:=cnt_le (N:=N) (L:=L) f' j0
  have hnew:tG 40 (zV 40 fun j=>(o t j:Int)) (j0:Int) (zF ((uB (zV 40 fun j=>(o t j:Int)) (j0:Int))-1))=zV 40 fun j=>(o (t+1) j:Int):=by
   rw[zUm _ _ (by omega),z2Y _ _ (by omega),uC (by omega) (by omega)]
   apply tW
   intro j _
   by_cases hj:j=j0
   ·subst hj;rw[Qp rfl,ho1,ho2];omega
   ·rw[Qo hj,ho3 j hj]
  have hset:List.set (zV N f) (Int.toNat (a:Int)) 2=zV N f':=by rw[Qi,zPf]
  unfold zEN
  simp only[wX hx,Qe,qX hx,zob,z8D (show(40:Int)=((40:Nat):Int) from rfl) (show j0<40 by omega),hnew,zUm 40 (fun j=>(o (t+1) j:Int)) (show j0<40 by omega),hset,zG0 f' hj0,wA hx (show(zN4 N L (a:Int)).length<4294967296 by omega),ho2]
  cases hz:(((qZ N L f' j0:Nat):Int)==0)&&(f' j0==3) with
  | true =>
   rw[Qw,Q9,Q9] at hz
   have hnin:(j0:Int)∉n1:=fun hm=>by have:=((hmem j0).1 hm).2.2;omega
   refine .inl ⟨(n1++[(j0:Int)],zV 40 fun j=>(o (t+1) j:Int)),?_,rfl,?_,?_,?_⟩
   ·simp only[hz.1,hz.2,Q7,Qe,zob]
    rw[wZ (by simp;omega)]
    rfl
   ·rw[QT]
    exact⟨hnd,by simp,fun x hx y hy e=>by rw[Qa] at hy;subst hy;subst e;exact hnin hx⟩
   ·intro x hx
    rcases Qb.1 hx with hx | hx
    ·exact hrg x hx
    ·rw[Qa] at hx;subst hx;omega
   ·intro j
    rw[Qb,Qa]
    by_cases hj:j=j0
    ·subst hj
     exact⟨fun _=>⟨hj0,hz.2,by rw[ho2];omega⟩,fun _=>.inr rfl⟩
    ·rw[ho3 j hj,hmem j]
     exact⟨fun hh=>hh.elim id fun e=>absurd (by omega) hj,.inl⟩
  | false =>
   refine .inl ⟨(n1,zV 40 fun j=>(o (t+1) j:Int)),?_,rfl,hnd,hrg,?_⟩
   ·cases h1:(((qZ N L f' j0:Nat):Int)==0) with
    | false=>simp only[zbf,Qc,zob]
    | true =>
     rw[h1,Ug] at hz
     simp only[Qe,zob,hz,zbf,Qc]
   ·intro j
    by_cases hj:j=j0
    ·subst hj
     rw[hmem j,ho1,ho2]
     constructor
     ·rintro ⟨_,_,h0⟩;omega
     ·rintro ⟨_,h1,h0⟩
      rw[h0,h1] at hz
      simp at hz
    ·rw[ho3 j hj,hmem j]
 ·rintro ⟨n1,op⟩ ⟨hop,hnd,hrg,hmem⟩
  simp only at hop hnd hrg hmem
  subst hop
  have hoe:∀ j,j<40->o (zN4 N L (a:Int)).length j=qZ N L f' j:=fun j _=>by
   show qZ N L f' j+_=_
   rw[QC,Qo]
   ·rfl
   ·rintro ⟨h1,h2⟩
    obtain⟨x,y,_,h4,_,h6⟩:=h.inN _ _ h1
    exact h2 ((z0y (by omega)).2 h1)
  refine⟨_,?_,n1,⟨hnd,hrg,fun j=>?_⟩,rfl⟩
  ·unfold zEN
   have hset:List.set (zV N f) a 2=zV N f':=zPf f 2
   have hm:(zV 40 fun j=>(o (zN4 N L (a:Int)).length j:Int))=zV 40 fun j=>(qZ N L f' j:Int):=tW fun j hj=>by rw[hoe j hj]
   simp only[uV,zbf,Qc,Qi,hset,hm]
   rw[uC (by omega) (by omega)]
  ·rw[hmem j]
   constructor
   ·rintro ⟨h1,h2,h4⟩;exact⟨h1,h2,by rw[hoe j (by omega)] at h4;exact h4⟩
   ·rintro ⟨h1,h2,h4⟩;exact⟨h1,h2,by rw[hoe j (by omega)];exact h4⟩
 ·refine⟨?_,hnx.nd,hnx.rg,fun j=>?_⟩
  ·show(zV 40 fun j=>(qZ N L f j:Int))=_
   exact tW fun j _=>by rw[ho0]
  ·show(j:Int)∈nx↔_
   rw[hnx.mem j,ho0]
   show _↔j<N∧(if j=a then 2 else f j)=3∧qZ N L f j=0
   by_cases hj:j=a
   ·subst hj
    rw[Qp rfl]
    exact⟨fun hh=>absurd hh.2.2 hca,fun hh=>absurd hh.2.2 hca⟩
   ·rw[Qo hj]
structure Mid (N:Nat)(L:List zT)(k:Nat)(f g:Nat->Int)(nx:List Int): Prop where
 v:∀ j,j<N->f j=1∨f j=2∨f j=3
 one:∀ j,j<N->(f j=1↔qP N L (k+1) j=1)
 two:∀ j,j<N->f j=2->qP N L (k+1) j=2
 old:∀ j,j<N->qP N L k j=2->f j=2
 rk:∀ j,j<N->g j=if f j=qP N L k j then xB N L k j else((k+1:Nat):Int)
 nx:Nxt N L f nx
theorem grp_L6 (h:wY N L){k:Nat}(hk:k≤100){i:Nat}(hi:tF N L k i)(s6:List Int×List Int×List Int×Int×List Int)(hs6:s6.2.2.2.1=((k+1:Nat):Int))(D:Nat->Prop)
  {f g:Nat->Int} {nx:List Int} (hM:Mid N L k f g nx) (hD:∀ j,D j->f j≠3) (q:Nat) (hq:q<1000) (z1 z2 z3 z5:List Int) :
  ∃ f' g' nx',Mid N L k f' g' nx'∧(∀ j,j<N->D j∨vV L i j->f' j≠3) ∧
   zO (zBm (zN4 N L (i:Int)) ((N:Int),L) s6 (z1,z2,z3,(q:Int),z5)) (zV N f,zV N g,nx,0,zV 40 fun j=>(qZ N L f j:Int)) =
    some (.inl (zV N f',zV N g',nx',((q+1:Nat):Int),zV 40 fun j=>(qZ N L f' j:Int))):=by
 have hN:=h.hN
 have hsl:=z0f (N:=N) (L:=L) (i:Int)
 have hl:=uU (B:=zBm (zN4 N L (i:Int)) ((N:Int),L) s6 (z1,z2,z3,(q:Int),z5)) (fun t (s:List Int×List Int×List Int×List Int)=>(s.1,s.2.1,s.2.2.1,(t:Int),s.2.2.2)) (zN4 N L (i:Int))
  (fun t s=>∃ f' g' nx',Mid N L k f' g' nx'∧(∀ j,j<N->D j∨(j:Int)∈(zN4 N L (i:Int)).take t->f' j≠3)∧s=(zV N f',zV N g',nx',zV 40 fun j=>(qZ N L f' j:Int)))
  (fun r=>∃ f' g' nx',Mid N L k f' g' nx'∧(∀ j,j<N->D j∨vV L i j->f' j≠3)∧r=.inl (zV N f',zV N g',nx',((q+1:Nat):Int),zV 40 fun j=>(qZ N L f' j:Int))) ?_ ?_ (zV N f,zV N g,nx,zV 40 fun j=>(qZ N L f j:Int)) ⟨f,g,nx,hM,fun j _ hj=>by simp at hj;exact hD j hj,rfl⟩
 ·obtain⟨r,h1,f',g',nx',h2,h3,rfl⟩:=hl
  exact⟨f',g',nx',h2,h3,h1⟩
 ·rintro t x _ hx ⟨f',g',nx',hM',hD',rfl⟩
  obtain⟨a,rfl,ha,he⟩:=z33 hx
  by_cases h3:f' a=3
  ·have hb:(f' a != 3)=false:=by simp[h3]
   have hfi:f' i=1:=(hM'.one i (z2h (D:=(· < N)) hi.1)).2 ((z07 N L).2 hi.1)
   have hca:qZ N L f' a≠0:=fun h0=>by have:=z4x.1 h0 i (z2h (D:=(· < N)) hi.1) he;omega
   have ht:t<1000:=by have:=yM hx;omega
   obtain⟨n2,hn2,h7⟩:=grp_L7 h (zV N g') ha h3 hca (t:Int) s6 hM'.nx ⟨by omega,by omega⟩
   have hla:qP N L k a≠2:=fun e=>by have:=hM'.old a ha e;omega
   refine .inl ⟨(zV N (fun b=>if b=a then 2 else f' b),zV N (fun b=>if b=a then((k+1:Nat):Int) else g' b),n2,zV 40 fun j=>(qZ N L (fun b=>if b=a then 2 else f' b) j:Int)),?_,_,_,n2,⟨?_,?_,?_,?_,?_,hn2⟩,?_,rfl⟩
   ·unfold zBm
    simp only[wX hx,Qe,qX hx,zob,zG0 _ ha,hb,zbf,Qc,zL4 h]
    rw[h7,hs6,zPf]
    rfl
   ·intro j hj
    by_cases e:j=a
    ·simp[e]
    ·simpa [e] using hM'.v j hj
   ·intro j hj
    by_cases e:j=a
    ·subst e
     have h1:=hM'.one j hj
     rw[h3] at h1
     simp only[Qe]
     constructor
     ·intro h2;cases h2
     ·intro h2;have:=h1.2 h2;omega
    ·simpa [e] using hM'.one j hj
   ·intro j hj
    by_cases e:j=a
    ·subst e
     intro _
     exact(zU2 N L).2 ⟨i,hi.1,he⟩
    ·simpa [e] using hM'.two j hj
   ·intro j hj hj2
    by_cases e:j=a
    ·subst e;exact absurd hj2 hla
    ·simpa [e] using hM'.old j hj hj2
   ·intro j hj
    by_cases e:j=a
    ·subst e
     rw[Qp rfl,Qp rfl,Qo (fun e2=>hla e2.symm)]
    ·simpa [e] using hM'.rk j hj
   ·intro j hj hjd
    by_cases e:j=a
    ·simp[e]
    ·simp only[e,Qc]
     refine hD' j hj (hjd.imp id fun hm=>?_)
     rw[uO hx,Qb,Qa] at hm
     exact hm.resolve_right (by omega)
  ·have hb:(f' a != 3)=true:=by simp[h3]
   refine .inl ⟨(zV N f',zV N g',nx',zV 40 fun j=>(qZ N L f' j:Int)),?_,f',g',nx',hM',?_,rfl⟩
   ·unfold zBm
    simp only[wX hx,Qe,qX hx,zob,zG0 _ ha,hb,wA hx (show(zN4 N L (i:Int)).length<4294967296 by omega)]
   ·intro j hj hjd
    by_cases e:j=a
    ·subst e;exact h3
    ·refine hD' j hj (hjd.imp id fun hm=>?_)
     rw[uO hx,Qb,Qa] at hm
     exact hm.resolve_right (by omega)
 ·rintro _ ⟨f',g',nx',hM',hD',rfl⟩
  refine⟨_,?_,f',g',nx',hM',fun j hj hjd=>hD' j hj (hjd.imp id fun he=>?_),rfl⟩
  ·unfold zBm
   simp only[uV,zbf,Qc,yT q (by omega)]
  ·rw[QC]
   exact(z0y hj).2 he
structure zRP (N:Nat)(L:List zT)(k:Nat)(Q:List Int): Prop where
 nd:Q.Nodup
 rg:∀ x∈Q,0≤x∧x<N
 mem:∀ j:Nat,(j:Int)∈Q↔tF N L k j
theorem z7a (h:wY N L)(k:Nat): Mid N L k (z1M N L k) (rnk' N L k) []:=by
 have h1:∀ j,z1M N L k j=1↔qP N L (k+1) j=1:=fun j=>by
  rw[z07 N L]
  unfold z1M
  by_cases hn:tF N L k j
  ·simp[hn,hn.1]
  ·rw[Qo hn,z07 N L]
   exact⟨fun hg=>zP1 hg,fun hg=>Classical.byContradiction fun hc=>hn ⟨hg,hc⟩⟩
 refine⟨fun j _=>?_,fun j _=>h1 j,fun j _ h2=>z14 N L (zXG.1 h2),fun j _ h2=>zXG.2 h2,fun j _=>?_,⟨List.nodup_nil,(fun x hx=>by cases hx),fun j=>?_⟩⟩
 ·unfold z1M
  by_cases hn:tF N L k j
  ·simp[hn]
  ·rw[Qo hn];exact zMH N L k j
 ·unfold z1M rnk'
  by_cases hn:tF N L k j
  ·have:=now3 N L hn
   simp[hn,this]
  ·simp[hn]
 ·constructor
  ·intro hm;cases hm
  ·rintro ⟨hj,h3,h0⟩
   exfalso
   have hc:qZ N L (z1M N L k) j=qZ N L (qP N L k) j:=zXn (fun b _=>zXG) j
   rw[hc] at h0
   by_cases hn:tF N L k j
   ·unfold z1M at h3;rw[Qp hn] at h3;cases h3
   ·unfold z1M at h3;rw[Qo hn] at h3
    exact hn ((zYV h hj).1 ⟨h3,h0⟩)
theorem grp_L5 (h:wY N L){k:Nat}(hk:k≤100){Q:List Int}(hQ:zRP N L k Q)(z1 z2 z5:List Int):
  ∃ Q',zRP N L (k+1) Q'∧zO (zC3 (z1,z2,Q,((k+1:Nat):Int),z5) ((N:Int),L)) (zV N (z1M N L k),zV N (rnk' N L k),([]:List Int),0,zV 40 fun j=>(qZ N L (qP N L k) j:Int)) =
   some (.inl (lb N L (k+1),rn N L (k+1),Q',((k+2:Nat):Int),zV 40 fun j=>(qZ N L (qP N L (k+1)) j:Int))):=by
 have hN:=h.hN
 have hql:=z7u hQ.nd hQ.rg
 have hl:=uU (B:=zC3 (z1,z2,Q,((k+1:Nat):Int),z5) ((N:Int),L)) (fun t (s:List Int×List Int×List Int×List Int)=>(s.1,s.2.1,s.2.2.1,(t:Int),s.2.2.2)) Q
  (fun t s=>∃ f' g' nx',Mid N L k f' g' nx'∧(∀ j,j<N->(∃ i:Nat,(i:Int)∈Q.take t∧vV L i j)->f' j≠3)∧s=(zV N f',zV N g',nx',zV 40 fun j=>(qZ N L f' j:Int)))
  (fun r=>∃ Q',zRP N L (k+1) Q'∧r=.inl (lb N L (k+1),rn N L (k+1),Q',((k+2:Nat):Int),zV 40 fun j=>(qZ N L (qP N L (k+1)) j:Int))) ?_ ?_ (zV N (z1M N L k),zV N (rnk' N L k),[],zV 40 fun j=>(qZ N L (qP N L k) j:Int)) ?_
 ·obtain⟨r,h1,Q',h2,rfl⟩:=hl
  exact⟨Q',h2,h1⟩
 ·rintro t x _ hx ⟨f',g',nx',hM,hD,rfl⟩
  have ht:=yM hx
  obtain⟨h0,h1⟩:=hQ.rg x (vZ hx)
  obtain⟨i,rfl⟩:=Qz h0
  have hi:=(hQ.mem i).1 (vZ hx)
  obtain⟨f2,g2,n2,hM2,hD2,h6⟩:=grp_L6 h hk hi (z1,z2,Q,((k+1:Nat):Int),z5) rfl (fun j=>j<N∧∃ i:Nat,(i:Int)∈Q.take t∧vV L i j) hM (fun j hj=>hD j hj.1 hj.2) t (by omega) (zV N f') (zV N g') nx' (zV 40 fun j=>(qZ N L f' j:Int))
  refine .inl ⟨(zV N f2,zV N g2,n2,zV 40 fun j=>(qZ N L f2 j:Int)),?_,f2,g2,n2,hM2,?_,rfl⟩
  ·unfold zC3
   simp only[wX hx,Qe,qX hx,zob,zL4 h]
   rw[h6]
  ·rintro j hj ⟨i',hi',he⟩
   rw[uO hx,Qb,Qa] at hi'
   rcases hi' with hi' | hi'
   ·exact hD2 j hj (.inl ⟨hj,i',hi',he⟩)
   ·have:i'=i:=by omega
    subst this
    exact hD2 j hj (.inr he)
 ·rintro _ ⟨f',g',nx',hM,hD,rfl⟩
  rw[QC] at hD
  have hf:∀ j,j<N->f' j=qP N L (k+1) j:=fun j hj=>by
   rcases hM.v j hj with h1 | h1 | h1
   ·rw[h1,(hM.one j hj).1 h1]
   ·rw[h1,hM.two j hj h1]
   ·rcases zMH N L (k+1) j with h2 | h2 | h2
    ·have:=(hM.one j hj).2 h2;omega
    ·exfalso
     rw[z8z] at h2
     by_cases hn:tF N L k j
     ·rw[Qp hn] at h2;cases h2
     ·rw[Qo hn] at h2
      by_cases hc:qP N L k j=3∧att (vV L) (tF N L k) j
      ·obtain⟨m,h4,h5⟩:=hc.2
       exact hD j hj ⟨m,(hQ.mem m).2 h4,h5⟩ h1
      ·rw[Qo hc] at h2
       have:=hM.old j hj h2;omega
    ·rw[h1,h2]
  have hg:∀ j,j<N->g' j=xB N L (k+1) j:=fun j hj=>by
   rw[hM.rk j hj,hf j hj,xB]
  have hc:∀ j,qZ N L f' j=qZ N L (qP N L (k+1)) j:=zXn fun b hb=>by rw[hf b hb]
  refine⟨_,?_,nx',⟨hM.nx.nd,hM.nx.rg,fun j=>?_⟩,rfl⟩
  ·unfold zC3
   have e1:zV N f'=lb N L (k+1):=tW hf
   have e2:zV N g'=rn N L (k+1):=tW hg
   have e3:(zV 40 fun j=>(qZ N L f' j:Int))=zV 40 fun j=>(qZ N L (qP N L (k+1)) j:Int):=tW fun j _=>by rw[hc]
   simp only[uV,zbf,Qc,e1,e2,e3,yT (k+1) (show k+1+1<9223372036854775808 by omega)]
  ·rw[hM.nx.mem j,hc j]
   constructor
   ·rintro ⟨h1,h2,h3⟩;rw[hf j h1] at h2;exact(zYV h h1).1 ⟨h2,h3⟩
   ·intro hn
    have h1:j<N:=z2h (D:=(· < N)) hn.1
    obtain⟨h2,h3⟩:=(zYV h h1).2 hn
    exact⟨h1,by rw[hf j h1];exact h2,h3⟩
 ·refine⟨z1M N L k,rnk' N L k,[],z7a h k,fun j _ hj=>by obtain⟨i,hi,_⟩:=hj;simp at hi,?_⟩
  have:(zV 40 fun j=>(qZ N L (qP N L k) j:Int))=zV 40 fun j=>(qZ N L (z1M N L k) j:Int):=tW fun j _=>by rw[zXn fun b _=>zXG]
  rw[this]
open Classical in
theorem grp_L4 (h:wY N L){k:Nat}{Q:List Int}(hQ:zRP N L k Q)(z1 z2 z5:List Int):
  zO (zEM (z1,z2,Q,((k+1:Nat):Int),z5)) (lb N L k,rn N L k,0)=some (zV N (z1M N L k),zV N (rnk' N L k)):=by
 have hN:=h.hN
 have hql:=z7u hQ.nd hQ.rg
 have hl:=uU (B:=zEM (z1,z2,Q,((k+1:Nat):Int),z5)) (fun t (s:List Int×List Int)=>(s.1,s.2,(t:Int))) Q
  (fun t s=>s=(zV N (fun j=>if(j:Int)∈Q.take t then 1 else qP N L k j),zV N (fun j=>if(j:Int)∈Q.take t then((k+1:Nat):Int) else xB N L k j)))
  (fun r=>r=(zV N (z1M N L k),zV N (rnk' N L k))) ?_ ?_ (lb N L k,rn N L k) (by simp)
 ·obtain⟨r,h1,rfl⟩:=hl
  exact h1
 ·rintro t x _ hx rfl
  obtain⟨h0,h1⟩:=hQ.rg x (vZ hx)
  obtain⟨i,rfl⟩:=Qz h0
  refine .inl ⟨_,?_,rfl⟩
  unfold zEM
  simp only[wX hx,Qe,qX hx,zob,zG0 _ (show i<N by omega),Qi,zPf,wA hx (show Q.length<4294967296 by omega)]
  congr 3
  ·apply tW
   intro j _
   rw[uO hx]
   by_cases e:j=i
   ·subst e;simp
   ·have:¬ (j:Int)=(i:Int):=by omega
    simp[e,this]
  ·congr 1
   apply tW
   intro j _
   rw[uO hx]
   by_cases e:j=i
   ·subst e;simp
   ·have:¬ (j:Int)=(i:Int):=by omega
    simp[e,this]
 ·rintro _ rfl
  rw[QC]
  refine⟨_,?_,rfl⟩
  unfold zEM
  simp only[uV,zbf,Qc]
  have e1:(zV N fun j=>if(j:Int)∈Q then 1 else qP N L k j)=zV N (z1M N L k):=tW fun j _=>by simp only[hQ.mem j];rfl
  have e2:(zV N fun j=>if(j:Int)∈Q then((k+1:Nat):Int) else xB N L k j)=zV N (rnk' N L k):=tW fun j _=>by simp only[hQ.mem j];rfl
  rw[e1,e2]
theorem grp_L1 (h:wY N L): zO (zED ((N:Int),L)) (0,List.replicate 40 (0:Int))=some (zV 40 fun j=>(qZ N L (qP N L 0) j:Int)):=by
 have hN:=h.hN
 have hL:=h.len
 have hl:=uU (B:=zED ((N:Int),L)) (fun t (s:List Int)=>((t:Int),s)) L
  (fun t s=>s=zV 40 fun j=>(((L.take t).filter fun p=>p.2==(j:Int)).length:Int)) (fun r=>r=zV 40 fun j=>(qZ N L (qP N L 0) j:Int)) ?_ ?_ (List.replicate 40 (0:Int)) (by rw[z9C];simp)
 ·obtain⟨r,h1,rfl⟩:=hl
  exact h1
 ·rintro t p _ hp rfl
  obtain⟨a,b,ha,hb,rfl⟩:=zMh (h.inr p (vZ hp))
  have hle:((L.take t).filter fun p=>p.2==(b:Int)).length≤1600:=Qv (QF _ _) (Qv (List.length_take_le _ _) (by have:=yM hp;omega))
  refine .inl ⟨_,?_,rfl⟩
  unfold zED
  simp only[wX hp,Qe,qX hp,zob,z8D (show(40:Int)=((40:Nat):Int) from rfl) (show b<40 by omega),wA hp h.len',zUm 40 _ (show b<40 by omega),z2Y 40 _ (show b<40 by omega)]
  congr 3
  apply tW
  intro j _
  rw[uO hp,Uc,Qh]
  by_cases e:j=b
  ·subst e
   rw[Qp rfl,uC (by omega) (by omega)]
   simp
  ·have:¬ (b:Int)=(j:Int):=by omega
   simp[e,this]
 ·rintro _ rfl
  rw[QC]
  refine⟨_,?_,rfl⟩
  unfold zED
  have e1:(zV 40 fun j=>((L.filter fun p=>p.2==(j:Int)).length:Int))=zV 40 fun j=>(qZ N L (qP N L 0) j:Int):=tW fun j _=>by
   have h1:(L.filter fun p=>p.2==(j:Int)).length=(yF N L (j:Int)).length:=by rw[←pred_eq h,Ud]
   rw[h1]
   unfold qZ
   rw[UY.2]
   intro x hx
   obtain⟨q,hq⟩:=List.getElem?_of_mem hx
   obtain⟨a,rfl,ha,_⟩:=zXv hq
   have:qP N L 0 a=3:=by
    have:=congrArg (fun l:List Int=>l[a]?) (z3O (N:=N) (L:=L))
    simpa [zMl,ha] using this
   simp[this]
  simp only[uV,zbf,Qc,e1]
theorem grp_L2 (h:wY N L): ∃ Q,zRP N L 0 Q∧zO (zEW ((N:Int),L) (zV 40 fun j=>(qZ N L (qP N L 0) j:Int))) (([]:List Int),0)=some Q:=by
 have hN:=h.hN
 refine⟨(wI N).filter fun j=>qZ N L (qP N L 0) j.toNat==0,⟨((zNA N).filter _).imp fun {x y} hh e=>by subst e;simp at hh,fun x hx=>tU.1 (Qr.1 hx).1,fun j=>?_⟩,?_⟩
 ·rw[Qr,tU,Qi,Q9]
  have h0:∀ j,j<N->qP N L 0 j=3:=fun j hj=>by
   have:=congrArg (fun l:List Int=>l[j]?) (z3O (N:=N) (L:=L))
   simpa [zMl,hj] using this
  constructor
  ·rintro ⟨h1,h2⟩
   exact(zYV h (show j<N by omega)).1 ⟨h0 j (by omega),h2⟩
  ·intro hn
   have hj:j<N:=z2h (D:=(· < N)) hn.1
   exact⟨⟨by omega,by omega⟩,((zYV h hj).2 hn).2⟩
 ·have hl:=zFv (B:=zEW ((N:Int),L) (zV 40 fun j=>(qZ N L (qP N L 0) j:Int))) (wI N) (fun s j=>if(qZ N L (qP N L 0) j.toNat==0) then s++[j] else s) id (fun i s=>s.length≤i) ([]:List Int) (by simp) ?_ ?_
  ·have h2:=zLv (fun j:Int=>qZ N L (qP N L 0) j.toNat==0) id (wI N) []
   simp only[id,List.map_id,QI] at h2
   rw[hl.1,h2];rfl
  ·intro i x s hx hI
   obtain⟨rfl,hi⟩:=zUp hx
   unfold zEW
   have hd:decide ((i:Int)<(N:Int))=true:=QJ (by omega)
   simp only[hd,Qe,z8D (show(40:Int)=((40:Nat):Int) from rfl) (show i<40 by omega),zob,zUm 40 _ (show i<40 by omega),yT i (by omega),Qi]
   have hz:(((qZ N L (qP N L 0) i:Nat):Int)==0)=(qZ N L (qP N L 0) i==0):=by rw[QU,Q9,Q9];omega
   rw[hz]
   by_cases hc:(qZ N L (qP N L 0) i==0)=true
   ·rw[Qp hc,Qp hc,wZ (by simp;omega)]
    exact⟨rfl,by simp;omega⟩
   ·rw[Qo hc,Qo hc]
    exact⟨rfl,by omega⟩
  ·intro s _
   rw[zGB]
   unfold zEW
   simp
theorem zSG (h:wY N L): zDj ((N:Int),L)=some (wT N L,zS3 N L):=by
 have hN:=h.hN
 unfold zDj
 simp only
 rw[z5N 3 hN,z69 (by omega)]
 simp only[zob]
 rw[grp_L1 h]
 simp only[zob]
 obtain⟨Q0,hQ0,h2⟩:=grp_L2 h
 rw[h2,←z3O (N:=N) (L:=L)]
 simp only[zob]
 have hstep:∀ k,k≤N->∀ Q,zRP N L k Q->(Q=[]∧zB3 ((N:Int),L) (lb N L k,rn N L k,Q,((k+1:Nat):Int),zV 40 fun j=>(qZ N L (qP N L k) j:Int))=some (.inr (lb N L k,rn N L k))) ∨
   ∃ Q',zRP N L (k+1) Q'∧zB3 ((N:Int),L) (lb N L k,rn N L k,Q,((k+1:Nat):Int),zV 40 fun j=>(qZ N L (qP N L k) j:Int))=some (.inl (lb N L (k+1),rn N L (k+1),Q',((k+2:Nat):Int),zV 40 fun j=>(qZ N L (qP N L (k+1)) j:Int))):=by
  intro k hk Q hQ
  by_cases he:Q=[]
  ·subst he
   refine .inl ⟨rfl,?_⟩
   unfold zB3
   simp[len]
  ·obtain⟨Q',hQ',h5⟩:=grp_L5 h (k:=k) (by omega) hQ (lb N L k) (rn N L k) (zV 40 fun j=>(qZ N L (qP N L k) j:Int))
   refine .inr ⟨Q',hQ',?_⟩
   have hd:decide (0<len Q)=true:=QJ (by have:=Q2.2 he;simp only[len];omega)
   unfold zB3
   simp only[hd,Qe]
   rw[grp_L4 h hQ]
   simp only[zob]
   rw[h5]
 have hl:=z6D (B:=zB3 ((N:Int),L)) (fun(Q:List Int) k=>(lb N L k,rn N L k,Q,((k+1:Nat):Int),zV 40 fun j=>(qZ N L (qP N L k) j:Int))) N (fun k Q=>zRP N L k Q) (fun r=>r=(wT N L,zS3 N L)) ?_ ?_ Q0 hQ0
 ·obtain⟨r,h1,rfl⟩:=hl
  exact h1
 ·intro k Q hk hQ
  rcases hstep k (by omega) Q hQ with⟨he,h1⟩ | ⟨Q',hQ',h1⟩
  ·subst he
   have hno:∀ i,¬ tF N L k i:=fun i hi=>by have:=(hQ.mem i).2 hi;cases this
   obtain⟨e1,e2⟩:=end_lb (by omega) hno
   exact .inr ⟨_,h1,by rw[e1,e2]⟩
  ·exact .inl ⟨Q',h1,hQ'⟩
 ·intro Q hQ
  rcases hstep N (Qs _) Q hQ with⟨he,h1⟩ | ⟨Q',hQ',h1⟩
  ·subst he
   have hno:∀ i,¬ tF N L N i:=fun i=>z4q N L
   obtain⟨e1,e2⟩:=end_lb (Qs _) hno
   exact⟨_,h1,by rw[e1,e2]⟩
  ·exfalso
   have hne:Q≠[]:=by
    intro e
    subst e
    unfold zB3 at h1
    simp[len] at h1
   obtain⟨x,hx⟩:=List.exists_mem_of_ne_nil Q hne
   obtain⟨h3,_⟩:=hQ.rg x hx
   obtain⟨i,rfl⟩:=Qz h3
   exact z4q N L ((hQ.mem i).1 hx)
theorem zLX (h:wY N L): zCW ((N:Int),L)=some (wT N L):=by
 unfold zCW
 rw[zSG h]
 rfl
end
end
section
variable {b:zM}{l:List zD}{D:List zI}{c:Nat}
theorem xO.runsA (h:xO b l)(hs:zPX b D c): RunsA b l:=Go.GD.runsA h.toFormB (runSz hs h)
noncomputable def zQ4 (b:zM)(l:List zD)(f:Int)(q:Int)(r:qC)(ys:List zI)(s:List Int): List zD :=
 ((xX l l.length ys s).filter fun s=>s.any (fun k=>decide (f≤k))&&tE b l q r s).map fun s=>(-1,q,s,r.2.2.2.2)
theorem z5e{f q:Int}{r:qC}{s:List Int}: zQ4 b l f q r [] s=if s.any (fun k=>decide (f≤k))&&tE b l q r s then[(-1,q,s,r.2.2.2.2)] else[]:=by
 unfold zQ4
 simp only[xX,Ul,Wr]
 split <;> rfl
theorem z4K{f q:Int}{r:qC}{y:zI}{ys:List zI}{s:List Int}: zQ4 b l f q r (y::ys) s=(wI l.length).flatMap fun i=>match zB l i with | some a=>if a.2.2.2==y then zQ4 b l f q r ys (s++[i]) else[] | none=>[]:=by
 unfold zQ4
 simp only[xX,List.filter_flatMap,List.map_flatMap]
 congr 1
 funext i
 cases zB l i with
 | none=>rfl
 | some a =>
  dsimp only
  split <;> rfl
def tA (l new h res:List zD): Prop:=res=(new++h).take (41-l.length)
theorem z1F{α:Type}(n:Nat)(x y:List α): (x.take n++y).take n=(x++y).take n:=by
 by_cases h:x.length≤n
 ·rw[Qk h]
 ·rw[QR (by rw[Qt];omega),QR (by omega),Ua,Nat.min_self]
theorem tA.nil{new:List zD}(h:l.length+new.length≤41): tA l new [] new:=by
 unfold tA
 rw[QA,Qk (by omega)]
theorem tA.trans{new h1 r1 h2 r2:List zD}(a:tA l new h1 r1)(b:tA l r1 h2 r2): tA l new (h1++h2) r2:=by
 unfold tA at a b ⊢
 rw[b,a,z1F,QE]
theorem tA.le{new h res:List zD}(hl:l.length≤41)(a:tA l new h res): l.length+res.length≤41:=by
 unfold tA at a
 rw[a,Qt]
 omega
theorem tA.stay{new h:List zD}(hf:l.length+new.length=41): tA l new h new:=by
 unfold tA
 rw[QR (by omega),Qk (by omega)]
theorem tA.all{new h:List zD}(hf:l.length+new.length+h.length≤41): tA l new h (new++h):=by
 unfold tA
 rw[Qk (by rw[Qh];omega)]
theorem z3L (b:zM)(l new:List zD)(f:Int)(h1:l.length≤100)(h2:new.length≤100): zB2 (b,l,new,f)=some (decide (40<l.length+new.length)):=by
 unfold zB2
 simp only[len]
 rw[uC (by omega) (by omega)]
 refine congrArg some (decide_eq_decide.2 ?_)
 omega
theorem zT4{s:List Int}(h:s.length<4294967296): zCh s=some s:=by
 simp[zCh,wZ (l:=([]:List Int)) (m:=s) (by simpa using h)]
theorem z2L (s:List Int)(b:zM)(l new:List zD)(f:Int)(h:s.length<1000000): zAA s (b,l,new,f)=some (s.any fun k=>decide (f≤k)):=by
 unfold zAA zAE
 obtain⟨r,h1,h2⟩:=uU (B:=zAL s (b,l,new,f)) (fun i (_:Unit)=>(i:Int)) s (fun i _=>∀(j:Nat) k,j<i->s[j]?=some k->¬ f≤k) (fun r=>decide (0≤r)=s.any fun k=>decide (f≤k)) (fun i k _ hi hI=>by
  unfold zAL zEf
  simp only[wX hi,Qe,qX hi,zob,wA hi (show s.length<4294967296 by omega)]
  by_cases hk:f≤k
  ·simp only[hk,decide_true,Qe]
   refine .inr ⟨(i:Int),rfl,?_⟩
   have:(s.any fun k=>decide (f≤k))=true:=Uk.2 ⟨k,vZ hi,by simpa using hk⟩
   rw[this]
   exact QJ (by omega)
  ·simp only[hk,decide_false,zbf,Qc]
   exact .inl ⟨(),by trivial,fun j x hj hx=>by
    by_cases hji:j=i
    ·subst hji;rw[hi] at hx;cases hx;exact hk
    ·exact hI j x (by omega) hx⟩) (fun _ hI=>⟨-1,by
  unfold zAL
  simp only[uV,zbf,Qc],by
  have:(s.any fun k=>decide (f≤k))=false:=by
   rw[Un]
   intro k hk
   obtain⟨j,hj⟩:=Qj.1 hk
   simpa using hI j k (yM hj) hj
  rw[this]
  rfl⟩) () (fun j k hj=>by omega)
 rw[show((0:Nat):Int)=0 from rfl] at h1
 rw[h1]
 simp only[zob,h2]
theorem z3z (hs:zPX b D c)(h:xO b l)(hl:l.length≤40){f:Int}{q:Int}{r:qC}(hr:zB b.2.1 q=some r): ∀(k:Nat) (ys:List zI) (s:List Int) (new:List zD),ys=r.2.2.2.1.drop s.length->s.length≤r.2.2.2.1.length->ys.length<k->(∀ k∈s,0≤k∧k<l.length)->l.length+new.length≤41->
  ∃ res,zA5 k (b,l,new,f) q s=some res∧tA l new (zQ4 b l f q r ys s) res:=by
 have hb:=hs.body hr
 intro k
 induction k with
 | zero=>intro ys _ _ _ _ hk;omega
 | succ k ih =>
  intro ys s new hys hsl hk hsub hnew
  show ∃ res,zBT (zA5 k) (b,l,new,f) q s=some res∧_
  unfold zBT
  simp only[hr,zob,z3L b l new f (by omega) (by omega)]
  by_cases hf:40<l.length+new.length
  ·simp only[hf,decide_true,Qe]
   exact⟨new,rfl,tA.stay (by omega)⟩
  ·simp only[hf,decide_false,zbf,Qc]
   cases ys with
   | nil =>
    have hlen:s.length=r.2.2.2.1.length:=by
     have:=congrArg List.length hys
     simp at this
     omega
    have hd:decide (len s<len r.2.2.2.1)=false:=by simp[len];omega
    simp only[hd,zbf,Qc,vK,zob]
    rw[z2L s b l new f (by omega),z5e]
    simp only[zob]
    rw[z5O h.toFormC (h.runsA hs) hr hsub (by omega)]
    cases h1:s.any fun k=>decide (f≤k) with
    | false =>
     simp only[zbf,Qc,zob,Uo]
     exact⟨new,rfl,tA.nil hnew⟩
    | true =>
     simp only[Qe,zob,Ug]
     cases h2:tE b l q r s with
     | false =>
      simp only[zbf,Qc]
      exact⟨new,rfl,tA.nil hnew⟩
     | true =>
      simp only[Qe]
      rw[wZ (by simp;omega)]
      exact⟨_,rfl,tA.all (by simp only[Wo];omega)⟩
   | cons y ys =>
    have hlen:s.length<r.2.2.2.1.length:=by
     have:=congrArg List.length hys
     simp at this
     omega
    have hd:decide (len s<len r.2.2.2.1)=true:=by simp[len];omega
    have hy:r.2.2.2.1[s.length]?=some y:=by
     have:=congrArg (fun l=>l[0]?) hys
     simpa using this.symm
    have hys2:ys=r.2.2.2.1.drop (s.length+1):=by
     have:=congrArg List.tail hys
     simpa using this
    have hix:zB r.2.2.2.1 (len s)=some y:=by rw[show len s=((s.length:Nat):Int) from rfl,zFQ];exact hy
    simp only[hd,Qe]
    have hloop:=uU (B:=zAy (b,l,new,f) r s (zA5 k) q) (fun i (t:List zD)=>((i:Int),t)) (wI l.length)
     (fun i t=>tA l new (((wI l.length).take i).flatMap fun i=>match zB l i with | some a=>if a.2.2.2==y then zQ4 b l f q r ys (s++[i]) else[] | none=>[]) t)
     (fun res=>∃ t,res=.inr t∧tA l new (zQ4 b l f q r (y::ys) s) t) (fun i x t hi hI=>.inl ?_) (fun t hI=>?_) new (tA.nil hnew)
    ·obtain⟨res,h1,t,h2,h3⟩:=hloop
     rw[show((0:Nat):Int)=0 from rfl] at h1
     subst h2
     exact⟨t,by rw[h1];rfl,h3⟩
    ·obtain⟨rfl,hin⟩:=zUp hi
     obtain⟨a,ha⟩:=zLE (l:=l) (j:=(i:Int)) (by omega) (by omega)
     have hdl:decide ((i:Int)<len l)=true:=by simp[len];omega
     have ht:=hI.le (by omega)
     unfold zAy
     simp only[hdl,Qe,ha,zob,hix,yT i (by omega)]
     rw[uO hi,UD,Wm,ha]
     dsimp only
     cases hc:a.2.2.2==y with
     | false =>
      simp only[zbf,Qc,QA]
      exact⟨t,rfl,hI⟩
     | true =>
      simp only[Qe]
      rw[zT4 (by omega)]
      simp only[zob]
      rw[wZ (by simp;omega)]
      simp only[zob]
      obtain⟨res,e1,e2⟩:=ih ys (s++[(i:Int)]) t (by simpa using hys2) (by simp;omega) (by simp at hk;omega) (fun k hk=>by
       rcases Qb.1 hk with hk | hk
       ·exact hsub k hk
       ·simp only[Qa] at hk;subst hk;omega) ht
      rw[e1]
      exact⟨res,rfl,hI.trans e2⟩
    ·refine⟨_,?_,t,rfl,?_⟩
     ·unfold zAy
      have hdl:decide (((wI l.length).length:Int)<len l)=false:=by rw[zGB];simp[len]
      simp only[hdl,zbf,Qc]
     ·rw[z4K]
      rw[QC] at hI
      exact hI
theorem z7h (hs:zPX b D c)(h:xO b l)(hl:l.length≤40){f:Int}{q:Int}{r:qC}(hr:zB b.2.1 q=some r)(new:List zD)(hnew:l.length+new.length≤41):
  zBV (b,l,new,f) q []=some ((new++zQ4 b l f q r r.2.2.2.1 []).take (41-l.length)) :=
 zS9 5 fun k hk=>by
  obtain⟨res,h1,h2⟩:=z3z hs h hl hr k r.2.2.2.1 [] new (f:=f) (by simp) (by simp) (by have:=hs.body hr;omega) (by simp) hnew
  rw[h1,h2]
theorem z7o{f:Int}{first:Bool}{q:Int}{r:qC}(hr:zB b.2.1 q=some r): zJw b l f first q=if r.2.2.2.1=[] then(if first then[(-1,q,[],r.2.2.2.2)] else[]) else zQ4 b l f q r r.2.2.2.1 []:=by
 unfold zJw zQ4
 rw[hr]
 dsimp only
 split
 ·rename_i hb
  rw[hb]
  simp only[xX,Ul,Wr]
  cases first <;> simp[zU5,tE]
 ·rename_i hb
  congr 1
  refine UT fun s hs=>?_
  obtain⟨t,ht,htl,_⟩:=(zSr l l.length r.2.2.2.1 [] s).1 hs
  rw[QI] at ht
  subst ht
  unfold zU5
  have:s.isEmpty=false:=by
   cases s with
   | nil=>exact absurd (QK htl.symm) hb
   | cons _ _=>rfl
  rw[this,Bool.and_false,Bool.or_false]
theorem z2W (h:tD b): zO (zEF b) (0,([]:List zD))=some (zQG b):=by
 have hn:=h.np
 have hl:=zLc b
 have:=(zZs (B:=zEF b) (zQG b) (fun s a=>s++[a]) (fun s=>s) (fun i s=>s.length≤i) [] (by simp) (fun i a s hi hs=>by
  obtain⟨p,hp,rfl⟩:=zNr hi
  have hlt:=yM hp
  refine⟨?_,by simp;omega⟩
  unfold zEF
  simp only[wX hp,Qe,qX hp,zob]
  rw[wZ (by simp;omega)]
  simp only[zob,wA hp (by omega)]) (fun s _=>by
  unfold zEF
  rw[hl]
  simp only[uV,zbf,Qc])).1
 rw[this]
 have:=zK6 (fun a:zD=>a) (zQG b) []
 simpa using this
theorem z2c (hs:zPX b D c)(h:xO b l)(hl:l.length≤40){f:Int}{r:Nat}(hr0:1≤r)(hr:r<1000)(z:List zD):
  ∃ res,zO (zC7 b ((r:Int),l,z,f)) (0,[])=some res ∧
   (if 40<(l++uZ b l f (decide (r≤1))).length then ∃ x,res=.inr (.inr (l,x,f))∧l.length+x.length=41 else res=.inl (uZ b l f (decide (r≤1)))):=by
 have hnr:=hs.valid.nr
 have hone:((r:Int)==1)=decide (r≤1):=by
  rw[QU]
  simp only[Q9,Qy]
  omega
 refine uU (B:=zC7 b ((r:Int),l,z,f)) (fun i (t:List zD)=>((i:Int),t)) (wI b.2.1.length)
  (fun i t=>t=((wI b.2.1.length).take i).flatMap (zJw b l f (decide (r≤1)))∧l.length+t.length≤40)
  (fun res=>if 40<(l++uZ b l f (decide (r≤1))).length then ∃ x,res=.inr (.inr (l,x,f))∧l.length+x.length=41 else res=.inl (uZ b l f (decide (r≤1)))) (fun i x t hi hI=>?_) (fun t hI=>?_) [] ⟨by simp,by simpa using hl⟩
 ·obtain⟨rfl,hin⟩:=zUp hi
  obtain⟨ru,hru⟩:=zLE (l:=b.2.1) (j:=(i:Int)) (by omega) (by omega)
  have hd:decide ((i:Int)<len b.2.1)=true:=by simp[len];omega
  obtain⟨hI1,hI2⟩:=hI
  have hnext:((wI b.2.1.length).take (i+1)).flatMap (zJw b l f (decide (r≤1)))=t++zJw b l f (decide (r≤1)) i:=by
   rw[uO hi,UD,Wm,←hI1]
  have hpart:(t++zJw b l f (decide (r≤1)) i).length≤(uZ b l f (decide (r≤1))).length:=by
   rw[←hnext]
   unfold uZ
   conv=>rhs;rw[←Qu (i+1) (wI b.2.1.length),UD]
   rw[Qh]
   omega
  have hs7:(if decide (0<len ru.2.2.2.1)=true then(zBV (b,l,t,f) i []).bind fun r2=>some r2
    else if((r:Int)==1)=true then(qD t [((-1:Int),(i:Int),([]:List Int),ru.2.2.2.2)]).bind fun x4=>some x4 else some t)=some ((t++zJw b l f (decide (r≤1)) i).take (41-l.length)):=by
   rw[z7o hru,hone]
   by_cases hb:ru.2.2.2.1=[]
   ·have hd0:decide (0<len ru.2.2.2.1)=false:=by rw[hb];rfl
    rw[Qp hb]
    simp only[hd0,zbf,Qc]
    cases hr1:decide (r≤1) with
    | true =>
     simp only[Qe]
     rw[wZ (by simp;omega)]
     simp only[zob]
     rw[Qk (by simp;omega)]
    | false =>
     simp only[zbf,Qc,QA]
     rw[Qk (by omega)]
   ·have hd0:decide (0<len ru.2.2.2.1)=true:=by
     have:=Q2.2 hb
     simp[len];omega
    rw[Qo hb]
    simp only[hd0,Qe]
    rw[z7h hs h hl hru t (by omega)]
    rfl
  unfold zC7
  simp only[hd,Qe,hru,zob]
  rw[hs7]
  simp only[zob]
  rw[z3L b l _ f (by omega) (by rw[Qt];omega)]
  simp only[zob,yT i (by omega)]
  by_cases hlim:40<l.length+(t++zJw b l f (decide (r≤1)) i).length
  ·have hx:l.length+((t++zJw b l f (decide (r≤1)) i).take (41-l.length)).length=41:=by rw[Qt];omega
   have hd4:decide (40<l.length+((t++zJw b l f (decide (r≤1)) i).take (41-l.length)).length)=true:=by simp only[Qy];omega
   simp only[hd4,Qe]
   refine .inr ⟨_,rfl,?_⟩
   rw[Qp (by rw[Qh];omega)]
   exact⟨_,rfl,hx⟩
  ·have hx:(t++zJw b l f (decide (r≤1)) i).take (41-l.length)=t++zJw b l f (decide (r≤1)) i:=Qk (by omega)
   rw[hx]
   have hd4:decide (40<l.length+(t++zJw b l f (decide (r≤1)) i).length)=false:=by simp only[QX];omega
   simp only[hd4,zbf,Qc]
   exact .inl ⟨_,rfl,hnext.symm,by omega⟩
 ·obtain⟨hI1,hI2⟩:=hI
  rw[QC] at hI1
  have:t=uZ b l f (decide (r≤1)):=hI1
  unfold zC7
  have hd:decide (((wI b.2.1.length).length:Int)<len b.2.1)=false:=by rw[zGB];simp[len]
  simp only[hd,zbf,Qc]
  refine⟨_,rfl,?_⟩
  rw[Qo (by rw[Qh,←this];omega),this]
theorem z1m (hs:zPX b D c): ∀(k:Nat) (l z:List zD) (f:Int) (r:Nat),xO b l->l.length≤40->41≤l.length+k->r+k≤900->1≤r->
  ∃ l' x' f',zO (zBE b) ((r:Int),l,z,f)=some (l',x',f')∧l'.length≤100∧x'.length≤100 ∧
   match zSQ b k l f (decide (r≤1)) with | none=>40<l'.length+x'.length | some y=>l'=y∧x'=[]∧y.length≤40:=by
 intro k
 induction k with
 | zero=>intros;omega
 | succ k ih =>
  intro l z f r h hl hk hr h1
  obtain⟨res,e1,e2⟩:=z2c hs h hl (f:=f) h1 (by omega) z
  unfold zSQ
  by_cases hlim:40<(l++uZ b l f (decide (r≤1))).length
  ·rw[Qp hlim] at e2
   obtain⟨x,rfl,hx⟩:=e2
   refine⟨l,x,f,?_,by omega,by omega,?_⟩
   ·have hstep:zBE b ((r:Int),l,z,f)=some (.inr (l,x,f)):=by
     unfold zBE
     rw[e1]
     rfl
    rw[yP,hstep]
   ·rw[Qp hlim]
    dsimp only
    omega
  ·rw[Qo hlim] at e2
   subst e2
   by_cases hn:uZ b l f (decide (r≤1))=[]
   ·refine⟨l,[],f,?_,by omega,by simp,?_⟩
    ·have hstep:zBE b ((r:Int),l,z,f)=some (.inr (l,[],f)):=by
      unfold zBE
      rw[e1,hn]
      rfl
     rw[yP,hstep]
    ·rw[Qo hlim,Qp hn]
     exact⟨rfl,rfl,hl⟩
   ·rw[Qo hlim,Qo hn]
    have hpos:0<(uZ b l f (decide (r≤1))).length:=Q2.2 hn
    rw[Qh] at hlim
    obtain⟨l',x',f',g1,g2,g3,g4⟩:=ih (l++uZ b l f (decide (r≤1))) (uZ b l f (decide (r≤1))) l.length (r+1) (h.round hs (by rw[Qh];omega)) (by rw[Qh];omega) (by rw[Qh];omega) (by omega) (by omega)
    rw[show decide (r+1≤1)=false from by simp;omega] at g4
    refine⟨l',x',f',?_,g2,g3,g4⟩
    have hstep:zBE b ((r:Int),l,z,f)=some (.inl (((r+1:Nat):Int),l++uZ b l f (decide (r≤1)),uZ b l f (decide (r≤1)),(l.length:Int))):=by
     unfold zBE
     rw[e1]
     simp only[vK,zob]
     have hl0:((len (uZ b l f (decide (r≤1))))==0)=false:=by simp only[len,Uq];omega
     simp only[hl0,zbf,Qc]
     rw[wZ (by omega)]
     simp only[zob,yT r (by omega)]
    rw[yP,hstep]
    exact g1
theorem z8F (hs:zPX b D c): zCq b=some (ansB (zO3 b)):=by
 unfold zCq
 rw[zYo (zNm hs.valid),zMm.2 hs.valid]
 simp only[zob,bne_self_eq_false,zbf,Qc]
 rw[z2W hs.valid]
 have hn:=hs.valid.np
 obtain⟨l',x',f',g1,g2,g3,g4⟩:=z1m hs 50 (zQG b) [] 0 1 (zVn hs.valid) (by rw[zLc];omega) (by omega) (by omega) (by omega)
 rw[show((1:Nat):Int)=1 from rfl] at g1
 simp only[zob,g1]
 rw[z3L b l' x' f' g2 g3]
 simp only[zob]
 unfold zO3
 rw[show decide (1≤1)=true from rfl] at g4
 cases hb:zSQ b 50 (zQG b) 0 true with
 | none =>
  rw[hb] at g4
  dsimp only at g4
  simp only[g4,decide_true,Qe]
  rfl
 | some y =>
  rw[hb] at g4
  obtain⟨rfl,rfl,g5⟩:=g4
  have hd:decide (40<l'.length+([]:List zD).length)=false:=by simp;omega
  simp only[hd,zbf,Qc]
  rfl
theorem zYx (hc:Cnt3 b)(h:¬ tD b): zCq b=some ([],zM8 b):=by
 unfold zCq
 rw[zVv hc]
 have:(zM8 b != 0)=true:=by
  rw[bne_iff_ne]
  exact fun h'=>h (zMm.1 h')
 simp only[zob,this,Qe]
end
section
variable {b:zM}{l:List zD}
theorem z78 (h:tD b)(hr:b.2.1.length≤12): zPX b (b.2.1.map fun r=>r.2.2.2.2) 4:=by
 refine⟨h,fun r hr=>⟨Qm.2 ⟨r,hr,rfl⟩,zUU (h.rule r hr)⟩,by decide,?_⟩
 rw[Ud]
 exact Wi (zXO (by decide) hr) (by decide)
theorem z34 (h:tD b)(hr:b.2.1.length≤12){x:List zD}(hx:zO3 b=some x): xO b x∧x.length≤40 :=
 zX7 (z78 h hr) 50 (zQG b) 0 true x (zVn h) (by rw[zLc];have:=h.np;omega) hx
theorem z4W (h:l.length≤100)(o:yG): (zNo b l o).length≤3000000:=Qv (QF _ _) (zYJ h)
def ords:List yG:=[(1,1),(1,2),(2,1),(2,2)]
theorem zZC:zMN=some ords:=rfl
end
section
variable {b:zM}{l:List zD}
theorem z5F (h:tD b)(hr:b.2.1.length≤12): zPX b (b.2.1.map fun r=>r.2.2.2.2) 4:=by
 refine⟨h,fun r hr=>⟨Qm.2 ⟨r,hr,rfl⟩,zUU (h.rule r hr)⟩,by decide,?_⟩
 rw[Ud]
 exact Wi (zXO (by decide) hr) (by decide)
end
section
variable {b:zM}{l:List zD}
theorem z5x{i:Int}(h:¬ (0≤i∧i<l.length)): zAu l i=some false:=by
 unfold zAu
 congr 1
 rw[Bool.and_eq_false_iff]
 by_cases h0:0≤i
 ·exact .inr (by simp[len];omega)
 ·exact .inl (by simpa using h0)
def zZE (l:List zD)(i:Int): List zI:=match zB l i with | some a=>[a.2.2.2] | none=>[]
theorem idx_out{α:Type}{l:List α}{i:Int}(h:¬ (0≤i∧i<l.length)): zB l i=none:=by grind [zB]
theorem zYi (is:List Int): (is.flatMap (zZE l)).length≤is.length*1:=zP3 (zZE l) 1 is fun i _=>by
 grind [zZE]
theorem zNI (is:List Int)(h:is.length<1000000): zBI l is=some (xI vQ (is.flatMap (zZE l))):=by
 unfold zBI
 have hloop:=zNH (B:=zDP is l) is (zZE l) (fun s=>s) 1 (fun i _=>by unfold zZE;split <;> simp) [] (fun i x s hi hs=>by
  have hlt:=yM hi
  unfold zDP zZE
  simp only[wX hi,Qe,qX hi,zob,wA hi (show is.length<4294967296 by omega)]
  by_cases hin:0≤x∧x<l.length
  ·obtain⟨a,ha⟩:=zLE (l:=l) hin.1 hin.2
   have:zAu l x=some true:=by
    unfold zAu
    congr 1
    rw[Qw]
    exact⟨by simpa using hin.1,by simpa [len] using hin.2⟩
   simp only[this,zob,Qe,ha]
   rw[wZ (by simp at hs ⊢;omega)]
   rfl
  ·simp only[z5x hin,zob,zbf,Qc,idx_out hin,QA]) (fun s=>by
  unfold zDP
  simp only[uV,zbf,Qc])
 rw[hloop]
 have hl:=zYi (l:=l) is
 simp only[zob,QI]
 rw[zZl (by omega)]
 rfl
end
section
def jn (l:List zG): zG:=[(32:UInt8)].intercalate l
theorem z6t:jn []=[]:=rfl
theorem z1S (w:zG): jn [w]=w:=by simp[jn,List.intercalate]
theorem z04 (w x:zG)(l:List zG): jn (w::x::l)=w++32::jn (x::l):=by simp[jn,List.intercalate]
theorem z1n:∀ l:List zG,(jn l).length≤(l.map List.length).sum+l.length
 | []=>by simp[z6t]
 | [w]=>by simp[z1S]
 | w::x::l=>by
  have:=z1n (x::l)
  rw[z04]
  grind
theorem zV0{l:List zG}(h1:l.length≤1000000)(h2:(l.map List.length).sum≤1000000000): zJ3 l [32]=some (jn l):=by
 have:=z1n l
 unfold zJ3 z9I
 rw[Qp]
 ·rfl
 ·refine⟨by omega,?_⟩
  show(jn l).length≤_
  omega
def wd (w:zG): Bool:=!w.isEmpty&&w.all fun b=>!Lib.isSp b&&decide (b.toNat<128)
theorem wd_ne{w:zG}(h:wd w=true): w≠[]:=by rintro rfl;simp[wd] at h
theorem zPJ:∀(w cur l:zG),(∀ b∈w,Lib.isSp b=false)->Lib.fieldsGo cur (w++l)=Lib.fieldsGo (cur++w) l
 | [],cur,l,_=>by simp
 | b::w,cur,l,h=>by
  rw[UH,Lib.fieldsGo,h b (by simp)]
  rw[zPJ w (cur++[b]) l fun x hx=>h x (by simp[hx])]
  simp
theorem z1Z:∀ l:List zG,(∀ w∈l,wd w=true)->Lib.fields (jn l)=l
 | [],_=>rfl
 | [w],h=>by
  have hw:=h w (by simp)
  have h1:∀ b∈w,Lib.isSp b=false:=fun b hb=>by
   simp[wd] at hw
   have:=(hw.2 b hb).1
   simpa using this
  rw[z1S]
  unfold Lib.fields
  have:=zPJ w [] [] h1
  rw[QA] at this
  rw[this,Lib.fieldsGo]
  simp[wd_ne hw]
 | w::x::l,h=>by
  have hw:=h w (by simp)
  have h1:∀ b∈w,Lib.isSp b=false:=fun b hb=>by
   simp[wd] at hw
   have:=(hw.2 b hb).1
   simpa using this
  rw[z04]
  unfold Lib.fields
  rw[zPJ w [] _ h1,Lib.fieldsGo]
  have hs:Lib.isSp 32=true:=by decide
  have ih:=z1Z (x::l) fun y hy=>h y (by simp at hy ⊢;exact .inr hy)
  unfold Lib.fields at ih
  rw[Qp hs,ih]
  simp[wd_ne hw]
theorem jn_low{l:List zG}(h:∀ w∈l,wd w=true): ∀ b∈jn l,b.toNat<128:=by
 induction l with
 | nil=>intro b hb;simp[z6t] at hb
 | cons w l ih =>
  have hw:=h w (by simp)
  simp[wd] at hw
  cases l with
  | nil=>intro b hb;rw[z1S] at hb;have:=(hw.2 b hb).2;simpa using this
  | cons x l =>
   intro b hb
   rcases Qb.1 hb with hb | hb
   ·have:=(hw.2 b hb).2;simpa using this
   ·rcases QB.1 hb with rfl | hb
    ·decide
    ·exact ih (fun y hy=>h y (by simp at hy ⊢;exact .inr hy)) b hb
theorem z5y{l:List zG}(h:∀ w∈l,wd w=true): Lib.fieldsD (jn l)=l:=by rw[Lib.fieldsD_ascii _ (jn_low h),z1Z l h]
theorem zPK:∀(f:Nat) (cur l:zG),((Lib.fieldsGoD f cur l).map List.length).sum≤cur.length+l.length∧∀ w∈Lib.fieldsGoD f cur l,w≠[]
 | 0,cur,l=>by
  unfold Lib.fieldsGoD
  split
  ·simp
  ·rename_i h;exact⟨by simp,by simpa using h⟩
 | f+1,cur,l=>by
  unfold Lib.fieldsGoD
  split
  ·split
   ·simp
   ·rename_i h;exact⟨by simp,by simpa using h⟩
  ·split
   ·obtain⟨h1,h2⟩:=zPK f [] (l.drop (Lib.decodeL l).2)
    simp at h1
    constructor
    ·split
     ·simp;omega
     ·simp;omega
    ·intro w hw
     split at hw
     ·exact h2 w (by simpa using hw)
     ·rename_i hc
      rcases Qb.1 hw with hw | hw
      ·simp at hw;subst hw;exact hc
      ·exact h2 w hw
   ·obtain⟨h1,h2⟩:=zPK f (cur++l.take (Lib.decodeL l).2) (l.drop (Lib.decodeL l).2)
    refine⟨?_,h2⟩
    simp at h1
    omega
theorem z9w:∀ {l:List zG},(∀ w∈l,w≠[])->l.length≤(l.map List.length).sum
 | [],_=>by simp
 | w::l,h=>by
  have h1:=z9w (l:=l) fun x hx=>h x (by simp[hx])
  have h2:0<w.length:=Q2.2 (h w (by simp))
  simp
  omega
theorem zXU (l:zG): ((Lib.fieldsD l).map List.length).sum≤l.length∧(Lib.fieldsD l).length≤l.length:=by
 obtain⟨h1,h2⟩:=zPK (l.length+1) [] l
 have h3:=z9w h2
 simp at h1
 exact⟨h1,by unfold Lib.fieldsD;omega⟩
def tX (n:Int): zG:=[UInt8.ofNat (48+n.toNat)]
theorem itoa_M{n:Int}(h0:-9223372036854775808≤n)(h1:n≤9223372036854775807): zFJ n=some (Lib.itoa n):=by
 unfold zFJ zG7 zDs z98
 simp[h0,h1]
theorem z0b{n:Int}(h0:0≤n)(h1:n≤9): zFJ n=some (tX n):=by
 rw[itoa_M (by omega) (by omega)]
 unfold Lib.itoa tX
 rw[Qo (by omega),Lib.decDigits,dif_pos (by omega)]
theorem zUw{s:zG}(h:vName s=true): wd s=true:=by
 cases s with
 | nil=>simp[vName] at h
 | cons c r =>
  have key:∀ b:UInt8,okB b=true->(!Lib.isSp b&&decide (b.toNat<128))=true:=by
   intro b hb
   have:∀ n:_root_.Fin 256,okB (UInt8.ofNat n.val)=true->(!Lib.isSp (UInt8.ofNat n.val)&&decide ((UInt8.ofNat n.val).toNat<128))=true:=by decide +kernel
   have h2:=this ⟨b.toNat,b.toNat_lt⟩
   simpa using h2 (by simpa using hb)
  simp[vName] at h
  obtain⟨⟨h1,h2⟩,h3⟩:=h
  have hlo:okB c=true:=by
   have:∀ n:_root_.Fin 256,loB (UInt8.ofNat n.val)=true->okB (UInt8.ofNat n.val)=true:=by decide +kernel
   have h4:=this ⟨c.toNat,c.toNat_lt⟩
   simpa using h4 (by simpa using h2)
  simp[wd]
  refine⟨by simpa using key c hlo,fun b hb=>?_⟩
  have:=key b (h3 b hb)
  simpa using this
theorem wd_cons{c:UInt8}{s:zG}(hc:(!Lib.isSp c&&decide (c.toNat<128))=true)(h:wd s=true): wd (c::s)=true:=by
 simp[wd] at h ⊢
 exact⟨by simpa using hc,h.2⟩
theorem z3Y{c:UInt8}{s:zG}(hc:(!Lib.isSp c&&decide (c.toNat<128))=true)(h:wd s=true): wd (s++[c])=true:=by
 simp only[wd,Qw,List.all_append,Wf,List.all_nil,Wg] at h ⊢
 exact⟨by simp,h.2,by simpa using hc⟩
theorem z1y{x:zI}(h:vName x.2=true): wd (zEg x)=true:=by
 unfold zEg
 rw[Qp h]
 split
 ·exact wd_cons (by decide) (zUw h)
 ·exact zUw h
end
section
def zOI (k:Int): zG:=if k=1 then[97,120,105,111,109] else if k=2 then[112,114,101,109,105,115,101] else[97,115,115,117,109,101]
def z1W:zG:=[102,114,111,109]
def zSY (p:wM): List zG:=[zOI p.2.1,zEg p.1]++(if p.2.1=2 then[tX p.2.2.1] else[])++(if p.2.2.2=[] then[] else[z1W,p.2.2.2])
def yV:List zI->List zG
 | []=>[]
 | [x]=>[zEg x]
 | x::y::r=>(zEg x++[44])::yV (y::r)
def zKU:zG:=[115,116,114,105,99,116]
def zNj:zG:=[114,117,108,101]
def z2g (s:Bool): zG:=if s then[45,62] else[61,62]
def zOM (r:qC): List zG:=(if r.2.1 then[zKU,r.1++[58]] else[zNj,r.1,tX r.2.2.1++[58]])++yV r.2.2.2.1++[z2g r.2.1,zEg r.2.2.2.2]
def zXF:zG:=[112,114,111,109,111,116,101]
def ifW:zG:=[105,102]
def zTS (p:wE): List zG:=[zXF,p.1,tX p.2.1,ifW,zEg p.2.2]
theorem z2l (k:Int): (zOI k).length≤7:=by
 unfold zOI
 split
 ·decide
 ·split <;> decide
theorem z7Y{k:Int}(h:k=1∨k=2∨k=3): zB zAl k=some (zOI k):=by rcases h with rfl | rfl | rfl <;> rfl
theorem z4v{p:wM}(hk:p.2.1=1∨p.2.1=2∨p.2.1=3)(h0:0≤p.2.2.1)(h9:p.2.2.1≤9)(hs:p.2.2.2.length≤1000000): zE3 p=some (jn (zSY p)):=by
 obtain⟨x,k,n,s⟩:=p
 simp only at hk h0 h9 hs
 have hl:=zFK x
 have hkl:=z2l k
 unfold zE3 zSY
 simp only[z7Y hk,zOY,zob]
 by_cases h2:k=2
 ·subst h2
  simp only[Q7,Qe,z0b h0 h9,zob]
  rw[wZ (by simp)]
  by_cases hs0:s=[]
  ·subst hs0
   simp only[zob,Q7,QV,zbf,Qc,Qe,QA]
   rw[zV0 (by simp) (by simp[tX];omega)]
   rfl
  ·have:(s==[])=false:=by simpa using hs0
   simp only[zob,this,Ub,Qe,Qo hs0]
   rw[wZ (by simp)]
   simp only[zob]
   rw[zV0 (by simp) (by simp[tX];omega)]
   rfl
 ·have hk2:(k==2)=false:=by simpa using h2
  simp only[hk2,zbf,Qc,zob,Qo h2,QA]
  by_cases hs0:s=[]
  ·subst hs0
   simp only[zob,Q7,QV,zbf,Qc,Qe,QA]
   rw[zV0 (by simp) (by simp;omega)]
   rfl
  ·have:(s==[])=false:=by simpa using hs0
   simp only[this,Ub,Qe,Qo hs0]
   rw[wZ (by simp)]
   simp only[zob]
   rw[zV0 (by simp) (by simp;omega)]
   rfl
theorem zLh:∀ l:List zI,(yV l).length=l.length
 | []=>rfl
 | [_]=>rfl
 | _::y::r=>by simp[yV,zLh (y::r)]
theorem z1z:∀(l:List zI) (i:Nat),(yV l)[i]?=l[i]?.map fun x=>if i+1<l.length then zEg x++[44] else zEg x
 | [],i=>by simp[yV]
 | [x],i=>by cases i <;> simp[yV]
 | x::y::r,0=>by simp[yV]
 | x::y::r,i+1=>by
  simp only[yV,Q4,z1z (y::r) i,QZ]
  congr 1
  have:(i+1<r.length+1)↔(i+1+1<r.length+1+1):=by omega
  simp
theorem zYY:∀ l:List zI,((yV l).map List.length).sum≤14*l.length
 | []=>by simp[yV]
 | [x]=>by grind [zFK,yV]
 | x::y::r=>by
  have:=zFK x
  have:=zYY (y::r)
  grind [yV]
theorem z4y (r:qC)(pre:List zG)(hb:r.2.2.2.1.length≤10000)(hp:pre.length≤3): zO (zDD r) (pre,0)=some (pre++yV r.2.2.2.1):=by
 have h:=uU (B:=zDD r) (fun i (s:List zG)=>(s,(i:Int))) r.2.2.2.1 (fun i s=>s=pre++(yV r.2.2.2.1).take i) (fun o=>o=pre++yV r.2.2.2.1) ?_ ?_ pre (by simp)
 ·obtain⟨o,h1,rfl⟩:=h
  exact h1
 ·intro i x s hx hs
  subst hs
  have hi:=(Qf.1 hx).1
  refine .inl ⟨pre++(yV r.2.2.2.1).take (i+1),?_,rfl⟩
  have hg:(yV r.2.2.2.1)[i]?=some (if i+1<r.2.2.2.1.length then zEg x++[44] else zEg x):=by rw[z1z,hx];rfl
  have htk:(yV r.2.2.2.1).take (i+1)=(yV r.2.2.2.1).take i++[if i+1<r.2.2.2.1.length then zEg x++[44] else zEg x]:=by rw[Q8,hg];rfl
  have hl:=zFK x
  unfold zDD
  have h1:decide ((i:Int)<len r.2.2.2.1)=true:=by simp;omega
  simp only[h1,Qe,zFQ,hx,zob,zOY]
  have h2:zF (len r.2.2.2.1-1)=(r.2.2.2.1.length:Int)-1:=uC (x:=(r.2.2.2.1.length:Int)-1) (by omega) (by omega)
  rw[h2]
  have htl:((yV r.2.2.2.1).take i).length≤10000:=by rw[Qt,zLh];omega
  by_cases hlt:i+1<r.2.2.2.1.length
  ·have h3:decide ((i:Int)<(r.2.2.2.1.length:Int)-1)=true:=by simp;omega
   simp[h3]
   rw[zUb (by simp;omega)]
   simp
   rw[wZ (by simp;omega),yT i (by omega),htk,Qp hlt,QE]
   rfl
  ·have h3:decide ((i:Int)<(r.2.2.2.1.length:Int)-1)=false:=by simp;omega
   simp[h3]
   rw[wZ (by simp;omega),yT i (by omega),htk,Qo hlt,QE]
   rfl
 ·intro s hs
  subst hs
  refine⟨_,?_,rfl⟩
  unfold zDD
  have h1:decide ((r.2.2.2.1.length:Int)<len r.2.2.2.1)=false:=by simp
  have h2:(yV r.2.2.2.1).take r.2.2.2.1.length=yV r.2.2.2.1:=Qk (by rw[zLh];exact Qs _)
  simp[h2]
theorem z4w{r:qC}(h0:0≤r.2.2.1)(h9:r.2.2.1≤9)(hn:r.1.length≤1000000)(hb:r.2.2.2.1.length≤10000): zG8 r=some (jn (zOM r)):=by
 have hl:=zFK r.2.2.2.2
 have hs:=zYY r.2.2.2.1
 have hbl:=zLh r.2.2.2.1
 unfold zG8 zOM
 rw[zUb (by simp;omega)]
 cases hst:r.2.1 with
 | true =>
  simp
  rw[z4y r _ hb (by simp)]
  simp[zOY]
  rw[wZ (by simp;omega)]
  simp
  rw[zV0 (by simp;omega) (by simp;omega)]
  rfl
 | false =>
  simp[z0b h0 h9]
  rw[zUb (by simp[tX])]
  simp
  rw[z4y r _ hb (by simp)]
  simp[zOY]
  rw[wZ (by simp;omega)]
  simp
  rw[zV0 (by simp;omega) (by simp[tX];omega)]
  rfl
theorem z4t{p:wE}(h0:0≤p.2.1)(h9:p.2.1≤9)(hn:p.1.length≤1000000): zD5 p=some (jn (zTS p)):=by
 have hl:=zFK p.2.2
 unfold zD5 zTS
 rw[zUb (by simp;omega)]
 simp
 rw[zUb (by simp;omega)]
 simp[z0b h0 h9]
 rw[zUb (by simp[tX];omega)]
 simp
 rw[zUb (by simp[tX];omega)]
 simp[zOY]
 rw[zUb (by simp[tX];omega)]
 simp[z04,z1S,zXF,ifW]
end
section
def okP (p:wM): Prop:=(p.2.1=1∨p.2.1=2∨p.2.1=3)∧vName p.1.2=true∧0≤p.2.2.1∧p.2.2.1≤9∧(p.2.1=2∨p.2.2.1=0)∧(p.2.2.2=[]∨vName p.2.2.2=true)
def okR (r:qC): Prop:=vName r.1=true∧vName r.2.2.2.2.2=true∧0≤r.2.2.1∧r.2.2.1≤9∧(r.2.1=true->r.2.2.1=0)∧∀ x∈r.2.2.2.1,vName x.2=true
def okT (p:wE): Prop:=vName p.1=true∧0≤p.2.1∧p.2.1≤9∧vName p.2.2.2=true
theorem okP_of{p:wM}(h:tB p=0): okP p:=by
 unfold tB at h
 split at h
 ·rename_i hk
  split at h
  ·rename_i h2
   grind [okP]
  grind
 grind
theorem okR_of{r:qC}(h:xU r=0): okR r∧r.2.2.2.1.length≤4:=by
 unfold xU at h
 split at h
 ·simp at h
 ·split at h
  ·rename_i h2
   simp only[Ue,Q9,Qw,zK1,Qy,Bool.not_eq_true',Uf] at h2
   obtain⟨⟨⟨⟨h1,h3⟩,h4,h5⟩,h6⟩,h7⟩:=h2
   refine⟨⟨h1,h3,h4,h5,fun hs=>?_,h7⟩,by omega⟩
   grind
  grind
theorem okT_of{b:zM}{p:wE}(h:zVJ b p=0)(hf:0≤zOQ b p.1->vName p.1=true): okT p:=by
 unfold zVJ at h
 split at h
 ·rename_i h2
  grind [okT]
 grind
def fmtT (b:zM): zG:=(b.1.flatMap fun p=>jn (zSY p)++[10])++((b.2.1.flatMap fun r=>jn (zOM r)++[10])++(b.2.2.flatMap fun p=>jn (zTS p)++[10]))
end
section
theorem zIL (w:zG)(r:List zG)(b:Bool): zAB (w::r,b)=some (w,r,b):=by
 unfold zAB
 have h2:zB (w::r) 0=some w:=rfl
 have h3:sub (w::r) 1 (len (w::r))=some r:=by rw[zTY (by omega) (by simp;omega)];rfl
 rw[h2]
 rw[h3]
 rfl
theorem z9T (b:Bool): zAB ([],b)=some ([],[],true):=rfl
theorem zPg (l:List zG)(b:Bool): zAB (l,b)=some (l.headD [],l.tail,b||l.isEmpty):=by
 cases l with
 | nil=>rw[z9T];simp
 | cons w r=>rw[zIL];simp
def z5J (s u:zG): zG×Bool:=if u.length≤s.length∧s.drop (s.length-u.length)=u then(s.take (s.length-u.length),true) else(s,false)
theorem zO2{s u:zG}(h:s.length<1000000): zDK s u=some (z5J s u):=by
 have hs:zBh s u=some (decide (u.length≤s.length∧s.drop (s.length-u.length)=u)):=by
  unfold zBh
  by_cases hl:u.length≤s.length
  ·have h1:decide (len u≤len s)=true:=QJ (show(u.length:Int)≤s.length by omega)
   have h2:zF (len s-len u)=((s.length-u.length:Nat):Int):=by rw[uC (x:=(s.length:Int)-u.length) (by omega) (by omega)];omega
   simp only[h1,Qe,h2]
   rw[zTY (by omega) (by omega)]
   simp[hl]
   congr 1
   rw[QU];simp
  ·simp[hl]
 unfold zDK zCw z5J
 rw[hs]
 by_cases hc:u.length≤s.length∧s.drop (s.length-u.length)=u
 ·have h2:zF (len s-len u)=((s.length-u.length:Nat):Int):=by rw[uC (x:=(s.length:Int)-u.length) (by omega) (by omega)];omega
  simp[QJ hc,h2,Qp hc]
  rw[zKR (by omega) (by omega)]
  simp
 ·simp[Q3 hc,Qo hc]
theorem z0V (s u:zG): z5J (s++u) u=(s,true):=by
 unfold z5J
 rw[Qp] <;> simp
theorem z8u (s u:zG): (z5J s u).1.length≤s.length:=by
 unfold z5J
 split
 ·simp[Qt]
 ·simp
def ShT (l:List zG): Prop:=∀ w∈l,w.length≤5000
theorem ShT.head{l:List zG}(h:ShT l): (l.headD []).length≤5000:=by
 cases l with
 | nil=>simp
 | cons w r=>exact h w (by simp)
theorem ShT.tail{l:List zG}(h:ShT l): ShT l.tail:=fun w hw=>h w (List.mem_of_mem_tail hw)
theorem zT7{l:List zG}(h:ShT l)(b:Bool)(u:zG): ∃ s b',zAJ (l,b) u=some (s,l.tail,b')∧s.length≤5000∧(b'=false->b=false∧vName s=true):=by
 have hh:=h.head
 have hc:=z8u (l.headD []) u
 unfold zAJ
 rw[zPg]
 simp only[zob,zO2 (u:=u) (show(l.headD []).length<1000000 by omega)]
 cases hb:(b||l.isEmpty) with
 | true=>exact⟨_,true,rfl,by omega,by simp⟩
 | false =>
  simp only[Q6] at hb
  simp only[zbf,Qc]
  cases hx:(z5J (l.headD []) u).2 with
  | false=>exact⟨_,true,rfl,by omega,by simp⟩
  | true =>
   simp only[QV,zbf,Qc,zQ0,zob]
   exact⟨_,_,rfl,by omega,fun h=>⟨hb.1,by simpa using h⟩⟩
theorem z1D{s:zG}(h:vName s=true)(u:zG)(hu:u.length≤1)(r:List zG)(b:Bool): zAJ ((s++u)::r,b) u=some (s,r,b):=by
 have:=zK3 h
 unfold zAJ
 rw[zIL]
 simp
 rw[zO2 (by simp;omega),z0V]
 simp[zQ0,h]
 cases b <;> rfl
theorem z3P{s:zG}(h:(zP5 s).2=0): vName (zP5 s).1.2=true:=by
 by_cases h1:∃ r,s=126::r
 ·obtain⟨r,rfl⟩:=h1
  rw[zOB] at h ⊢
  split at h
  ·rename_i hv;rw[Qp hv];exact hv
  ·simp at h
 ·rw[zLW fun r hr=>h1 ⟨r,hr⟩] at h ⊢
  split at h
  ·rename_i hv;rw[Qp hv];exact hv
  ·simp at h
theorem z00{l:List zG}(h:ShT l)(b:Bool)(u:zG): ∃ x b',zAV (l,b) u=some (x,l.tail,b')∧(b'=false->b=false∧vName x.2=true):=by
 have hh:=h.head
 unfold zAV
 rw[zPg]
 simp only[zob,zO2 (u:=u) (show(l.headD []).length<1000000 by omega),z1Q]
 cases hb:(b||l.isEmpty) with
 | true=>exact⟨_,true,rfl,by simp⟩
 | false =>
  simp only[Q6] at hb
  simp only[zbf,Qc]
  cases hx:(z5J (l.headD []) u).2 with
  | false=>exact⟨_,true,rfl,by simp⟩
  | true =>
   simp only[QV,zbf,Qc,zob]
   exact⟨_,_,rfl,fun h=>⟨hb.1,z3P (by simpa using h)⟩⟩
theorem z03{x:zI}(h:vName x.2=true): zP5 (zEg x)=(x,0):=by
 obtain⟨g,s⟩:=x
 unfold zEg
 rw[Qp h]
 cases g with
 | true=>simp;rw[zOB,Qp h]
 | false =>
  simp
  rw[zLW,Qp h]
  rintro r rfl
  exact absurd h (by simp[vName,loB])
theorem z2S{x:zI}(h:vName x.2=true)(u:zG)(hu:u.length≤1)(r:List zG)(b:Bool): zAV ((zEg x++u)::r,b) u=some (x,r,b):=by
 have:=zFK x
 unfold zAV
 rw[zIL]
 simp
 rw[zO2 (by simp;omega),z0V]
 simp[z1Q,z03 h]
 cases b <;> rfl
theorem z09{l:List zG}(h:ShT l)(b:Bool)(u:zG): ∃ n b',zAf (l,b) u=some (n,l.tail,b')∧0≤n∧n≤9∧(b'=false->b=false):=by
 have hh:=h.head
 unfold zAf
 rw[zPg]
 simp only[zob,zO2 (u:=u) (show(l.headD []).length<1000000 by omega)]
 cases hx:(z5J (l.headD []) u).2 with
 | false=>exact⟨0,true,rfl,by omega,by omega,by simp⟩
 | true =>
  simp only[QV,zbf,Qc]
  by_cases h1:(z5J (l.headD []) u).1.length=1
  ·obtain⟨c,hc⟩:=List.length_eq_one_iff.1 h1
   have e1:((len (z5J (l.headD []) u).1) != 1)=false:=by rw[hc];rfl
   have e2:xM (z5J (l.headD []) u).1 0=some (c.toNat:Int):=by rw[hc];rfl
   simp only[e1,zbf,Qc,e2,zob]
   by_cases h2:c.toNat<48
   ·have:decide ((c.toNat:Int)<48)=true:=by simp;omega
    simp only[this,Qe,zob]
    exact⟨0,true,rfl,by omega,by omega,by simp⟩
   ·have:decide ((c.toNat:Int)<48)=false:=by simp;omega
    simp only[this,zbf,Qc,zob]
    by_cases h3:57<c.toNat
    ·have:decide ((57:Int)<c.toNat)=true:=by simp;omega
     simp only[this,Qe]
     exact⟨0,true,rfl,by omega,by omega,by simp⟩
    ·have:decide ((57:Int)<c.toNat)=false:=by simp;omega
     simp only[this,zbf,Qc]
     have hw:zF (IntKind.u8.wrap ((c.toNat:Int)-48))=(c.toNat:Int)-48:=by
      have:IntKind.u8.wrap ((c.toNat:Int)-48)=(c.toNat:Int)-48:=by simp only[IntKind.wrap,IntKind.signed,IntKind.bits,Uo,zbf,Qc];omega
      rw[this,uC (by omega) (by omega)]
     rw[hw]
     exact⟨_,_,rfl,by omega,by omega,fun h=>by simp only[Q6] at h;exact h.1⟩
  ·have e1:((len (z5J (l.headD []) u).1) != 1)=true:=bne_iff_ne.2 (show((z5J (l.headD []) u).1.length:Int)≠1 by omega)
   simp only[e1,Qe]
   exact⟨0,true,rfl,by omega,by omega,by simp⟩
theorem z3l{n:Int}(h0:0≤n)(h9:n≤9)(u:zG)(hu:u.length≤1)(r:List zG)(b:Bool): zAf ((tX n++u)::r,b) u=some (n,r,b):=by
 unfold zAf
 rw[zIL]
 simp only[zob]
 rw[zO2 (by simp[tX];omega),z0V]
 obtain⟨k,rfl⟩:∃ k:Nat,n=k:=⟨n.toNat,by omega⟩
 have hd:tX (k:Int)=[UInt8.ofNat (48+k)]:=rfl
 have hc:(UInt8.ofNat (48+k)).toNat=48+k:=by simp;omega
 have e3:xM [UInt8.ofNat (48+k)] 0=some ((UInt8.ofNat (48+k)).toNat:Int):=rfl
 have e2:xM (tX (k:Int)) 0=some ((48+k:Nat):Int):=by rw[hd,e3,hc]
 have e1:((len (tX (k:Int))) != 1)=false:=rfl
 simp only[zob,QV,zbf,Qc,e1,e2]
 have d1:decide (((48+k:Nat):Int)<48)=false:=by simp;omega
 have d2:decide ((57:Int)<((48+k:Nat):Int))=false:=by simp;omega
 simp only[d1,d2,zbf,Qc,zob]
 have hw:zF (IntKind.u8.wrap (((48+k:Nat):Int)-48))=(k:Int):=by
  have:IntKind.u8.wrap (((48+k:Nat):Int)-48)=(k:Int):=by simp only[IntKind.wrap,IntKind.signed,IntKind.bits,Uo,zbf,Qc];omega
  rw[this,uC (by omega) (by omega)]
 rw[hw]
end
section
theorem z96{l:List zG}(h:ShT l)(b:Bool){k:Int}(hk:k=1∨k=2∨k=3): ∃ p r b',zBe (l,b) k=some (p,r,b')∧p.2.1=k∧0≤p.2.2.1∧p.2.2.1≤9∧p.2.2.2.length≤5000∧(b'=false->okP p):=by
 obtain⟨x,b1,e1,h1⟩:=z00 h b []
 unfold zBe
 rw[e1]
 simp only[zob]
 have hs1:∃ l2 b2 n,(if k==2 then(zAf (l.tail,b1) []).bind fun r2=>some (r2.2.1,r2.2.2,r2.1) else some (l.tail,b1,0):Option ((List zG)×Bool×Int))=some (l2,b2,n)∧ShT l2∧0≤n∧n≤9∧(k=2∨n=0)∧(b2=false->b1=false):=by
  by_cases h2:k=2
  ·obtain⟨n,b2,e2,h3,h4,h5⟩:=z09 h.tail b1 []
   have:(k==2)=true:=by simpa using h2
   simp only[this,Qe,e2,zob]
   exact⟨_,_,_,rfl,h.tail.tail,h3,h4,.inl h2,h5⟩
  ·have:(k==2)=false:=by simpa using h2
   simp only[this,zbf,Qc]
   exact⟨_,_,_,rfl,h.tail,by omega,by omega,.inr rfl,id⟩
 obtain⟨l2,b2,n,e2,hs,hn0,hn9,hkn,h2⟩:=hs1
 rw[e2]
 simp only[zob]
 have hs2:∃ l3 b3 sr,(if decide (0<(len l2)) then
   (if b2 then some (l2,true) else(zAB (l2,b2)).bind fun r3=>some (r3.2.1,!(r3.1==[102,114,111,109])):Option ((List zG)×Bool)).bind fun s3 =>
   (zAJ (s3.1,s3.2) []).bind fun r4=>some (r4.2.1,r4.2.2,r4.1)
  else some (l2,b2,[]):Option ((List zG)×Bool×zG))=some (l3,b3,sr)∧sr.length≤5000∧(b3=false->b2=false∧(sr=[]∨vName sr=true)):=by
  by_cases h0:0<l2.length
  ·have:decide (0<len l2)=true:=QJ (show(0:Int)<l2.length by omega)
   simp only[this,Qe]
   cases b2 with
   | true =>
    simp only[Qe,zob]
    obtain⟨sr,b4,e4,h4,h5⟩:=zT7 hs true []
    simp only[e4,zob]
    exact⟨_,_,_,rfl,h4,fun h=>absurd (h5 h).1 (by simp)⟩
   | false =>
    simp only[zbf,Qc,zPg,zob]
    obtain⟨sr,b4,e4,h4,h5⟩:=zT7 hs.tail (!(l2.headD []==[102,114,111,109])) []
    simp only[e4,zob]
    exact⟨_,_,_,rfl,h4,fun h=>⟨by trivial,.inr (h5 h).2⟩⟩
  ·have:decide (0<len l2)=false:=Q3 (show ¬ (0:Int)<l2.length by omega)
   simp only[this,zbf,Qc]
   exact⟨_,_,_,rfl,by simp,fun h=>⟨h,.inl rfl⟩⟩
 obtain⟨l3,b3,sr,e3,hsr,h3⟩:=hs2
 rw[e3]
 simp only[zob]
 exact⟨(x,k,n,sr),l3,b3,rfl,rfl,hn0,hn9,hsr,fun hb=>⟨hk,(h1 (h2 (h3 hb).1)).2,hn0,hn9,hkn,(h3 hb).2⟩⟩
theorem prem_ok{p:wM}(h:okP p): zBe ((zSY p).tail,false) p.2.1=some (p,[],false):=by
 obtain⟨x,k,n,s⟩:=p
 obtain⟨hk,hx,h0,h9,hkn,hs⟩:=h
 have e1:=fun r=>z2S hx [] (by simp) r false
 simp at e1
 have e2:=fun r=>z3l h0 h9 [] (by simp) r false
 simp at e2
 unfold zBe zSY
 simp only[UH,QI,List.tail_cons]
 rw[e1]
 have src:∀ n:Int,((if decide (0<(len (if s=[] then([]:List zG) else[z1W,s]))) then
   (if false then some ((if s=[] then([]:List zG) else[z1W,s]),true) else(zAB ((if s=[] then([]:List zG) else[z1W,s]),false)).bind fun r3=>some (r3.2.1,!(r3.1==[102,114,111,109])):Option ((List zG)×Bool)).bind fun s3 =>
   (zAJ (s3.1,s3.2) []).bind fun r4=>some (r4.2.1,r4.2.2,r4.1)
  else some ((if s=[] then([]:List zG) else[z1W,s]),false,[]):Option ((List zG)×Bool×zG)).bind fun s2=>some ((x,k,n,s2.2.2),s2.1,s2.2.1))=some ((x,k,n,s),[],false):=by
  intro n
  by_cases hs0:s=[]
  ·subst hs0;simp
  ·have hv:=hs.resolve_left hs0
   have e3:=z1D hv [] (by simp) [] false
   simp at e3
   have h1:decide (0<len [z1W,s])=true:=by simp
   have h2:(z1W==[102,114,111,109])=true:=rfl
   simp[Qo hs0,zIL,h2,e3]
 by_cases h2:k=2
 ·have hk2:(k==2)=true:=by simpa using h2
  simp only[hk2,Qe,Qp h2,List.singleton_append,e2,zob]
  exact src n
 ·have hk2:(k==2)=false:=by simpa using h2
  obtain rfl:n=0:=hkn.resolve_left h2
  simp only[hk2,zbf,Qc,Qo h2,QI,zob]
  exact src 0
theorem z8r{l:List zG}(h:ShT l)(b:Bool): ∃ p r b',zBU (l,b)=some (p,r,b')∧0≤p.2.1∧p.2.1≤9∧p.1.length≤5000∧(b'=false->okT p):=by
 obtain⟨s,b1,e1,h1,h1'⟩:=zT7 h b []
 obtain⟨n,b2,e2,h2,h2',h2''⟩:=z09 h.tail b1 []
 unfold zBU
 rw[e1]
 simp only[zob,e2]
 have hs1:∃ l3 b3,(if b2 then some (l.tail.tail,true) else(zAB (l.tail.tail,b2)).bind fun r3=>some (r3.2.1,!(r3.1==[105,102])):Option ((List zG)×Bool))=some (l3,b3)∧ShT l3∧(b3=false->b2=false):=by
  cases b2 with
  | true=>exact⟨_,_,rfl,h.tail.tail,by simp⟩
  | false =>
   simp only[zbf,Qc,zPg,zob]
   exact⟨_,_,rfl,h.tail.tail.tail,fun _=>by trivial⟩
 obtain⟨l3,b3,e3,h3,h3'⟩:=hs1
 rw[e3]
 obtain⟨x,b4,e4,h4⟩:=z00 h3 b3 []
 simp only[zob,e4]
 exact⟨(s,n,x),_,b4,rfl,h2,h2',h1,fun hb=>⟨(h1' (h2'' (h3' (h4 hb).1))).2,h2,h2',(h4 hb).2⟩⟩
theorem prom_ok{p:wE}(h:okT p): zBU ((zTS p).tail,false)=some (p,[],false):=by
 obtain⟨s,n,x⟩:=p
 obtain⟨hs,h0,h9,hx⟩:=h
 have e1:=fun r=>z1D hs [] (by simp) r false
 simp at e1
 have e2:=fun r=>z3l h0 h9 [] (by simp) r false
 simp at e2
 have e3:=fun r=>z2S hx [] (by simp) r false
 simp at e3
 unfold zBU zTS
 simp[e1,e2,zIL]
 have h2:(ifW==[105,102])=true:=rfl
 simp[h2,e3]
theorem z8a{l:List zG}(h:ShT l)(b:Bool)(acc:List zI)(ha:acc.length+l.length≤10000)(hv:b=false->∀ x∈acc,vName x.2=true):
  ∃ r b' body,zO zBP (l,b,acc)=some (r,b',body)∧ShT r∧body.length≤10000∧(b'=false->b=false∧∀ x∈body,vName x.2=true):=by
 have h:=z4d (B:=zBP) (fun s=>s.1.length) (fun s=>ShT s.1∧s.2.2.length+s.1.length≤10000∧(s.2.1=false->b=false∧∀ x∈s.2.2,vName x.2=true))
  (fun o=>ShT o.1∧o.2.2.length≤10000∧(o.2.1=false->b=false∧∀ x∈o.2.2,vName x.2=true)) ?_ (l,b,acc) ⟨h,ha,fun hb=>⟨hb,hv hb⟩⟩
 ·obtain⟨⟨r,b',body⟩,h1,h2,h3,h4⟩:=h
  exact⟨r,b',body,h1,h2,h3,h4⟩
 ·rintro ⟨l,bb,acc⟩ ⟨hs,hl,hv⟩
  unfold zBP
  simp only at hs hl hv ⊢
  by_cases hc:2<l.length∧bb=false
  ·obtain⟨h2,rfl⟩:=hc
   have:(decide (2<len l)&&!false)=true:=by simp;exact(show(2:Int)<l.length by omega)
   simp only[this,Qe]
   have hcm:∃ u:zG,(if(len l)==3 then some [] else some [44]:Option zG)=some u:=by split <;> exact⟨_,rfl⟩
   obtain⟨u,hu⟩:=hcm
   rw[hu]
   obtain⟨x,b1,e1,h1⟩:=z00 hs false u
   simp only[zob,e1]
   rw[wZ (by simp;omega)]
   simp only[zob]
   refine .inl ⟨_,rfl,⟨hs.tail,by simp;omega,fun hb=>⟨(hv rfl).1,fun y hy=>?_⟩⟩,by simp;omega⟩
   rcases Qb.1 hy with hy | hy
   ·exact(hv rfl).2 y hy
   ·simp at hy;subst hy;exact(h1 hb).2
  ·have:(decide (2<len l)&&!bb)=false:=by
    cases bb with
    | true=>simp
    | false =>
     simp only[Ub,Wg]
     exact Q3 (show ¬ (2:Int)<l.length by simp at hc;omega)
   simp only[this,zbf,Qc]
   exact .inr ⟨_,rfl,hs,by show acc.length≤10000;omega,hv⟩
theorem z4H{σ ρ:Type}{B:σ->Option (σ⊕ρ)}{s s':σ}(h:B s=some (.inl s')): zO B s=zO B s':=by rw[yP,h]
theorem zVG{σ ρ:Type}{B:σ->Option (σ⊕ρ)}{s:σ}{r:ρ}(h:B s=some (.inr r)): zO B s=some r:=by rw[yP,h]
theorem z3Q:∀(l:List zI) (a h:zG) (acc:List zI),(∀ x∈l,vName x.2=true)->acc.length+l.length≤10000->zO zBP (yV l++[a,h],false,acc)=some ([a,h],false,acc++l)
 | [],a,h,acc,_,_=>by
  rw[QA]
  exact zVG rfl
 | x::r,a,h,acc,hv,hl=>by
  have hx:=hv x (by simp)
  have ih:=z3Q r a h (acc++[x]) (fun y hy=>hv y (by simp[hy])) (by simp at hl ⊢;omega)
  have step:zBP (yV (x::r)++[a,h],false,acc)=some (.inl (yV r++[a,h],false,acc++[x])):=by
   unfold zBP
   have hc:(decide (2<len (yV (x::r)++[a,h]))&&!false)=true:=by
    simp only[Ub,Wg]
    exact QJ (show(2:Int)<(yV (x::r)++[a,h]).length by rw[Qh,zLh];simp;omega)
   simp only[hc,Qe]
   cases r with
   | nil =>
    have h3:((len (yV [x]++[a,h]))==3)=true:=rfl
    have e1:=z2S hx [] (by simp) [a,h] false
    rw[QA] at e1
    have e0:yV [x]++[a,h]=zEg x::[a,h]:=rfl
    simp[h3]
    rw[e0,e1]
    simp
    rw[wZ (by simp;omega)]
    rfl
   | cons y r =>
    have h3:((len (yV (x::y::r)++[a,h]))==3)=false:=by
     have:((yV (x::y::r)++[a,h]).length:Int)≠3:=by rw[Qh,zLh];simp;omega
     exact UP this
    have e1:=z2S hx [44] (by simp) (yV (y::r)++[a,h]) false
    have e0:yV (x::y::r)++[a,h]=(zEg x++[44])::(yV (y::r)++[a,h]):=rfl
    simp[h3]
    rw[e0,e1]
    simp
    rw[wZ (by simp;omega)]
    rfl
  rw[z4H step,ih]
  simp
theorem z8b{l:List zG}(h:ShT l)(hl:l.length≤5000)(st:Bool): ∃ q r b',zC8 (l,false) st=some (q,r,b')∧q.2.1=st∧0≤q.2.2.1∧q.2.2.1≤9∧q.1.length≤5000∧q.2.2.2.1.length≤10000∧(b'=false->okR q):=by
 unfold zC8
 have hs1:∃ ar l1 b1 nm rk,(if st then(zAJ (l,false) [58]).bind fun r1=>some ([45,62],r1.2.1,r1.2.2,r1.1,0)
  else(zAJ (l,false) []).bind fun r2=>(zAf (r2.2.1,r2.2.2) [58]).bind fun r3=>some ([61,62],r3.2.1,r3.2.2,r2.1,r3.1):Option (zG×(List zG)×Bool×zG×Int))=some (ar,l1,b1,nm,rk) ∧
   ShT l1∧l1.length≤5000∧nm.length≤5000∧0≤rk∧rk≤9∧(st=true->rk=0)∧(b1=false->vName nm=true):=by
  cases st with
  | true =>
   obtain⟨s,b1,e1,h1,h1'⟩:=zT7 h false [58]
   simp only[Qe,e1,zob]
   exact⟨_,_,_,_,_,rfl,h.tail,by simp;omega,h1,by omega,by omega,fun _=>rfl,fun hb=>(h1' hb).2⟩
  | false =>
   obtain⟨s,b1,e1,h1,h1'⟩:=zT7 h false []
   obtain⟨n,b2,e2,h2,h2',h2''⟩:=z09 h.tail b1 [58]
   simp only[zbf,Qc,e1,zob,e2]
   exact⟨_,_,_,_,_,rfl,h.tail.tail,by simp;omega,h1,h2,h2',fun h=>(by cases h),fun hb=>(h1' (h2'' hb)).2⟩
 obtain⟨ar,l1,b1,nm,rk,e1,hs,hl1,hnm,hr0,hr9,hst,h1⟩:=hs1
 rw[e1]
 obtain⟨l2,b2,body,e2,h2,hbd,h2'⟩:=z8a hs b1 [] (by simp;omega) (by simp)
 simp only[zob,e2]
 have hs2:∃ l3 b3,(if b2 then some (l2,true) else(zAB (l2,b2)).bind fun r5=>some (r5.2.1,!(r5.1==ar)):Option ((List zG)×Bool))=some (l3,b3)∧ShT l3∧(b3=false->b2=false):=by
  cases b2 with
  | true=>exact⟨_,_,rfl,h2,by simp⟩
  | false =>
   simp only[zbf,Qc,zPg,zob]
   exact⟨_,_,rfl,h2.tail,fun _=>by trivial⟩
 obtain⟨l3,b3,e3,h3,h3'⟩:=hs2
 rw[e3]
 obtain⟨x,b4,e4,h4⟩:=z00 h3 b3 []
 simp only[zob,e4]
 exact⟨(nm,st,rk,body,x),_,b4,rfl,rfl,hr0,hr9,hnm,hbd,fun hb=>⟨h1 (h2' (h3' (h4 hb).1)).1,(h4 hb).2,hr0,hr9,hst,(h2' (h3' (h4 hb).1)).2⟩⟩
theorem rule_ok{r:qC}(h:okR r)(hb:r.2.2.2.1.length≤5000): zC8 ((zOM r).tail,false) r.2.1=some (r,[],false):=by
 obtain⟨nm,st,rk,body,x⟩:=r
 obtain⟨hn,hx,h0,h9,hst,hv⟩:=h
 simp only at hn hx h0 h9 hst hv hb
 have e5:=z2S hx [] (by simp) [] false
 rw[QA] at e5
 unfold zC8 zOM
 cases st with
 | true =>
  obtain rfl:=hst rfl
  simp
  rw[z1D hn [58] (by simp)]
  simp
  rw[z3Q body _ _ [] hv (by simp;omega)]
  have h2:(z2g true==[45,62])=true:=rfl
  simp[zIL,h2,e5]
 | false =>
  simp
  have e1:=fun r=>z1D hn [] (by simp) r false
  simp at e1
  rw[e1]
  simp
  rw[z3l h0 h9 [58] (by simp)]
  simp
  rw[z3Q body _ _ [] hv (by simp;omega)]
  have h2:(z2g false==[61,62])=true:=rfl
  simp[zIL,h2,e5]
end
section
inductive El
 | p (x:wM)
 | r (x:qC)
 | t (x:wE)
def El.ok:El->Prop
 | .p x=>okP x
 | .r x=>okR x
 | .t x=>okT x
def El.ws:El->List zG
 | .p x=>zSY x
 | .r x=>zOM x
 | .t x=>zTS x
abbrev El.line (e:El): zG:=jn e.ws
def El.kind:El->Int
 | .p _=>1
 | .r _=>2
 | .t _=>3
def El.add (b:zM): El->zM
 | .p x=>(b.1++[x],b.2.1,b.2.2)
 | .r x=>(b.1,b.2.1++[x],b.2.2)
 | .t x=>(b.1,b.2.1,b.2.2++[x])
theorem z6r{n:Int}(h0:0≤n)(h9:n≤9): wd (tX n)=true:=by
 obtain⟨k,rfl⟩:∃ k:Nat,n=k:=⟨n.toNat,by omega⟩
 have:∀ k:_root_.Fin 10,wd (tX (k.val:Int))=true:=by decide +kernel
 exact this ⟨k,by omega⟩
theorem z4f:∀ l:List zI,(∀ x∈l,vName x.2=true)->∀ w∈yV l,wd w=true
 | [],_,w,hw=>by cases hw
 | [x],h,w,hw=>by
  simp[yV] at hw
  subst hw;exact z1y (h x (by simp))
 | x::y::r,h,w,hw=>by
  simp[yV] at hw
  rcases hw with rfl | hw
  ·exact z3Y (by decide) (z1y (h x (by simp)))
  ·exact z4f (y::r) (fun z hz=>h z (by simp at hz ⊢;exact .inr hz)) w hw
theorem z8s (k:Int): wd (zOI k)=true:=by
 unfold zOI
 split
 ·decide
 ·split <;> decide
theorem El.wd{e:El}(h:e.ok): ∀ w∈e.ws,wd w=true:=by
 cases e with
 | p x =>
  obtain⟨hk,hx,h0,h9,hkn,hs⟩:=h
  intro w hw
  simp only[El.ws,zSY,Qb,QB,UJ,or_false] at hw
  rcases hw with((rfl | rfl) | hw) | hw
  ·exact z8s _
  ·exact z1y hx
  ·split at hw
   ·simp at hw;subst hw;exact z6r h0 h9
   ·cases hw
  ·split at hw
   ·cases hw
   ·rename_i hs0
    simp at hw
    rcases hw with rfl | rfl
    ·decide
    ·exact zUw (hs.resolve_left hs0)
 | r x =>
  obtain⟨hn,hx,h0,h9,hst,hv⟩:=h
  intro w hw
  simp only[El.ws,zOM,Qb,QB,UJ,or_false] at hw
  rcases hw with(hw | hw) | (rfl | rfl)
  ·split at hw
   ·simp at hw
    rcases hw with rfl | rfl
    ·decide
    ·exact z3Y (by decide) (zUw hn)
   ·simp at hw
    rcases hw with rfl | rfl | rfl
    ·decide
    ·exact zUw hn
    ·exact z3Y (by decide) (z6r h0 h9)
  ·exact z4f _ hv w hw
  ·unfold z2g;split <;> decide
  ·exact z1y hx
 | t x =>
  obtain⟨hn,h0,h9,hx⟩:=h
  intro w hw
  simp[El.ws,zTS] at hw
  rcases hw with rfl | rfl | rfl | rfl | rfl
  ·decide
  ·exact zUw hn
  ·exact z6r h0 h9
  ·decide
  ·exact z1y hx
theorem El.fields{e:El}(h:e.ok): Lib.fieldsD e.line=e.ws:=z5y (El.wd h)
theorem z1U{w:zG}(rest:List zG×Bool)(k:Int)(hw:w=zOI k)(hk:k=1∨k=2∨k=3): zO (zKJ (w,rest)) (1,0)=some k:=by
 have hw':zOI k=w:=hw.symm
 rcases hk with rfl | rfl | rfl <;>
  (subst hw'
   refine zLg (n:=6) ?_
   rfl)
def BSh (b:zM): Prop:=b.1.length≤10000∧b.2.1.length≤10000∧b.2.2.length≤10000
theorem sel3 (w a b c:zG): (if w==a then some (w==a) else if w==b then some (w==b) else some (w==c):Option Bool)=some (decide (w=a∨w=b∨w=c)):=by
 by_cases h1:w=a
 ·subst h1;simp
 ·by_cases h2:w=b
  ·subst h2;simp
  ·have e1:(w==a)=false:=UP h1
   have e2:(w==b)=false:=UP h2
   simp[e1,e2]
   congr 1
   rw[QU]
   simp[h1,h2]
theorem sel2 (w a b:zG): (if w==a then some (w==a) else some (w==b):Option Bool)=some (decide (w=a∨w=b)):=by
 by_cases h1:w=a
 ·subst h1;simp
 ·have e1:(w==a)=false:=UP h1
  simp[e1]
  congr 1
  rw[QU]
  simp[h1]
theorem add_any{l:List zG}(h:ShT l)(hl:l.length≤5000){b:zM}(hb:BSh b): ∃ k t r bad b',zCo (l,false) b=some (k,t,r,bad,b')∧(bad=false->1≤k->∃ e:El,e.ok∧t=e.line∧k=e.kind∧b'=e.add b):=by
 unfold zCo
 rw[zPg]
 simp only[zob]
 have hs1:(if(l.headD [])==[97,120,105,111,109] then some ((l.headD [])==[97,120,105,111,109]) else
   if(l.headD [])==[112,114,101,109,105,115,101] then some ((l.headD [])==[112,114,101,109,105,115,101]) else some ((l.headD [])==[97,115,115,117,109,101]):Option Bool) =
   some (decide (l.headD []=zOI 1∨l.headD []=zOI 2∨l.headD []=zOI 3)):=sel3 _ _ _ _
 have hs4:(if(l.headD [])==[115,116,114,105,99,116] then some ((l.headD [])==[115,116,114,105,99,116]) else some ((l.headD [])==[114,117,108,101]):Option Bool) =
   some (decide (l.headD []=zKU∨l.headD []=zNj)):=sel2 _ _ _
 rw[hs1]
 simp only[zob,U6]
 by_cases hk:l.headD []=zOI 1∨l.headD []=zOI 2∨l.headD []=zOI 3
 ·obtain⟨k,hw,hk'⟩:∃ k:Int,l.headD []=zOI k∧(k=1∨k=2∨k=3):=by
   rcases hk with h | h | h
   ·exact⟨1,h,by simp⟩
   ·exact⟨2,h,by simp⟩
   ·exact⟨3,h,by simp⟩
  simp only[QJ hk,Qe]
  rw[z1U _ k hw hk']
  obtain⟨p,r,b',e1,h1,h2,h3,h4,h5⟩:=z96 h.tail l.isEmpty hk'
  simp only[zob,e1]
  rw[wZ (by have:=hb.1;simp;omega),z4v (by rw[h1];exact hk') h2 h3 (by omega)]
  exact⟨1,_,r,b',_,rfl,fun hbb _=>⟨.p p,h5 hbb,rfl,rfl,rfl⟩⟩
 ·simp only[Q3 hk,zbf,Qc]
  rw[hs4]
  simp only[zob]
  by_cases hr:l.headD []=zKU∨l.headD []=zNj
  ·simp only[QJ hr,Qe]
   have hne:l.isEmpty=false:=by
    cases l with
    | nil=>rcases hr with h | h <;> cases h
    | cons=>rfl
   rw[hne]
   obtain⟨q,r,b',e1,h1,h2,h3,h4,h5,h6⟩:=z8b h.tail (by simp;omega) (l.headD []==[115,116,114,105,99,116])
   rw[e1]
   simp only[zob]
   rw[wZ (by have:=hb.2.1;simp;omega),z4w h2 h3 (by omega) h5]
   exact⟨2,_,r,b',_,rfl,fun hbb _=>⟨.r q,h6 hbb,rfl,rfl,rfl⟩⟩
  ·simp only[Q3 hr,zbf,Qc]
   split
   ·obtain⟨p,r,b',e1,h1,h2,h3,h4⟩:=z8r h.tail l.isEmpty
    rw[e1]
    simp only[zob]
    rw[wZ (by have:=hb.2.2;simp;omega),z4t h1 h2 (by omega)]
    exact⟨3,_,r,b',_,rfl,fun hbb _=>⟨.t p,h4 hbb,rfl,rfl,rfl⟩⟩
   ·exact⟨0,_,_,_,_,rfl,fun _ h=>absurd h (by omega)⟩
theorem z7R{e:El}(h:e.ok){b:zM}(hb:BSh b)(hl:∀ x,e=.r x->x.2.2.2.1.length≤5000): zCo (e.ws,false) b=some (e.kind,e.line,[],false,e.add b):=by
 unfold zCo
 cases e with
 | p x =>
  have h':okP x:=h
  have hw:∃ r,zSY x=zOI x.2.1::r:=⟨_,rfl⟩
  obtain⟨r,hr⟩:=hw
  have ht:(zSY x).tail=r:=by rw[hr];rfl
  have e1:=prem_ok h'
  rw[ht] at e1
  simp only[El.ws]
  rw[hr,zIL]
  simp only[zob]
  have hs1:(if(zOI x.2.1)==[97,120,105,111,109] then some ((zOI x.2.1)==[97,120,105,111,109]) else
   if(zOI x.2.1)==[112,114,101,109,105,115,101] then some ((zOI x.2.1)==[112,114,101,109,105,115,101]) else some ((zOI x.2.1)==[97,115,115,117,109,101]):Option Bool)=some true:=by
   rcases h'.1 with h | h | h <;> rw[h] <;> rfl
  rw[hs1]
  rw[z1U _ x.2.1 rfl h'.1]
  have hsl:x.2.2.2.length≤1000000:=by
   rcases h'.2.2.2.2.2 with h | h
   ·simp[h]
   ·have:=(zK3 h).2;omega
  simp[e1]
  rw[wZ (by have:=hb.1;simp;omega),z4v h'.1 h'.2.2.1 h'.2.2.2.1 hsl]
  rfl
 | r x =>
  have h':okR x:=h
  have hbl:=hl x rfl
  have hw:∃ r,zOM x=(if x.2.1 then zKU else zNj)::r:=by unfold zOM;cases x.2.1 <;> exact⟨_,rfl⟩
  obtain⟨r,hr⟩:=hw
  have ht:(zOM x).tail=r:=by rw[hr];rfl
  have e1:=rule_ok h' hbl
  rw[ht] at e1
  simp only[El.ws]
  rw[hr,zIL]
  have hst:((if x.2.1 then zKU else zNj)==([115,116,114,105,99,116]:zG))=x.2.1:=by cases x.2.1 <;> rfl
  have hs1:(if(if x.2.1 then zKU else zNj)==([97,120,105,111,109]:zG) then some ((if x.2.1 then zKU else zNj)==([97,120,105,111,109]:zG)) else
   if(if x.2.1 then zKU else zNj)==([112,114,101,109,105,115,101]:zG) then some ((if x.2.1 then zKU else zNj)==([112,114,101,109,105,115,101]:zG)) else some ((if x.2.1 then zKU else zNj)==([97,115,115,117,109,101]:zG)):Option Bool)=some false:=by
   cases x.2.1 <;> rfl
  have hs4:(if(if x.2.1 then zKU else zNj)==([115,116,114,105,99,116]:zG) then some ((if x.2.1 then zKU else zNj)==([115,116,114,105,99,116]:zG)) else some ((if x.2.1 then zKU else zNj)==([114,117,108,101]:zG)):Option Bool)=some true:=by
   cases x.2.1 <;> rfl
  have hn:=(zK3 h'.1).2
  simp only[zob]
  rw[hs1]
  rw[hs4]
  simp[hst,e1]
  rw[wZ (by have:=hb.2.1;simp;omega),z4w h'.2.2.1 h'.2.2.2.1 (by omega) (by omega)]
  rfl
 | t x =>
  have h':okT x:=h
  have e1:=prom_ok h'
  have hn:=(zK3 h'.1).2
  have hr:zTS x=zXF::(zTS x).tail:=rfl
  simp[El.ws]
  rw[hr,zIL]
  simp[e1]
  rw[wZ (by have:=hb.2.2;simp;omega),z4t h'.2.1 h'.2.2.1 (by omega)]
  rfl
end
section
def wG:zG->zG×zG×Bool
 | []=>([],[],false)
 | c::r=>if c=10 then([],r,true) else(c::(wG r).1,(wG r).2.1,(wG r).2.2)
theorem z0P:∀ s:zG,s=(wG s).1++(if(wG s).2.2 then 10::(wG s).2.1 else[])
 | []=>rfl
 | c::r=>by
  have ih:=z0P r
  unfold wG
  split
  ·rename_i h;subst h;rfl
  ·simp;rw[←ih]
theorem z0T:∀ s:zG,(wG s).2.2=false->(wG s).2.1=[]
 | [],_=>rfl
 | c::r,h=>by
  unfold wG at h ⊢
  split
  ·rename_i hc;simp[hc] at h
  ·rename_i hc;rw[Qo hc] at h;exact z0T r h
theorem z4V (s:zG): (wG s).1.length≤s.length:=by
 have h:=congrArg List.length (z0P s)
 rw[Qh] at h
 omega
theorem z2w{s:zG}(h:s≠[]): (wG s).2.1.length<s.length:=by
 have h1:=congrArg List.length (z0P s)
 cases he:(wG s).2.2 with
 | false=>rw[z0T s he];exact Q2.2 h
 | true=>rw[he] at h1;simp at h1;omega
theorem z9Y{a:zG}(ha:(10:UInt8)∉a)(r:zG): wG (a++10::r)=(a,r,true):=by
 induction a with
 | nil=>rfl
 | cons c a ih =>
  have hc:c≠10:=fun e=>ha (by simp[e])
  rw[UH,wG,Qo hc,ih fun h=>ha (by simp[h])]
theorem z5C:∀ s:zG,Lib.indexByte s 10=if(wG s).2.2 then((wG s).1.length:Int) else -1
 | []=>rfl
 | c::r=>by
  have ih:=z5C r
  unfold wG Lib.indexByte
  by_cases hc:c=10
  ·subst hc;rfl
  ·have hb:(c==10)=false:=UP hc
   simp only[hb,zbf,Qc,Qo hc,ih]
   cases (wG r).2.2 with
   | false=>rfl
   | true =>
    have:(((wG r).1.length:Int)==-1)=false:=UP (by omega)
    simp only[Qe,this,zbf,Qc,QZ]
    omega
theorem cut_ok{s:zG}(h:s.length<1000000): zMi s [10]=some (wG s):=by
 unfold zMi zEh zDt z4p
 have hs:=z0P s
 have hl:=congrArg List.length hs
 rw[Qh] at hl
 simp only[zob]
 rw[z5C]
 cases he:(wG s).2.2 with
 | false =>
  have h2:=z0T s he
  rw[he] at hs
  simp at hs
  have:decide ((0:Int)≤-1)=false:=rfl
  simp
  have:wG s=((wG s).1,(wG s).2.1,(wG s).2.2):=rfl
  rw[this,he,h2,←hs]
 | true =>
  rw[he] at hs hl
  simp at hs hl
  have:decide ((0:Int)≤((wG s).1.length:Int))=true:=by simp
  simp
  rw[zKR (by omega) (by omega)]
  have h1:len ([10]:zG)=1:=rfl
  have hw:zF (((wG s).1.length:Int)+len ([10]:zG))=(((wG s).1.length+1:Nat):Int):=by rw[h1,uC (x:=((wG s).1.length:Int)+1) (by omega) (by omega)];omega
  rw[hw,zTY (by omega) (by omega)]
  simp only[zob,Qi]
  have e0:wG s=((wG s).1,(wG s).2.1,(wG s).2.2):=rfl
  have e1:s.take (wG s).1.length=(wG s).1:=by
   have:s.take (wG s).1.length=((wG s).1++10::(wG s).2.1).take (wG s).1.length:=by rw[←hs]
   rw[this,U9]
  have e2:s.drop ((wG s).1.length+1)=(wG s).2.1:=by
   have:s.drop ((wG s).1.length+1)=((wG s).1++10::(wG s).2.1).drop ((wG s).1.length+1):=by rw[←hs]
   rw[this,←UM,List.drop_left];rfl
  rw[e0,he,e1,e2]
theorem le_sum{w:zG}: ∀ {l:List zG},w∈l->w.length≤(l.map List.length).sum
 | x::l,h=>by
  simp only[Um,List.sum_cons]
  rcases QB.1 h with rfl | h
  ·omega
  ·have:=le_sum h;omega
open Classical in
noncomputable def elOf (ln:zG): Option El:=if h:∃ e:El,e.ok∧e.line=ln then some h.choose else none
theorem zXS{ln:zG}{e:El}(h:elOf ln=some e): e.ok∧e.line=ln:=by
 unfold elOf at h
 split at h
 ·rename_i hx;cases h;exact hx.choose_spec
 ·cases h
theorem z1a{ln:zG}(h:elOf ln=none): ¬ ∃ e:El,e.ok∧e.line=ln:=by
 unfold elOf at h
 split at h
 ·cases h
 ·assumption
theorem El.short{e:El}(h:e.ok){n:Nat}(hl:e.line.length≤n): e.ws.length≤n∧∀ x,e=.r x->x.2.2.2.1.length≤n:=by
 have h1:=(zXU e.line).2
 rw[El.fields h] at h1
 refine⟨by omega,fun x hx=>?_⟩
 subst hx
 have:(zOM x).length=(yV x.2.2.2.1).length+(if x.2.1 then 4 else 5):=by
  unfold zOM;cases x.2.1 <;> simp <;> omega
 rw[zLh] at this
 have h2:(zOM x).length≤(jn (zOM x)).length:=h1
 have h3:(jn (zOM x)).length≤n:=hl
 omega
theorem El.inj{e e':El}(h:e.ok)(h':e'.ok)(hl:e.line.length≤5000)(he:e.line=e'.line): e=e':=by
 have hw:e.ws=e'.ws:=by rw[←El.fields h,←El.fields h',he]
 have h1:=z7R h (b:=([],[],[])) ⟨by simp,by simp,by simp⟩ (fun x hx=>(El.short h hl).2 x hx)
 have h2:=z7R h' (b:=([],[],[])) ⟨by simp,by simp,by simp⟩ (fun x hx=>(El.short h' (by rw[←he];exact hl)).2 x hx)
 rw[hw,h2] at h1
 simp only[Qd,Prod.mk.injEq] at h1
 obtain⟨hk,_,_,_,ha⟩:=h1
 cases e with
 | p x=>cases e' with
  | p y=>have h:=congrArg (fun b:zM=>b.1) ha;simp[El.add] at h;rw[h]
  | r y=>simp[El.kind] at hk
  | t y=>simp[El.kind] at hk
 | r x=>cases e' with
  | p y=>simp[El.kind] at hk
  | r y=>have h:=congrArg (fun b:zM=>b.2.1) ha;simp[El.add] at h;rw[h]
  | t y=>simp[El.kind] at hk
 | t x=>cases e' with
  | p y=>simp[El.kind] at hk
  | r y=>simp[El.kind] at hk
  | t y=>have h:=congrArg (fun b:zM=>b.2.2) ha;simp[El.add] at h;rw[h]
theorem z6Z{e:El}(h:e.ok)(hl:e.line.length≤5000): elOf e.line=some e:=by
 cases hx:elOf e.line with
 | none=>exact absurd ⟨e,h,rfl⟩ (z1a hx)
 | some e' =>
  obtain⟨h1,h2⟩:=zXS hx
  rw[El.inj h h1 hl h2.symm]
noncomputable def zPQ:Nat->zG->Int->Int->zM->zM⊕Int
 | 0,_,_,_,b=>.inl b
 | f+1,s,last,n,b=>if s=[] then .inl b else match elOf (wG s).1 with
  | some e=>if(wG s).2.2=true∧last≤e.kind then zPQ f (wG s).2.1 e.kind (n+1) (e.add b) else .inr n
  | none=>.inr n
abbrev noB:zM:=(([]:List wM),([]:List qC),([]:List wE))
def endP:zM⊕Int->zM⊕(zM×Int×Int)
 | .inl b=>.inl b
 | .inr n=>.inr (noB,n,3)
theorem El.kind_pos (e:El): 1≤e.kind:=by cases e <;> simp[El.kind]
theorem zZt:∀(f:Nat) (s:zG) (last n:Int) (b:zM),s.length≤f->s.length≤4096->1≤last->1≤n->n+s.length≤6000->b.1.length+s.length≤9000->b.2.1.length+s.length≤9000->b.2.2.length+s.length≤9000->
  zO zET (s,last,n,b.1,b.2.1,b.2.2)=some (endP (zPQ f s last n b))
 | 0,s,last,n,b,hf,_,_,_,_,_,_,_=>by
  obtain rfl:s=[]:=List.length_eq_zero_iff.1 (by omega)
  exact zVG rfl
 | f+1,s,last,n,b,hf,h4,hla,hn,hns,hb1,hb2,hb3=>by
  unfold zPQ
  by_cases hs:s=[]
  ·subst hs
   exact zVG rfl
  ·rw[Qo hs]
   have hne:(!(s==[]))=true:=by simpa using hs
   have hcl:=z4V s
   have hless:=z2w hs
   have hfl:=zXU (wG s).1
   have hsh:ShT (Lib.fieldsD (wG s).1):=fun w hw=>by
    have:w.length≤((Lib.fieldsD (wG s).1).map List.length).sum:=le_sum hw
    omega
   have hff:zJe (wG s).1=some (Lib.fieldsD (wG s).1):=by
    unfold zJe z06
    rw[Qp (by omega)]
   have hbs:BSh b:=⟨by omega,by omega,by omega⟩
   cases hx:elOf (wG s).1 with
   | some e =>
    obtain⟨ho,hl⟩:=zXS hx
    have hadd:=z7R ho hbs (fun x hx=>(El.short ho (n:=5000) (by rw[hl];omega)).2 x hx)
    have hwf:Lib.fieldsD (wG s).1=e.ws:=by rw[←hl];exact El.fields ho
    have hB:zET (s,last,n,b.1,b.2.1,b.2.2)=if(wG s).2.2=true∧last≤e.kind then some (.inl ((wG s).2.1,e.kind,n+1,(e.add b).1,(e.add b).2.1,(e.add b).2.2)) else some (.inr (.inr (noB,n,3))):=by
     unfold zET
     simp only[hne,Qe,cut_ok (show s.length<1000000 by omega),zob,hff,hwf]
     have:((b.1,b.2.1,b.2.2):zM)=b:=rfl
     rw[this,hadd]
     simp only[zob]
     have e1:(!(e.line==(wG s).1))=false:=by rw[hl];simp
     have e2:decide ((0:Int)<len ([]:List zG))=false:=rfl
     have hw:zF (n+1)=n+1:=uC (by omega) (by omega)
     simp only[e1,e2,U6,hw]
     by_cases hc:(wG s).2.2=true∧last≤e.kind
     ·have e3:decide (e.kind<last)=false:=Q3 (by omega)
      rw[Qp hc,e3,hc.1]
      rfl
     ·rw[Qo hc]
      have e3:((!(wG s).2.2)||decide (e.kind<last))=true:=by
       cases h1:(wG s).2.2 with
       | false=>rfl
       | true =>
        rw[h1] at hc
        have:e.kind<last:=by simp at hc;omega
        simpa using this
      rw[e3]
      rfl
    simp only
    by_cases hc:(wG s).2.2=true∧last≤e.kind
    ·rw[Qp hc] at hB ⊢
     rw[z4H hB]
     have hk:=e.kind_pos
     have ha1:(e.add b).1.length≤b.1.length+1∧(e.add b).2.1.length≤b.2.1.length+1∧(e.add b).2.2.length≤b.2.2.length+1:=by
      cases e <;> simp[El.add]
     exact zZt f (wG s).2.1 e.kind (n+1) (e.add b) (by omega) (by omega) hk (by omega) (by omega) (by omega) (by omega) (by omega)
    ·rw[Qo hc] at hB ⊢
     exact zVG hB
   | none =>
    simp only
    have hno:=z1a hx
    obtain⟨k,t,r,bad,b',hadd,himp⟩:=add_any hsh (by omega) hbs
    apply zVG
    unfold zET
    simp only[hne,Qe,cut_ok (show s.length<1000000 by omega),zob,hff]
    have:((b.1,b.2.1,b.2.2):zM)=b:=rfl
    rw[this,hadd]
    simp only[zob]
    have hcond:((!(wG s).2.2)||(bad||((decide ((0:Int)<len r))||((!(t==(wG s).1))||(decide (k<last))))))=true:=by
     cases hbad:bad with
     | true=>simp
     | false =>
      by_cases hk:k<last
      ·simp[hk]
      ·obtain⟨e,ho,ht,_,_⟩:=himp hbad (by omega)
       have:t≠(wG s).1:=fun he=>hno ⟨e,ho,ht▸he⟩
       have:(t==(wG s).1)=false:=UP this
       simp[this]
    rw[hcond]
    rfl
noncomputable def z4c (s:zG): zM×Int×Int :=
 if 4096<s.length then(noB,0,2) else match zPQ s.length s 1 1 noB with
  | .inl b=>if zM8 b≠0 then(noB,0,zM8 b) else(b,0,0)
  | .inr n=>(noB,n,3)
theorem add_cnt{e:El}{b:zM}{n:Nat}(hl:∀ x,e=.r x->x.2.2.2.1.length≤n)(h:∀ r∈b.2.1,r.2.2.2.1.length≤n): ∀ r∈(e.add b).2.1,r.2.2.2.1.length≤n:=by
 cases e with
 | p x=>exact h
 | t x=>exact h
 | r x =>
  intro r hr
  rcases Qb.1 hr with hr | hr
  ·exact h r hr
  ·simp at hr;subst hr;exact hl r rfl
theorem zYc:∀(f:Nat) (s:zG) (last n:Int) (b b':zM),s.length≤5000->(∀ r∈b.2.1,r.2.2.2.1.length≤5000)->zPQ f s last n b=.inl b'->
  b'.1.length≤b.1.length+f∧b'.2.1.length≤b.2.1.length+f∧b'.2.2.length≤b.2.2.length+f∧∀ r∈b'.2.1,r.2.2.2.1.length≤5000
 | 0,s,last,n,b,b',_,h,he=>by cases he;exact⟨by omega,by omega,by omega,h⟩
 | f+1,s,last,n,b,b',hs5,h,he=>by
  unfold zPQ at he
  split at he
  ·cases he;exact⟨by omega,by omega,by omega,h⟩
  ·rename_i hs
   have hcl:=z4V s
   have hless:=z2w hs
   split at he
   ·rename_i e hx
    split at he
    ·obtain⟨ho,hl⟩:=zXS hx
     obtain⟨h1,h2,h3,h4⟩:=zYc f _ _ _ _ b' (by omega) (add_cnt (fun x hx=>(El.short ho (n:=5000) (by rw[hl];omega)).2 x hx) h) he
     have ha1:(e.add b).1.length≤b.1.length+1∧(e.add b).2.1.length≤b.2.1.length+1∧(e.add b).2.2.length≤b.2.2.length+1:=by
      cases e <;> simp[El.add]
     exact⟨by omega,by omega,by omega,h4⟩
    ·cases he
   ·cases he
theorem z8k (s:zG): zJ8 s=some (z4c s):=by
 unfold zJ8 z4c
 by_cases h4:4096<s.length
 ·have:decide ((4096:Int)<len s)=true:=QJ (show(4096:Int)<(s.length:Int) by omega)
  rw[Qp h4,this]
  rfl
 ·have:decide ((4096:Int)<len s)=false:=Q3 (show ¬ (4096:Int)<(s.length:Int) by omega)
  rw[Qo h4,this]
  simp only[zbf,Qc]
  have hp:=zZt s.length s 1 1 noB (Qs _) (by omega) (by omega) (by omega) (by omega) (by simp;omega) (by simp;omega) (by simp;omega)
  have e0:(s,(1:Int),(1:Int),([]:List wM),([]:List qC),([]:List wE))=(s,1,1,noB.1,noB.2.1,noB.2.2):=rfl
  rw[e0,hp]
  cases hg:zPQ s.length s 1 1 noB with
  | inr n=>rfl
  | inl b =>
   obtain⟨h1,h2,h3,h5⟩:=zYc _ _ _ _ _ _ (by omega) (by simp) hg
   simp only[List.length_nil,US] at h1 h2 h3
   have hc:Cnt b:=⟨by omega,by omega,by omega,fun r hr=>by have:=h5 r hr;omega⟩
   simp only[endP,vK]
   have:((b.1,b.2.1,b.2.2):zM)=b:=rfl
   simp only[this,zYo hc,zob]
   by_cases hv:zM8 b=0
   ·simp[hv]
   ·have:(zM8 b != 0)=true:=by simpa using hv
    simp[this,hv]
end
section
theorem z0u{α:Type}(g:α->zG)(c:Nat): ∀ l:List α,(∀ x∈l,(g x).length≤c)->(l.flatMap fun x=>g x++[10]).length≤(c+1)*l.length
 | [],_=>by simp
 | x::l,h=>by
  have h1:=h x (by simp)
  have h2:=z0u g c l fun y hy=>h y (by simp[hy])
  simp[Nat.mul_add] at h2 ⊢
  omega
theorem z1b{b:zM}(hV:tD b): (∀ p∈b.1,okP p)∧(∀ r∈b.2.1,okR r∧r.2.2.2.1.length≤4)∧∀ p∈b.2.2,okT p:=by
 have hR:∀ r∈b.2.1,okR r∧r.2.2.2.1.length≤4:=fun r hr=>okR_of (hV.rule r hr)
 exact⟨fun p hp=>okP_of (hV.prem p hp),hR,fun p hp=>okT_of (hV.prom p hp) (fun hf=>by
  obtain⟨k,r,_,h2,h3,_⟩:=z0N hf
  have:r.1=p.1:=by simpa using h3
  rw[←this]
  exact(hR r (Ux h2)).1.1)⟩
theorem z8M{b:zM}(hV:tD b): (fmtT b).length≤4000:=by
 obtain⟨hP,hR,hT⟩:=z1b hV
 have h1:=z0u (fun p=>jn (zSY p)) 42 b.1 (fun p hp=>by
  have h:=hP p hp
  have h1:=z1n (zSY p)
  have hl:=zFK p.1
  have hk:=z2l p.2.1
  have hs:p.2.2.2.length≤12:=by
   rcases h.2.2.2.2.2 with h | h
   ·simp[h]
   ·exact(zK3 h).2
  have:((zSY p).map List.length).sum+(zSY p).length≤42:=by
   unfold zSY
   split <;> split <;> simp[tX,z1W] <;> omega
  grind)
 have h2:=z0u (fun r=>jn (zOM r)) 100 b.2.1 (fun r hr=>by
  obtain⟨h,hb⟩:=hR r hr
  have h1:=z1n (zOM r)
  have hl:=zFK r.2.2.2.2
  have hn:=(zK3 h.1).2
  have hs:=zYY r.2.2.2.1
  have hbl:=zLh r.2.2.2.1
  have:((zOM r).map List.length).sum+(zOM r).length≤100:=by
   unfold zOM
   cases r.2.1 <;> simp[zKU,zNj,z2g,tX,hbl] <;> omega
  grind)
 have h3:=z0u (fun p=>jn (zTS p)) 50 b.2.2 (fun p hp=>by
  have h:=hT p hp
  have h1:=z1n (zTS p)
  have hl:=zFK p.2.2
  have hn:=(zK3 h.1).2
  have:((zTS p).map List.length).sum+(zTS p).length≤50:=by
   unfold zTS
   simp[zXF,ifW,tX];omega
  grind)
 have:=hV.np
 have:=hV.nr
 have:=hV.nm
 grind [fmtT]
theorem jn_no10{l:List zG}(h:∀ w∈l,wd w=true): (10:UInt8)∉jn l:=by
 intro hm
 induction l with
 | nil=>simp[z6t] at hm
 | cons w l ih =>
  have hw:=h w (by simp)
  simp only[wd,Qw,Uf] at hw
  have hs:Lib.isSp 10=true:=by decide
  have hnw:(10:UInt8)∉w:=fun hx=>by have:=(hw.2 10 hx).1;rw[hs] at this;cases this
  cases l with
  | nil=>rw[z1S] at hm;exact hnw hm
  | cons x l =>
   rw[z04] at hm
   rcases Qb.1 hm with hm | hm
   ·exact hnw hm
   ·rcases QB.1 hm with hm | hm
    ·cases hm
    ·exact ih (fun y hy=>h y (by simp at hy ⊢;exact .inr hy)) hm
def txt (es:List El): zG:=es.flatMap fun e=>e.line++[10]
def Up:Int->List El->Prop
 | _,[]=>True
 | k,e::es=>k≤e.kind∧Up e.kind es
theorem zXs:∀(es:List El) (f:Nat) (last n:Int) (b:zM),(∀ e∈es,e.ok)->(txt es).length≤f->(txt es).length≤4096->Up last es->zPQ f (txt es) last n b=.inl (es.foldl (fun b e=>e.add b) b)
 | [],f,last,n,b,_,_,_,_=>by cases f <;> rfl
 | e::es,0,last,n,b,_,hf,_,_=>by simp[txt] at hf
 | e::es,f+1,last,n,b,ho,hf,h4,hu=>by
  have h1:=ho e (by simp)
  have ht:txt (e::es)=e.line++10::txt es:=by simp[txt]
  rw[ht] at hf h4 ⊢
  simp only[Qh,QZ] at hf h4
  unfold zPQ
  rw[Qo (by simp),z9Y (jn_no10 (El.wd h1)),z6Z h1 (by omega)]
  simp only[true_and]
  rw[Qp hu.1]
  exact zXs es f e.kind (n+1) (e.add b) (fun x hx=>ho x (by simp[hx])) (by omega) (by omega) hu.2
def els (b:zM): List El:=b.1.map .p++(b.2.1.map .r++b.2.2.map .t)
theorem line_p (x:wM): (El.p x).line=jn (zSY x):=rfl
theorem line_r (x:qC): (El.r x).line=jn (zOM x):=rfl
theorem line_t (x:wE): (El.t x).line=jn (zTS x):=rfl
theorem z7r (b:zM): txt (els b)=fmtT b:=by simp[txt,els,fmtT,UD,List.flatMap_map,line_p,line_r,line_t]
theorem z8c (b:zM): (els b).foldl (fun b e=>e.add b) noB=b:=by
 have h1:∀(l:List wM) (a:zM),(l.map El.p).foldl (fun b e=>e.add b) a=(a.1++l,a.2.1,a.2.2):=by
  intro l
  induction l with
  | nil=>simp
  | cons x l ih=>intro a;rw[Um,Us,ih];simp[El.add]
 have h2:∀(l:List qC) (a:zM),(l.map El.r).foldl (fun b e=>e.add b) a=(a.1,a.2.1++l,a.2.2):=by
  intro l
  induction l with
  | nil=>simp
  | cons x l ih=>intro a;rw[Um,Us,ih];simp[El.add]
 have h3:∀(l:List wE) (a:zM),(l.map El.t).foldl (fun b e=>e.add b) a=(a.1,a.2.1,a.2.2++l):=by
  intro l
  induction l with
  | nil=>simp
  | cons x l ih=>intro a;rw[Um,Us,ih];simp[El.add]
 unfold els
 rw[List.foldl_append,List.foldl_append,h1,h2,h3]
 simp
theorem els_up (b:zM): Up 1 (els b):=by
 have h3:∀(l:List wE) (k:Int),k≤3->Up k (l.map El.t):=by
  intro l
  induction l with
  | nil=>intro k _;trivial
  | cons x l ih=>intro k hk;exact⟨hk,ih 3 (by omega)⟩
 have h2:∀(l:List qC) (k:Int),k≤2->Up k (l.map El.r++b.2.2.map El.t):=by
  intro l
  induction l with
  | nil=>intro k hk;exact h3 _ k (by omega)
  | cons x l ih=>intro k hk;exact⟨hk,ih 2 (by omega)⟩
 have h1:∀(l:List wM) (k:Int),k≤1->Up k (l.map El.p++(b.2.1.map El.r++b.2.2.map El.t)):=by
  intro l
  induction l with
  | nil=>intro k hk;exact h2 _ k (by omega)
  | cons x l ih=>intro k hk;exact⟨hk,ih 1 (by omega)⟩
 exact h1 b.1 1 (by omega)
theorem els_ok{b:zM}(hV:tD b): ∀ e∈els b,e.ok:=by
 obtain⟨hP,hR,hT⟩:=z1b hV
 intro e he
 simp only[els,Qb,Qm] at he
 rcases he with⟨x,hx,rfl⟩ | ⟨x,hx,rfl⟩ | ⟨x,hx,rfl⟩
 ·exact hP x hx
 ·exact(hR x hx).1
 ·exact hT x hx
theorem z7B{b:zM}(hV:tD b): z4c (fmtT b)=(b,0,0):=by
 have hs:=z8M hV
 unfold z4c
 rw[Qo (by omega),←z7r,zXs (els b) _ 1 1 noB (els_ok hV) (Qs _) (by rw[z7r];omega) (els_up b),z8c]
 simp[zMm.2 hV]
end
section
def z9s (y:List zI)(r:qC)(k:Int)(p:wE): Int:=if(!r.2.1&&p.1==r.1&&decide (p.2.2∈y))=true then p.2.1 else k
def rankS (ps:List wE)(y:List zI)(r:qC): Int:=ps.foldl (z9s y r) r.2.2.1
def z7Q (ps:List wE)(y:List zI)(r:qC): qC:=(r.1,r.2.1,rankS ps y r,r.2.2.2.1,r.2.2.2.2)
def zVg (b:zM)(y:List zI): zM:=(b.1,b.2.1.map (z7Q b.2.2 y),b.2.2)
def upto (b:zM)(y:List zI)(i:Nat): List qC:=(b.2.1.take i).map (z7Q b.2.2 y)++b.2.1.drop i
theorem z9N (b:zM)(y:List zI)(i:Nat): (upto b y i).length=b.2.1.length:=by simp[upto];omega
theorem upto_at{b:zM}{y:List zI}{i:Nat}{r:qC}(hr:b.2.1[i]?=some r): (upto b y i)[i]?=some r:=by grind [upto]
theorem z9F{b:zM}{y:List zI}{i:Nat}{r:qC}(hr:b.2.1[i]?=some r): (upto b y i).set i (z7Q b.2.2 y r)=upto b y (i+1):=by
 have hi:=(Qf.1 hr).1
 have h1:((b.2.1.take i).map (z7Q b.2.2 y)).length=i:=by simp;omega
 unfold upto
 rw[Wn _ _ (by omega),h1,Nat.sub_self,Q8,hr]
 grind [List.drop_eq_getElem_cons]
theorem z9X (b:zM)(y:List zI): upto b y b.2.1.length=b.2.1.map (z7Q b.2.2 y):=by simp[upto]
def mid (b:zM)(y:List zI)(i:Nat)(r:qC)(k:Nat): List qC:=(upto b y i).set i (r.1,r.2.1,(b.2.2.take k).foldl (z9s y r) r.2.2.1,r.2.2.2.1,r.2.2.2.2)
theorem mid_all{b:zM}{y:List zI}{i:Nat}{r:qC}(hr:b.2.1[i]?=some r): mid b y i r b.2.2.length=upto b y (i+1):=by
 unfold mid
 rw[Qk (Qs _)]
 exact z9F hr
theorem z93{b:zM}{y:List zI}{i:Nat}{r:qC}: mid b y i r 0=(upto b y i).set i r:=by simp[mid]
theorem mid_at{b:zM}{y:List zI}{i:Nat}{r:qC}(hr:b.2.1[i]?=some r)(k:Nat): (mid b y i r k)[i]?=some (r.1,r.2.1,(b.2.2.take k).foldl (z9s y r) r.2.2.1,r.2.2.2.1,r.2.2.2.2):=by
 have hi:=(Qf.1 hr).1
 unfold mid
 rw[Wk (by rw[z9N];exact hi)]
theorem mid_suc{b:zM}{y:List zI}{i:Nat}{r:qC}{k:Nat}{p:wE}(hp:b.2.2[k]?=some p):
  (if(!r.2.1&&p.1==r.1&&decide (p.2.2∈y))=true then(mid b y i r k).set i (r.1,r.2.1,p.2.1,r.2.2.2.1,r.2.2.2.2) else mid b y i r k)=mid b y i r (k+1):=by
 unfold mid
 rw[Q8,hp]
 simp
 unfold z9s
 by_cases hc:(!r.2.1&&p.1==r.1&&decide (p.2.2∈y))=true
 ·simp_all
 grind
theorem z6R{b:zM}{y:List zI}(h:Cnt b)(hy:y.length<4294967296): zD4 b y=some (zVg b y):=by
 unfold zD4
 have c1:zEZ b.1=some b.1:=by simp[zEZ,zLK h.p]
 have c2:zGq b.2.1=some b.2.1:=by simp[zGq,zLK h.r]
 have c3:zD2 b.2.2=some b.2.2:=by simp[zD2,zLK h.m]
 simp only[c1,c2,c3,zob]
 suffices hh:Ok (zO (zCa b y) (0,b.2.1)) fun r=>r=upto b y b.2.1.length by
  obtain⟨r,e,rfl⟩:=hh
  rw[e,z9X]
  rfl
 refine Ok.forI (fun i (s:List qC)=>((i:Int),s)) b.2.1 (fun i s=>s=upto b y i) _ (fun i r s hr hs=>?_) (fun s hs=>?_) b.2.1 (by simp[upto])
 ·have hi:=(Qf.1 hr).1
  have hbr:=h.r
  subst hs
  unfold zCa
  have hx:=upto_at (y:=y) hr
  simp only[z9z hr,Qe,zFQ,hr,hx,zob,z2r (h.q r (Ux hr)),Qi]
  refine Ok.forI (fun k (s:List qC)=>((k:Int),s)) b.2.2 (fun k s=>s=mid b y i r k) _ (fun k p s hp hs=>?_) (fun s hs=>?_) _ z93.symm
  ·have hk:=(Qf.1 hp).1
   have hbm:=h.m
   subst hs
   unfold zDS
   simp only[z9z hp,Qe,zFQ,hp,zob,z3d _ (show y.length<9223372036854775807 by omega),Qi,mid_at hr k]
   have hif:(if(!r.2.1)=true then(if(p.1==r.1)=true then some (decide (p.2.2∈y)) else some false) else some false)=some (!r.2.1&&p.1==r.1&&decide (p.2.2∈y)):=by
    cases hg:(!r.2.1) <;> cases hh:(p.1==r.1) <;> simp
   rw[hif,zob]
   have hm:=mid_suc (b:=b) (y:=y) (i:=i) (r:=r) hp
   refine .ite (fun hc=>?_) fun hc=>?_
   ·rw[Qp hc] at hm
    exact .ret ⟨_,by rw[yT k (by omega)],hm⟩
   ·rw[hc] at hm
    simp only[zbf,Qc] at hm
    exact .ret ⟨_,by rw[yT k (by omega)],hm⟩
  ·subst hs
   unfold zDS
   simp only[z7k,zbf,Qc]
   exact .ret ⟨_,by simp only[yT i (by omega)],mid_all hr⟩
 ·subst hs
  unfold zCa
  simp only[z7k,zbf,Qc]
  exact .ret rfl
end
section
def zY9 (l:List Int)(x:Int): List Int:=(wI l.length).filter fun i=>decide (l[i.toNat]?=some x)
theorem zUK (l:List Int)(x:Int): (zY9 l x).length≤l.length:=Qv (QF _ _) (by rw[zGB];grind)
theorem z0J (l:List Int)(x:Int)(hl:l.length<4294967000): zA3 l x=some (zY9 l x):=by
 unfold zA3
 have h:=zFv (B:=zGk l x) (wI l.length) (fun s i=>if decide (l[i.toNat]?=some x) then s++[i] else s) id (fun i s=>s.length≤i) ([]:List Int) (by simp) ?_ ?_
 ·have h2:=zLv (fun i:Int=>decide (l[i.toNat]?=some x)) id (wI l.length) []
  simp only[id,List.map_id,QI] at h2
  rw[h.1,h2];rfl
 ·intro i y s hy hI
  obtain⟨rfl,hi⟩:=zUp hy
  have hx:l[i]?=some l[i]:=Qg hi
  unfold zGk
  simp[qX hx,wA hx (by omega)]
  by_cases he:l[i]=x
  ·rw[wZ (by simp;omega)]
   grind
  grind
 ·rw[zGB]
  unfold zGk
  simp
abbrev z8f:zCL:=(([],[],[]),[],[],(0,[]))
def badO (o:yG): Bool:=if o.1 != 1 then(o.1 != 2)||((o.2 != 1)&&(o.2 != 2)) else(o.2 != 1)&&(o.2 != 2)
noncomputable def z8V (b:zM)(l:List zD)(o:yG): List zT:=xI uJ (zJG (zNo b l o))
noncomputable def z82 (b:zM)(l:List zD)(o:yG): List zI:=xI vQ ((zY9 (wT l.length (z8V b l o)) 1).flatMap (zZE l))
noncomputable def zZA (b:zM)(l:List zD)(o:yG): zCL:=(zVg b (z82 b l o),l,zNo (zVg b (z82 b l o)) l o,((l.length:Int),z8V (zVg b (z82 b l o)) l o))
open Classical in
noncomputable def z7p (b:zM)(o:yG): zCL×Int:=if tD b then(match zO3 b with
  | none=>(z8f,2)
  | some l=>if badO o then(z8f,4) else(zZA b l o,0))
 else(z8f,zM8 b)
theorem zQx{b:zM}{l:List zD}(hl:l.length≤40)(o:yG): zYB (len l) (zNo b l o)=(((l.length:Int),z8V b l o),0)∧wY l.length (z8V b l o):=by
 have h0:(decide (len l<0)||decide (40<len l))=false:=by
  simp only[len,Q6,QX];omega
 have h1:(zNo b l o).any (z52 (len l))=false:=by
  rw[Un]
  intro y hy
  have hy:=z11 (b:=b) (l:=l) y |>.1 (Qr.1 hy).1
  simp only[z52,len,Ue,Qy,not_or]
  omega
 have h2:zYB (len l) (zNo b l o)=(((l.length:Int),z8V b l o),0):=by
  unfold zYB z8V
  simp only[h0,h1,zbf,Qc]
 obtain⟨N,e1,e2,e3,_⟩:=z3H h2
 have:N=l.length:=by simp only[len] at e1;omega
 grind
theorem z6k{b:zM}{l:List zD}{y:List zI}(h:FormB b l): FormB (zVg b y) l :=
 ⟨h.toFormA,by simpa [zVg] using h.np,by simpa [zVg] using h.nr,fun i a ha=>by simpa [zVg] using h.kind i a ha⟩
theorem z9b (b:zM)(l:List zD)(o:yG): (z82 b l o).length≤l.length:=by
 refine Qv (zX3 _ _) (Qv (zYi _) ?_)
 rw[UG]
 refine Qv (zUK _ _) ?_
 rw[wT,zD1];grind
section
variable {b:zM}
theorem zYU (hc:Cnt3 b)(hr:b.2.1.length≤12)(o:yG): zCX b o=some (z7p b o):=by
 unfold zCX z7p
 by_cases hv:tD b
 ·rw[z8F (z5F hv hr),Qp hv]
  cases hb:zO3 b with
  | none=>rfl
  | some l =>
   obtain⟨hf,hl⟩:=z34 hv hr hb
   have hB:=hf.toFormC.toFormB
   simp only[ansB,zob,bne_self_eq_false,zbf,Qc]
   show(if badO o=true then _ else _)=_
   cases ho:badO o with
   | true=>rfl
   | false =>
    have hd:=z4W (b:=b) (l:=l) (by omega) o
    obtain⟨hg,hG⟩:=zQx (b:=b) hl o
    have hac:=z9b b l o
    have hd2:=z4W (b:=zVg b (z82 b l o)) (l:=l) (by omega) o
    obtain⟨hg2,_⟩:=zQx (b:=zVg b (z82 b l o)) hl o
    have hgl:(wT l.length (z8V b l o)).length=l.length:=zD1 _ _
    have hw:=zUK (wT l.length (z8V b l o)) 1
    simp only[zbf,Qc,zXe hB o,zob]
    rw[zWB _ _ (by omega),hg]
    simp only[zob,bne_self_eq_false,zbf,Qc]
    rw[zLX hG]
    simp only[zob]
    rw[z0J _ _ (by omega)]
    simp only[zob]
    rw[zNI _ (by omega)]
    simp only[zob]
    rw[show xI vQ ((zY9 (wT l.length (z8V b l o)) 1).flatMap (zZE l))=z82 b l o from rfl,z6R (zNm hv) (by omega)]
    simp only[zob,zXe (z6k hB) o]
    rw[zWB _ _ (by omega),hg2]
    rfl
 ·rw[zYx hc hv,Qo hv]
  have:(zM8 b != 0)=true:=by
   rw[bne_iff_ne]
   exact fun h'=>hv (zMm.1 h')
  simp only[zob,this,Qe]
theorem zZ5 (hc:Cnt b)(hr:b.2.1.length≤12)(o:yG): zCX b o=some (z7p b o):=zYU hc.c3 hr o
end
end
section
theorem z5b:zMJ=some ():=rfl
theorem z1p{N:Nat}{L:List zT}(h:wY N L): zBX ((N:Int),L) 1=some ([zY9 (wT N L) 1],0):=by
 have hgl:(wT N L).length=N:=zD1 _ _
 have hN:=h.hN
 have h1:zAR ((N:Int),L)=some ([wT N L],0):=by
  unfold zAR zEn
  rw[zLX h]
  rfl
 have h2:zAa ((N:Int),L)=some ([zY9 (wT N L) 1],0):=by
  unfold zAa
  rw[h1]
  simp only[zob,bne_self_eq_false,zbf,Qc]
  have hl:=zFv (B:=zAS ([wT N L],0)) [wT N L] (fun s x=>s++[zY9 x 1]) (fun s=>(s,(0:Int))) (fun i s=>s.length≤i) ([]:List (List Int)) (by simp) ?_ ?_
  ·rw[hl.1];rfl
  ·intro i x s hx hI
   have:=yM hx
   have hx2:x.length=N:=by
    have:=vZ hx
    simp only[Qa] at this
    rw[this,hgl]
   unfold zAS
   simp only[wX hx,Qe,qX hx,zob,wA hx (by simp),z0J x 1 (by omega)]
   rw[wZ (by simp at this ⊢;omega)]
   exact⟨rfl,by simp;omega⟩
  ·intro s _
   unfold zAS
   simp[len]
 unfold zBX
 rw[h.v1]
 simp only[zob,bne_self_eq_false,zbf,Qc,z5b]
 have hd:(decide ((1:Int)<1)||decide (((10:Nat):Int)≤1))=false:=by decide
 rw[hd]
 simp only[zbf,Qc,Q7,Qe]
 rw[h2]
 rfl
def zSJ (l:List zD)(s:List Int): List zI:=xI vQ (s.flatMap (zZE l))
theorem z5i (l:List zD)(s:List Int): vO vQ (zSJ l s):=(zR6 z3g _).1
theorem zZr (l:List zD)(s:List Int): (zSJ l s).length≤s.length:=Qv (zX3 _ _) (by have:=zYi (l:=l) s;omega)
theorem zSz{c:zCL}{q:Int}{es:List (List Int)}(h:zBX c.2.2.2 q=some (es,0))(hl:es.length≤100000)(hs:∀ s∈es,s.length<1000000):
  zCm c q=some (es.map (zSJ c.2.1),0):=by
 unfold zCm
 rw[h]
 simp only[zob,bne_self_eq_false,zbf,Qc]
 have hlp:=zFv (B:=zBw (es,0) c) es (fun r s=>r++[zSJ c.2.1 s]) (fun r=>(r,(0:Int))) (fun i s=>s.length≤i) ([]:List (List zI)) (by simp) ?_ ?_
 ·rw[hlp.1,zK6];rfl
 ·intro i x s hx hI
  have:=yM hx
  unfold zBw
  simp only[wX hx,Qe,qX hx,zob,wA hx (by omega),zNI x (hs x (vZ hx))]
  rw[wZ (by simp;omega)]
  exact⟨rfl,by simp;omega⟩
 ·intro s _
  unfold zBw
  simp[len]
def accS2 (cl:List (List zI))(all:Bool): List zI:=(xI vQ cl.flatten).filter fun x=>!(all&&cl.any fun y=>!decide (x∈y))
theorem z3k (cl:List (List zI))(hl:cl.length≤100000)(hs:∀ s∈cl,s.length≤10000): zBy cl=some cl.flatten:=by
 have htot:∀ k:Nat,(cl.take k).flatten.length≤10000*k:=by
  intro k
  induction k with
  | zero=>simp
  | succ k ih =>
   cases hx:cl[k]? with
   | none =>
    have:cl.take (k+1)=cl.take k:=by
     rw[List.getElem?_eq_none_iff] at hx
     rw[Qk (by omega),Qk (by omega)]
    rw[this];omega
   | some x =>
    rw[uO hx,UZ,Qh]
    have:=hs x (vZ hx)
    rw[show[x].flatten=x by simp]
    omega
 unfold zBy
 have h1:=uU (B:=zCA cl) (fun i (n:Nat)=>((n:Int),(i:Int))) cl (fun i n=>n=(cl.take i).flatten.length) (fun r=>r=((cl.flatten.length:Nat):Int)) ?_ ?_ 0 (by simp)
 ·obtain⟨r,h2,rfl⟩:=h1
  rw[show zO (zCA cl) (0,0)=_ from h2]
  simp only[zob]
  have hfl:=htot cl.length
  rw[QC] at hfl
  have hg:zDr (cl.flatten.length:Int)=some []:=by
   unfold zDr
   have hn:decide ((cl.flatten.length:Int)<0)=false:=Q3 (by omega)
   have hw:zF ((cl.flatten.length:Int)-zF (((0:Nat):Int)-len ([]:List zI)))=(cl.flatten.length:Int):=by
    have:zF (((0:Nat):Int)-len ([]:List zI))=0:=rfl
    rw[this,Int.sub_zero,z0D _ (by omega)]
   simp only[hn,zbf,Qc,zob,hw]
   by_cases h0:decide (0<(cl.flatten.length:Int))=true
   ·rw[Qp h0]
    unfold mkS
    rw[Qp ⟨by omega,by omega,by omega⟩]
    simp only[zob]
    have:sub (List.replicate (cl.flatten.length:Int).toNat ((false,[]):zI)) 0 (len ([]:List zI))=some []:=by
     rw[zKR (by simp[len]) (by simp[len])]
     simp[len]
    rw[this]
    rfl
   ·rw[Qo h0]
  rw[hg]
  simp only[zob]
  have h3:=zFv (B:=zCx cl) cl (fun s x=>s++x) id (fun i s=>s.length≤10000*i) ([]:List zI) (by simp) ?_ ?_
  ·rw[h3.1]
   have:∀(m:List (List zI)) (acc:List zI),m.foldl (fun s x=>s++x) acc=acc++m.flatten:=by
    intro m
    induction m with
    | nil=>intro acc;simp
    | cons x m ih=>intro acc;rw[Us,ih];simp
   rw[this];simp
  ·intro i x s hx hI
   have hi:=yM hx
   have:=hs x (vZ hx)
   unfold zCx
   simp only[wX hx,Qe,qX hx,zob,wA hx (by omega)]
   rw[wZ (by omega)]
   exact⟨rfl,by simp;omega⟩
  ·intro s _
   unfold zCx
   simp[len]
 ·rintro i x n hx rfl
  have hi:=yM hx
  have h4:=htot i
  have h5:=htot (i+1)
  have hle:=hs x (vZ hx)
  have hsum:zF (((cl.take i).flatten.length:Int)+len x)=(((cl.take (i+1)).flatten.length:Nat):Int):=by
   have e:(cl.take (i+1)).flatten.length=(cl.take i).flatten.length+x.length:=by rw[uO hx,UZ,Qh,show[x].flatten=x by simp]
   rw[e]
   simp only[len]
   rw[uC (by omega) (by omega)]
   omega
  refine .inl ⟨_,?_,rfl⟩
  unfold zCA
  simp only[wX hx,Qe,qX hx,zob,hsum,wA hx (show cl.length<4294967296 by omega)]
  rw[Q3 (by omega)]
  rfl
 ·rintro n rfl
  rw[QC]
  refine⟨_,?_,rfl⟩
  unfold zCA
  simp only[uV,zbf,Qc]
theorem acc_del (cl:List (List zI))(hl:cl.length≤100000)(hs:∀ s∈cl,s.length≤10000)(all:Bool)(l:List zI)(hb:l.length<4294967296):
  zAI l all cl=some (l.filter fun x=>!(all&&cl.any fun y=>!decide (x∈y))):=by
 have hp:∀ x:zI,zBp x all cl=some (all&&cl.any fun y=>!decide (x∈y)):=by
  intro x
  have h1:zAC cl x=some (cl.any fun y=>!decide (x∈y)):=by
   have:=zUd (fun y=>zC9 y x) (fun y=>!decide (x∈y)) cl (by omega) (fun y hy=>by
    unfold zC9
    rw[z3d x (by have:=hs y hy;omega)]
    rfl)
   exact this
  unfold zBp
  cases all with
  | true=>simp only[Qe,h1,zob,Ug]
  | false=>rfl
 exact zUZ (fun x=>zBp x all cl) (fun x=>all&&cl.any fun y=>!decide (x∈y)) (false,[]) l hb fun x _=>hp x
theorem zWI{c:zCL}{q:Int}{es:List (List Int)}(h:zBX c.2.2.2 q=some (es,0))(hl:es.length≤100000)(hs:∀ s∈es,s.length≤10000)(all:Bool):
  zAx c q all=some (accS2 (es.map (zSJ c.2.1)) all,0):=by
 have hs2:∀ s∈es.map (zSJ c.2.1),s.length≤10000:=by
  intro s hs'
  obtain⟨e,he,rfl⟩:=Qm.1 hs'
  exact Qv (zZr _ _) (hs e he)
 unfold zAx
 rw[zSz h hl fun s hs'=>by have:=hs s hs';omega]
 simp only[zob,bne_self_eq_false,zbf,Qc]
 rw[z3k _ (by simpa using hl) hs2]
 simp only[zob]
 have hfl:(es.map (zSJ c.2.1)).flatten.length≤1000000000:=by
  have:∀ m:List (List zI),(∀ s∈m,s.length≤10000)->m.flatten.length≤10000*m.length:=by
   intro m
   induction m with
   | nil=>intro _;simp
   | cons x m ih =>
    intro hm
    have h1:=hm x Qx
    have h2:=ih fun s hs=>hm s (Ql _ hs)
    simp only[List.flatten_cons,Qh,QZ]
    omega
  have h1:=this _ hs2
  rw[Ud] at h1
  omega
 rw[zZl (by omega)]
 simp only[zob]
 rw[acc_del _ (by simpa using hl) hs2 all _ (by have:=zX3 vQ (es.map (zSJ c.2.1)).flatten;omega)]
 rfl
theorem z6z{l:List zI}(h:vO vQ l)(all:Bool): accS2 [l] all=l:=by
 unfold accS2
 have h1:xI vQ [l].flatten=l:=zZx z3g h fun x=>by simp
 rw[h1,UY.2]
 intro x hx
 simp[hx]
theorem z1l{c:zCL}{N:Nat}{L:List zT}(hG:wY N L)(hc:c.2.2.2=((N:Int),L)): zAx c 1 true=some (zSJ c.2.1 (zY9 (wT N L) 1),0):=by
 have hN:=hG.hN
 have hgl:(wT N L).length=N:=zD1 _ _
 have hw:=zUK (wT N L) 1
 have h1:zBX c.2.2.2 1=some ([zY9 (wT N L) 1],0):=by rw[hc];exact z1p hG
 rw[zWI h1 (by simp) (fun s hs=>by simp only[Qa] at hs;subst hs;omega) true]
 rw[List.map_singleton,z6z (z5i _ _)]
end
section
theorem z9V{i:Int}{o:yG}(h:zB ords i=some o): badO o=false:=by
 obtain⟨n,rfl,hn⟩:=zRY h
 have hm:=vZ hn
 have:∀ o∈ords,badO o=false:=by decide
 exact this o hm
end
section
theorem Ok.whG{σ ρ:Type}{B:σ->Option (σ⊕ρ)}(I:σ->Prop)(μ:σ->Nat){Q:ρ->Prop}(h:∀ s,I s->Ok (B s) fun o=>match o with | .inl t=>I t∧μ t<μ s | .inr r=>Q r){s:σ}(hs:I s): Ok (zO B s) Q:=by
 refine zO8 I μ Q (fun s hI=>?_) s hs
 obtain⟨o,h1,h2⟩:=h s hI
 cases o with
 | inl t=>exact .inl ⟨t,h1,h2⟩
 | inr r=>exact .inr ⟨r,h1,h2⟩
theorem z7T (w:Nat): yW .i64 (w:Int) 1=((w / 2:Nat):Int):=by
 unfold yW
 have h3:min ((1:Int).toNat) IntKind.i64.bits=1:=rfl
 rw[h3,Int.fdiv_eq_ediv_of_nonneg _ (by decide)]
 omega
theorem mid_eqG (a b:Nat)(h:a+b<10000): zF (yW .u64 (IntKind.u64.wrap (zF ((a:Int)+(b:Int)))) 1)=(((a+b) / 2:Nat):Int):=by
 rw[uC (x:=(a:Int)+b) (by omega) (by omega),show(a:Int)+(b:Int)=((a+b:Nat):Int) by omega,zOt (by omega)]
 rw[show yW .u64 ((a+b:Nat):Int) 1=yW .i64 ((a+b:Nat):Int) 1 from rfl,z7T,uC (by omega) (by omega)]
theorem z7C (x y:zT): zEy x y=some (orF [zZf x.1 y.1,zZf x.2 y.2]):=by
 unfold zEy
 rw[zOJ,zOJ]
 simp only[zob]
 rw[z5I _ (by simp)]
 rfl
theorem z5W (x y:zT): decide (orF [zZf x.1 y.1,zZf x.2 y.2] < 0)=uJ x y:=zPi (by rw[zPi (r:=[]) (b:=false) (by simp[orF])];simp)
section
variable {N:Nat}{L:List zT}
theorem asc_at{α:Type}{lt:α->α->Bool}{l:List α}(h:vO lt l){j k:Nat}{p q:α}(hp:l[j]?=some p)(hq:l[k]?=some q)(hjk:j<k): lt p q=true:=by
 have:=UO.1 h j k (Qf.1 hp).1 (Qf.1 hq).1 hjk
 rwa [(Qf.1 hp).2,(Qf.1 hq).2] at this
theorem bs_pair (hL:L.length≤1600)(hs:vO uJ L)(y:zT):
  Ok (zAQ L y) fun r=>∃ i:Nat,r.1=(i:Int)∧i≤L.length∧(∀ j p,L[j]?=some p->j<i->uJ p y=true)∧(∀ j p,L[j]?=some p->i≤j->uJ p y=false):=by
 unfold zAQ
 refine .bind (I:=fun s=>∃ i:Nat,s=(i:Int)∧i≤L.length∧(∀ j p,L[j]?=some p->j<i->uJ p y=true)∧(∀ j p,L[j]?=some p->i≤j->uJ p y=false)) ?_ fun s1 hs1=>?_
 ·refine Ok.whG (fun s:Int×Int=>∃ a b:Nat,s=((a:Int),(b:Int))∧a≤b∧b≤L.length∧(∀ j p,L[j]?=some p->j<a->uJ p y=true)∧(∀ j p,L[j]?=some p->b≤j->uJ p y=false)) (fun s=>(s.2-s.1).toNat) (fun s hs=>?_) ⟨0,L.length,rfl,by omega,Qs _,fun j p _ hj=>by omega,fun j p hp hj=>by have:=(Qf.1 hp).1;omega⟩
  obtain⟨a,b,rfl,hab,hbl,ha,hbb⟩:=hs
  unfold zBq
  refine .ite (fun hd=>?_) (fun hd=>?_)
  ·have hd:(a:Int)<b:=by simpa using hd
   simp only[mid_eqG a b (by omega)]
   have hm1:(a+b) / 2<b:=by omega
   have hm2:a≤(a+b) / 2:=by omega
   generalize (a+b) / 2=mm at hm1 hm2
   have hx:L[mm]?=some L[mm]:=Qg (by omega)
   generalize L[mm]=x at hx
   rw[qX hx,zob,z7C,zob,z5W]
   refine .ite (fun hc=>.ret ?_) (fun hc=>.ret ?_)
   ·refine⟨⟨mm+1,b,by rw[yT mm (by omega)],by omega,hbl,fun j p hp hj=>?_,hbb⟩,?_⟩
    ·by_cases hjm:j=mm
     ·subst hjm;rw[hx] at hp;cases hp;exact hc
     ·exact z3p.trans _ _ _ (asc_at hs hp hx (by omega)) hc
    ·show((b:Int)-zF ((mm:Int)+1)).toNat<((b:Int)-a).toNat
     rw[yT mm (by omega)]
     omega
   ·refine⟨⟨a,mm,rfl,hm2,by omega,ha,fun j p hp hj=>?_⟩,?_⟩
    ·by_cases hjm:j=mm
     ·subst hjm;rw[hx] at hp;cases hp;exact hc
     ·have h1:=asc_at hs hx hp (by omega)
      cases h2:uJ p y with
      | false=>rfl
      | true=>rw[z3p.trans _ _ _ h1 h2] at hc;cases hc
    ·show((mm:Int)-a).toNat<((b:Int)-a).toNat
     omega
  ·have hd:¬ (a:Int)<b:=by simpa using hd
   have:a=b:=by omega
   subst this
   exact .ret ⟨a,rfl,hbl,ha,hbb⟩
 ·obtain⟨i,rfl,hi,h1,h2⟩:=hs1
  refine .bind (I:=fun o=>o.1=(i:Int)) ?_ fun o ho=>.ret ⟨i,ho,hi,h1,h2⟩
  refine .ite (fun hd=>?_) (fun hd=>.ret rfl)
  have hd:(i:Int)<len L:=by simpa using hd
  have hd:i<L.length:=by simp only[len] at hd;omega
  have hx:L[i]?=some L[i]:=Qg hd
  generalize L[i]=x at hx
  rw[qX hx,zob,z7C,zob]
  exact .ret rfl
theorem z7D (h:wY N L){a b:Nat}(ha:a<N)(hb:b<N)(hn:((a:Int),(b:Int))∉L):
  ∃ L',zJ9 ((N:Int),L) (1,(a:Int),(b:Int))=some (((N:Int),L'),[(b:Int)])∧wY N L'∧∀ x,x∈L'↔x=((a:Int),(b:Int))∨x∈L:=by
 have hlen:=h.len
 obtain⟨r,e1,i,e2,e3,e4,e5⟩:=bs_pair hlen h.asc ((a:Int),(b:Int))
 refine⟨L.take i++[((a:Int),(b:Int))]++L.drop i,?_,⟨h.hN,?_,?_⟩,?_⟩
 ·unfold zJ9 zJK
  simp only[Q7,Qe]
  rw[e1,zob,e2]
  rw[show insM L (i:Int) [((a:Int),(b:Int))]=some (L.take (i:Int).toNat++[((a:Int),(b:Int))]++L.drop (i:Int).toNat) from Qp ⟨rfl,by omega,by omega,by omega⟩]
  rfl
 ·intro p hp
  rw[Qb,Qb,Qa] at hp
  rcases hp with(hp | rfl) | hp
  ·exact h.inr p (Q5 hp)
  ·exact z7A ha hb
  ·exact h.inr p (Wa hp)
 ·have hlo:∀ p∈L.take i,uJ p ((a:Int),(b:Int))=true:=fun p hp=>by
   obtain⟨j,hj,rfl⟩:=List.getElem_of_mem hp
   rw[Qt] at hj
   exact e4 j _ (by rw[List.getElem_take];exact Qg (by omega)) (by omega)
  have hhi:∀ p∈L.drop i,uJ ((a:Int),(b:Int)) p=true:=fun p hp=>by
   have hpL:=Wa hp
   obtain⟨j,hj⟩:=Qj.1 hp
   rw[Uh] at hj
   have hf:=e5 (i+j) _ hj (by omega)
   cases h2:uJ ((a:Int),(b:Int)) p with
   | true=>rfl
   | false =>
    rcases z3p.tri p ((a:Int),(b:Int)) with h3 | h3 | h3
    ·rw[h3] at hf;cases hf
    ·exact absurd (h3▸hpL) hn
    ·rw[h3] at h2;cases h2
  refine Uy.2 ⟨Uy.2 ⟨List.Pairwise.sublist (List.take_sublist _ _) h.asc,List.pairwise_singleton _ _,fun x hx y hy=>?_⟩,List.Pairwise.sublist (List.drop_sublist _ _) h.asc,fun x hx y hy=>?_⟩
  ·rw[Qa] at hy;subst hy;exact hlo x hx
  ·rw[Qb,Qa] at hx
   rcases hx with hx | rfl
   ·exact z3p.trans _ _ _ (hlo x hx) (hhi y hy)
   ·exact hhi y hy
 ·intro x
  rw[Qb,Qb,Qa]
  constructor
  ·rintro ((hx | hx) | hx)
   ·exact .inr (Q5 hx)
   ·exact .inl hx
   ·exact .inr (Wa hx)
  ·rintro (hx | hx)
   ·exact .inl (.inr hx)
   ·rw[←Qu i L,Qb] at hx
    rcases hx with hx | hx
    ·exact .inl (.inl hx)
    ·exact .inr hx
theorem z86{rows:List Int}(s:Nat)(hs:s<18446744073709551616)(Q:Nat->Nat->Prop)(hrow:∀ i,s.testBit i=true->∃ b:Nat,rows[i]?=some (b:Int)∧b<18446744073709551616∧∀ j,b.testBit j=true↔Q i j):
  ∃ h:Nat,zO (zHV (zQT s) rows) ((s:Int),0)=some (h:Int)∧h<18446744073709551616∧s≤h∧∀ j,h.testBit j=true↔s.testBit j=true∨∃ i,s.testBit i=true∧Q i j:=by
 have h:=uU (B:=zHV (zQT s) rows) (fun i (h:Int)=>(h,(i:Int))) (zQT s) (fun i h=>∃ n:Nat,h=(n:Int)∧n<18446744073709551616∧s≤n∧∀ j,n.testBit j=true↔s.testBit j=true∨∃ k:Nat,(k:Int)∈(zQT s).take i∧Q k j)
  (fun r=>∃ h:Nat,r=(h:Int)∧h<18446744073709551616∧s≤h∧∀ j,h.testBit j=true↔s.testBit j=true∨∃ i,s.testBit i=true∧Q i j) ?_ ?_ (s:Int) ⟨s,rfl,hs,Qs _,by simp⟩
 ·obtain⟨r,h1,n,rfl,h2,h3⟩:=h
  exact⟨n,h1,h2,h3⟩
 ·rintro i x s0 hx ⟨n,rfl,hn,hle,hb⟩
  obtain⟨k,rfl,hk,hs⟩:=zJV.1 (vZ hx)
  obtain⟨b,h1,h2,h3⟩:=hrow k hs
  have hl:=zX9 s
  refine .inl ⟨((n ||| b:Nat):Int),?_,n ||| b,rfl,or_lt hn h2,Qv hle Nat.left_le_or,fun j=>?_⟩
  ·unfold zHV
   simp only[wX hx,qX hx,Qe,zob,zFQ,h1,z7G hn h2,wA hx (show(zQT s).length<4294967296 by omega)]
  ·rw[Nat.testBit_or,Ue,hb,h3,uO hx]
   constructor
   ·rintro ((h4 | ⟨q,h4,h5⟩) | h4)
    ·exact .inl h4
    ·exact .inr ⟨q,by simp[h4],h5⟩
    ·exact .inr ⟨k,by simp,h4⟩
   ·rintro (h4 | ⟨q,h4,h5⟩)
    ·exact .inl (.inl h4)
    ·rw[Qb,Qa] at h4
     rcases h4 with h4 | h4
     ·exact .inl (.inr ⟨q,h4,h5⟩)
     ·have:q=k:=by omega
      subst this;exact .inr h5
 ·rintro s0 ⟨n,rfl,hn,hle,hb⟩
  refine⟨(n:Int),?_,n,rfl,hn,hle,fun j=>?_⟩
  ·unfold zHV
   rw[uV];rfl
  ·rw[hb,QC]
   refine or_congr Iff.rfl ?_
   constructor
   ·rintro ⟨k,h1,h2⟩
    obtain⟨q,he,_,h3⟩:=zJV.1 h1
    have:k=q:=by omega
    subst this;exact⟨k,h3,h2⟩
   ·rintro ⟨k,h1,h2⟩
    by_cases hk:k<64
    ·exact⟨k,zJV.2 ⟨k,rfl,hk,h1⟩,h2⟩
    ·have:s.testBit k=false:=zVu hs (by omega)
     rw[this] at h1;cases h1
theorem z9q (h:wY N L){b:Nat}(hb:b<N): ∃ A,zKc ((N:Int),L) (b:Int)=some A∧A.length≤64∧(∀ x∈A,∃ i:Nat,i<N∧x=(i:Int))∧(b:Int)∈A∧∀ i j:Nat,(i:Int)∈A->vV L i j->(j:Int)∈A:=by
 have hN:=h.hN
 have key:Ok (zKc ((N:Int),L) (b:Int)) fun A=>A.length≤64∧(∀ x∈A,∃ i:Nat,i<N∧x=(i:Int))∧(b:Int)∈A∧∀ i j:Nat,(i:Int)∈A->vV L i j->(j:Int)∈A:=by
  unfold zKc
  rw[h.proper,zob]
  have hd:(decide ((b:Int)<0)||decide ((N:Int)≤(b:Int)))=false:=by
   simp only[Q6,QX];omega
  dsimp only
  rw[hd,Qo (by simp),z7l (show b<64 by omega),zob,zX2 h,zob]
  have hp64:2 ^ b<18446744073709551616:=by
   have:2 ^ b<2 ^ 64:=Wb (by decide) (by omega)
   simpa using this
  refine Ok.whG (fun s:Int=>∃ n:Nat,s=(n:Int)∧n<18446744073709551616∧n.testBit b=true∧∀ i,n.testBit i=true->i<N) (fun s=>18446744073709551616-s.toNat) (fun s hs=>?_) ⟨2 ^ b,rfl,hp64,by simp,fun i hi=>by rw[Nat.testBit_two_pow] at hi;simp at hi;omega⟩
  obtain⟨n,rfl,hn,hnb,hnN⟩:=hs
  unfold zPm
  rw[z7x hn,zob]
  obtain⟨m,e1,e2,e3,e4⟩:=z86 (rows:=zV N fun i=>((z6L L i:Nat):Int)) n hn (fun i j=>vV L i j) fun i hi=>⟨z6L L i,by
   have:=zG0 (fun i=>((z6L L i:Nat):Int)) (hnN i hi)
   rwa [zFQ] at this,z3N h i,fun j=>by rw[z0W h]⟩
  rw[e1,zob]
  have hmN:∀ i,m.testBit i=true->i<N:=fun i hi=>by
   rcases(e4 i).1 hi with h1 | ⟨k,_,h2⟩
   ·exact hnN i h1
   ·exact(h.inN.nat h2).2
  refine .ite (fun hc=>?_) (fun hc=>.ret ⟨⟨m,rfl,e2,(e4 b).2 (.inl hnb),hmN⟩,?_⟩)
  ·have hc:m=n:=by
    have:(m:Int)=(n:Int):=by simpa using hc
    omega
   subst hc
   rw[zob]
   refine .ret ⟨zX9 m,fun x hx=>?_,(zR4 e2).2 hnb,fun i j hi hj=>?_⟩
   ·obtain⟨i,rfl,_,hi⟩:=zJV.1 hx
    exact⟨i,hmN i hi,rfl⟩
   ·exact(zR4 e2).2 ((e4 j).2 (.inr ⟨i,(zR4 e2).1 hi,hj⟩))
  ·have hc:¬ m=n:=fun e=>by subst e;simp at hc
   show 18446744073709551616-((m:Nat):Int).toNat<18446744073709551616-((n:Nat):Int).toNat
   omega
 obtain⟨A,h1,h2⟩:=key
 exact⟨A,h1,h2⟩
end
end
section
section
variable {N:Nat}{L:List zT}
noncomputable abbrev wV (N:Nat)(L:List zT)(i:Nat): Int:=qP N L (N+1) i
theorem z8T{i:Nat}: ¬ tF N L (N+1) i:=fun h=>h.2 (z54 (UR N) (z0X (D:=(· < N)) (fun _ h=>h) h.1))
theorem gl_2{i:Nat}: wV N L i=2↔∃ m,wV N L m=1∧vV L m i:=by
 rw[zU2]
 exact⟨fun⟨m,h1,h2⟩=>⟨m,(z07 N L).2 h1,h2⟩,fun⟨m,h1,h2⟩=>⟨m,(z07 N L).1 h1,h2⟩⟩
theorem gl_1 (h:wY N L){i:Nat}(hi:i<N): wV N L i=1↔∀ m,vV L m i->wV N L m=2:=by
 constructor
 ·intro h1 m hm
  obtain⟨k,h2,h3⟩:=((z07 N L).1 h1).2 m hm
  exact(zU2 N L).2 ⟨k,zP1 h2,h3⟩
 ·intro h1
  rcases zMH N L (N+1) i with h2 | h2 | h2
  ·exact h2
  ·obtain⟨m,h3,h4⟩:=gl_2.1 h2
   have:=h1 m h4
   rw[h3] at this;cases this
  ·exact absurd ((z71 N L hi h.hR).1 ⟨h2,fun b _ hb=>h1 b hb⟩) z8T
def opn (N:Nat)(L:List zT)(f:Nat->Int)(i:Nat): Prop:=(∀ k,vV L k i->f k≠1)∧∃ k,vV L k i∧f k=3
theorem z7I (h:wY N L){i:Nat}(hi:i<N)(h3:wV N L i=3): opn N L (wV N L) i:=by
 refine⟨fun k hk h1=>?_,?_⟩
 ·have:=gl_2.2 ⟨k,h1,hk⟩
  rw[h3] at this;cases this
 ·apply Classical.byContradiction
  intro hno
  have:wV N L i=1:=(gl_1 h hi).2 fun m hm=>by
   rcases zMH N L (N+1) m with h2 | h2 | h2
   ·have:=gl_2.2 ⟨m,h2,hm⟩
    rw[h3] at this;cases this
   ·exact h2
   ·exact absurd ⟨m,hm,h2⟩ hno
  rw[h3] at this;cases this
theorem gl_all (h:wY N L){f:Nat->Int}(h1:∀ i,i<N->f i≠3->f i=wV N L i)(h2:∀ i,i<N->f i=3->opn N L f i): ∀ i,i<N->f i=wV N L i:=by
 have hk:∀ k i,uK N L k i->f i=1:=by
  intro k
  induction k with
  | zero=>intro i hi;exact hi.elim
  | succ k ih =>
   intro i hi
   have hatt:∀ j,vV L j i->f j=2:=fun j hj=>by
    obtain⟨m,h3,h4⟩:=hi.2 j hj
    have hjN:=(h.inN.nat hj).1
    by_cases h5:f j=3
    ·exact absurd (ih m h3) ((h2 j hjN h5).1 m h4)
    ·rw[h1 j hjN h5]
     exact gl_2.2 ⟨m,(z07 N L).2 (z54 (UR N) (z0X (D:=(· < N)) (fun _ h=>h) h3)),h4⟩
   have hiN:i<N:=hi.1
   have h6:f i≠3:=fun h5=>by
    obtain⟨j,h7,h8⟩:=(h2 i hiN h5).2
    rw[hatt j h7] at h8;cases h8
   rw[h1 i hiN h6]
   exact(z07 N L).2 (z54 (UR N) (z0X (D:=(· < N)) (fun _ h=>h) hi))
 intro i hi
 by_cases h3:f i=3
 ·rcases zMH N L (N+1) i with h4 | h4 | h4
  ·rw[hk _ i ((z07 N L).1 h4)] at h3;cases h3
  ·obtain⟨m,h5,h6⟩:=gl_2.1 h4
   exact absurd (hk _ m ((z07 N L).1 h5)) ((h2 i hi h3).1 m h6)
  ·rw[h3];exact h4.symm
 ·exact h1 i hi h3
theorem zUD (h:wY N L){k:Nat}{i:Int}: (k:Int)∈yF N L i↔ed L (k:Int) i=true:=by
 rw[Qr,tU]
 refine⟨fun h=>h.2,fun he=>⟨⟨by omega,?_⟩,he⟩⟩
 obtain⟨a,b,h1,_,h2,_⟩:=h.inN _ _ he
 omega
theorem z9Q (h:wY N L)(f:Nat->Int)(i:Nat): Ok (zHp (i:Int) ((N:Int),L) (zV N f)) fun r =>
  (r=2∧∃ k,vV L k i∧f k=1)∨(r=1∧∀ k,vV L k i->f k≠1∧f k≠3)∨(r=3∧opn N L f i):=by
 have hN:=h.hN
 have hl:=zXL (L:=L) (N:=N) (i:Int)
 unfold zHp
 refine Ok.seqE (I:=fun o:Bool⊕Int=>match o with
  | .inl b=>(b=true∧∀ k,vV L k i->f k≠1∧f k≠3)∨(b=false∧opn N L f i)
  | .inr r=>r=2∧∃ k,vV L k i∧f k=1) ?_ (fun b hb=>?_) fun r hr=>.inl hr
 ·rw[zND h,zob]
  refine Ok.forI (fun q (b:Bool)=>(b,(q:Int))) (yF N L (i:Int)) (fun q b=>(∀ k:Nat,(k:Int)∈(yF N L (i:Int)).take q->f k≠1)∧(b=false->∃ k,vV L k i∧f k=3)∧(b=true->∀ k:Nat,(k:Int)∈(yF N L (i:Int)).take q->f k≠3)) _ (fun q x b hx hI=>?_) (fun b hI=>?_) true ⟨by simp,by simp,by simp⟩
  ·obtain⟨k,rfl,hk,he⟩:=zXv hx
   obtain⟨g1,g2,g3⟩:=hI
   unfold zIM
   simp only[wX hx,Qe,qX hx,zob,zG0 f hk,wA hx (by omega)]
   have hmem:∀ m:Nat,(m:Int)∈(yF N L (i:Int)).take (q+1)->(m:Int)∈(yF N L (i:Int)).take q∨m=k:=fun m hm=>by
    rw[uO hx,Qb,Qa] at hm
    rcases hm with hm | hm
    ·exact .inl hm
    ·exact .inr (by omega)
   refine .ite (fun h1=>.ret ⟨rfl,k,he,by simpa using h1⟩) (fun h1=>.ite (fun h2=>.ret ⟨false,rfl,?_,?_,by simp⟩) (fun h2=>.ret ⟨b,rfl,?_,g2,?_⟩))
   ·intro m hm
    rcases hmem m hm with hm | rfl
    ·exact g1 m hm
    ·simpa using h1
   ·exact fun _=>⟨k,he,by simpa using h2⟩
   ·intro m hm
    rcases hmem m hm with hm | rfl
    ·exact g1 m hm
    ·simpa using h1
   ·intro hb m hm
    rcases hmem m hm with hm | rfl
    ·exact g3 hb m hm
    ·simpa using h2
  ·obtain⟨g1,g2,g3⟩:=hI
   rw[QC] at g1 g3
   unfold zIM
   simp only[uV,zbf,Qc]
   refine .ret ?_
   cases b with
   | true=>exact .inl ⟨rfl,fun k hk=>⟨g1 k ((zUD h).2 hk),g3 rfl k ((zUD h).2 hk)⟩⟩
   | false=>exact .inr ⟨rfl,fun k hk=>g1 k ((zUD h).2 hk),g2 rfl⟩
 ·refine .ite (fun hc=>.ret ?_) (fun hc=>.ret ?_)
  ·rcases hb with hb | hb
   ·exact .inr (.inl ⟨rfl,hb.2⟩)
   ·rw[hb.1] at hc;cases hc
  ·rcases hb with hb | hb
   ·rw[hb.1] at hc;cases hc
   ·exact .inr (.inr ⟨rfl,hb.2⟩)
def und (N:Nat)(f:Nat->Int): Nat:=((List.range N).filter fun i=>f i==3).length
theorem und_le (f:Nat->Int): und N f≤N:=Qv (QF _ _) (by simp)
theorem und_set{f:Nat->Int}{i:Nat}(hi:i<N)(h3:f i=3){r:Int}(hr:r≠3): und N f=und N (fun j=>if j=i then r else f j)+1:=by
 refine zVU List.nodup_range (U1.2 hi) (by simp[h3]) (by simp[hr]) fun y _ hy=>by simp[hy]
theorem z7d (h:wY N L){f:Nat->Int}{A:List Int}(hA:A.length≤64)(hAN:∀ x∈A,∃ i:Nat,i<N∧x=(i:Int))(h1:∀ i,i<N->f i≠3->f i=wV N L i)(h2:∀ i:Nat,i<N->f i=3->(i:Int)∉A->opn N L f i):
  zHX ((N:Int),L) (zV N f) A=some (wT N L):=by
 have hN:=h.hN
 have key:Ok (zHX ((N:Int),L) (zV N f) A) fun r=>r=wT N L:=by
  unfold zHX
  rw[zT4 (by omega),zob]
  refine Ok.whG (fun s:List Int×List Int=>∃ f:Nat->Int,s.2=zV N f∧s.1.length+41*und N f≤2000∧(∀ x∈s.1,∃ i:Nat,i<N∧x=(i:Int))∧(∀ i,i<N->f i≠3->f i=wV N L i)∧∀ i:Nat,i<N->f i=3->(i:Int)∉s.1->opn N L f i)
   (fun s=>s.1.length+41*(s.2.filter fun v=>v==3).length) (fun s hs=>?_) ⟨f,rfl,by have:=und_le (N:=N) f;show A.length+_≤_;omega,hAN,h1,h2⟩
  have hund:∀ f:Nat->Int,((zV N f).filter fun v=>v==3).length=und N f:=fun f=>by
   unfold zV und
   rw[List.filter_map,Ud]
   rfl
  obtain⟨w,ls⟩:=s
  obtain⟨f,hf,hm,hw,g1,g2⟩:=hs
  dsimp only at hf hm hw g2
  subst hf
  unfold zMn
  dsimp only
  cases w with
  | nil =>
   rw[Qo (by simp[len])]
   exact .ret (tW (gl_all h g1 fun i hi h3=>g2 i hi h3 (by simp)))
  | cons x w =>
   obtain⟨i,hi,rfl⟩:=hw x Qx
   rw[Qp (by simp only[len,QZ,Qy];omega),show zB ((i:Int)::w) 0=some (i:Int) from rfl,zob,
    show sub ((i:Int)::w) 1 (len ((i:Int)::w))=some w from by rw[zTY (by omega) (by simp only[QZ];omega)];rfl,zob,zG0 f hi,zob]
   have hw':∀ x∈w,∃ i:Nat,i<N∧x=(i:Int):=fun x hx=>hw x (Ql _ hx)
   rw[QZ] at hm
   refine .ite (fun hc=>.ret ⟨⟨f,rfl,by show w.length+_≤_;omega,hw',g1,fun j hj h3 hjw=>g2 j hj h3 fun hm=>?_⟩,?_⟩) (fun hc=>?_)
   ·rcases QB.1 hm with e | e
    ·have:j=i:=by omega
     subst this
     rw[h3] at hc;cases hc
    ·exact hjw e
   ·show w.length+41*((zV N f).filter fun v=>v==3).length<((i:Int)::w).length+41*((zV N f).filter fun v=>v==3).length
    rw[QZ];omega
   ·have h3:f i=3:=by simpa using hc
    obtain⟨r,e1,e2⟩:=z9Q h f i
    rw[e1,zob,zob,Qi,zPf,zG0 _ hi,zob]
    rw[Qp rfl]
    refine .ite (fun hr=>?_) (fun hr=>.ret ?_)
    ·have hr3:r≠3:=by simpa using hr
     have hu:=und_set (N:=N) hi h3 hr3
     have hsl:=z0f (N:=N) (L:=L) (i:Int)
     have hrg:r=wV N L i:=by
      rcases e2 with⟨rfl,k,q1,q2⟩ | ⟨rfl,q1⟩ | ⟨rfl,_⟩
      ·have hk:=(h.inN.nat q1).1
       exact(gl_2.2 ⟨k,by rw[←g1 k hk (by rw[q2];decide),q2],q1⟩).symm
      ·refine((gl_1 h hi).2 fun m hm=>?_).symm
       have hk:=(h.inN.nat hm).1
       obtain⟨q2,q3⟩:=q1 m hm
       have q4:=g1 m hk q3
       rcases zMH N L (N+1) m with q5 | q5 | q5
       ·exact absurd (q4.trans q5) q2
       ·exact q5
       ·exact absurd (q4.trans q5) q3
      ·exact absurd rfl hr3
     rw[zL4 h,zob,wZ (by omega),zob]
     refine .ret ⟨⟨_,rfl,?_,?_,?_,?_⟩,?_⟩
     ·show(w++zN4 N L (i:Int)).length+_≤_
      rw[Qh];omega
     ·intro x hx
      rcases Qb.1 hx with hx | hx
      ·exact hw' x hx
      ·obtain⟨q,hq⟩:=Qj.1 hx
       obtain⟨a,q1,q2,_⟩:=z33 hq
       exact⟨a,q2,q1⟩
     ·intro j hj hj3
      by_cases hji:j=i
      ·subst hji;simp only[Qe];exact hrg
      ·simp only[Qo hji] at hj3 ⊢;exact g1 j hj hj3
     ·intro j hj hj3 hjw
      have hji:j≠i:=fun e=>by subst e;simp only[Qe] at hj3;exact hr3 hj3
      simp only[Qo hji] at hj3
      rw[Qb,not_or] at hjw
      obtain⟨q1,k,q2,q3⟩:=g2 j hj hj3 fun hm=>by
       rcases QB.1 hm with e | e
       ·omega
       ·exact hjw.1 e
      have hne:∀ k,vV L k j->k≠i:=fun k hk e=>hjw.2 ((z0y hj).2 (by rw[←e];exact hk))
      exact⟨fun k hk=>by show(if k=i then r else f k)≠1;rw[Qo (hne k hk)];exact q1 k hk,k,q2,by show(if k=i then r else f k)=3;rw[Qo (hne k q2)];exact q3⟩
     ·show(w++zN4 N L (i:Int)).length+41*_<((i:Int)::w).length+41*_
      rw[hund,hund,Qh,QZ];omega
    ·have hr3:r=3:=by simpa using hr
     subst hr3
     have hfe:(zV N fun j=>if j=i then(3:Int) else f j)=zV N f:=tW fun j _=>by
      by_cases hji:j=i
      ·subst hji;rw[Qp rfl,h3]
      ·rw[Qo hji]
     rw[hfe]
     refine⟨⟨f,rfl,by show w.length+_≤_;omega,hw',g1,fun j hj hj3 hjw=>?_⟩,?_⟩
     ·by_cases hji:j=i
      ·subst hji
       rcases e2 with e2 | e2 | e2
       ·cases e2.1
       ·cases e2.1
       ·exact e2.2
      ·exact g2 j hj hj3 fun hm=>by
        rcases QB.1 hm with e | e
        ·omega
        ·exact hjw e
     ·show w.length+41*((zV N f).filter fun v=>v==3).length<((i:Int)::w).length+41*((zV N f).filter fun v=>v==3).length
      rw[QZ];omega
 obtain⟨r,e,rfl⟩:=key
 exact e
end
end
section
theorem z2x (cl:List (List Int))(hl:cl.length≤100000)(hs:∀ s∈cl,s.length≤10000): zEQ cl=some cl.flatten:=by
 have htot:∀ k:Nat,(cl.take k).flatten.length≤10000*k:=by
  intro k
  induction k with
  | zero=>simp
  | succ k ih =>
   cases hx:cl[k]? with
   | none =>
    have:cl.take (k+1)=cl.take k:=by
     rw[List.getElem?_eq_none_iff] at hx
     rw[Qk (by omega),Qk (by omega)]
    rw[this];omega
   | some x =>
    rw[uO hx,UZ,Qh]
    have:=hs x (vZ hx)
    rw[show[x].flatten=x by simp]
    omega
 unfold zEQ
 have h1:=uU (B:=zCy cl) (fun i (n:Nat)=>((n:Int),(i:Int))) cl (fun i n=>n=(cl.take i).flatten.length) (fun r=>r=((cl.flatten.length:Nat):Int)) ?_ ?_ 0 (by simp)
 ·obtain⟨r,h2,rfl⟩:=h1
  rw[show zO (zCy cl) (0,0)=_ from h2]
  simp only[zob]
  have hfl:=htot cl.length
  rw[QC] at hfl
  have hg:zG2 (cl.flatten.length:Int)=some []:=by
   unfold zG2
   have hn:decide ((cl.flatten.length:Int)<0)=false:=Q3 (by omega)
   have hw:zF ((cl.flatten.length:Int)-zF (((0:Nat):Int)-len ([]:List Int)))=(cl.flatten.length:Int):=by
    have:zF (((0:Nat):Int)-len ([]:List Int))=0:=rfl
    rw[this,Int.sub_zero,z0D _ (by omega)]
   simp only[hn,zbf,Qc,zob,hw]
   by_cases h0:decide (0<(cl.flatten.length:Int))=true
   ·rw[Qp h0]
    unfold mkS
    rw[Qp ⟨by omega,by omega,by omega⟩]
    simp only[zob]
    have:sub (List.replicate (cl.flatten.length:Int).toNat (0:Int)) 0 (len ([]:List Int))=some []:=by
     rw[zKR (by simp[len]) (by simp[len])]
     simp[len]
    rw[this]
    rfl
   ·rw[Qo h0]
  rw[hg]
  simp only[zob]
  have h3:=zFv (B:=zE2 cl) cl (fun s x=>s++x) id (fun i s=>s.length≤10000*i) ([]:List Int) (by simp) ?_ ?_
  ·rw[h3.1]
   have:∀(m:List (List Int)) (acc:List Int),m.foldl (fun s x=>s++x) acc=acc++m.flatten:=by
    intro m
    induction m with
    | nil=>intro acc;simp
    | cons x m ih=>intro acc;rw[Us,ih];simp
   rw[this];simp
  ·intro i x s hx hI
   have hi:=yM hx
   have:=hs x (vZ hx)
   unfold zE2
   simp only[wX hx,Qe,qX hx,zob,wA hx (by omega)]
   rw[wZ (by omega)]
   exact⟨rfl,by simp;omega⟩
  ·intro s _
   unfold zE2
   simp[len]
 ·rintro i x n hx rfl
  have hi:=yM hx
  have h4:=htot i
  have h5:=htot (i+1)
  have hle:=hs x (vZ hx)
  have hsum:zF (((cl.take i).flatten.length:Int)+len x)=(((cl.take (i+1)).flatten.length:Nat):Int):=by
   have e:(cl.take (i+1)).flatten.length=(cl.take i).flatten.length+x.length:=by rw[uO hx,UZ,Qh,show[x].flatten=x by simp]
   rw[e]
   simp only[len]
   rw[uC (by omega) (by omega)]
   omega
  refine .inl ⟨_,?_,rfl⟩
  unfold zCy
  simp only[wX hx,Qe,qX hx,zob,hsum,wA hx (show cl.length<4294967296 by omega)]
  rw[Q3 (by omega)]
  rfl
 ·rintro n rfl
  rw[QC]
  refine⟨_,?_,rfl⟩
  unfold zCy
  simp only[uV,zbf,Qc]
theorem z6H{l:List Int}(hl:l.length<1000): zHn l l=some true:=by
 unfold zHn
 rw[Qo (by simp)]
 refine z0M (l:=l) (fun i x hx=>?_) ?_
 ·unfold zIT
  simp only[wX hx,Qe,qX hx,zob,wA hx (by omega),bne_self_eq_false,zbf,Qc]
 ·unfold zIT
  simp only[uV,zbf,Qc]
section
variable {N:Nat}{L L':List zT}{a b:Nat}{A:List Int}
theorem has_not (h:wY N L)(hn:((a:Int),(b:Int))∉L): zPd ((N:Int),L) (a:Int) (b:Int)=some false:=by
 have hl:=h.len
 unfold zPd zHa zJp
 rw[h.proper,zob]
 have h1:zO (zE4 L ((a:Int),(b:Int))) 0=some (-1):=by
  refine z0M (l:=L) (fun i x hx=>?_) ?_
  ·unfold zE4
   simp only[wX hx,Qe,qX hx,zob,wA hx (by omega)]
   have hne:¬ ((a:Int),(b:Int))=x:=fun e=>hn (e▸vZ hx)
   rw[Qo (by simpa using hne)]
  ·unfold zE4
   simp only[uV,zbf,Qc]
 dsimp only
 rw[h1]
 rfl
theorem z3M (hL:∀ x,x∈L'↔x=((a:Int),(b:Int))∨x∈L)(hb:(b:Int)∈A)(hc:∀ i j:Nat,(i:Int)∈A->vV L' i j->(j:Int)∈A){i:Nat}(hi:(i:Int)∉A): wV N L i=wV N L' i:=by
 have he:∀ i:Nat,(i:Int)∉A->∀ j:Nat,vV L j i↔vV L' j i:=fun i hi j=>by
  unfold vV
  rw[zY5,zY5,hL]
  refine⟨.inr,fun h=>h.resolve_left fun e=>hi ?_⟩
  have:(i:Int)=(b:Int):=congrArg Prod.snd e
  rw[this];exact hb
 have hout:∀ i j:Nat,(i:Int)∉A->vV L' j i->(j:Int)∉A:=fun i j hi hj hA=>hi (hc j i hA hj)
 have key:∀ k i:Nat,(i:Int)∉A->(uK N L k i↔uK N L' k i):=by
  intro k
  induction k with
  | zero=>intro i _;exact Iff.rfl
  | succ k ih =>
   intro i hi
   refine and_congr Iff.rfl ⟨fun h j hj=>?_,fun h j hj=>?_⟩
   ·obtain⟨m,h1,h2⟩:=h j ((he i hi j).2 hj)
    have hjA:=hout i j hi hj
    have h2':=(he j hjA m).1 h2
    exact⟨m,(ih m (hout j m hjA h2')).1 h1,h2'⟩
   ·have hj':=(he i hi j).1 hj
    obtain⟨m,h1,h2⟩:=h j hj'
    have hjA:=hout i j hi hj'
    exact⟨m,(ih m (hout j m hjA h2)).2 h1,(he j hjA m).2 h2⟩
 have hatt:att (vV L) (uK N L (N+1)) i↔att (vV L') (uK N L' (N+1)) i :=
  ⟨fun⟨m,h1,h2⟩=>⟨m,(key _ m (hout i m hi ((he i hi m).1 h2))).1 h1,(he i hi m).1 h2⟩,fun⟨m,h1,h2⟩=>⟨m,(key _ m (hout i m hi h2)).2 h1,(he i hi m).2 h2⟩⟩
 show qP N L (N+1) i=qP N L' (N+1) i
 rcases zMH N L (N+1) i with h1 | h1 | h1
 ·rw[h1];exact((z07 N L').2 ((key _ i hi).1 ((z07 N L).1 h1))).symm
 ·rw[h1];exact((zU2 N L').2 (hatt.1 ((zU2 N L).1 h1))).symm
 ·rw[h1]
  obtain⟨h2,h3⟩:=(z8h N L).1 h1
  exact((z8h N L').2 ⟨fun h=>h2 ((key _ i hi).2 h),fun h=>h3 (hatt.2 h)⟩).symm
theorem set_L2{A:List Int}(hA:A.length≤64)(hAN:∀ x∈A,∃ i:Nat,i<N∧x=(i:Int))(f:Nat->Int):
  zO (zEp A) (zV N f,0)=some (zV N fun i=>if(i:Int)∈A then 3 else f i):=by
 have h:=uU (B:=zEp A) (fun i (s:List Int)=>(s,(i:Int))) A (fun q s=>s=zV N fun i=>if(i:Int)∈A.take q then 3 else f i) (fun r=>r=zV N fun i=>if(i:Int)∈A then 3 else f i) ?_ ?_ (zV N f) (by simp)
 ·obtain⟨r,h1,rfl⟩:=h
  exact h1
 ·rintro q x s hx rfl
  obtain⟨i,hi,rfl⟩:=hAN x (vZ hx)
  refine .inl ⟨_,?_,rfl⟩
  unfold zEp
  simp only[wX hx,Qe,qX hx,zob,wA hx (by omega),zG0 _ hi,Qi,zPf]
  congr 3
  refine tW fun j _=>?_
  rw[uO hx]
  by_cases hji:j=i
  ·subst hji;simp
  ·have:(j:Int)≠(i:Int):=by omega
   simp[hji,this]
 ·rintro s rfl
  refine⟨_,?_,rfl⟩
  unfold zEp
  simp only[uV,zbf,Qc,QC]
theorem z9t (h:wY N L)(ha:a<N)(hb:b<N)(hn:((a:Int),(b:Int))∉L):
  ∃ L' A,zK8 (((N:Int),L),wT N L) (1,(a:Int),(b:Int))=some ((((N:Int),L'),wT N L'),A,0)∧wY N L'∧(∀ x,x∈L'↔x=((a:Int),(b:Int))∨x∈L)∧(b:Int)∈A∧A.length≤64:=by
 have hN:=h.hN
 obtain⟨L',e1,hG,hL⟩:=z7D h ha hb hn
 obtain⟨A,e2,hA,hAN,hbA,hcl⟩:=z9q hG hb
 have hgl:(wT N L).length=N:=zD1 _ _
 have hA2:(xI yC A).length≤64:=Qv (zX3 _ _) hA
 refine⟨L',xI yC A,?_,hG,hL,(zSp _ _).2 hbA,hA2⟩
 have hv:zK7 (((N:Int),L),wT N L)=some true:=by
  unfold zK7
  dsimp only
  rw[h.v1,zob,Qp (by rfl),zLX h,zob,z6H (by omega)]
  rfl
 have hr:zIj ((N:Int),L) (1,(a:Int),(b:Int))=some 0:=by
  unfold zIj
  dsimp only
  rw[Qp (by rfl),zob,Qp (by rfl),has_not h hn,zob]
  have hd:(decide ((if(b:Int)<(a:Int) then(b:Int) else(a:Int))<0)||decide ((N:Int)≤(if(b:Int) > (a:Int) then(b:Int) else(a:Int))))=false:=by
   simp only[Q6,QX]
   constructor <;> split <;> omega
  rw[hd]
  rfl
 have hcp:zEl (((N:Int),L),wT N L)=some (((N:Int),L),wT N L):=by
  unfold zEl zGu
  dsimp only
  rw[zT4 (by omega),zLK h.len']
  rfl
 have hcat:zEQ [wT N L,[3]]=some (wT N L++[3]):=by
  rw[z2x _ (by simp) (by intro s hs;simp only[QB,UJ,or_false] at hs;rcases hs with rfl | rfl <;> simp[hgl];omega)]
  simp
 have hL1:zO (zFF (((N:Int),L'),[(b:Int)])) (([]:List Int),0)=some A:=by
  have s1:zFF (((N:Int),L'),[(b:Int)]) (([]:List Int),0)=some (.inl (A,1)):=by
   unfold zFF
   dsimp only
   rw[Qp (by rfl),show zB [(b:Int)] 0=some (b:Int) from rfl,zob,e2,zob,zLK (by omega)]
   rfl
  rw[z4H s1]
  refine zVG ?_
  unfold zFF
  rw[Qo (by simp[len])]
 unfold zK8
 rw[hv,zob,Qo (by decide)]
 have happ:zKS (((N:Int),L),wT N L) (1,(a:Int),(b:Int))=some ((((N:Int),L'),wT N L'),xI yC A,0):=by
  unfold zKS
  dsimp only
  rw[hr,zob,Qo (by decide),hcp,zob]
  dsimp only
  rw[e1,zob,hcat,zob]
  dsimp only
  rw[zKR (by omega) (by rw[Qh,hgl,Wo];omega),zob,hL1,zob,zXJ (by omega)]
  have htk:(wT N L++[3]).take (N:Int).toNat=zV N (wV N L):=by
   rw[Qi,QR (by omega),Qk (by omega)]
   rfl
  rw[htk,set_L2 hA2 (fun x hx=>hAN x ((zSp _ _).1 hx)),zob,z7d hG hA2 (fun x hx=>hAN x ((zSp _ _).1 hx)),zob]
  ·intro i hi h3
   by_cases hiA:(i:Int)∈xI yC A
   ·simp only[hiA,Qe] at h3
    exact absurd rfl h3
   ·simp only[hiA,Qc]
    exact z3M hL hbA hcl fun hm=>hiA ((zSp _ _).2 hm)
  ·intro i hi h3 hiA
   simp only[hiA,Qc] at h3
   have hiA':(i:Int)∉A:=fun hm=>hiA ((zSp _ _).2 hm)
   rw[z3M hL hbA hcl hiA'] at h3
   obtain⟨q1,k,q2,q3⟩:=z7I hG hi h3
   have hk:∀ k,vV L' k i->(if(k:Int)∈xI yC A then(3:Int) else wV N L k)=wV N L' k:=fun k hk=>by
    have hkA:(k:Int)∉A:=fun hm=>hiA' (hcl k i hm hk)
    rw[Qo fun hm=>hkA ((zSp _ _).1 hm)]
    exact z3M hL hbA hcl hkA
   exact⟨fun k hk'=>by show(if(k:Int)∈xI yC A then(3:Int) else wV N L k)≠1;rw[hk k hk'];exact q1 k hk',k,q2,by show(if(k:Int)∈xI yC A then(3:Int) else wV N L k)=3;rw[hk k q2];exact q3⟩
 rw[happ]
 rfl
end
end
section
section
variable {N:Nat}{L:List zT}
theorem lab_0 (i:Nat): qP N L 0 i=3:=(z8h N L).2 ⟨fun h:uK N L 0 i=>h.elim,fun⟨m,(h:uK N L 0 m),_⟩=>h.elim⟩
theorem z4Z{m i:Nat}(h:qP N L m i≠3): qP N L (m+1) i=qP N L m i:=by
 rcases zMH N L m i with h1 | h1 | h1
 ·rw[h1,z8E N L h1]
 ·rw[h1,z14 N L h1]
 ·exact absurd h1 h
theorem rk_at{i:Nat}: ∀ {m:Nat},qP N L m i≠3->∃ k,k<m∧xB N L m i=((k+1:Nat):Int)∧qP N L k i=3∧qP N L (k+1) i=qP N L m i
 | 0,h=>absurd (lab_0 i) h
 | m+1,h=>by
  by_cases he:qP N L (m+1) i=qP N L m i
  ·obtain⟨k,h1,h2,h3,h4⟩:=rk_at (m:=m) (by rw[←he];exact h)
   exact⟨k,by omega,by rw[xB,Qp he,h2],h3,by rw[h4,he]⟩
  ·refine⟨m,by omega,by rw[xB,Qo he],?_,rfl⟩
   apply Classical.byContradiction
   exact fun h3=>he (z4Z h3)
theorem rk_le{k i:Nat}(h:qP N L k i≠3): ∀ {m:Nat},k≤m->xB N L m i≤(k:Int)∧qP N L m i=qP N L k i:=by
 intro m hm
 induction m with
 | zero=>rw[show k=0 by omega];exact⟨z7P N L 0 i,rfl⟩
 | succ m ih =>
  by_cases he:k=m+1
  ·rw[he];exact⟨z7P N L (m+1) i,rfl⟩
  ·obtain⟨h1,h2⟩:=ih (by omega)
   have h3:=z4Z (N:=N) (L:=L) (m:=m) (i:=i) (by rw[h2];exact h)
   exact⟨by rw[xB,Qp h3];exact h1,by rw[h3,h2]⟩
theorem rk_in{i:Nat}(h1:wV N L i=1): 1≤xB N L (N+1) i∧∀ j,vV L j i->xB N L (N+1) j<xB N L (N+1) i:=by
 obtain⟨k,h2,h3,h4,h5⟩:=rk_at (N:=N) (L:=L) (i:=i) (m:=N+1) (by show wV N L i≠3;rw[h1];decide)
 refine⟨by rw[h3];omega,fun j hj=>?_⟩
 have h6:uK N L (k+1) i:=(z07 N L).1 (h5.trans h1)
 have h7:qP N L k j=2:=(zU2 N L).2 (h6.2 j hj)
 have:=(rk_le (N:=N) (L:=L) (k:=k) (i:=j) (by rw[h7];decide) (m:=N+1) (by omega)).1
 rw[h3];omega
theorem rk_out{i:Nat}(h1:wV N L i=2): ∃ j,vV L j i∧wV N L j=1∧1≤xB N L (N+1) j∧xB N L (N+1) j≤xB N L (N+1) i:=by
 obtain⟨k,h2,h3,h4,h5⟩:=rk_at (N:=N) (L:=L) (i:=i) (m:=N+1) (by show wV N L i≠3;rw[h1];decide)
 obtain⟨m,h6,h7⟩:=(zU2 N L).1 (h5.trans h1)
 have h8:qP N L (k+1) m=1:=(z07 N L).2 h6
 obtain⟨h9,h10⟩:=rk_le (N:=N) (L:=L) (k:=k+1) (i:=m) (by rw[h8];decide) (m:=N+1) (by omega)
 have h11:wV N L m=1:=h10.trans h8
 exact⟨m,h7,h11,(rk_in h11).1,by rw[h3];exact h9⟩
theorem z0g (hN:N≤40): zDz ((N:Int),L) (wT N L)=some true:=by
 have hgl:(wT N L).length=N:=zD1 _ _
 have h1:zA7 (wT N L)=some false:=by
  have h2:=zUd (fun y=>zJo y) (fun y=>(y != 1)&&((y != 2)&&(y != 3))) (wT N L) (by omega) fun y _=>rfl
  rw[show zA7 (wT N L)=_ from h2]
  congr 1
  rw[Un]
  intro y hy
  obtain⟨i,_,rfl⟩:=Qm.1 hy
  rcases zMH N L (N+1) i with h | h | h <;> rw[h] <;> decide
 unfold zDz
 rw[Qp (by simp[len,hgl]),h1]
 rfl
def tS (f:Nat->Int)(v:Int)(l:List Int): Nat:=(l.filter fun x=>f x.toNat==v).length
theorem cn_suc{f:Nat->Int}{v:Int}{l:List Int}{q:Nat}{x:Int}(hx:l[q]?=some x): tS f v (l.take (q+1))=tS f v (l.take q)+if f x.toNat=v then 1 else 0:=by
 unfold tS
 rw[uO hx,Uc,Qh]
 by_cases h:f x.toNat=v <;> simp[h]
theorem cn_le (f:Nat->Int)(v:Int)(l:List Int): tS f v l≤l.length:=QF _ _
theorem z97 (h:wY N L){i:Nat}(hi:i<N): zFd ((N:Int),L) (wT N L) (i:Int)=some true:=by
 have hN:=h.hN
 have hl:=zXL (L:=L) (N:=N) (i:Int)
 have key:Ok (zFd ((N:Int),L) (wT N L) (i:Int)) fun r=>r=true:=by
  unfold zFd
  rw[zND h,zob]
  refine .bind (I:=fun s:Int×Int×Int×Int=>s.2.1=(tS (wV N L) 1 (yF N L (i:Int)):Int)∧s.2.2.1=(tS (wV N L) 2 (yF N L (i:Int)):Int)) ?_ fun s hs=>?_
  ·refine Ok.forI (fun q (c:Int×Int×Int×Int)=>((q:Int),c)) (yF N L (i:Int)) (fun q c=>c.2.1=(tS (wV N L) 1 ((yF N L (i:Int)).take q):Int)∧c.2.2.1=(tS (wV N L) 2 ((yF N L (i:Int)).take q):Int)) _ (fun q x c hx hI=>?_) (fun c hI=>?_) (0,0,0,0) ⟨by simp[tS],by simp[tS]⟩
   ·have hq:=yM hx
    obtain⟨c0,c1,c2,c3⟩:=c
    obtain⟨g1,g2⟩:=hI
    dsimp only at g1 g2
    subst g1
    subst g2
    obtain⟨k,rfl,hk,he⟩:=zXv hx
    have b1:=cn_le (wV N L) 1 ((yF N L (i:Int)).take q)
    have b2:=cn_le (wV N L) 2 ((yF N L (i:Int)).take q)
    rw[Qt] at b1 b2
    unfold zJO
    simp only[wX hx,Qe,qX hx,zob,wA hx (by omega)]
    rw[show zB (wT N L) (k:Int)=some (wV N L k) from zG0 _ hk,zob]
    have s1:=cn_suc (f:=wV N L) (v:=1) hx
    have s2:=cn_suc (f:=wV N L) (v:=2) hx
    rw[Qi] at s1 s2
    rcases zMH N L (N+1) k with h1 | h1 | h1
    ·rw[show wV N L k=1 from h1] at s1 s2 ⊢
     refine⟨_,rfl,_,rfl,?_,?_⟩
     ·show zF ((tS (wV N L) 1 ((yF N L (i:Int)).take q):Int)+1)=_
      rw[yT _ (by omega),s1,Qp rfl]
     ·show((tS (wV N L) 2 ((yF N L (i:Int)).take q):Nat):Int)=_
      rw[s2,Qo (by decide),QM]
    ·rw[show wV N L k=2 from h1] at s1 s2 ⊢
     refine⟨_,rfl,_,rfl,?_,?_⟩
     ·show((tS (wV N L) 1 ((yF N L (i:Int)).take q):Nat):Int)=_
      rw[s1,Qo (by decide),QM]
     ·show zF ((tS (wV N L) 2 ((yF N L (i:Int)).take q):Int)+1)=_
      rw[yT _ (by omega),s2,Qp rfl]
    ·rw[show wV N L k=3 from h1] at s1 s2 ⊢
     refine⟨_,rfl,_,rfl,?_,?_⟩
     ·show((tS (wV N L) 1 ((yF N L (i:Int)).take q):Nat):Int)=_
      rw[s1,Qo (by decide),QM]
     ·show((tS (wV N L) 2 ((yF N L (i:Int)).take q):Nat):Int)=_
      rw[s2,Qo (by decide),QM]
   ·obtain⟨c0,c1,c2,c3⟩:=c
    rw[QC] at hI
    unfold zJO
    simp only[uV,zbf,Qc]
    exact .ret hI
  ·obtain⟨c0,c1,c2,c3⟩:=s
   obtain⟨g1,g2⟩:=hs
   dsimp only at g1 g2 ⊢
   subst g1
   subst g2
   rw[show zB (wT N L) (i:Int)=some (wV N L i) from zG0 _ hi,zob]
   have hall:∀ k:Nat,(k:Int)∈yF N L (i:Int)↔vV L k i:=fun k=>zUD h
   have hat:∀ x∈yF N L (i:Int),∃ k:Nat,x=(k:Int)∧vV L k i:=fun x hx=>by
    obtain⟨q,hq⟩:=Qj.1 hx
    obtain⟨a,q1,q2,q3⟩:=zXv hq
    exact⟨a,q1,q3⟩
   rcases zMH N L (N+1) i with h1 | h1 | h1
   ·rw[show wV N L i=1 from h1,Qp (by rfl)]
    refine .ret ?_
    have:tS (wV N L) 2 (yF N L (i:Int))=(yF N L (i:Int)).length:=by
     unfold tS
     rw[UY.2 fun x hx=>?_]
     obtain⟨k,rfl,hk⟩:=hat x hx
     rw[Qi,Q9]
     exact(gl_1 h hi).1 h1 k hk
    rw[this];simp[len]
   ·rw[show wV N L i=2 from h1,Qo (by decide),Qp (by rfl)]
    refine .ret ?_
    obtain⟨m,q1,q2⟩:=gl_2.1 h1
    have:0<tS (wV N L) 1 (yF N L (i:Int)):=List.length_pos_of_mem (Qr.2 ⟨(hall m).2 q2,by rw[Qi,Q9];exact q1⟩)
    exact QJ (by omega)
   ·rw[show wV N L i=3 from h1,Qo (by decide),Qo (by decide)]
    refine .ret ?_
    obtain⟨q1,k,q2,q3⟩:=z7I h hi h1
    have z1:tS (wV N L) 1 (yF N L (i:Int))=0:=by
     unfold tS
     rw[U4.2 fun x hx=>?_];rfl
     obtain⟨k,rfl,hk⟩:=hat x hx
     rw[Qi,Q9]
     exact q1 k hk
    have z2:tS (wV N L) 2 (yF N L (i:Int))<(yF N L (i:Int)).length:=by
     rcases Nat.lt_or_ge (tS (wV N L) 2 (yF N L (i:Int))) (yF N L (i:Int)).length with hlt | hge
     ·exact hlt
     ·have he:((yF N L (i:Int)).filter fun x=>wV N L x.toNat==2).length=(yF N L (i:Int)).length:=Nat.le_antisymm (cn_le (wV N L) 2 _) hge
      have:=(List.length_filter_eq_length_iff.1 he) _ ((hall k).2 q2)
      rw[Qi,q3] at this
      cases this
    rw[z1]
    simp only[Int.natCast_zero,Q7,Wg,Qy,len]
    omega
 obtain⟨r,e,rfl⟩:=key
 exact e
theorem z3e (h:wY N L): zE1 ((N:Int),L) (wT N L)=some true:=by
 have hN:=h.hN
 have hgl:(wT N L).length=N:=zD1 _ _
 have h1:zGd ((N:Int),L) (wT N L)=some []:=by
  unfold zGd
  rw[z0g hN,zob,Qo (by decide)]
  have h2:=uU (B:=zEY (wT N L) ((N:Int),L)) (fun q (_:Unit)=>(([]:List Int),(q:Int))) (wT N L) (fun _ _=>True) (fun r=>r=[]) ?_ ?_ () trivial
  ·obtain⟨r,e,rfl⟩:=h2;exact e
  ·intro q x _ hx _
   have hq:=yM hx
   refine .inl ⟨(),?_,trivial⟩
   unfold zEY
   simp only[wX hx,Qe,z97 h (show q<N by omega),zob,wA hx (by omega),QV,zbf,Qc]
  ·intro _ _
   refine⟨_,?_,rfl⟩
   unfold zEY
   simp only[uV,zbf,Qc]
 unfold zE1
 rw[z0g hN,zob,Qp rfl,h1]
 rfl
theorem z6h (h:wY N L){i:Nat}(hi:i<N): zIu ((N:Int),L) (wT N L) (zS3 N L) (i:Int)=some true:=by
 have hN:=h.hN
 have hl:=zXL (L:=L) (N:=N) (i:Int)
 have hlb:∀ {k:Nat},k<N->zB (wT N L) (k:Int)=some (wV N L k):=fun hk=>zG0 _ hk
 have hrk:∀ {k:Nat},k<N->zB (zS3 N L) (k:Int)=some (xB N L (N+1) k):=fun hk=>zG0 _ hk
 have hat:∀ x∈yF N L (i:Int),∃ k:Nat,x=(k:Int)∧k<N∧vV L k i:=fun x hx=>by
  obtain⟨q,hq⟩:=Qj.1 hx
  obtain⟨a,q1,q2,q3⟩:=zXv hq
  exact⟨a,q1,q2,q3⟩
 unfold zIu
 rw[zND h,zob,hlb hi,zob]
 rcases zMH N L (N+1) i with h1 | h1 | h1
 ·obtain⟨q1,q2⟩:=rk_in h1
  have hc:zA6 (yF N L (i:Int)) (zS3 N L) (i:Int)=some false:=by
   have h2:=zUd (fun y=>zGg y (zS3 N L) (i:Int)) (fun y=>decide (xB N L (N+1) i≤xB N L (N+1) y.toNat)) (yF N L (i:Int)) (by omega) fun y hy=>by
    obtain⟨k,rfl,hk,_⟩:=hat y hy
    unfold zGg
    rw[hrk hk,zob,hrk hi,zob,Qi]
   rw[show zA6 (yF N L (i:Int)) (zS3 N L) (i:Int)=_ from h2]
   congr 1
   rw[Un]
   intro y hy
   obtain⟨k,rfl,hk,he⟩:=hat y hy
   have:=q2 k he
   rw[Qi,Qy];omega
  rw[show wV N L i=1 from h1,Qp (by rfl),hrk hi,zob,Qp (QJ q1),hc]
  rfl
 ·obtain⟨j,q1,q2,q3,q4⟩:=rk_out h1
  have hj:=(h.inN.nat q1).1
  have hc:zA8 (yF N L (i:Int)) (wT N L) (zS3 N L) (i:Int)=some true:=by
   have h2:=zUd (fun y=>zGo y (wT N L) (zS3 N L) (i:Int)) (fun y=>(wV N L y.toNat==1)&&(decide (1≤xB N L (N+1) y.toNat)&&decide (xB N L (N+1) y.toNat≤xB N L (N+1) i))) (yF N L (i:Int)) (by omega) fun y hy=>by
    obtain⟨k,rfl,hk,_⟩:=hat y hy
    unfold zGo
    rw[hlb hk,hrk hk,hrk hi,Qi]
    simp only[zob]
    by_cases c1:wV N L k=1
    ·by_cases c2:1≤xB N L (N+1) k
     ·simp[c1,c2]
     ·simp[c1,c2]
    ·simp[c1]
   rw[show zA8 (yF N L (i:Int)) (wT N L) (zS3 N L) (i:Int)=_ from h2]
   congr 1
   rw[Uk]
   exact⟨(j:Int),(zUD h).2 q1,by rw[Qi];simp[q2,q3,q4]⟩
  rw[show wV N L i=2 from h1,Qo (by decide),Qp (by rfl),hc]
  rfl
 ·rw[show wV N L i=3 from h1,Qo (by decide),Qo (by decide)]
theorem z8d (h:wY N L): zJc ((N:Int),L) (wT N L) (zS3 N L)=some 0:=by
 have hN:=h.hN
 have hrl:(zS3 N L).length=N:=zD1 _ _
 unfold zJc
 rw[h.v1,zob,Qo (by decide),z0g hN,zob,Qo (by decide),zob,Qo (by simp[len,hrl]),z3e h,zob,Qo (by decide)]
 refine z0M (l:=zS3 N L) (fun q x hx=>?_) ?_
 ·have hq:=yM hx
  unfold zJm
  rw[Qp (QJ (by show(q:Int)<(N:Int);omega)),z6h h (show q<N by omega),zob,Qo (by decide),wA hx (by omega)]
 ·unfold zJm
  rw[Qo (by rw[hrl];simp)]
end
end
section
theorem z8p{l:List Int}(x:Int)(h:l.length≤1000): zQo l x=some (decide (x∈l)):=by
 unfold zQo
 rw[z02 (B:=zNf l x) l (fun y=>y==x) (fun i y hy=>by
  unfold zNf
  simp[qX hy,wA hy (show l.length<4294967296 by omega)]
  grind) (by unfold zNf;grind)]
 grind
section
variable {N:Nat}{G:List zT}
structure Grw (N:Nat)(G:List zT)(s:(List zT)×Int×Int×(List zT)×(List Int)): Prop where
 nd:s.1.Nodup
 k:∃ k:Nat,s.2.1=(k:Int)∧k+s.1.length≤1600
 n:s.2.2.1=(N:Int)
 g:wY N s.2.2.2.1
 m:∀ x,x∈G↔x∈s.1∨x∈s.2.2.2.1
 d:∀ x,x∈s.1->x∉s.2.2.2.1
 l:s.2.2.2.2=wT N s.2.2.2.1
theorem z5u (hG:wY N G)(y1:List Int): Ok (zO (zLT y1) (G,0,(N:Int),[],wT N [])) fun r=>r=.inl ((N:Int),G,wT N G):=by
 have hlen:=hG.len
 refine Ok.whG (fun s=>Grw N G s) (fun s=>s.1.length) (fun s hs=>?_) ⟨hG.nodup,⟨0,rfl,by show 0+G.length≤1600;omega⟩,rfl,⟨hG.hN,by simp,List.Pairwise.nil⟩,by simp,by simp,rfl⟩
 obtain⟨rest,i,n,L,lb⟩:=s
 obtain⟨hnd,⟨k,hk,hkl⟩,hn,hg,hm,hd,hl⟩:=hs
 dsimp only at hnd hk hkl hn hg hm hd hl
 subst hk hn hl
 unfold zLT
 dsimp only
 refine .ite (fun hc=>?_) (fun hc=>?_)
 ·have hpos:0<rest.length:=by
   have:=of_decide_eq_true hc
   simp only[len] at this;omega
  refine .bind (I:=fun v:Int=>∃ q:Nat,v=(q:Int)∧q<rest.length) ?_ fun v hv=>?_
  ·refine .ite (fun h1=>?_) (fun h1=>.ret ⟨0,rfl,hpos⟩)
   have h1:k<y1.length:=by
    have:=of_decide_eq_true h1
    simp only[len] at this;omega
   have hx:y1[k]?=some y1[k]:=Qg h1
   generalize y1[k]=x at hx
   rw[qX hx,zob]
   obtain⟨v,e,v0,v1⟩:=z4e (x:=x) (n:=len rest) (by simp only[len];omega) (by simp only[len];omega)
   rw[e,zob]
   exact .ret ⟨v.toNat,by omega,by simp only[len] at v1;omega⟩
  ·obtain⟨q,rfl,hq⟩:=hv
   have hx:rest[q]?=some rest[q]:=Qg hq
   have hsp:rest=rest.take q++rest[q]::rest.drop (q+1):=by rw[←Qn hq,Qu]
   generalize rest[q]=p at hx hsp
   have hpr:p∈rest:=vZ hx
   obtain⟨a,b,ha,hb,rfl⟩:=zMh (hG.inr p ((hm p).2 (.inl hpr)))
   obtain⟨L',A,e1,hg',hL',hbA,hA⟩:=z9t hg ha hb (hd _ hpr)
   rw[qX hx,zob,zob,e1,zob,zob]
   dsimp only
   rw[Qo (by decide)]
   have hin:zQo A (b:Int)=some true:=by
    have:=z8p (l:=A) (b:Int) (by omega)
    rw[this,QJ hbA]
   have hrk:zJ7 ((N:Int),L')=some (zS3 N L'):=by
    unfold zJ7
    rw[zSG hg',zob]
   rw[zob,hin,zob,Qo (by decide),hrk,zob,z8d hg',zob,zob,Qo (by decide)]
   rw[zKR (by omega) (by omega),zob,yT q (by omega),zTY (by omega) (by omega),zob,Qi,Qi]
   have hln:(rest.take q++rest.drop (q+1)).length+1=rest.length:=by
    rw[Qh,Qt,QY];omega
   rw[wZ (by rw[←Qh];omega),zob,yT k (by omega)]
   have hperm:rest.Perm (((a:Int),(b:Int))::(rest.take q++rest.drop (q+1))):=by
    conv=>lhs;rw[hsp]
    exact List.perm_middle
   obtain⟨n1,n2⟩:=U5.1 (hperm.nodup_iff.1 hnd)
   refine .ret ⟨⟨n2,⟨k+1,rfl,by show k+1+(rest.take q++rest.drop (q+1)).length≤1600;omega⟩,rfl,hg',fun x=>?_,fun x hx hxL=>?_,rfl⟩,by show(rest.take q++rest.drop (q+1)).length<rest.length;omega⟩
   ·show x∈G↔x∈rest.take q++rest.drop (q+1)∨x∈L'
    rw[hm x,hL' x,hperm.mem_iff,QB]
    constructor
    ·rintro ((h | h) | h)
     ·exact .inr (.inl h)
     ·exact .inl h
     ·exact .inr (.inr h)
    ·rintro (h | h | h)
     ·exact .inl (.inr h)
     ·exact .inl (.inl h)
     ·exact .inr h
   ·rcases(hL' x).1 hxL with rfl | h
    ·exact n1 hx
    ·exact hd x (hperm.mem_iff.2 (Ql _ hx)) h
 ·have h0:rest=[]:=by
   rcases rest with _ | ⟨x,r⟩
   ·rfl
   ·simp[len] at hc
  subst h0
  have:G=L:=by
   have h1:=zZx z3p hG.asc fun x=>((hm x).trans (by simp):x∈G↔x∈L)
   have h2:=zZx z3p hg.asc fun _=>Iff.rfl
   exact h1.symm.trans h2
  subst this
  exact .ret rfl
end
end
section
theorem z5R{b:zM}(h:tD b)(k:Nat): tD (b.1,b.2.1.take k,([]:List wE)) where
 np:=h.np
 nr:=by have:=h.nr;show(b.2.1.take k).length≤24;rw[Qt];omega
 nm:=by simp
 prem:=h.prem
 rule:=fun r hr=>h.rule r (Q5 hr)
 dp:=h.dp
 dr:=fun i j p q hp hq e=>by
  have hs:∀ {i:Nat} {p:qC},(b.2.1.take k)[i]?=some p->b.2.1[i]?=some p:=fun {i p} hp=>by
   rw[Q1] at hp
   split at hp
   ·exact hp
   ·cases hp
  exact h.dr i j p q (hs hp) (hs hq) e
 prom:=fun p hp=>by cases hp
theorem z0t{b:zM}(h:tD b)(h0:b.2.1=[]): zO3 b=some (zQG b):=by
 have hr:uZ b (zQG b) 0 true=[]:=List.eq_nil_iff_forall_not_mem.2 fun a ha=>by
  obtain⟨_,r,hr,_⟩:=zZ8.1 ha
  rw[h0] at hr
  unfold zB at hr
  split at hr <;> simp at hr
 have hl:=zLc b
 have hn:=h.np
 unfold zO3
 rw[show(50:Nat)=49+1 from rfl,zSQ,hr,QA,Qo (by omega),Qp rfl]
theorem Ok.compiled{s:uG}(h:uN s): Ok (zL5 s 20) fun r=>r.2.1=true∧∃ b l o,r.1=zZA b l o∧l.length≤20:=by
 obtain⟨b,k,e1,hk,hd⟩:=z7n h (n:=3) (p:=4) (q:=5) (by omega) (by omega) (by omega) (by omega) (by omega) (by omega)
 have hnp:=hd.np
 have hnr:=hd.nr
 unfold zL5
 rw[e1,zob]
 have hsm:∀ {c:zM},tD c->c.2.1.length≤5->zIo c=some (ansB (zO3 c)):=fun hv hr=>z6m (z5F hv (by omega))
 dsimp only
 rw[hsm hd.valid (by omega),zob]
 refine .bind (I:=fun t:(List zD)×(List qC)×(List wE)=>tD (b.1,t.2.1,t.2.2)∧t.2.1.length≤5∧zO3 (b.1,t.2.1,t.2.2)=some t.1∧t.1.length≤20) ?_ fun t ht=>?_
 ·refine Ok.whG (fun t:(List zD)×Int×(List qC)×(List wE)=>tD (b.1,t.2.2.1,t.2.2.2)∧(∃ m,t.2.2.1=b.2.1.take m)∧(t.1,t.2.1)=ansB (zO3 (b.1,t.2.2.1,t.2.2.2))) (fun t=>t.2.2.1.length) (fun t ht=>?_) ⟨hd.valid,⟨b.2.1.length,by simp⟩,rfl⟩
  obtain⟨x,e,rs,ps⟩:=t
  obtain⟨hv,⟨m,hm⟩,hb⟩:=ht
  dsimp only at hv hm hb
  have hrl:rs.length≤5:=by rw[hm,Qt];omega
  unfold zOs
  dsimp only
  refine .ite (fun hc=>?_) (fun hc=>?_)
  ·have hpos:0<rs.length:=by
    by_cases h0:rs.length=0
    ·have:decide (0<len rs)=false:=Q3 (by simp[len,h0])
     rw[this,Bool.and_false] at hc
     split at hc <;> cases hc
    ·omega
   have hw:zF (len rs-1)=((rs.length-1:Nat):Int):=by
    rw[show len rs-1=((rs.length-1:Nat):Int) from by simp only[len];omega]
    exact z0D _ (by omega)
   rw[hw,zKR (by omega) (by omega),zob,Qi]
   have hv':tD (b.1,rs.take (rs.length-1),([]:List wE)):=z5R hv _
   have hlt:(rs.take (rs.length-1)).length<rs.length:=by rw[Qt];omega
   rw[hsm hv' (by show(rs.take (rs.length-1)).length≤5;omega),zob]
   exact .ret ⟨⟨hv',⟨min (rs.length-1) m,by show rs.take (rs.length-1)=_;rw[hm,Ua]⟩,rfl⟩,hlt⟩
  ·have hno:rs.length=0->zO3 (b.1,rs,ps)=some (zQG (b.1,rs,ps)):=fun h0=>z0t hv (QK h0)
   cases hbs:zO3 (b.1,rs,ps) with
   | none =>
    have h0:rs.length≠0:=fun h0=>by rw[hno h0] at hbs;cases hbs
    rw[hbs] at hb
    have he:e=2:=congrArg Prod.snd hb
    subst he
    rw[Qp (by rfl)] at hc
    have:=of_decide_eq_false hc
    simp only[len] at this
    omega
   | some y =>
    rw[hbs] at hb
    have he:e=0:=congrArg Prod.snd hb
    have hx:x=y:=congrArg Prod.fst hb
    subst he hx
    refine .ret ⟨hv,hrl,hbs,?_⟩
    show x.length≤20
    by_cases h0:rs.length=0
    ·rw[hno h0] at hbs
     have:=zLc (b.1,rs,ps)
     cases hbs
     rw[this];show b.1.length≤20;omega
    ·rw[Qo (by decide),QJ (show(0:Int)<len rs by simp only[len];omega),Wg] at hc
     have:=of_decide_eq_false hc
     simp only[len] at this
     omega
 ·obtain⟨x,rs,ps⟩:=t
  obtain⟨hv,hrl,hbs,hxl⟩:=ht
  dsimp only at hv hrl hbs hxl ⊢
  rw[zZC,zob]
  obtain⟨r5,e5,h5a,h5b,h5⟩:=Ok.N hk (n:=4) (by omega) (by omega)
  have e5':xT (s.1,k) 4=some r5:=e5
  rw[e5',zob]
  obtain⟨o,ho⟩:=zLE (l:=ords) (j:=r5.1) h5a (by show r5.1<4;exact h5b (by omega))
  rw[ho,zob,zZ5 (zNm hv) (by show rs.length≤12;omega) o,zob,zob]
  have hcs:z7p (b.1,rs,ps) o=(zZA (b.1,rs,ps) x o,0):=by
   unfold z7p
   rw[Qp hv,hbs]
   show(if badO o=true then(z8f,4) else(zZA (b.1,rs,ps) x o,0))=_
   rw[Qo (by rw[z9V ho];decide)]
  rw[hcs]
  dsimp only
  rw[Qp (by rfl),show(zZA (b.1,rs,ps) x o).2.1=x from rfl,Qp (by simp),show(zZA (b.1,rs,ps) x o).2.2.2.1=((x.length:Nat):Int) from rfl,zob]
  exact .ret ⟨by simp[len],(b.1,rs,ps),x,o,rfl,hxl⟩
theorem zZN (hw:zK4=some true)(y0 y1:List Int): zL3 y0 y1=some true:=by
 unfold zL3
 rw[z8w,zob]
 obtain⟨⟨c,ok,k⟩,e1,hok,b,l,o,hc,hl⟩:=Ok.compiled (z7f y0)
 dsimp only at hok hc
 subst hok hc
 rw[e1,zob]
 dsimp only
 rw[Qo (by decide)]
 have hG:=(zQx (b:=zVg b (z82 b l o)) (l:=l) (by omega) o).2
 have hgr:(zZA b l o).2.2.2=((l.length:Int),z8V (zVg b (z82 b l o)) l o):=rfl
 generalize hGG:z8V (zVg b (z82 b l o)) l o=G at hG hgr
 have h0:wY l.length ([]:List zT):=⟨hG.hN,by simp,List.Pairwise.nil⟩
 have hnew:zMg (((l.length:Nat):Int),([]:List zT))=some ((((l.length:Int),[]),wT l.length []),0):=by
  have hgl:(wT l.length []).length=l.length:=zD1 _ _
  unfold zMg zEl zGu
  rw[h0.v1,zob,Qo (by decide),zLX h0,zob]
  dsimp only
  rw[zT4 (by omega),zLK (by simp)]
  rfl
 rw[hgr]
 dsimp only
 rw[hnew,zob]
 dsimp only
 rw[Qo (by decide),zLK hG.len',zob]
 obtain⟨r,e2,rfl⟩:=z5u hG y1
 rw[e2]
 show(zAx (zZA b l o) 1 true).bind _=_
 rw[z1l hG hgr,zob]
 dsimp only
 have hgl:(wT l.length G).length=l.length:=zD1 _ _
 have hwl:=zUK (wT l.length G) 1
 rw[Qp (by rfl),z0J _ _ (by omega),zob,zNI _ (by omega),zob]
 rw[z85 _ _ (by have:=zZr (zZA b l o).2.1 (zY9 (wT l.length G) 1);show(zSJ (zZA b l o).2.1 (zY9 (wT l.length G) 1)).length<_;omega),zob]
 rw[Qp (QJ (by rfl)),hw]
 rfl
end
section
def Tw{α:Type}(m:Option α): Type:={ r:Option α // Le r m }
def td{α:Type}(m:Option α): Tw m:=⟨m,Le.refl m⟩
def tb{α β:Type}{a:Option α}{f:α->Option β}(h:Tw a)(k:∀ x,Tw (f x)): Tw (a.bind f):=⟨h.1.bind fun x=>(k x).1,Le.bind h.2 fun x=>(k x).2⟩
def ti{α:Type}{c:Prop}[Decidable c]{a b:Option α}(h:Tw a)(k:Tw b): Tw (if c then a else b):=⟨if c then h.1 else k.1,Le.ite h.2 k.2⟩
def ts{σ α:Type}{a:Option (σ⊕α)}{f:σ->Option α}(h:Tw a)(k:∀ x,Tw (f x)): Tw (vK a f):=⟨Go.GD.vK h.1 fun x=>(k x).1,Le.seqE h.2 fun x=>(k x).2⟩
def tl{σ ρ:Type}{C:σ->Option (σ⊕ρ)}(n:Nat)(h:∀ s,Tw (C s))(s:σ): Tw (zO C s):=⟨Go.GD.lp n (fun s=>(h s).1) s,Le.lp (fun s=>(h s).2) n s⟩
theorem Tw.el{α:Type}{m:Option α}(w:Tw m){r:α}(h:w.1=some r): m=some r:=w.2.el r h
end
section
def zB5 (_:Nat)(l:List qQ): Option (List qQ):=if l.length<4294967296 then some (zW4 lt4 l) else none
def zBv (_:Nat)(l:List zT): Option (List zT):=if l.length<4294967296 then some (zW4 uJ l) else none
def zFk (_:Nat)(l:List Int): Option (List Int):=if l.length<4294967296 then some (zW4 yC l) else none
theorem zG1 (n:Nat)(l:List qQ): Le (zB5 n l) (zAM l):=⟨fun r h=>by
 unfold zB5 at h
 split at h
 ·rename_i hl;rw[zWD hl,zNG ord4];exact h
 ·cases h⟩
theorem zI5 (n:Nat)(l:List zT): Le (zBv n l) (zAW l):=⟨fun r h=>by
 unfold zBv at h
 split at h
 ·rename_i hl;rw[zZk hl,zNG z3p];exact h
 ·cases h⟩
theorem zKj (n:Nat)(l:List Int): Le (zFk n l) (zBN l):=⟨fun r h=>by
 unfold zFk at h
 split at h
 ·rename_i hl;unfold zBN;rw[zXa hl];exact h
 ·cases h⟩
def zB6 (_:Nat)(l:List zI): Option (List zI):=if l.length<4294967296 then some (zW4 vQ l) else none
theorem zGl (n:Nat)(l:List zI): Le (zB6 n l) (zAD l):=⟨fun r h=>by
 unfold zB6 at h
 split at h
 ·rename_i hl;rw[z5H hl,zNG z3g];exact h
 ·cases h⟩
end
section
def zCE (_:Nat)(l:List zT): Option (List zT):=if l.length<4294967296 then some (zW4 uJ l) else none
theorem zI8 (n:Nat)(l:List zT): Le (zCE n l) (zA9 l):=⟨fun r h=>by
 unfold zCE at h
 split at h
 ·rename_i hl;rw[zXh hl,zNG z3p];exact h
 ·cases h⟩
end
end Go.GD
