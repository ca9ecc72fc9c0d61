/- A part. Conditions: none. -/
import Derived.Test.YtgjdojihimkgcaaGreatDoorPlS1
namespace Go.GD
set_option autoImplicit false
set_option linter.unusedVariables false
section
section
variable {N:Nat}{L:List qG}
theorem pred_eq (h:wY N L)(i:Int): (L.filter λp=>p.2==i).map (·.1)=qJ N L i:=by
 apply yA.ext xP ?_ ((zNF N).filter _)
 ·intro x
  rw[Qn,Qk,xW,z4v]
  constructor
  ·rintro ⟨p,hp,rfl⟩
   obtain⟨h1,h2⟩:=Qk.1 hp
   have h3:p.2=i:=by simpa using h2
   obtain⟨a,b,h4,h5,h6⟩:=zPJ (h.inr p h1)
   subst h6
   exact⟨⟨by show(0:Int)≤(a:Int);omega,by show(a:Int)<(N:Int);omega⟩,by rw[←h3];exact h1⟩
  ·rintro ⟨_,h1⟩
   exact⟨_,Qk.2 ⟨h1,by simp⟩,rfl⟩
 ·have h1:=h.asc.filter λp:qG=>p.2==i
  rw[yA,Q8]
  refine List.Pairwise.imp_of_mem ?_ h1
  intro p q hp hq hlt
  have h2:p.2=i:=by simpa using (Qk.1 hp).2
  have h3:q.2=i:=by simpa using (Qk.1 hq).2
  simp only[tY,z5U,h2,h3,xP.irrefl,Bool.and_false,Bool.or_false] at hlt
  exact hlt
def wM (N:Nat)(L:List qG)(f:Nat->Int)(j:Nat): Nat:=((qJ N L (j:Int)).filter λb=>!(f b.toNat==2)).length
theorem cnt_le (f:Nat->Int)(j:Nat): wM N L f j≤N:=QD (Qz _ _) (zMa _)
theorem z83{f:Nat->Int}{j:Nat}: wM N L f j=0↔∀ b,b<N->wA L b j->f b=2:=by
 unfold wM
 rw[List.length_eq_zero_iff,UV]
 constructor
 ·intro h b hb he
  have:=h (b:Int) (Qk.2 ⟨xW.2 ⟨by omega,by omega⟩,he⟩)
  simpa using this
 ·intro h x hx
  obtain⟨h1,h2⟩:=Qk.1 hx
  obtain⟨h3,h4⟩:=xW.1 h1
  obtain⟨a,rfl⟩:=QH h3
  simp[h a (by omega) h2]
theorem z1p{α:Type}[DecidableEq α]{p q:α->Bool}{x:α}: ∀ {l:List α},l.Nodup->x∈l->p x=true->q x=false->(∀ y∈l,y≠x->p y=q y)->(l.filter p).length=(l.filter q).length+1
 | [],_,hx,_,_,_=>by cases hx
 | y::l,hn,hx,h1,h2,h3=>by
  obtain⟨hy,hl⟩:=U3.1 hn
  by_cases he:y=x
  ·subst he
   have:l.filter p=l.filter q:=U5 λz hz=>h3 z (Qo _ hz) λe=>by subst e;exact hy hz
   simp[h1,h2,this]
  ·have hm:x∈l:=by
    rcases Qw.1 hx with h | h
    ·exact absurd h.symm he
    ·exact h
   have ih:=z1p hl hm h1 h2 λz hz=>h3 z (Qo _ hz)
   have hpq:=h3 y Qq he
   cases hq:q y with
   | true=>simp[hpq,hq,ih]
   | false=>simp[hpq,hq,ih]
theorem cnt_out{f:Nat->Int}{a:Nat}(ha:a<N)(h3:f a=3)(j:Nat):
  wM N L f j=wM N L (λb=>if b=a then 2 else f b) j+(if ed L (a:Int) (j:Int)=true then 1 else 0):=by
 unfold wM
 by_cases he:ed L (a:Int) (j:Int)=true
 ·rw[Ql he]
  refine z1p (x:=(a:Int)) ?_ (Qk.2 ⟨xW.2 ⟨by omega,by omega⟩,he⟩) (by simp[h3]) (by simp) ?_
  ·exact((zNF N).filter _).imp λ{x y} hh e=>by subst e;simp at hh
  ·intro y hy hne
   obtain⟨h1,h2⟩:=Qk.1 hy
   obtain⟨h4,h5⟩:=xW.1 h1
   obtain⟨b,rfl⟩:=QH h4
   have h6:b≠a:=λe=>hne (by rw[e])
   simp[h6]
 ·rw[Qi he,QM]
  congr 1
  apply U5
  intro x hx
  obtain⟨h1,h2⟩:=Qk.1 hx
  obtain⟨h4,h5⟩:=xW.1 h1
  obtain⟨b,rfl⟩:=QH h4
  have hne:b≠a:=λe=>by subst e;exact he h2
  simp[hne]
theorem zZL{k b:Nat}: z4j N L k b=2↔qZ N L k b=2:=by
 unfold z4j
 by_cases h:tT N L k b
 ·have:=now3 N L h
  simp[h,this]
 ·rw[Qi h]
theorem zZq{f f':Nat->Int}(h:∀ b,b<N->(f b=2↔f' b=2))(j:Nat): wM N L f j=wM N L f' j:=by
 unfold wM
 congr 1
 apply U5
 intro x hx
 obtain⟨h4,h5⟩:=xW.1 (Qk.1 hx).1
 obtain⟨b,rfl⟩:=QH h4
 have h1:=h b (by omega)
 rw[Qj,QZ]
 simp[h1]
theorem z05 (h:wY N L){k j:Nat}(hj:j<N): (qZ N L k j=3∧wM N L (qZ N L k) j=0)↔tT N L k j:=by
 rw[z83,now_iff N L hj h.hR]
structure Nxt (N:Nat)(L:List qG)(f:Nat->Int)(nx:List Int): Prop where
 nd:nx.Nodup
 rg:∀ x∈nx,0≤x∧x<N
 mem:∀ j:Nat,(j:Int)∈nx↔j<N∧f j=3∧wM N L f j=0
theorem nd_len{nx:List Int}(h1:nx.Nodup)(h2:∀ x∈nx,0≤x∧x<(N:Int)): nx.length≤N:=by
 have:=zMu (m:=wC N) h1 λx hx=>xW.2 (h2 x hx)
 rwa [tN] at this
theorem succ_at{i:Int}{q:Nat}{x:Int}(h:(zQM N L i)[q]?=some x): ∃ a:Nat,x=(a:Int)∧a<N∧ed L i (a:Int)=true:=by
 obtain⟨h1,h2⟩:=Qk.1 (wG h)
 obtain⟨h3,h4⟩:=xW.1 h1
 obtain⟨a,rfl⟩:=QH h3
 exact⟨a,rfl,by omega,h2⟩
theorem z9x (i:Int): (zQM N L i).Nodup:=((zNF N).filter _).imp λ{x y} hh e=>by subst e;simp at hh
theorem z7u{i:Int}{j:Nat}(hj:j<N): (j:Int)∈zQM N L i↔ed L i (j:Int)=true:=by
 rw[Qk,xW]
 exact⟨λh=>h.2,λh=>⟨⟨by omega,by omega⟩,h⟩⟩
theorem take_not{α:Type}{l:List α}(hn:l.Nodup){i:Nat}{x:α}(hx:l[i]?=some x): x∉l.take i:=by
 intro hm
 obtain⟨j,hj⟩:=List.getElem?_of_mem hm
 rw[QX] at hj
 split at hj
 ·rename_i hji
  obtain⟨h1,h2⟩:=Qe.1 hj
  obtain⟨h3,h4⟩:=Qe.1 hx
  have:=(List.getElem_inj hn).1 (h2.trans h4.symm)
  omega
 ·cases hj
theorem grp_L7 (h:wY N L){f:Nat->Int}(l2:List Int){a:Nat}(ha:a<N)(h3:f a=3)(hca:wM N L f a≠0)(q:Int)(s6:List Int×List Int×List Int×Int×List Int){nx:List Int}(hnx:Nxt N L f nx)(hq:0≤q∧q<1000):
  ∃ nx',Nxt N L (λb=>if b=a then 2 else f b) nx' ∧
   zN (zFQ (zQM N L (a:Int)) (zX N f,l2,nx,q,zX 40 λj=>(wM N L f j:Int)) (a:Int) s6) (nx,0,zX 40 λj=>(wM N L f j:Int)) =
    some (.inl (zX N (λb=>if b=a then 2 else f b),List.set l2 a s6.2.2.2.1,nx',q+1,zX 40 λj=>(wM N L (λb=>if b=a then 2 else f b) j:Int))):=by
 have hN:=h.hN
 let f':Nat->Int:=λb=>if b=a then 2 else f b
 let o (t j:Nat):Nat:=wM N L f' j+if ed L (a:Int) (j:Int)=true∧(j:Int)∉(zQM N L (a:Int)).take t then 1 else 0
 have ho0:∀ j,o 0 j=wM N L f j:=λj=>by
  show wM N L f' j+_=_
  rw[cnt_out ha h3 j]
  simp[f']
 have hsl:=z7m (N:=N) (L:=L) (a:Int)
 have hl:=uP (B:=zFQ (zQM N L (a:Int)) (zX N f,l2,nx,q,zX 40 λj=>(wM N L f j:Int)) (a:Int) s6) (λt (s:List Int×List Int)=>(s.1,(t:Int),s.2)) (zQM N L (a:Int))
  (λt s=>s.2=zX 40 (λj=>(o t j:Int))∧s.1.Nodup∧(∀ x∈s.1,0≤x∧x<(N:Int))∧∀ j:Nat,(j:Int)∈s.1↔j<N∧f' j=3∧o t j=0)
  (λr=>∃ nx',Nxt N L f' nx'∧r=.inl (zX N f',List.set l2 a s6.2.2.2.1,nx',q+1,zX 40 λj=>(wM N L f' j:Int))) ?_ ?_ (nx,zX 40 λj=>(wM N L f j:Int)) ?_
 ·obtain⟨r,h1,nx',h2,rfl⟩:=hl
  exact⟨nx',h2,h1⟩
 ·rintro t x ⟨n1,op⟩ hx ⟨hop,hnd,hrg,hmem⟩
  simp only at hop hnd hrg hmem
  subst hop
  obtain⟨j0,rfl,hj0,he⟩:=succ_at hx
  have hnot:=take_not (z9x (N:=N) (L:=L) (a:Int)) hx
  have hn1:=nd_len hnd hrg
  have ho1:o t j0=wM N L f' j0+1:=by
   show wM N L f' j0+_=_
   rw[Ql ⟨he,hnot⟩]
  have ho2:o (t+1) j0=wM N L f' j0:=by
   show wM N L f' j0+_=_
   rw[Qi (λhh=>hh.2 (by rw[uL hx];simp)),QM]
  have ho3:∀ j,j≠j0->o (t+1) j=o t j:=λj hj=>by
   show wM N L f' j+_=wM N L f' j+_
   congr 1
   have:(j:Int)∉(zQM N L (a:Int)).take (t+1)↔(j:Int)∉(zQM N L (a:Int)).take t:=by
    rw[uL hx,Qb,Qa]
    have:¬ (j:Int)=(j0:Int):=by omega
    simp[this]
   simp only[this]
  have hc0:=cnt_le (N:=N) (L:=L) f' j0
  have hnew:tD 40 (zX 40 λj=>(o t j:Int)) (j0:Int) (zH ((yS (zX 40 λj=>(o t j:Int)) (j0:Int))-1))=zX 40 λj=>(o (t+1) j:Int):=by
   rw[zTS _ _ (by omega),z0Q _ _ (by omega),vJ (by omega) (by omega)]
   apply zBk
   intro j _
   by_cases hj:j=j0
   ·subst hj;rw[Ql rfl,ho1,ho2];omega
   ·rw[Qi hj,ho3 j hj]
  have hset:List.set (zX N f) (Int.toNat (a:Int)) 2=zX N f':=by rw[Qj,zVg]
  unfold zFQ
  simp only[wL hx,Qf,qQ hx,zob,zPL (show(40:Int)=((40:Nat):Int) from rfl) (show j0<40 by omega),hnew,zTS 40 (λj=>(o (t+1) j:Int)) (show j0<40 by omega),hset,zIu f' hj0,qV hx (show(zQM N L (a:Int)).length<4294967296 by omega),ho2]
  cases hz:(((wM N L f' j0:Nat):Int)==0)&&(f' j0==3) with
  | true =>
   rw[QA,Q5,Q5] at hz
   have hnin:(j0:Int)∉n1:=λhm=>by have:=((hmem j0).1 hm).2.2;omega
   refine .inl ⟨(n1++[(j0:Int)],zX 40 λj=>(o (t+1) j:Int)),?_,rfl,?_,?_,?_⟩
   ·simp only[hz.1,hz.2,Ue,Qf,zob]
    rw[wD (by simp;omega)]
    rfl
   ·rw[QT]
    exact⟨hnd,by simp,λx hx y hy e=>by rw[Qa] at hy;subst hy;subst e;exact hnin hx⟩
   ·intro x hx
    rcases Qb.1 hx with hx | hx
    ·exact hrg x hx
    ·rw[Qa] at hx;subst hx;omega
   ·intro j
    rw[Qb,Qa]
    by_cases hj:j=j0
    ·subst hj
     exact⟨λ_=>⟨hj0,hz.2,by rw[ho2];omega⟩,λ_=>.inr rfl⟩
    ·rw[ho3 j hj,hmem j]
     exact⟨λhh=>hh.elim id λe=>absurd (by omega) hj,.inl⟩
  | false =>
   refine .inl ⟨(n1,zX 40 λj=>(o (t+1) j:Int)),?_,rfl,hnd,hrg,?_⟩
   ·cases h1:(((wM N L f' j0:Nat):Int)==0) with
    | false=>simp only[zbf,Qc,zob]
    | true =>
     rw[h1,Uw] at hz
     simp only[Qf,zob,hz,zbf,Qc]
   ·intro j
    by_cases hj:j=j0
    ·subst hj
     rw[hmem j,ho1,ho2]
     constructor
     ·rintro ⟨_,_,h0⟩;omega
     ·rintro ⟨_,h1,h0⟩
      rw[h0,h1] at hz
      simp at hz
    ·rw[ho3 j hj,hmem j]
 ·rintro ⟨n1,op⟩ ⟨hop,hnd,hrg,hmem⟩
  simp only at hop hnd hrg hmem
  subst hop
  have hoe:∀ j,j<40->o (zQM N L (a:Int)).length j=wM N L f' j:=λj _=>by
   show wM N L f' j+_=_
   rw[QC,Qi]
   ·rfl
   ·rintro ⟨h1,h2⟩
    obtain⟨x,y,_,h4,_,h6⟩:=h.inN _ _ h1
    exact h2 ((z7u (by omega)).2 h1)
  refine⟨_,?_,n1,⟨hnd,hrg,λj=>?_⟩,rfl⟩
  ·unfold zFQ
   have hset:List.set (zX N f) a 2=zX N f':=zVg f 2
   have hm:(zX 40 λj=>(o (zQM N L (a:Int)).length j:Int))=zX 40 λj=>(wM N L f' j:Int):=zBk λj hj=>by rw[hoe j hj]
   simp only[uH,zbf,Qc,Qj,hset,hm]
   rw[vJ (by omega) (by omega)]
  ·rw[hmem j]
   constructor
   ·rintro ⟨h1,h2,h4⟩;exact⟨h1,h2,by rw[hoe j (by omega)] at h4;exact h4⟩
   ·rintro ⟨h1,h2,h4⟩;exact⟨h1,h2,by rw[hoe j (by omega)];exact h4⟩
 ·refine⟨?_,hnx.nd,hnx.rg,λj=>?_⟩
  ·show(zX 40 λj=>(wM N L f j:Int))=_
   exact zBk λj _=>by rw[ho0]
  ·show(j:Int)∈nx↔_
   rw[hnx.mem j,ho0]
   show _↔j<N∧(if j=a then 2 else f j)=3∧wM N L f j=0
   by_cases hj:j=a
   ·subst hj
    rw[Ql rfl]
    exact⟨λhh=>absurd hh.2.2 hca,λhh=>absurd hh.2.2 hca⟩
   ·rw[Qi hj]
structure Mid (N:Nat)(L:List qG)(k:Nat)(f g:Nat->Int)(nx:List Int): Prop where
 v:∀ j,j<N->f j=1∨f j=2∨f j=3
 one:∀ j,j<N->(f j=1↔qZ N L (k+1) j=1)
 two:∀ j,j<N->f j=2->qZ N L (k+1) j=2
 old:∀ j,j<N->qZ N L k j=2->f j=2
 rk:∀ j,j<N->g j=if f j=qZ N L k j then xL N L k j else((k+1:Nat):Int)
 nx:Nxt N L f nx
theorem grp_L6 (h:wY N L){k:Nat}(hk:k≤100){i:Nat}(hi:tT N L k i)(s6:List Int×List Int×List Int×Int×List Int)(hs6:s6.2.2.2.1=((k+1:Nat):Int))(D:Nat->Prop)
  {f g:Nat->Int} {nx:List Int} (hM:Mid N L k f g nx) (hD:∀ j,D j->f j≠3) (q:Nat) (hq:q<1000) (z1 z2 z3 z5:List Int) :
  ∃ f' g' nx',Mid N L k f' g' nx'∧(∀ j,j<N->D j∨wA L i j->f' j≠3) ∧
   zN (zCX (zQM N L (i:Int)) ((N:Int),L) s6 (z1,z2,z3,(q:Int),z5)) (zX N f,zX N g,nx,0,zX 40 λj=>(wM N L f j:Int)) =
    some (.inl (zX N f',zX N g',nx',((q+1:Nat):Int),zX 40 λj=>(wM N L f' j:Int))):=by
 have hN:=h.hN
 have hsl:=z7m (N:=N) (L:=L) (i:Int)
 have hl:=uP (B:=zCX (zQM N L (i:Int)) ((N:Int),L) s6 (z1,z2,z3,(q:Int),z5)) (λt (s:List Int×List Int×List Int×List Int)=>(s.1,s.2.1,s.2.2.1,(t:Int),s.2.2.2)) (zQM N L (i:Int))
  (λt s=>∃ f' g' nx',Mid N L k f' g' nx'∧(∀ j,j<N->D j∨(j:Int)∈(zQM N L (i:Int)).take t->f' j≠3)∧s=(zX N f',zX N g',nx',zX 40 λj=>(wM N L f' j:Int)))
  (λr=>∃ f' g' nx',Mid N L k f' g' nx'∧(∀ j,j<N->D j∨wA L i j->f' j≠3)∧r=.inl (zX N f',zX N g',nx',((q+1:Nat):Int),zX 40 λj=>(wM N L f' j:Int))) ?_ ?_ (zX N f,zX N g,nx,zX 40 λj=>(wM N L f j:Int)) ⟨f,g,nx,hM,λj _ hj=>by simp at hj;exact hD j hj,rfl⟩
 ·obtain⟨r,h1,f',g',nx',h2,h3,rfl⟩:=hl
  exact⟨f',g',nx',h2,h3,h1⟩
 ·rintro t x _ hx ⟨f',g',nx',hM',hD',rfl⟩
  obtain⟨a,rfl,ha,he⟩:=succ_at hx
  by_cases h3:f' a=3
  ·have hb:(f' a != 3)=false:=by simp[h3]
   have hfi:f' i=1:=(hM'.one i (z4C (D:=(· < N)) hi.1)).2 ((z9g N L).2 hi.1)
   have hca:wM N L f' a≠0:=λh0=>by have:=z83.1 h0 i (z4C (D:=(· < N)) hi.1) he;omega
   have ht:t<1000:=by have:=vM hx;omega
   obtain⟨n2,hn2,h7⟩:=grp_L7 h (zX N g') ha h3 hca (t:Int) s6 hM'.nx ⟨by omega,by omega⟩
   have hla:qZ N L k a≠2:=λe=>by have:=hM'.old a ha e;omega
   refine .inl ⟨(zX N (λb=>if b=a then 2 else f' b),zX N (λb=>if b=a then((k+1:Nat):Int) else g' b),n2,zX 40 λj=>(wM N L (λb=>if b=a then 2 else f' b) j:Int)),?_,_,_,n2,⟨?_,?_,?_,?_,?_,hn2⟩,?_,rfl⟩
   ·unfold zCX
    simp only[wL hx,Qf,qQ hx,zob,zIu _ ha,hb,zbf,Qc,zPW h]
    rw[h7,hs6,zVg]
    rfl
   ·intro j hj
    by_cases e:j=a
    ·simp[e]
    ·simpa [e] using hM'.v j hj
   ·intro j hj
    by_cases e:j=a
    ·subst e
     have h1:=hM'.one j hj
     rw[h3] at h1
     simp only[Qf]
     constructor
     ·intro h2;cases h2
     ·intro h2;have:=h1.2 h2;omega
    ·simpa [e] using hM'.one j hj
   ·intro j hj
    by_cases e:j=a
    ·subst e
     intro _
     exact(zY7 N L).2 ⟨i,hi.1,he⟩
    ·simpa [e] using hM'.two j hj
   ·intro j hj hj2
    by_cases e:j=a
    ·subst e;exact absurd hj2 hla
    ·simpa [e] using hM'.old j hj hj2
   ·intro j hj
    by_cases e:j=a
    ·subst e
     rw[Ql rfl,Ql rfl,Qi (λe2=>hla e2.symm)]
    ·simpa [e] using hM'.rk j hj
   ·intro j hj hjd
    by_cases e:j=a
    ·simp[e]
    ·simp only[e,Qc]
     refine hD' j hj (hjd.imp id λhm=>?_)
     rw[uL hx,Qb,Qa] at hm
     exact hm.resolve_right (by omega)
  ·have hb:(f' a != 3)=true:=by simp[h3]
   refine .inl ⟨(zX N f',zX N g',nx',zX 40 λj=>(wM N L f' j:Int)),?_,f',g',nx',hM',?_,rfl⟩
   ·unfold zCX
    simp only[wL hx,Qf,qQ hx,zob,zIu _ ha,hb,qV hx (show(zQM N L (i:Int)).length<4294967296 by omega)]
   ·intro j hj hjd
    by_cases e:j=a
    ·subst e;exact h3
    ·refine hD' j hj (hjd.imp id λhm=>?_)
     rw[uL hx,Qb,Qa] at hm
     exact hm.resolve_right (by omega)
 ·rintro _ ⟨f',g',nx',hM',hD',rfl⟩
  refine⟨_,?_,f',g',nx',hM',λj hj hjd=>hD' j hj (hjd.imp id λhe=>?_),rfl⟩
  ·unfold zCX
   simp only[uH,zbf,Qc,yJ q (by omega)]
  ·rw[QC]
   exact(z7u hj).2 he
structure zSd (N:Nat)(L:List qG)(k:Nat)(Q:List Int): Prop where
 nd:Q.Nodup
 rg:∀ x∈Q,0≤x∧x<N
 mem:∀ j:Nat,(j:Int)∈Q↔tT N L k j
theorem mid_start (h:wY N L)(k:Nat): Mid N L k (z4j N L k) (rnk' N L k) []:=by
 have h1:∀ j,z4j N L k j=1↔qZ N L (k+1) j=1:=λj=>by
  rw[z9g N L]
  unfold z4j
  by_cases hn:tT N L k j
  ·simp[hn,hn.1]
  ·rw[Qi hn,z9g N L]
   exact⟨λhg=>zRM hg,λhg=>Classical.byContradiction λhc=>hn ⟨hg,hc⟩⟩
 refine⟨λj _=>?_,λj _=>h1 j,λj _ h2=>z4Z N L (zZL.1 h2),λj _ h2=>zZL.2 h2,λj _=>?_,⟨List.nodup_nil,(λx hx=>by cases hx),λj=>?_⟩⟩
 ·unfold z4j
  by_cases hn:tT N L k j
  ·simp[hn]
  ·rw[Qi hn];exact zPV N L k j
 ·unfold z4j rnk'
  by_cases hn:tT N L k j
  ·have:=now3 N L hn
   simp[hn,this]
  ·simp[hn]
 ·constructor
  ·intro hm;cases hm
  ·rintro ⟨hj,h3,h0⟩
   exfalso
   have hc:wM N L (z4j N L k) j=wM N L (qZ N L k) j:=zZq (λb _=>zZL) j
   rw[hc] at h0
   by_cases hn:tT N L k j
   ·unfold z4j at h3;rw[Ql hn] at h3;cases h3
   ·unfold z4j at h3;rw[Qi hn] at h3
    exact hn ((z05 h hj).1 ⟨h3,h0⟩)
theorem grp_L5 (h:wY N L){k:Nat}(hk:k≤100){Q:List Int}(hQ:zSd N L k Q)(z1 z2 z5:List Int):
  ∃ Q',zSd N L (k+1) Q'∧zN (zDD (z1,z2,Q,((k+1:Nat):Int),z5) ((N:Int),L)) (zX N (z4j N L k),zX N (rnk' N L k),([]:List Int),0,zX 40 λj=>(wM N L (qZ N L k) j:Int)) =
   some (.inl (lb N L (k+1),rn N L (k+1),Q',((k+2:Nat):Int),zX 40 λj=>(wM N L (qZ N L (k+1)) j:Int))):=by
 have hN:=h.hN
 have hql:=nd_len hQ.nd hQ.rg
 have hl:=uP (B:=zDD (z1,z2,Q,((k+1:Nat):Int),z5) ((N:Int),L)) (λt (s:List Int×List Int×List Int×List Int)=>(s.1,s.2.1,s.2.2.1,(t:Int),s.2.2.2)) Q
  (λt s=>∃ f' g' nx',Mid N L k f' g' nx'∧(∀ j,j<N->(∃ i:Nat,(i:Int)∈Q.take t∧wA L i j)->f' j≠3)∧s=(zX N f',zX N g',nx',zX 40 λj=>(wM N L f' j:Int)))
  (λr=>∃ Q',zSd N L (k+1) Q'∧r=.inl (lb N L (k+1),rn N L (k+1),Q',((k+2:Nat):Int),zX 40 λj=>(wM N L (qZ N L (k+1)) j:Int))) ?_ ?_ (zX N (z4j N L k),zX N (rnk' N L k),[],zX 40 λj=>(wM N L (qZ N L k) j:Int)) ?_
 ·obtain⟨r,h1,Q',h2,rfl⟩:=hl
  exact⟨Q',h2,h1⟩
 ·rintro t x _ hx ⟨f',g',nx',hM,hD,rfl⟩
  have ht:=vM hx
  obtain⟨h0,h1⟩:=hQ.rg x (wG hx)
  obtain⟨i,rfl⟩:=QH h0
  have hi:=(hQ.mem i).1 (wG hx)
  obtain⟨f2,g2,n2,hM2,hD2,h6⟩:=grp_L6 h hk hi (z1,z2,Q,((k+1:Nat):Int),z5) rfl (λj=>j<N∧∃ i:Nat,(i:Int)∈Q.take t∧wA L i j) hM (λj hj=>hD j hj.1 hj.2) t (by omega) (zX N f') (zX N g') nx' (zX 40 λj=>(wM N L f' j:Int))
  refine .inl ⟨(zX N f2,zX N g2,n2,zX 40 λj=>(wM N L f2 j:Int)),?_,f2,g2,n2,hM2,?_,rfl⟩
  ·unfold zDD
   simp only[wL hx,Qf,qQ hx,zob,zPW h]
   rw[h6]
  ·rintro j hj ⟨i',hi',he⟩
   rw[uL hx,Qb,Qa] at hi'
   rcases hi' with hi' | hi'
   ·exact hD2 j hj (.inl ⟨hj,i',hi',he⟩)
   ·have:i'=i:=by omega
    subst this
    exact hD2 j hj (.inr he)
 ·rintro _ ⟨f',g',nx',hM,hD,rfl⟩
  rw[QC] at hD
  have hf:∀ j,j<N->f' j=qZ N L (k+1) j:=λj hj=>by
   rcases hM.v j hj with h1 | h1 | h1
   ·rw[h1,(hM.one j hj).1 h1]
   ·rw[h1,hM.two j hj h1]
   ·rcases zPV N L (k+1) j with h2 | h2 | h2
    ·have:=(hM.one j hj).2 h2;omega
    ·exfalso
     rw[lab_step] at h2
     by_cases hn:tT N L k j
     ·rw[Ql hn] at h2;cases h2
     ·rw[Qi hn] at h2
      by_cases hc:qZ N L k j=3∧att (wA L) (tT N L k) j
      ·obtain⟨m,h4,h5⟩:=hc.2
       exact hD j hj ⟨m,(hQ.mem m).2 h4,h5⟩ h1
      ·rw[Qi hc] at h2
       have:=hM.old j hj h2;omega
    ·rw[h1,h2]
  have hg:∀ j,j<N->g' j=xL N L (k+1) j:=λj hj=>by
   rw[hM.rk j hj,hf j hj,xL]
  have hc:∀ j,wM N L f' j=wM N L (qZ N L (k+1)) j:=zZq λb hb=>by rw[hf b hb]
  refine⟨_,?_,nx',⟨hM.nx.nd,hM.nx.rg,λj=>?_⟩,rfl⟩
  ·unfold zDD
   have e1:zX N f'=lb N L (k+1):=zBk hf
   have e2:zX N g'=rn N L (k+1):=zBk hg
   have e3:(zX 40 λj=>(wM N L f' j:Int))=zX 40 λj=>(wM N L (qZ N L (k+1)) j:Int):=zBk λj _=>by rw[hc]
   simp only[uH,zbf,Qc,e1,e2,e3,yJ (k+1) (show k+1+1<9223372036854775808 by omega)]
  ·rw[hM.nx.mem j,hc j]
   constructor
   ·rintro ⟨h1,h2,h3⟩;rw[hf j h1] at h2;exact(z05 h h1).1 ⟨h2,h3⟩
   ·intro hn
    have h1:j<N:=z4C (D:=(· < N)) hn.1
    obtain⟨h2,h3⟩:=(z05 h h1).2 hn
    exact⟨h1,by rw[hf j h1];exact h2,h3⟩
 ·refine⟨z4j N L k,rnk' N L k,[],mid_start h k,λj _ hj=>by obtain⟨i,hi,_⟩:=hj;simp at hi,?_⟩
  have:(zX 40 λj=>(wM N L (qZ N L k) j:Int))=zX 40 λj=>(wM N L (z4j N L k) j:Int):=zBk λj _=>by rw[zZq λb _=>zZL]
  rw[this]
open Classical in
theorem grp_L4 (h:wY N L){k:Nat}{Q:List Int}(hQ:zSd N L k Q)(z1 z2 z5:List Int):
  zN (zFE (z1,z2,Q,((k+1:Nat):Int),z5)) (lb N L k,rn N L k,0)=some (zX N (z4j N L k),zX N (rnk' N L k)):=by
 have hN:=h.hN
 have hql:=nd_len hQ.nd hQ.rg
 have hl:=uP (B:=zFE (z1,z2,Q,((k+1:Nat):Int),z5)) (λt (s:List Int×List Int)=>(s.1,s.2,(t:Int))) Q
  (λt s=>s=(zX N (λj=>if(j:Int)∈Q.take t then 1 else qZ N L k j),zX N (λj=>if(j:Int)∈Q.take t then((k+1:Nat):Int) else xL N L k j)))
  (λr=>r=(zX N (z4j N L k),zX N (rnk' N L k))) ?_ ?_ (lb N L k,rn N L k) (by simp)
 ·obtain⟨r,h1,rfl⟩:=hl
  exact h1
 ·rintro t x _ hx rfl
  obtain⟨h0,h1⟩:=hQ.rg x (wG hx)
  obtain⟨i,rfl⟩:=QH h0
  refine .inl ⟨_,?_,rfl⟩
  unfold zFE
  simp only[wL hx,Qf,qQ hx,zob,zIu _ (show i<N by omega),Qj,zVg,qV hx (show Q.length<4294967296 by omega)]
  congr 3
  ·apply zBk
   intro j _
   rw[uL hx]
   by_cases e:j=i
   ·subst e;simp
   ·have:¬ (j:Int)=(i:Int):=by omega
    simp[e,this]
  ·congr 1
   apply zBk
   intro j _
   rw[uL hx]
   by_cases e:j=i
   ·subst e;simp
   ·have:¬ (j:Int)=(i:Int):=by omega
    simp[e,this]
 ·rintro _ rfl
  rw[QC]
  refine⟨_,?_,rfl⟩
  unfold zFE
  simp only[uH,zbf,Qc]
  have e1:(zX N λj=>if(j:Int)∈Q then 1 else qZ N L k j)=zX N (z4j N L k):=zBk λj _=>by simp only[hQ.mem j];rfl
  have e2:(zX N λj=>if(j:Int)∈Q then((k+1:Nat):Int) else xL N L k j)=zX N (rnk' N L k):=zBk λj _=>by simp only[hQ.mem j];rfl
  rw[e1,e2]
theorem grp_L1 (h:wY N L): zN (zFI ((N:Int),L)) (0,List.replicate 40 (0:Int))=some (zX 40 λj=>(wM N L (qZ N L 0) j:Int)):=by
 have hN:=h.hN
 have hL:=h.len
 have hl:=uP (B:=zFI ((N:Int),L)) (λt (s:List Int)=>((t:Int),s)) L
  (λt s=>s=zX 40 λj=>(((L.take t).filter λp=>p.2==(j:Int)).length:Int)) (λr=>r=zX 40 λj=>(wM N L (qZ N L 0) j:Int)) ?_ ?_ (List.replicate 40 (0:Int)) (by rw[z7X];simp)
 ·obtain⟨r,h1,rfl⟩:=hl
  exact h1
 ·rintro t p _ hp rfl
  obtain⟨a,b,ha,hb,rfl⟩:=zPJ (h.inr p (wG hp))
  have hle:((L.take t).filter λp=>p.2==(b:Int)).length≤1600:=QD (Qz _ _) (QD (List.length_take_le _ _) (by have:=vM hp;omega))
  refine .inl ⟨_,?_,rfl⟩
  unfold zFI
  simp only[wL hp,Qf,qQ hp,zob,zPL (show(40:Int)=((40:Nat):Int) from rfl) (show b<40 by omega),qV hp h.len',zTS 40 _ (show b<40 by omega),z0Q 40 _ (show b<40 by omega)]
  congr 3
  apply zBk
  intro j _
  rw[uL hp,Uo,Qd]
  by_cases e:j=b
  ·subst e
   rw[Ql rfl,vJ (by omega) (by omega)]
   simp
  ·have:¬ (b:Int)=(j:Int):=by omega
   simp[e,this]
 ·rintro _ rfl
  rw[QC]
  refine⟨_,?_,rfl⟩
  unfold zFI
  have e1:(zX 40 λj=>((L.filter λp=>p.2==(j:Int)).length:Int))=zX 40 λj=>(wM N L (qZ N L 0) j:Int):=zBk λj _=>by
   have h1:(L.filter λp=>p.2==(j:Int)).length=(qJ N L (j:Int)).length:=by rw[←pred_eq h,QJ]
   rw[h1]
   unfold wM
   rw[UH.2]
   intro x hx
   obtain⟨q,hq⟩:=List.getElem?_of_mem hx
   obtain⟨a,rfl,ha,_⟩:=zWr hq
   have:qZ N L 0 a=3:=by
    have:=congrArg (λl:List Int=>l[a]?) (z7K (N:=N) (L:=L))
    simpa [zKh,ha] using this
   simp[this]
  simp only[uH,zbf,Qc,e1]
theorem grp_L2 (h:wY N L): ∃ Q,zSd N L 0 Q∧zN (zFS ((N:Int),L) (zX 40 λj=>(wM N L (qZ N L 0) j:Int))) (([]:List Int),0)=some Q:=by
 have hN:=h.hN
 refine⟨(wC N).filter λj=>wM N L (qZ N L 0) j.toNat==0,⟨((zNF N).filter _).imp λ{x y} hh e=>by subst e;simp at hh,λx hx=>xW.1 (Qk.1 hx).1,λj=>?_⟩,?_⟩
 ·rw[Qk,xW,Qj,Q5]
  have h0:∀ j,j<N->qZ N L 0 j=3:=λj hj=>by
   have:=congrArg (λl:List Int=>l[j]?) (z7K (N:=N) (L:=L))
   simpa [zKh,hj] using this
  constructor
  ·rintro ⟨h1,h2⟩
   exact(z05 h (show j<N by omega)).1 ⟨h0 j (by omega),h2⟩
  ·intro hn
   have hj:j<N:=z4C (D:=(· < N)) hn.1
   exact⟨⟨by omega,by omega⟩,((z05 h hj).2 hn).2⟩
 ·have hl:=zEs (B:=zFS ((N:Int),L) (zX 40 λj=>(wM N L (qZ N L 0) j:Int))) (wC N) (λs j=>if(wM N L (qZ N L 0) j.toNat==0) then s++[j] else s) id (λi s=>s.length≤i) ([]:List Int) (by simp) ?_ ?_
  ·have h2:=zHx (λj:Int=>wM N L (qZ N L 0) j.toNat==0) id (wC N) []
   simp only[id,List.map_id,QI] at h2
   rw[hl.1,h2];rfl
  ·intro i x s hx hI
   obtain⟨rfl,hi⟩:=zS2 hx
   unfold zFS
   have hd:decide ((i:Int)<(N:Int))=true:=Qy (by omega)
   simp only[hd,Qf,zPL (show(40:Int)=((40:Nat):Int) from rfl) (show i<40 by omega),zob,zTS 40 _ (show i<40 by omega),yJ i (by omega),Qj]
   have hz:(((wM N L (qZ N L 0) i:Nat):Int)==0)=(wM N L (qZ N L 0) i==0):=by rw[QZ,Q5,Q5];omega
   rw[hz]
   by_cases hc:(wM N L (qZ N L 0) i==0)=true
   ·rw[Ql hc,Ql hc,wD (by simp;omega)]
    exact⟨rfl,by simp;omega⟩
   ·rw[Qi hc,Qi hc]
    exact⟨rfl,by omega⟩
  ·intro s _
   rw[tN]
   unfold zFS
   simp
theorem zUL (h:wY N L): zEd ((N:Int),L)=some (yW N L,zTn N L):=by
 have hN:=h.hN
 unfold zEd
 simp only
 rw[z8v 3 hN,mkS_ok (by omega)]
 simp only[zob]
 rw[grp_L1 h]
 simp only[zob]
 obtain⟨Q0,hQ0,h2⟩:=grp_L2 h
 rw[h2,←z7K (N:=N) (L:=L)]
 simp only[zob]
 have hstep:∀ k,k≤N->∀ Q,zSd N L k Q->(Q=[]∧zBn ((N:Int),L) (lb N L k,rn N L k,Q,((k+1:Nat):Int),zX 40 λj=>(wM N L (qZ N L k) j:Int))=some (.inr (lb N L k,rn N L k))) ∨
   ∃ Q',zSd N L (k+1) Q'∧zBn ((N:Int),L) (lb N L k,rn N L k,Q,((k+1:Nat):Int),zX 40 λj=>(wM N L (qZ N L k) j:Int))=some (.inl (lb N L (k+1),rn N L (k+1),Q',((k+2:Nat):Int),zX 40 λj=>(wM N L (qZ N L (k+1)) j:Int))):=by
  intro k hk Q hQ
  by_cases he:Q=[]
  ·subst he
   refine .inl ⟨rfl,?_⟩
   unfold zBn
   simp[len]
  ·obtain⟨Q',hQ',h5⟩:=grp_L5 h (k:=k) (by omega) hQ (lb N L k) (rn N L k) (zX 40 λj=>(wM N L (qZ N L k) j:Int))
   refine .inr ⟨Q',hQ',?_⟩
   have hd:decide (0<len Q)=true:=Qy (by have:=QY.2 he;simp only[len];omega)
   unfold zBn
   simp only[hd,Qf]
   rw[grp_L4 h hQ]
   simp only[zob]
   rw[h5]
 have hl:=z8k (B:=zBn ((N:Int),L)) (λ(Q:List Int) k=>(lb N L k,rn N L k,Q,((k+1:Nat):Int),zX 40 λj=>(wM N L (qZ N L k) j:Int))) N (λk Q=>zSd N L k Q) (λr=>r=(yW N L,zTn N L)) ?_ ?_ Q0 hQ0
 ·obtain⟨r,h1,rfl⟩:=hl
  exact h1
 ·intro k Q hk hQ
  rcases hstep k (by omega) Q hQ with⟨he,h1⟩ | ⟨Q',hQ',h1⟩
  ·subst he
   have hno:∀ i,¬ tT N L k i:=λi hi=>by have:=(hQ.mem i).2 hi;cases this
   obtain⟨e1,e2⟩:=end_lb (by omega) hno
   exact .inr ⟨_,h1,by rw[e1,e2]⟩
  ·exact .inl ⟨Q',h1,hQ'⟩
 ·intro Q hQ
  rcases hstep N (Qr _) Q hQ with⟨he,h1⟩ | ⟨Q',hQ',h1⟩
  ·subst he
   have hno:∀ i,¬ tT N L N i:=λi=>z7V N L
   obtain⟨e1,e2⟩:=end_lb (Qr _) hno
   exact⟨_,h1,by rw[e1,e2]⟩
  ·exfalso
   have hne:Q≠[]:=by
    intro e
    subst e
    unfold zBn at h1
    simp[len] at h1
   obtain⟨x,hx⟩:=List.exists_mem_of_ne_nil Q hne
   obtain⟨h3,_⟩:=hQ.rg x hx
   obtain⟨i,rfl⟩:=QH h3
   exact z7V N L ((hQ.mem i).1 hx)
theorem zPa (h:wY N L): zDb ((N:Int),L)=some (yW N L):=by
 unfold zDb
 rw[zUL h]
 rfl
end
end
section
abbrev Dm:=Bool×Bool×Bool
def eD (x:Dm): Int:=(if x.1 then 2 else 0)+(if x.2.1 then 4 else 0)+(if x.2.2 then 8 else 0)
def iD (x y:Dm): Dm:=(x.1&&y.1,x.2.1&&y.2.1,x.2.2&&y.2.2)
def mD (x y:Dm): Bool:=(x.1&&y.1)||(x.2.1&&y.2.1)||(x.2.2&&y.2.2)
theorem z2p:∀ x y:Dm,yI .i64 (eD x) (eD y)=eD (iD x y):=by
 rintro ⟨a,b,c⟩ ⟨d,e,f⟩
 revert a b c d e f
 decide +kernel
theorem eD_zero:∀ x:Dm,(eD x==0)=(!(x.1||x.2.1||x.2.2)):=by
 rintro ⟨a,b,c⟩;revert a b c;decide
theorem z6C (x y:Dm): (yI .i64 (eD x) (eD y) != 0)=mD x y:=by
 rw[z2p]
 show(!(eD (iD x y)==0))=_
 rw[eD_zero]
 simp[iD,mD]
theorem z84:∀ x y:Dm,eD x=eD y->x=y:=by
 rintro ⟨a,b,c⟩ ⟨d,e,f⟩
 revert a b c d e f
 decide +kernel
def leD (x y:Dm): Prop:=(x.1=true->y.1=true)∧(x.2.1=true->y.2.1=true)∧(x.2.2=true->y.2.2=true)
theorem leD.refl (x:Dm): leD x x:=⟨id,id,id⟩
theorem leD.trans{x y z:Dm}(h:leD x y)(k:leD y z): leD x z:=⟨λa=>k.1 (h.1 a),λa=>k.2.1 (h.2.1 a),λa=>k.2.2 (h.2.2 a)⟩
theorem leD.anti{x y:Dm}(h:leD x y)(k:leD y x): x=y:=by
 obtain⟨a,b,c⟩:=x
 obtain⟨d,e,f⟩:=y
 simp only[leD] at h k
 have h1:a=d:=by cases a <;> cases d <;> simp_all
 have h2:b=e:=by cases b <;> cases e <;> simp_all
 have h3:c=f:=by cases c <;> cases f <;> simp_all
 rw[h1,h2,h3]
theorem iD_le (x y:Dm): leD (iD x y) x:=by
 refine⟨λh=>?_,λh=>?_,λh=>?_⟩ <;> (simp[iD] at h;exact h.1)
theorem iD_le2 (x y:Dm): leD (iD x y) y:=by
 refine⟨λh=>?_,λh=>?_,λh=>?_⟩ <;> (simp[iD] at h;exact h.2)
def z7g (x:Dm): Nat:=(if x.1 then 1 else 0)+(if x.2.1 then 1 else 0)+(if x.2.2 then 1 else 0)
theorem z6Z:∀ {x y:Dm},leD x y->z7g x≤z7g y∧(z7g x=z7g y->x=y):=by
 rintro ⟨a,b,c⟩ ⟨d,e,f⟩ h
 simp only[leD] at h
 cases a <;> cases b <;> cases c <;> cases d <;> cases e <;> cases f <;> simp_all [z7g]
abbrev DD:=Nat->Dm
def dA (D:DD): List Int:=zX 40 λj=>eD (D j)
def leF (D E:DD): Prop:=∀ j,leD (D j) (E j)
theorem leF.refl (D:DD): leF D D:=λ_=>leD.refl _
theorem leF.trans{D E G:DD}(h:leF D E)(k:leF E G): leF D G:=λj=>(h j).trans (k j)
theorem leF.anti{D E:DD}(h:leF D E)(k:leF E D): D=E:=funext λj=>(h j).anti (k j)
def zZV (D:DD)(i:Nat)(x:Dm): DD:=λj=>if j=i then x else D j
theorem z4o (D:DD){i:Nat}(hi:i<40)(x:Dm): tD 40 (dA D) (i:Int) (eD x)=dA (zZV D i x):=by
 unfold dA
 rw[z0Q 40 _ hi]
 apply zBk
 intro j _
 simp only[zZV]
 split <;> rfl
theorem zMf (D:DD){i:Nat}(hi:i<40): yS (dA D) (i:Int)=eD (D i):=zTS 40 _ hi
theorem zX8{D:DD}{i:Nat}{x:Dm}(h:leD x (D i)): leF (zZV D i x) D:=λj=>by
 unfold zZV
 split
 ·rename_i e;subst e;exact h
 ·exact leD.refl _
def z5u (D:DD): Nat->Nat
 | 0=>0
 | n+1=>z5u D n+z7g (D n)
theorem z0D{D E:DD}(h:leF D E): ∀ n,z5u D n≤z5u E n
 | 0=>Qr _
 | n+1=>Nat.add_le_add (z0D h n) (z6Z (h n)).1
theorem sumD_eq{D E:DD}(h:leF D E): ∀ n,z5u D n=z5u E n->∀ j,j<n->D j=E j
 | 0,_,j,hj=>absurd hj (Wl _)
 | n+1,he,j,hj=>by
  have h1:=z0D h n
  have h2:=(z6Z (h n)).1
  simp only[z5u] at he
  rcases Uh.1 hj with hj | rfl
  ·exact sumD_eq h n (by omega) j hj
  ·exact(z6Z (h j)).2 (by omega)
def Emp (N:Nat)(D:DD): Prop:=∀ j,N≤j->D j=(false,false,false)
theorem Emp.le{N:Nat}{D E:DD}(h:Emp N E)(k:leF D E): Emp N D:=λj hj=>by
 have h1:=k j
 rw[h j hj] at h1
 exact leD.anti h1 ⟨λh=>Bool.noConfusion h,λh=>Bool.noConfusion h,λh=>Bool.noConfusion h⟩
section
variable {N:Nat}{L:List qG}
def zZQ (N:Nat)(L:List qG): List (List Int):=(wC N).map (qJ N L)
theorem atts_at{i:Nat}(hi:i<N): zC (zZQ N L) (i:Int)=some (qJ N L (i:Int)):=by
 rw[tC,zZQ,Q7,wC,Q7,List.getElem?_range hi]
 rfl
theorem zVr (hN:N≤40)(D:DD)(at0 fnd:List (List Int))(n:Int)(full:Bool)(a:List Int)(ha:∀ x∈a,∃ k:Nat,x=(k:Int)∧k<N)(hl:a.length≤40)(t:Dm):
  zB3 (n,at0,dA D,fnd,full) a (eD t)=some (a.filter λx=>mD (D x.toNat) t):=by
 unfold zB3
 have h:=zEs (B:=zF1 a (n,at0,dA D,fnd,full) (eD t)) a (λs x=>if mD (D x.toNat) t then s++[x] else s) id (λi s=>s.length≤i) ([]:List Int) (by simp) ?_ ?_
 ·have h2:=zHx (λx:Int=>mD (D x.toNat) t) id a []
  simp only[id,List.map_id,QI] at h2
  rw[h.1,h2];rfl
 ·intro i y s hy hI
  have hlt:=vM hy
  obtain⟨k,rfl,hk⟩:=ha y (wG hy)
  unfold zF1
  simp only[wL hy,Qf,qQ hy,zob,qV hy (by omega)]
  rw[zPL (K:=40) rfl (show k<40 by omega),zob,zMf D (by omega),z6C,Qj]
  cases mD (D k) t with
  | true =>
   simp only[Qf]
   rw[wD (by simp;omega)]
   exact⟨rfl,by simp;omega⟩
  | false =>
   simp only[zbf,Qc]
   exact⟨trivial,by omega⟩
 ·intro s _
  unfold zF1
  simp[len]
theorem can2_eq:zEO=zB3:=rfl
theorem zMY{i:Nat}: ∀ x∈qJ N L (i:Int),∃ k:Nat,x=(k:Int)∧k<N:=λx hx=>by
 have h:=(Qk.1 hx).1
 rw[xW] at h
 exact⟨x.toNat,by omega,by omega⟩
theorem zNp{i j:Nat}(hj:j<N): (j:Int)∈qJ N L (i:Int)↔wA L j i:=by
 rw[Qk,xW]
 exact⟨λh=>h.2,λh=>⟨⟨by omega,by omega⟩,h⟩⟩
def z3i (N:Nat)(L:List qG)(D:DD)(i:Nat): Dm :=
 ((qJ N L (i:Int)).all λx=>(D x.toNat).2.1,(qJ N L (i:Int)).any λx=>(D x.toNat).1,
  ((qJ N L (i:Int)).all λx=>(D x.toNat).2.1||(D x.toNat).2.2)&&(qJ N L (i:Int)).any λx=>(D x.toNat).2.2)
theorem filter_lt{α:Type}(p:α->Bool)(l:List α): decide (len (l.filter p)<len l)=!(l.all p):=by
 induction l with
 | nil=>rfl
 | cons x l ih =>
  rw[Q3]
  have hle:=Qz p l
  cases hp:p x with
  | true =>
   simp only[Qf,U8,hp,Uw]
   rw[←ih]
   simp only[len,QK]
   congr 1
   exact propext (by omega)
  | false =>
   simp only[zbf,Qc,U8,hp,UA,Ul,Qm,len,QK]
   omega
theorem zPn{α:Type}(p:α->Bool)(l:List α): (len (l.filter p)==0)=!(l.any p):=by
 induction l with
 | nil=>rfl
 | cons x l ih =>
  rw[Q3]
  cases hp:p x with
  | true =>
   simp only[Qf,List.any_cons,hp,Bool.true_or,QO,len,QK]
   exact QU.2 (by omega)
  | false=>simp only[zbf,Qc,List.any_cons,hp,UO];exact ih
theorem z3P (hN:N≤40)(D:DD)(fnd:List (List Int))(full:Bool){i:Nat}(hi:i<N):
  zCG ((N:Int),zZQ N L,dA D,fnd,full) (i:Int)=some (eD (z3i N L D i)):=by
 have hl:(qJ N L (i:Int)).length≤40:=QD (zMa _) hN
 have c4:=zVr hN D (zZQ N L) fnd (N:Int) full (qJ N L (i:Int)) zMY hl (false,true,false)
 have c2:=zVr hN D (zZQ N L) fnd (N:Int) full (qJ N L (i:Int)) zMY hl (true,false,false)
 have c12:=zVr hN D (zZQ N L) fnd (N:Int) full (qJ N L (i:Int)) zMY hl (false,true,true)
 have c8:=zVr hN D (zZQ N L) fnd (N:Int) full (qJ N L (i:Int)) zMY hl (false,false,true)
 simp only[mD,Bool.and_false,U9,UO,Bool.or_false] at c4 c2 c12 c8
 rw[show eD (false,true,false)=4 from rfl] at c4
 rw[show eD (true,false,false)=2 from rfl] at c2
 rw[show eD (false,true,true)=12 from rfl] at c12
 rw[show eD (false,false,true)=8 from rfl] at c8
 unfold zCG
 simp only[atts_at hi,zob,c4,c2,c12,c8,filter_lt,zPn]
 unfold z3i
 generalize ((qJ N L (i:Int)).all λx=>(D x.toNat).2.1)=q1
 generalize ((qJ N L (i:Int)).any λx=>(D x.toNat).1)=q2
 generalize ((qJ N L (i:Int)).all λx=>(D x.toNat).2.1||(D x.toNat).2.2)=q3
 generalize ((qJ N L (i:Int)).any λx=>(D x.toNat).2.2)=q4
 revert q1 q2 q3 q4
 decide +kernel
structure CL (N:Nat)(L:List qG)(f:Nat->Nat): Prop where
 r:∀ i,i<N->f i=1∨f i=2∨f i=3
 i1:∀ i,i<N->f i=1->∀ j,j<N->wA L j i->f j=2
 i2:∀ i,i<N->f i=2->∃ j,j<N∧wA L j i∧f j=1
 i3:∀ i,i<N->f i=3->(∃ j,j<N∧wA L j i∧f j=3)∧∀ j,j<N->wA L j i->f j≠1
def z2h (x:Dm)(k:Nat): Bool:=match k with
 | 1=>x.1
 | 2=>x.2.1
 | 3=>x.2.2
 | _=>false
def z7L (N:Nat)(D:DD)(f:Nat->Nat): Prop:=∀ i,i<N->z2h (D i) (f i)=true
theorem hasD_iD (x y:Dm)(k:Nat): z2h (iD x y) k=(z2h x k&&z2h y k):=by
 match k with
 | 0 | 1 | 2 | 3=>rfl
 | _+4=>rfl
theorem z6d{x y:Dm}(h:leD x y){k:Nat}(hk:z2h x k=true): z2h y k=true:=by
 match k,hk with
 | 1,hk=>exact h.1 hk
 | 2,hk=>exact h.2.1 hk
 | 3,hk=>exact h.2.2 hk
theorem poss_ok{D:DD}{f:Nat->Nat}(hf:CL N L f)(hc:z7L N D f){i:Nat}(hi:i<N): z2h (z3i N L D i) (f i)=true:=by
 have hpr:∀ x∈qJ N L (i:Int),∃ k:Nat,x=(k:Int)∧k<N∧wA L k i:=λx hx=>by
  obtain⟨k,rfl,hk⟩:=zMY x hx
  exact⟨k,rfl,hk,(zNp hk).1 hx⟩
 rcases hf.r i hi with h | h | h <;> rw[h]
 ·show((qJ N L (i:Int)).all λx=>(D x.toNat).2.1)=true
  rw[QW]
  intro x hx
  obtain⟨k,rfl,hk,he⟩:=hpr x hx
  have:=hc k hk
  rw[hf.i1 i hi h k hk he] at this
  exact this
 ·show((qJ N L (i:Int)).any λx=>(D x.toNat).1)=true
  obtain⟨k,hk,he,h1⟩:=hf.i2 i hi h
  rw[Q6]
  have:=hc k hk
  rw[h1] at this
  exact⟨(k:Int),(zNp hk).2 he,this⟩
 ·show(_&&_)=true
  obtain⟨⟨k,hk,he,h3⟩,h4⟩:=hf.i3 i hi h
  rw[QA,QW,Q6]
  refine⟨λx hx=>?_,(k:Int),(zNp hk).2 he,?_⟩
  ·obtain⟨k,rfl,hk,he⟩:=hpr x hx
   have:=hc k hk
   rcases hf.r k hk with q | q | q
   ·exact absurd q (h4 k hk he)
   ·rw[q] at this;simp[show(D k).2.1=true from this]
   ·rw[q] at this;simp[show(D k).2.2=true from this]
  ·have:=hc k hk
   rw[h3] at this
   exact this
end
end
section
section
variable {N:Nat}{L:List qG}
def xT (N:Nat)(L:List qG)(D E:DD): Prop:=leF E D∧∀ f,CL N L f->z7L N D f->z7L N E f
theorem xT.refl (D:DD): xT N L D D:=⟨leF.refl D,λ_ _ h=>h⟩
theorem xT.trans{D E G:DD}(h:xT N L D E)(k:xT N L E G): xT N L D G:=⟨k.1.trans h.1,λf hf hc=>k.2 f hf (h.2 f hf hc)⟩
theorem z5b{D E:DD}(h:xT N L D E){k:Nat}(t:Dm)(ht:∀ f,CL N L f->z7L N D f->z2h t (f k)=true): xT N L D (zZV E k (iD (E k) t)):=by
 refine⟨(zX8 (iD_le _ _)).trans h.1,λf hf hc j hj=>?_⟩
 unfold zZV
 split
 ·rename_i e;subst e
  rw[hasD_iD,h.2 f hf hc j hj,ht f hf hc];rfl
 ·exact h.2 f hf hc j hj
theorem z1u{ρ:Type}{B:Int×List Int->Option ((Int×List Int)⊕ρ)}(hN:N≤40)(D:DD)(a:List Int)(ha:∀ x∈a,∃ k:Nat,x=(k:Int)∧k<N)(t:Dm)(ht:∀ f,CL N L f->z7L N D f->∀ k:Nat,(k:Int)∈a->z2h t (f k)=true)(fin:List Int->ρ)
  (hB:∀(i:Nat) (k:Nat) s,a[i]?=some (k:Int)->k<40->B ((i:Int),s)=some (.inl (((i+1:Nat):Int),tD 40 s (k:Int) (yI .i64 (yS s (k:Int)) (eD t)))))
  (he:∀ s,B ((a.length:Int),s)=some (.inr (fin s))):∃ E,zN B (0,dA D)=some (fin (dA E))∧xT N L D E:=by
 have h:=zWp (B:=B) a (λs x=>tD 40 s x (yI .i64 (yS s x) (eD t))) fin (λ_ s=>∃ E,s=dA E∧xT N L D E) (dA D) ⟨D,rfl,xT.refl D⟩ ?_ λs _=>he s
 ·obtain⟨h1,E,h2,h3⟩:=h
  exact⟨E,by rw[h1,h2],h3⟩
 ·rintro i x s hx ⟨E,rfl,hE⟩
  obtain⟨k,rfl,hk⟩:=ha x (wG hx)
  refine⟨hB i k _ hx (by omega),zZV E k (iD (E k) t),?_,z5b hE t λf hf hc=>ht f hf hc k (wG hx)⟩
  rw[zMf E (by omega),z2p,z4o E (by omega)]
theorem z6N (x y:Dm): (eD x==eD y)=decide (x=y):=by
 by_cases h:x=y
 ·subst h;simp
 ·simp only[h,decide_false,QU]
  exact λe=>h (z84 _ _ e)
theorem z99 (hN:N≤40)(D:DD)(fnd:List (List Int))(full:Bool){i:Nat}(hi:i<N):
  ∃ E,zC1 ((N:Int),zZQ N L,dA D,fnd,full) (i:Int)=some (dA E,fnd)∧xT N L D E:=by
 have hl:(qJ N L (i:Int)).length≤40:=QD (zMa _) hN
 have hne:∀ f,CL N L f->z7L N D f->z2h (D i) (f i)=true:=λf _ hc=>hc i hi
 have hon:∀(f:Nat->Nat) (k:Nat),CL N L f->z7L N D f->(∀ q,q=1∨q=2∨q=3->z2h (D i) q=true->q=k)->f i=k:=λf k hf hc hq=>hq _ (hf.r i hi) (hc i hi)
 have first:∃(t:Dm) (E:DD),((vT (decide (0≤(i:Int))&&decide ((i:Int)<40))).bind λ_ =>
   if(yS (dA D) (i:Int))==2 then
    zN (zC7 (qJ N L (i:Int))) (0,dA D)
   else
    if(yS (dA D) (i:Int))==4 then
     some (2,dA D)
    else
     if(yS (dA D) (i:Int))==8 then
      (zN (zC9 (qJ N L (i:Int))) (0,dA D):Option (List Int)).bind λs3 =>
      some (8,s3)
     else
      some (0,dA D):Option (Int×(List Int)))=some (eD t,dA E)∧xT N L D E∧(t=(false,false,false)∨∃ c:Nat,(t=(true,false,false)∧c=1∨t=(false,false,true)∧c=3) ∧
    ∀ f,CL N L f->z7L N D f->∃ j,j<N∧wA L j i∧f j=c):=by
  rw[zPL (K:=40) rfl (show i<40 by omega),zob,zMf D (by omega)]
  rw[show(2:Int)=eD (true,false,false) from rfl,show(4:Int)=eD (false,true,false) from rfl,show(8:Int)=eD (false,false,true) from rfl,z6N,z6N,z6N]
  by_cases h1:D i=(true,false,false)
  ·have hf1:∀ f,CL N L f->z7L N D f->f i=1:=λf hf hc=>hon f 1 hf hc λq hq hh=>by
    rw[h1] at hh
    rcases hq with rfl | rfl | rfl
    ·rfl
    ·exact Bool.noConfusion hh
    ·exact Bool.noConfusion hh
   obtain⟨E,h2,h3⟩:=z1u (B:=zC7 (qJ N L (i:Int))) hN D (qJ N L (i:Int)) zMY (false,true,false) (λf hf hc k hk=>by
    have hkN:k<N:=by obtain⟨k',e,h⟩:=zMY _ hk;omega
    rw[hf.i1 i hi (hf1 f hf hc) k hkN ((zNp hkN).1 hk)];rfl) (λs=>(0,s)) (λq k s hq hk=>by
     unfold zC7
     simp only[wL hq,Qf,qQ hq,zob,qV hq (by omega)]
     rw[zPL (K:=40) rfl hk]
     rfl) (λs=>by unfold zC7;simp[len])
   refine⟨(false,false,false),E,?_,h3,.inl rfl⟩
   simp only[h1,decide_true,Qf]
   exact h2
  ·simp only[h1,decide_false,zbf,Qc]
   by_cases h2:D i=(false,true,false)
   ·refine⟨(true,false,false),D,by simp only[h2,decide_true,Qf],xT.refl D,.inr ⟨1,.inl ⟨rfl,rfl⟩,λf hf hc=>?_⟩⟩
    refine hf.i2 i hi (hon f 2 hf hc λq hq hh=>?_)
    rw[h2] at hh
    rcases hq with rfl | rfl | rfl
    ·exact Bool.noConfusion hh
    ·rfl
    ·exact Bool.noConfusion hh
   ·simp only[h2,decide_false,zbf,Qc]
    by_cases h3:D i=(false,false,true)
    ·have hf3:∀ f,CL N L f->z7L N D f->f i=3:=λf hf hc=>hon f 3 hf hc λq hq hh=>by
      rw[h3] at hh
      rcases hq with rfl | rfl | rfl
      ·exact Bool.noConfusion hh
      ·exact Bool.noConfusion hh
      ·rfl
     obtain⟨E,h4,h5⟩:=z1u (B:=zC9 (qJ N L (i:Int))) hN D (qJ N L (i:Int)) zMY (false,true,true) (λf hf hc k hk=>by
      have hkN:k<N:=by obtain⟨k',e,h⟩:=zMY _ hk;omega
      have h6:=(hf.i3 i hi (hf3 f hf hc)).2 k hkN ((zNp hkN).1 hk)
      rcases hf.r k hkN with h | h | h
      ·exact absurd h h6
      ·rw[h];rfl
      ·rw[h];rfl) (λs=>s) (λq k s hq hk=>by
       unfold zC9
       simp only[wL hq,Qf,qQ hq,zob,qV hq (by omega)]
       rw[zPL (K:=40) rfl hk]
       rfl) (λs=>by unfold zC9;simp[len])
     refine⟨(false,false,true),E,?_,h5,.inr ⟨3,.inr ⟨rfl,rfl⟩,λf hf hc=>(hf.i3 i hi (hf3 f hf hc)).1⟩⟩
     simp only[h3,decide_true,Qf]
     rw[h4];rfl
    ·refine⟨(false,false,false),D,by simp only[h3,decide_false,zbf,Qc];rfl,xT.refl D,.inl rfl⟩
 obtain⟨t,E,h1,h2,h3⟩:=first
 unfold zC1
 simp only[atts_at hi,zob]
 rw[h1,zob,can2_eq,zVr hN E _ fnd (N:Int) full _ zMY hl t,zob]
 by_cases hlen:len ((qJ N L (i:Int)).filter λx=>mD (E x.toNat) t)=1
 ·have hb:(len ((qJ N L (i:Int)).filter λx=>mD (E x.toNat) t)==1)=true:=by rw[hlen];rfl
  rw[hb]
  simp only[Qf]
  obtain⟨x,hx⟩:∃ x,(qJ N L (i:Int)).filter (λx=>mD (E x.toNat) t)=[x]:=by
   have:((qJ N L (i:Int)).filter λx=>mD (E x.toNat) t).length=1:=by simp only[len] at hlen;omega
   exact List.length_eq_one_iff.1 this
  rw[hx]
  have hxm:x∈(qJ N L (i:Int)).filter λx=>mD (E x.toNat) t:=by rw[hx];exact Qq
  obtain⟨k,rfl,hk⟩:=zMY x (Qk.1 hxm).1
  refine⟨zZV E k (iD (E k) t),?_,z5b h2 t λf hf hc=>?_⟩
  ·rw[show zC [(k:Int)] 0=some (k:Int) from rfl,zob,zPL (K:=40) rfl (show k<40 by omega),zob,zob,zMf E (by omega),z2p,z4o E (by omega)]
  ·rcases h3 with rfl | ⟨c,hc1,hc2⟩
   ·have:=(Qk.1 hxm).2
    simp[mD] at this
   ·obtain⟨j,hj,he,hfj⟩:=hc2 f hf hc
    have hEj:=h2.2 f hf hc j hj
    rw[hfj] at hEj
    have hjm:(j:Int)∈(qJ N L (i:Int)).filter λx=>mD (E x.toNat) t:=by
     rw[Qk]
     refine⟨(zNp hj).2 he,?_⟩
     rw[Qj]
     rcases hc1 with⟨rfl,rfl⟩ | ⟨rfl,rfl⟩
     ·have:(E j).1=true:=hEj
      simp[mD,this]
     ·have:(E j).2.2=true:=hEj
      simp[mD,this]
    rw[hx,Qa] at hjm
    have:j=k:=by omega
    subst this
    rw[hfj]
    rcases hc1 with⟨rfl,rfl⟩ | ⟨rfl,rfl⟩ <;> rfl
 ·have hb:(len ((qJ N L (i:Int)).filter λx=>mD (E x.toNat) t)==1)=false:=QU.2 hlen
  rw[hb]
  exact⟨E,rfl,h2⟩
def Dead (N:Nat)(L:List qG)(D:DD): Prop:=∀ f,CL N L f->¬ z7L N D f
def Fix (N:Nat)(L:List qG)(D:DD): Prop:=∀ i,i<N->leD (D i) (z3i N L D i)
theorem dead_of{D E:DD}(h:xT N L D E){i:Nat}(hi:i<N)(h0:E i=(false,false,false)): Dead N L D:=λf hf hc=>by
 have:=h.2 f hf hc i hi
 rw[h0] at this
 rcases hf.r i hi with h | h | h <;> rw[h] at this <;> exact Bool.noConfusion this
theorem z6k (hN:N≤40)(D:DD)(fnd:List (List Int))(n2:List Int)(f2:List (List Int))(full:Bool):
  (∃ E,zN (zAM ((N:Int),zZQ N L,n2,f2,full)) (0,dA D,fnd)=some (.inl (dA E,fnd))∧xT N L D E∧(E=D->Fix N L D)) ∨
  ∃ E,zN (zAM ((N:Int),zZQ N L,n2,f2,full)) (0,dA D,fnd)=some (.inr (.inr (false,dA E,fnd)))∧leF E D∧Dead N L D:=by
 have key:∀(m i:Nat) (E:DD),i+m=N->xT N L D E->(E=D->∀ j,j<i->leD (D j) (z3i N L D j))->
   (∃ G,zN (zAM ((N:Int),zZQ N L,n2,f2,full)) ((i:Int),dA E,fnd)=some (.inl (dA G,fnd))∧xT N L D G∧(G=D->Fix N L D)) ∨
   ∃ G,zN (zAM ((N:Int),zZQ N L,n2,f2,full)) ((i:Int),dA E,fnd)=some (.inr (.inr (false,dA G,fnd)))∧leF G D∧Dead N L D:=by
  intro m
  induction m with
  | zero =>
   intro i E h hE hI
   rw[QM] at h
   subst h
   refine .inl ⟨E,?_,hE,λe j hj=>hI e j hj⟩
   rw[yF]
   unfold zAM
   simp
  | succ m ih =>
   intro i E h hE hI
   have hi:i<N:=by omega
   have hd:decide ((i:Int)<(N:Int))=true:=by simp;omega
   have hp:=z3P (L:=L) hN E fnd full hi
   have hK1:xT N L D (zZV E i (iD (E i) (z3i N L E i))):=by
    refine hE.trans ⟨zX8 (iD_le _ _),λf hf hc j hj=>?_⟩
    unfold zZV
    split
    ·rename_i e;subst e
     rw[hasD_iD,hc j hj,poss_ok hf hc hj];rfl
    ·exact hc j hj
   obtain⟨G,hG1,hG2⟩:=z99 (L:=L) hN (zZV E i (iD (E i) (z3i N L E i))) fnd full hi
   have hstep:zAM ((N:Int),zZQ N L,n2,f2,full) ((i:Int),dA E,fnd) =
     if(zZV E i (iD (E i) (z3i N L E i)) i)=(false,false,false) then some (.inr (.inr (.inr (false,dA (zZV E i (iD (E i) (z3i N L E i))),fnd)))) else some (.inl (((i+1:Nat):Int),dA G,fnd)):=by
    unfold zAM
    simp only[hd,Qf]
    rw[zPL (K:=40) rfl (show i<40 by omega),zob,hp,zob,zob,zob,zMf E (by omega),z2p,z4o E (by omega),zMf _ (by omega)]
    rw[show(0:Int)=eD (false,false,false) from rfl,z6N]
    by_cases h0:zZV E i (iD (E i) (z3i N L E i)) i=(false,false,false)
    ·simp only[h0,decide_true,Qf]
    ·simp only[h0,decide_false,zbf,Qc]
     rw[hG1,zob,yJ i (by omega)]
   rw[yF,hstep]
   by_cases h0:zZV E i (iD (E i) (z3i N L E i)) i=(false,false,false)
   ·rw[Ql h0]
    exact .inr ⟨_,rfl,hK1.1,dead_of hK1 hi h0⟩
   ·rw[Qi h0]
    refine ih (i+1) G (by omega) (hK1.trans hG2) λe j hj=>?_
    have e1:zZV E i (iD (E i) (z3i N L E i))=D:=hK1.1.anti (by rw[←e];exact hG2.1)
    have e2:E=D:=hE.1.anti (by rw[←e1];exact zX8 (iD_le _ _))
    rcases Uh.1 hj with hj | rfl
    ·exact hI e2 j hj
    ·have h3:iD (E j) (z3i N L E j)=E j:=by
      have:=congrFun (e1.trans e2.symm) j
      simpa [zZV] using this
     rw[e2] at h3
     have:=iD_le2 (D j) (z3i N L D j)
     rwa [h3] at this
 exact key N 0 D (by omega) (xT.refl D) λ_ j hj=>absurd hj (Wl _)
theorem aeq_dA (D E:DD): aeq 40 (dA D) (dA E)=true↔∀ j,j<40->D j=E j:=by
 unfold aeq
 rw[QW]
 refine⟨λh j hj=>?_,λh j hj=>?_⟩
 ·have:=h j (Ua.2 hj)
  rw[Q5] at this
  have h1:=zMf D hj
  have h2:=zMf E hj
  simp only[yS,Qj] at h1 h2
  rw[h1,h2] at this
  exact z84 _ _ this
 ·have hj:=Ua.1 hj
  have h1:=zMf D hj
  have h2:=zMf E hj
  simp only[yS,Qj] at h1 h2
  rw[h1,h2,h j hj];simp
theorem asub_dA (hN:N≤40)(D:DD): asub 40 (dA D) (N:Int)=some (zX N λj=>eD (D j)):=by
 unfold asub
 rw[Ql ⟨by omega,by omega⟩,Qj]
 congr 1
 apply Wc
 intro j hj
 have hj:=Ua.1 hj
 have h1:=zMf D (show j<40 by omega)
 simpa only[yS,Qj] using h1
theorem zero_in (D:DD): ((0:Int)∈zX N λj=>eD (D j))↔∃ j,j<N∧D j=(false,false,false):=by
 constructor
 ·intro h
  obtain⟨j,hj,he⟩:=Qn.1 h
  refine⟨j,Ua.1 hj,z84 _ _ ?_⟩
  rw[he];rfl
 ·rintro ⟨j,hj,he⟩
  refine Qn.2 ⟨j,Ua.2 hj,?_⟩
  rw[he];rfl
theorem z6m (hN:N≤40)(D:DD)(hD:Emp N D)(fnd:List (List Int))(full:Bool):
  (∃ E,zB9 ((N:Int),zZQ N L,dA D,fnd,full)=some (true,dA E,fnd)∧xT N L D E∧Fix N L E∧∀ i,i<N->E i≠(false,false,false)) ∨
  ∃ E,zB9 ((N:Int),zZQ N L,dA D,fnd,full)=some (false,dA E,fnd)∧leF E D∧Dead N L D:=by
 have h:=zO5 (B:=zCK ((N:Int),zZQ N L,dA D,fnd,full)) (λs=>∃ E,s=(dA E,fnd)∧xT N L D E)
  (λs=>open Classical in if h:∃ E,s=(dA E,fnd)∧xT N L D E then z5u (Classical.choose h) 40 else 0)
  (λr=>(∃ E,r=(true,dA E,fnd)∧xT N L D E∧Fix N L E∧∀ i,i<N->E i≠(false,false,false))∨∃ E,r=(false,dA E,fnd)∧leF E D∧Dead N L D) ?_ (dA D,fnd) ⟨D,rfl,xT.refl D⟩
 ·obtain⟨r,h1,⟨E,rfl,h2⟩ | ⟨E,rfl,h2⟩⟩:=h
  ·exact .inl ⟨E,h1,h2⟩
  ·exact .inr ⟨E,h1,h2⟩
 ·rintro s ⟨E,rfl,hE⟩
  have dinj:∀ {G H:DD},leF G D->leF H D->dA G=dA H->G=H:=by
   intro G H hG hH he
   funext j
   by_cases hj:j<40
   ·have h1:=zMf G hj
    rw[he,zMf H hj] at h1
    exact(z84 _ _ h1).symm
   ·rw[hD.le hG j (by omega),hD.le hH j (by omega)]
  have hmu:∀ G,xT N L D G->(open Classical in if h:∃ E,((dA G,fnd):List Int×List (List Int))=(dA E,fnd)∧xT N L D E then z5u (Classical.choose h) 40 else 0)=z5u G 40:=by
   intro G hG
   have hex:∃ E,((dA G,fnd):List Int×List (List Int))=(dA E,fnd)∧xT N L D E:=⟨G,rfl,hG⟩
   rw[dif_pos hex]
   have h1:=Classical.choose_spec hex
   exact congrArg (λz=>z5u z 40) (dinj h1.2.1 hG.1 (congrArg Prod.fst h1.1).symm)
  unfold zCK
  rcases z6k (L:=L) hN E fnd (dA D) fnd full with⟨G,h1,h2,h3⟩ | ⟨G,h1,h2,h3⟩
  ·rw[h1]
   simp only[vH,zob]
   rw[asub_dA hN,zob,zGC _ _ (by simp only[zX,QJ,List.length_range];omega),zob]
   by_cases h0:(0:Int)∈zX N λj=>eD (G j)
   ·simp only[h0,decide_true,Qf]
    obtain⟨j,hj,hz⟩:=(zero_in G).1 h0
    exact .inr ⟨_,rfl,.inr ⟨G,rfl,h2.1.trans hE.1,dead_of (hE.trans h2) hj hz⟩⟩
   ·simp only[h0,decide_false,zbf,Qc]
    by_cases he:∀ j,j<40->G j=E j
    ·rw[(aeq_dA G E).2 he]
     simp only[Qf]
     have hGE:G=E:=funext λj=>by
      by_cases hj:j<40
      ·exact he j hj
      ·rw[hD.le (h2.1.trans hE.1) j (by omega),hD.le hE.1 j (by omega)]
     subst hGE
     refine .inr ⟨_,rfl,.inl ⟨G,rfl,hE,h3 rfl,λi hi hz=>h0 ((zero_in G).2 ⟨i,hi,hz⟩)⟩⟩
    ·have hb:aeq 40 (dA G) (dA E)=false:=by
      cases hq:aeq 40 (dA G) (dA E) with
      | false=>rfl
      | true=>exact absurd ((aeq_dA G E).1 hq) he
     rw[hb]
     simp only[zbf,Qc]
     refine .inl ⟨_,rfl,⟨G,rfl,hE.trans h2⟩,?_⟩
     rw[hmu G (hE.trans h2),hmu E hE]
     have h4:=z0D h2.1 40
     rcases Nat.lt_or_eq_of_le h4 with h5 | h5
     ·exact h5
     ·exact absurd (sumD_eq h2.1 40 h5) he
  ·rw[h1]
   simp only[vH,zob]
   exact .inr ⟨_,rfl,.inr ⟨G,rfl,h2.trans hE.1,λf hf hc=>h3 f hf (hE.2 f hf hc)⟩⟩
end
end
section
def uE (N:Nat)(f:Nat->Nat): List Int:=zX N λj=>((f j:Nat):Int)
theorem zM5{N i:Nat}(hi:i<N)(f:Nat->Nat): (uE N f)[i]?=some ((f i:Nat):Int):=by rw[uE,zKh,Ql hi]
theorem z8P (N:Nat)(f:Nat->Nat): (uE N f).length=N:=by simp[uE,zX]
theorem labL_eq{N:Nat}{f g:Nat->Nat}(h:∀ j,j<N->f j=g j): uE N f=uE N g:=zBk λj hj=>by rw[h j hj]
theorem z7Z{N:Nat}{f g:Nat->Nat}(h:uE N f=uE N g): ∀ j,j<N->f j=g j:=λj hj=>by
 have h1:=zM5 hj f
 rw[h,zM5 hj g] at h1
 simp only[Qg] at h1
 omega
def yY (c:Nat): Dm:=(decide (c=1),decide (c=2),decide (c=3))
theorem z8A{c k:Nat}(hc:c=1∨c=2∨c=3)(h:z2h (yY c) k=true): k=c:=by
 match k,h with
 | 1,h=>simpa [z2h,yY,eq_comm] using h
 | 2,h=>simpa [z2h,yY,eq_comm] using h
 | 3,h=>simpa [z2h,yY,eq_comm] using h
theorem sgl_has{c:Nat}(hc:c=1∨c=2∨c=3): z2h (yY c) c=true:=by
 rcases hc with rfl | rfl | rfl <;> rfl
theorem sgl_le{c:Nat}{x:Dm}(hc:c=1∨c=2∨c=3)(h:z2h x c=true): leD (yY c) x:=by
 rcases hc with rfl | rfl | rfl
 ·exact⟨λ_=>h,λk=>by simp[yY] at k,λk=>by simp[yY] at k⟩
 ·exact⟨λk=>by simp[yY] at k,λ_=>h,λk=>by simp[yY] at k⟩
 ·exact⟨λk=>by simp[yY] at k,λk=>by simp[yY] at k,λ_=>h⟩
theorem single_or:∀ x:Dm,x≠(false,false,false)->(∃ c,(c=1∨c=2∨c=3)∧x=yY c)∨2≤z7g x:=by
 rintro ⟨a,b,c⟩ h
 cases a <;> cases b <;> cases c
 ·exact absurd rfl h
 ·exact .inl ⟨3,by decide,rfl⟩
 ·exact .inl ⟨2,by decide,rfl⟩
 ·exact .inr (by decide)
 ·exact .inl ⟨1,by decide,rfl⟩
 ·exact .inr (by decide)
 ·exact .inr (by decide)
 ·exact .inr (by decide)
theorem pop_sgl{c:Nat}(hc:c=1∨c=2∨c=3): z7g (yY c)=1:=by rcases hc with rfl | rfl | rfl <;> rfl
theorem z7i{D:DD}{i:Nat}{x:Dm}(h:leD x (D i))(hp:z7g x<z7g (D i)): ∀ n,i<n->z5u (zZV D i x) n<z5u D n
 | 0,hn=>absurd hn (Wl _)
 | n+1,hn=>by
  simp only[z5u]
  rcases Uh.1 hn with h1 | rfl
  ·have h2:=z7i h hp n h1
   have h3:zZV D i x n=D n:=Qi (by omega)
   rw[h3];omega
  ·have h2:=z0D (zX8 h) i
   have h3:zZV D i x i=x:=Ql rfl
   rw[h3];omega
section
variable {N:Nat}{L:List qG}
theorem z65 (hN:N≤40)(D:DD)(h0:∀ i,i<N->D i≠(false,false,false))(at0 fnd:List (List Int))(full:Bool):
  (∃ f:Nat->Nat,zBc ((N:Int),at0,dA D,fnd,full)=some (uE N f,-1)∧∀ j,j<N->(f j=1∨f j=2∨f j=3)∧D j=yY (f j)) ∨
  ∃ i,i<N∧zBc ((N:Int),at0,dA D,fnd,full)=some ([],(i:Int))∧2≤z7g (D i):=by
 have key:∀(m i:Nat) (f:Nat->Nat),i+m=N->(∀ j,j<i->(f j=1∨f j=2∨f j=3)∧D j=yY (f j))->
   (∃ g:Nat->Nat,zN (zAb ((N:Int),at0,dA D,fnd,full)) (uE i f,(i:Int))=some (uE N g,-1)∧∀ j,j<N->(g j=1∨g j=2∨g j=3)∧D j=yY (g j)) ∨
   ∃ q,q<N∧zN (zAb ((N:Int),at0,dA D,fnd,full)) (uE i f,(i:Int))=some ([],(q:Int))∧2≤z7g (D q):=by
  intro m
  induction m with
  | zero =>
   intro i f h hf
   rw[QM] at h
   subst h
   refine .inl ⟨f,?_,hf⟩
   rw[yF]
   unfold zAb
   simp
  | succ m ih =>
   intro i f h hf
   have hi:i<N:=by omega
   have hd:decide ((i:Int)<(N:Int))=true:=by simp;omega
   have hstep:∀ c:Nat,c=1∨c=2∨c=3->D i=yY c->zAb ((N:Int),at0,dA D,fnd,full) (uE i f,(i:Int))=some (.inl (uE i f++[(c:Int)],((i+1:Nat):Int))):=by
    intro c hc hDi
    unfold zAb
    simp only[hd,Qf]
    rw[zPL (K:=40) rfl (show i<40 by omega),zob,zMf D (by omega),hDi]
    have hl:=z8P i f
    rcases hc with rfl | rfl | rfl
    ·rw[show(eD (yY 1)==2)=true from rfl]
     simp only[Qf]
     rw[wD (by simp only[QK,Uq];omega),zob,yJ i (by omega)];rfl
    ·rw[show(eD (yY 2)==2)=false from rfl,show(eD (yY 2)==4)=true from rfl]
     simp only[Qf,zbf,Qc]
     rw[wD (by simp only[QK,Uq];omega),zob,yJ i (by omega)];rfl
    ·rw[show(eD (yY 3)==2)=false from rfl,show(eD (yY 3)==4)=false from rfl,show(eD (yY 3)==8)=true from rfl]
     simp only[Qf,zbf,Qc]
     rw[wD (by simp only[QK,Uq];omega),zob,yJ i (by omega)];rfl
   rcases single_or (D i) (h0 i hi) with⟨c,hc,hDi⟩ | hp
   ·rw[yF,hstep c hc hDi]
    have e1:uE i f++[(c:Int)]=uE (i+1) λj=>if j=i then c else f j:=by
     unfold uE
     rw[z5Q]
     congr 1
     ·exact zBk λj hj=>by
       have:¬ j=i:=by omega
       simp only[this,Qc]
     ·simp
    rw[e1]
    refine ih (i+1) _ (by omega) λj hj=>?_
    rcases Uh.1 hj with hj | rfl
    ·have:¬ j=i:=by omega
     simp only[this,Qc]
     exact hf j hj
    ·simp only[Qf]
     exact⟨hc,hDi⟩
   ·refine .inr ⟨i,hi,?_,hp⟩
    rw[yF]
    have:zAb ((N:Int),at0,dA D,fnd,full) (uE i f,(i:Int))=some (.inr ([],(i:Int))):=by
     unfold zAb
     simp only[hd,Qf]
     rw[zPL (K:=40) rfl (show i<40 by omega),zob,zMf D (by omega)]
     rw[show(2:Int)=eD (yY 1) from rfl,show(4:Int)=eD (yY 2) from rfl,show(8:Int)=eD (yY 3) from rfl,z6N,z6N,z6N]
     have hn:∀ c,c=1∨c=2∨c=3->¬ D i=yY c:=λc hc he=>by rw[he,pop_sgl hc] at hp;omega
     simp only[hn 1 (by decide),hn 2 (by decide),hn 3 (by decide),decide_false,zbf,Qc]
    rw[this]
 exact key N 0 (λ_=>0) (by omega) λj hj=>absurd hj (Wl _)
structure Sp (N:Nat)(L:List qG)(P:(Nat->Nat)->Prop)(n0:Nat)(full:Bool)(new:List (List Int))(full':Bool): Prop where
 snd:∀ x∈new,∃ f,CL N L f∧P f∧x=uE N f
 nd:new.Nodup
 ful:full=true->new=[]∧full'=true
 hi:full=false->full'=true->n0+new.length=201
 lo:full=false->full'=false->n0+new.length≤200∧∀ f,CL N L f->P f->uE N f∈new
theorem Sp.none{P:(Nat->Nat)->Prop}{n0:Nat}{full:Bool}(h:full=false->n0≤200)(hP:∀ f,CL N L f->¬ P f): Sp N L P n0 full [] full :=
 ⟨λx hx=>(by cases hx),List.nodup_nil,λh=>⟨rfl,h⟩,λh1 h2=>(by rw[h1] at h2;cases h2),λh1 _=>⟨h h1,λf hf hp=>absurd hp (hP f hf)⟩⟩
theorem Sp.or{P Q:(Nat->Nat)->Prop}{n0:Nat}{full f1 f2:Bool}{new1 new2:List (List Int)}(h1:Sp N L P n0 full new1 f1)(h2:Sp N L Q (n0+new1.length) f1 new2 f2)(hd:∀ f g,P f->Q g->uE N f≠uE N g):
  Sp N L (λf=>P f∨Q f) n0 full (new1++new2) f2:=by
 refine⟨λx hx=>?_,?_,λhf=>?_,λh3 h4=>?_,λh3 h4=>?_⟩
 ·rcases Qb.1 hx with h | h
  ·obtain⟨f,a,b,c⟩:=h1.snd x h;exact⟨f,a,.inl b,c⟩
  ·obtain⟨f,a,b,c⟩:=h2.snd x h;exact⟨f,a,.inr b,c⟩
 ·refine QT.2 ⟨h1.nd,h2.nd,λx hx y hy e=>?_⟩
  obtain⟨f,_,a,b⟩:=h1.snd x hx
  obtain⟨g,_,c,d⟩:=h2.snd y hy
  exact hd f g a c (by rw[←b,←d];exact e)
 ·obtain⟨rfl,k1⟩:=h1.ful hf
  obtain⟨rfl,k2⟩:=h2.ful k1
  exact⟨rfl,k2⟩
 ·rw[Qd]
  cases hq:f1 with
  | true =>
   obtain⟨rfl,_⟩:=h2.ful hq
   have:=h1.hi h3 hq
   simpa using this
  | false =>
   have:=h2.hi hq h4
   omega
 ·have hq:f1=false:=by
   cases hq:f1 with
   | false=>rfl
   | true=>rw[(h2.ful hq).2] at h4;cases h4
  have k1:=h1.lo h3 hq
  have k2:=h2.lo hq h4
  rw[Qd]
  refine⟨by omega,λf hf hp=>Qb.2 ?_⟩
  rcases hp with h | h
  ·exact .inl (k1.2 f hf h)
  ·exact .inr (k2.2 f hf h)
theorem Sp.of{P Q:(Nat->Nat)->Prop}{n0:Nat}{full f1:Bool}{new:List (List Int)}(h:Sp N L P n0 full new f1)(h1:∀ f,CL N L f->P f->Q f)(h2:∀ f,CL N L f->Q f->P f): Sp N L Q n0 full new f1 :=
 ⟨λx hx=>by obtain⟨f,a,b,c⟩:=h.snd x hx;exact⟨f,a,h1 f a b,c⟩,h.nd,h.ful,h.hi,λa b=>⟨(h.lo a b).1,λf hf hq=>(h.lo a b).2 f hf (h2 f hf hq)⟩⟩
theorem Sp.pre{P:(Nat->Nat)->Prop}{n0:Nat}{full f1:Bool}{new:List (List Int)}(h:Sp N L P n0 full new f1): f1=false->n0+new.length≤200:=λhf=>by
 cases hq:full with
 | true=>rw[(h.ful hq).2] at hf;cases hf
 | false=>exact(h.lo hq hf).1
theorem Sp.len{P:(Nat->Nat)->Prop}{n0:Nat}{full f1:Bool}{new:List (List Int)}(h:Sp N L P n0 full new f1)(h0:n0≤201): n0+new.length≤201:=by
 cases hq:full with
 | true=>rw[(h.ful hq).1];simpa using h0
 | false =>
  cases hf:f1 with
  | true=>rw[h.hi hq hf];exact Qr _
  | false=>have:=(h.lo hq hf).1;omega
theorem fix_CL{E:DD}(hF:Fix N L E){f:Nat->Nat}(h:∀ j,j<N->(f j=1∨f j=2∨f j=3)∧E j=yY (f j)): CL N L f:=by
 have hpr:∀ {i j:Nat},j<N->wA L j i->(j:Int)∈qJ N L (i:Int):=λhj he=>(zNp hj).2 he
 refine⟨λi hi=>(h i hi).1,λi hi h1 j hj he=>?_,λi hi h1=>?_,λi hi h1=>?_⟩
 ·have h2:=hF i hi
  rw[(h i hi).2,h1] at h2
  have h3:(z3i N L E i).1=true:=h2.1 rfl
  have h4:=QW.1 h3 (j:Int) (hpr hj he)
  rw[Qj,(h j hj).2] at h4
  simpa [yY] using h4
 ·have h2:=hF i hi
  rw[(h i hi).2,h1] at h2
  have h3:(z3i N L E i).2.1=true:=h2.2.1 rfl
  obtain⟨x,hx,h4⟩:=Q6.1 h3
  obtain⟨j,rfl,hj⟩:=zMY x hx
  rw[Qj,(h j hj).2] at h4
  exact⟨j,hj,(zNp hj).1 hx,by simpa [yY] using h4⟩
 ·have h2:=hF i hi
  rw[(h i hi).2,h1] at h2
  have h3:(z3i N L E i).2.2=true:=h2.2.2 rfl
  unfold z3i at h3
  simp only[QA] at h3
  obtain⟨h4,h5⟩:=h3
  obtain⟨x,hx,h6⟩:=Q6.1 h5
  obtain⟨j,rfl,hj⟩:=zMY x hx
  rw[Qj,(h j hj).2] at h6
  refine⟨⟨j,hj,(zNp hj).1 hx,by simpa [yY] using h6⟩,λj hj he h7=>?_⟩
  have h8:=QW.1 h4 (j:Int) (hpr hj he)
  rw[Qj,(h j hj).2,h7] at h8
  exact Bool.noConfusion h8
theorem z59 (hN:N≤40): ∀(k:Nat) (D:DD) (fnd:List (List Int)) (full:Bool),Emp N D->z5u D 40<k->fnd.length≤201->(full=false->fnd.length≤200)->
  ∃ d' new full',(∀ m,k≤m->zB7 m ((N:Int),zZQ N L,dA D,fnd,full)=some (d',fnd++new,full'))∧Sp N L (z7L N D) fnd.length full new full'
 | 0,_,_,_,_,h,_,_=>absurd h (Wl _)
 | k+1,D,fnd,full,hE,hk,hl,hf=>by
  cases full with
  | true =>
   refine⟨dA D,[],true,λm hm=>?_,⟨λx hx=>(by cases hx),List.nodup_nil,λ_=>⟨rfl,rfl⟩,λh=>(by cases h),λh=>(by cases h)⟩⟩
   obtain⟨m,rfl⟩:∃ q,m=q+1:=⟨m-1,by omega⟩
   simp[zB7,zAp]
  | false =>
   have hf:=hf rfl
   rcases z6m (L:=L) hN D hE fnd false with⟨E,hs,hK,hF,hne⟩ | ⟨E,hs,hle,hdead⟩
   ·rcases z65 hN E hne (zZQ N L) fnd false with⟨f,hlab,hsg⟩ | ⟨i,hi,hlab,hp⟩
    ·
     have hcl:=fix_CL hF hsg
     have hcE:z7L N E f:=λj hj=>by rw[(hsg j hj).2];exact sgl_has (hsg j hj).1
     refine⟨dA E,[uE N f],decide (fnd.length=200),λm hm=>?_,?_⟩
     ·obtain⟨m,rfl⟩:∃ q,m=q+1:=⟨m-1,by omega⟩
      show zAp _ _=_
      unfold zAp
      simp only[zbf,Qc,hs,zob,QO,hlab]
      rw[show decide ((-1:Int)<0)=true from rfl]
      simp only[Qf]
      rw[wD (by simp only[QK,Uq];omega),zob]
      congr 3
      rw[QZ]
      simp only[len,Q5,Qm]
      omega
     ·refine⟨λx hx=>?_,U3.2 ⟨by simp,List.nodup_nil⟩,λh=>(by cases h),λ_ h=>?_,λ_ h=>?_⟩
      ·simp only[Qa] at hx
       exact⟨f,hcl,λj hj=>z6d (hK.1 j) (hcE j hj),hx⟩
      ·simp only[Qm] at h
       simp only[QK,Uq];omega
      ·simp only[QV] at h
       simp only[QK,Uq]
       refine⟨by omega,λg hg hc=>Qa.2 (labL_eq λj hj=>?_)⟩
       have:=hK.2 g hg hc j hj
       rw[(hsg j hj).2] at this
       exact z8A (hsg j hj).1 this
    ·
     have hlt:z5u E 40≤z5u D 40:=z0D hK.1 40
     have hEmpE:=hE.le hK.1
     have one:∀ c:Nat,c=1∨c=2∨c=3->∀(fn:List (List Int)) (fu:Bool),fn.length≤201->(fu=false->fn.length≤200)->
       ∃ new fu',(∀ m,k≤m->∀(q:Int) (z:List Int),zC ([2,4,8]:List Int) q=some (eD (yY c))->decide (q<(len ([2,4,8]:List Int)))=true->
        zBZ ([],(i:Int)) (false,dA E,fnd) (zB7 m) ((N:Int),zZQ N L,dA D,fnd,false) (q,fn,fu)=some (.inl (zH (q+1),fn++new,fu')))∧Sp N L (λf=>z7L N E f∧f i=c) fn.length fu new fu':=by
      intro c hc fn fu hfn hfu
      by_cases hh:z2h (E i) c=true
      ·have hle:=sgl_le hc hh
       have hpp:z7g (yY c)<z7g (E i):=by rw[pop_sgl hc];omega
       have hsum:=z7i hle hpp 40 (by omega)
       obtain⟨d',new,fu',h1,h2⟩:=z59 hN k (zZV E i (yY c)) fn fu (hEmpE.le (zX8 hle)) (by omega) hfn hfu
       refine⟨new,fu',λm hm q z hq hd=>?_,h2.of (λf hf hcn=>⟨λj hj=>z6d (zX8 hle j) (hcn j hj),z8A hc (by have:=hcn i hi;rwa [show zZV E i (yY c) i=yY c from Ql rfl] at this)⟩)
        (λf hf hcn j hj=>by
         unfold zZV
         split
         ·rename_i e;subst e;rw[hcn.2];exact sgl_has hc
         ·exact hcn.1 j hj)⟩
       unfold zBZ
       simp only[hd,Qf,hq,zob]
       rw[zPL (K:=40) rfl (show i<40 by omega),zob,zMf E (by omega),z6C]
       have hm1:mD (E i) (yY c)=true:=by
        rcases hc with rfl | rfl | rfl
        ·simp[mD,yY,show(E i).1=true from hh]
        ·simp[mD,yY,show(E i).2.1=true from hh]
        ·simp[mD,yY,show(E i).2.2=true from hh]
       rw[hm1]
       simp only[Qf,zob]
       rw[z4o E (by omega),h1 m hm,zob]
      ·refine⟨[],fu,λm hm q z hq hd=>?_,Sp.none hfu λf hf hcn=>hh (by have:=hcn.1 i hi;rwa [hcn.2] at this)⟩
       unfold zBZ
       simp only[hd,Qf,hq,zob]
       rw[zPL (K:=40) rfl (show i<40 by omega),zob,zMf E (by omega),z6C]
       have hm1:mD (E i) (yY c)=false:=by
        have hh':z2h (E i) c=false:=by simpa using hh
        rcases hc with rfl | rfl | rfl
        ·simp[mD,yY,show(E i).1=false from hh']
        ·simp[mD,yY,show(E i).2.1=false from hh']
        ·simp[mD,yY,show(E i).2.2=false from hh']
       rw[hm1]
       simp only[zbf,Qc,QF]
     obtain⟨n1,f1,a1,b1⟩:=one 1 (by decide) fnd false hl λ_=>hf
     obtain⟨n2,f2,a2,b2⟩:=one 2 (by decide) (fnd++n1) f1 (by rw[Qd];exact b1.len hl) (by rw[Qd];exact b1.pre)
     rw[Qd] at b2
     have c2:=b1.or b2 λf g hf hg he=>by have:=z7Z he i hi;omega
     obtain⟨n3,f3,a3,b3⟩:=one 3 (by decide) (fnd++n1++n2) f2 (by rw[Qs,Qd];exact c2.len hl) (by rw[Qs,Qd];exact c2.pre)
     rw[Qs,Qd] at b3
     have c3:=c2.or b3 λf g hf hg he=>by have:=z7Z he i hi;rcases hf with hf | hf <;> omega
     refine⟨dA E,n1++n2++n3,f3,λm hm=>?_,c3.of (λf hf hp=>?_) λf hf hc=>?_⟩
     ·obtain⟨m,rfl⟩:∃ q,m=q+1:=⟨m-1,by omega⟩
      show zAp _ _=_
      unfold zAp
      simp only[zbf,Qc,hs,zob,QO,hlab]
      have hneg:decide ((i:Int)<0)=false:=by simp
      rw[hneg]
      simp only[zbf,Qc]
      rw[yF,a1 m (by omega) 0 [] rfl rfl]
      show zN _ (zH (0+1),_)=_
      rw[show zH (0+1)=1 from rfl,yF,a2 m (by omega) 1 [] rfl rfl]
      show zN _ (zH (1+1),_)=_
      rw[show zH (1+1)=2 from rfl,yF,a3 m (by omega) 2 [] rfl rfl]
      show zN _ (zH (2+1),_)=_
      rw[show zH (2+1)=3 from rfl,yF]
      have hend:zBZ ([],(i:Int)) (false,dA E,fnd) (zB7 m) ((N:Int),zZQ N L,dA D,fnd,false) (3,fnd++n1++n2++n3,f3)=some (.inr (dA E,fnd++n1++n2++n3,f3)):=by
       unfold zBZ
       rw[show decide ((3:Int)<(len ([2,4,8]:List Int)))=false from rfl]
       rfl
      rw[hend]
      simp only[Qs]
     ·rcases hp with(hp | hp) | hp <;> exact λj hj=>z6d (hK.1 j) (hp.1 j hj)
     ·have hcE:=hK.2 f hf hc
      rcases hf.r i hi with h | h | h
      ·exact .inl (.inl ⟨hcE,h⟩)
      ·exact .inl (.inr ⟨hcE,h⟩)
      ·exact .inr ⟨hcE,h⟩
   ·refine⟨dA E,[],false,λm hm=>?_,Sp.none (λ_=>hf) λf hcl hc=>hdead f hcl hc⟩
    obtain⟨m,rfl⟩:∃ q,m=q+1:=⟨m-1,by omega⟩
    show zAp _ _=_
    unfold zAp
    simp only[zbf,Qc,hs,zob,Ul,Qf,QF]
theorem z7O (h:wY N L): zN (zBx ((N:Int),L)) (0,([]:List (List Int)),(List.replicate 40 (0:Int)))=some (zZQ N L,dA λj=>if j<N then(true,true,true) else(false,false,false)):=by
 have hN:=h.hN
 have key:∀(m i:Nat),i+m=N->zN (zBx ((N:Int),L)) ((i:Int),(wC i).map (qJ N L),dA λj=>if j<i then(true,true,true) else(false,false,false))=some (zZQ N L,dA λj=>if j<N then(true,true,true) else(false,false,false)):=by
  intro m
  induction m with
  | zero =>
   intro i hi
   rw[QM] at hi
   subst hi
   rw[yF]
   unfold zBx
   simp[zZQ]
  | succ m ih =>
   intro i hi
   have hd:decide ((i:Int)<(N:Int))=true:=by simp;omega
   rw[yF]
   have hstep:zBx ((N:Int),L) ((i:Int),(wC i).map (qJ N L),dA λj=>if j<i then(true,true,true) else(false,false,false)) =
     some (.inl (((i+1:Nat):Int),(wC (i+1)).map (qJ N L),dA λj=>if j<i+1 then(true,true,true) else(false,false,false))):=by
    unfold zBx
    simp only[hd,Qf]
    rw[zJ1 h,zob,wD (by simp[tN];omega),zob,zPL (K:=40) rfl (show i<40 by omega),zob,show(14:Int)=eD (true,true,true) from rfl,z4o _ (by omega),yJ i (by omega)]
    congr 4
    ·simp[wC,List.range_succ]
    ·refine congrArg dA (funext λj=>?_)
     unfold zZV
     by_cases hj:j=i
     ·simp[hj]
     ·simp only[hj,Qc]
      have:j<i↔j<i+1:=by omega
      simp only[this]
   rw[hstep]
   exact ih (i+1) (by omega)
 have:=key N 0 (by omega)
 rw[z7X]
 refine Eq.trans ?_ this
 congr 1
theorem z1B (h:wY N L): ∃ l:List (List Int),(∀ x∈l,∃ f,CL N L f∧x=uE N f)∧l.Nodup ∧
  ((zBO ((N:Int),L)=some (l,0)∧l.length≤200∧∀ f,CL N L f->uE N f∈l)∨(zBO ((N:Int),L)=some ([],2)∧l.length=201)):=by
 have hN:=h.hN
 obtain⟨d',new,fu,h1,h2⟩:=z59 (L:=L) hN (z5u (λj=>if j<N then(true,true,true) else(false,false,false)) 40+1) (λj=>if j<N then(true,true,true) else(false,false,false)) [] false
  (λj hj=>Qi (by omega)) (Nat.lt_succ_self _) (by simp) (λ_=>by simp)
 have hfind:zEo ((N:Int),zZQ N L,dA (λj=>if j<N then(true,true,true) else(false,false,false)),[],false)=some (d',new,fu):=zQf _ h1
 refine⟨new,λx hx=>by obtain⟨f,a,_,b⟩:=h2.snd x hx;exact⟨f,a,b⟩,h2.nd,?_⟩
 have hall:∀ f,CL N L f->z7L N (λj=>if j<N then(true,true,true) else(false,false,false)) f:=λf hf j hj=>by
  simp only[hj,Qf]
  rcases hf.r j hj with q | q | q <;> rw[q] <;> rfl
 unfold zBO
 rw[h.v1]
 simp only[zob,bne_self_eq_false,zbf,Qc]
 rw[z7O h,zob,hfind]
 simp only[zob]
 cases hfu:fu with
 | true =>
  have:=h2.hi rfl hfu
  exact .inr ⟨by simp,by simpa using this⟩
 | false =>
  have:=h2.lo rfl hfu
  exact .inl ⟨by simp,by simpa using this.1,λf hf=>this.2 f hf (hall f hf)⟩
end
end
section
variable {b:zM}{l:List zF}{D:List zI}{c:Nat}
theorem tJ.runsA (h:tJ b l)(hs:zQm b D c): RunsA b l:=Go.GD.runsA h.toFormB (runSz hs h)
noncomputable def zSv (b:zM)(l:List zF)(f:Int)(q:Int)(r:qH)(ys:List zI)(s:List Int): List zF :=
 ((tP l l.length ys s).filter λs=>s.any (λk=>decide (f≤k))&&tQ b l q r s).map λs=>(-1,q,s,r.2.2.2.2)
theorem z9G{f q:Int}{r:qH}{s:List Int}: zSv b l f q r [] s=if s.any (λk=>decide (f≤k))&&tQ b l q r s then[(-1,q,s,r.2.2.2.2)] else[]:=by
 unfold zSv
 simp only[tP,Q3,List.filter_nil]
 split <;> rfl
theorem z6Q{f q:Int}{r:qH}{y:zI}{ys:List zI}{s:List Int}: zSv b l f q r (y::ys) s=(wC l.length).flatMap λi=>match zC l i with | some a=>if a.2.2.2==y then zSv b l f q r ys (s++[i]) else[] | none=>[]:=by
 unfold zSv
 simp only[tP,List.filter_flatMap,List.map_flatMap]
 congr 1
 funext i
 cases zC l i with
 | none=>rfl
 | some a =>
  dsimp only
  split <;> rfl
def tS (l new h res:List zF): Prop:=res=(new++h).take (41-l.length)
theorem z2Y{α:Type}(n:Nat)(x y:List α): (x.take n++y).take n=(x++y).take n:=by
 by_cases h:x.length≤n
 ·rw[Qx h]
 ·rw[Uz (by rw[QB];omega),Uz (by omega),UR,Nat.min_self]
theorem tS.nil{new:List zF}(h:l.length+new.length≤41): tS l new [] new:=by
 unfold tS
 rw[QF,Qx (by omega)]
theorem tS.trans{new h1 r1 h2 r2:List zF}(a:tS l new h1 r1)(b:tS l r1 h2 r2): tS l new (h1++h2) r2:=by
 unfold tS at a b ⊢
 rw[b,a,z2Y,Qs]
theorem tS.le{new h res:List zF}(hl:l.length≤41)(a:tS l new h res): l.length+res.length≤41:=by
 unfold tS at a
 rw[a,QB]
 omega
theorem tS.stay{new h:List zF}(hf:l.length+new.length=41): tS l new h new:=by
 unfold tS
 rw[Uz (by omega),Qx (by omega)]
theorem tS.all{new h:List zF}(hf:l.length+new.length+h.length≤41): tS l new h (new++h):=by
 unfold tS
 rw[Qx (by rw[Qd];omega)]
theorem z6T (b:zM)(l new:List zF)(f:Int)(h1:l.length≤100)(h2:new.length≤100): zBr (b,l,new,f)=some (decide (40<l.length+new.length)):=by
 unfold zBr
 simp only[len]
 rw[vJ (by omega) (by omega)]
 refine congrArg some (Wg.2 ?_)
 omega
theorem clone_int{s:List Int}(h:s.length<4294967296): zGA s=some s:=by
 simp[zGA,wD (l:=([]:List Int)) (m:=s) (by simpa using h)]
theorem z5O (s:List Int)(b:zM)(l new:List zF)(f:Int)(h:s.length<1000000): zAA s (b,l,new,f)=some (s.any λk=>decide (f≤k)):=by
 unfold zAA zAL
 obtain⟨r,h1,h2⟩:=uP (B:=zAX s (b,l,new,f)) (λi (_:Unit)=>(i:Int)) s (λi _=>∀(j:Nat) k,j<i->s[j]?=some k->¬ f≤k) (λr=>decide (0≤r)=s.any λk=>decide (f≤k)) (λi k _ hi hI=>by
  unfold zAX zFf
  simp only[wL hi,Qf,qQ hi,zob,qV hi (show s.length<4294967296 by omega)]
  by_cases hk:f≤k
  ·simp only[hk,decide_true,Qf]
   refine .inr ⟨(i:Int),rfl,?_⟩
   have:(s.any λk=>decide (f≤k))=true:=Q6.2 ⟨k,wG hi,by simpa using hk⟩
   rw[this]
   exact Qy (by omega)
  ·simp only[hk,decide_false,zbf,Qc]
   exact .inl ⟨(),by trivial,λj x hj hx=>by
    by_cases hji:j=i
    ·subst hji;rw[hi] at hx;cases hx;exact hk
    ·exact hI j x (by omega) hx⟩) (λ_ hI=>⟨-1,by
  unfold zAX
  simp only[uH,zbf,Qc],by
  have:(s.any λk=>decide (f≤k))=false:=by
   rw[Us]
   intro k hk
   obtain⟨j,hj⟩:=Qp.1 hk
   simpa using hI j k (vM hj) hj
  rw[this]
  rfl⟩) () (λj k hj=>by omega)
 rw[show((0:Nat):Int)=0 from rfl] at h1
 rw[h1]
 simp only[zob,h2]
theorem z7H (hs:zQm b D c)(h:tJ b l)(hl:l.length≤40){f:Int}{q:Int}{r:qH}(hr:zC b.2.1 q=some r): ∀(k:Nat) (ys:List zI) (s:List Int) (new:List zF),ys=r.2.2.2.1.drop s.length->s.length≤r.2.2.2.1.length->ys.length<k->(∀ k∈s,0≤k∧k<l.length)->l.length+new.length≤41->
  ∃ res,zAm k (b,l,new,f) q s=some res∧tS l new (zSv b l f q r ys s) res:=by
 have hb:=hs.body hr
 intro k
 induction k with
 | zero=>intro ys _ _ _ _ hk;omega
 | succ k ih =>
  intro ys s new hys hsl hk hsub hnew
  show ∃ res,zBj (zAm k) (b,l,new,f) q s=some res∧_
  unfold zBj
  simp only[hr,zob,z6T b l new f (by omega) (by omega)]
  by_cases hf:40<l.length+new.length
  ·simp only[hf,decide_true,Qf]
   exact⟨new,rfl,tS.stay (by omega)⟩
  ·simp only[hf,decide_false,zbf,Qc]
   cases ys with
   | nil =>
    have hlen:s.length=r.2.2.2.1.length:=by
     have:=congrArg List.length hys
     simp at this
     omega
    have hd:decide (len s<len r.2.2.2.1)=false:=by simp[len];omega
    simp only[hd,zbf,Qc,vH,zob]
    rw[z5O s b l new f (by omega),z9G]
    simp only[zob]
    rw[z8g h.toFormC (h.runsA hs) hr hsub (by omega)]
    cases h1:s.any λk=>decide (f≤k) with
    | false =>
     simp only[zbf,Qc,zob,UA]
     exact⟨new,rfl,tS.nil hnew⟩
    | true =>
     simp only[Qf,zob,Uw]
     cases h2:tQ b l q r s with
     | false =>
      simp only[zbf,Qc]
      exact⟨new,rfl,tS.nil hnew⟩
     | true =>
      simp only[Qf]
      rw[wD (by simp;omega)]
      exact⟨_,rfl,tS.all (by simp only[Qt];omega)⟩
   | cons y ys =>
    have hlen:s.length<r.2.2.2.1.length:=by
     have:=congrArg List.length hys
     simp at this
     omega
    have hd:decide (len s<len r.2.2.2.1)=true:=by simp[len];omega
    have hy:r.2.2.2.1[s.length]?=some y:=by
     have:=congrArg (λl=>l[0]?) hys
     simpa using this.symm
    have hys2:ys=r.2.2.2.1.drop (s.length+1):=by
     have:=congrArg List.tail hys
     simpa using this
    have hix:zC r.2.2.2.1 (len s)=some y:=by rw[show len s=((s.length:Nat):Int) from rfl,tC];exact hy
    simp only[hd,Qf]
    have hloop:=uP (B:=zBR (b,l,new,f) r s (zAm k) q) (λi (t:List zF)=>((i:Int),t)) (wC l.length)
     (λi t=>tS l new (((wC l.length).take i).flatMap λi=>match zC l i with | some a=>if a.2.2.2==y then zSv b l f q r ys (s++[i]) else[] | none=>[]) t)
     (λres=>∃ t,res=.inr t∧tS l new (zSv b l f q r (y::ys) s) t) (λi x t hi hI=>.inl ?_) (λt hI=>?_) new (tS.nil hnew)
    ·obtain⟨res,h1,t,h2,h3⟩:=hloop
     rw[show((0:Nat):Int)=0 from rfl] at h1
     subst h2
     exact⟨t,by rw[h1];rfl,h3⟩
    ·obtain⟨rfl,hin⟩:=zS2 hi
     obtain⟨a,ha⟩:=zMJ (l:=l) (j:=(i:Int)) (by omega) (by omega)
     have hdl:decide ((i:Int)<len l)=true:=by simp[len];omega
     have ht:=hI.le (by omega)
     unfold zBR
     simp only[hdl,Qf,ha,zob,hix,yJ i (by omega)]
     rw[uL hi,UI,List.flatMap_singleton,ha]
     dsimp only
     cases hc:a.2.2.2==y with
     | false =>
      simp only[zbf,Qc,QF]
      exact⟨t,rfl,hI⟩
     | true =>
      simp only[Qf]
      rw[clone_int (by omega)]
      simp only[zob]
      rw[wD (by simp;omega)]
      simp only[zob]
      obtain⟨res,e1,e2⟩:=ih ys (s++[(i:Int)]) t (by simpa using hys2) (by simp;omega) (by simp at hk;omega) (λk hk=>by
       rcases Qb.1 hk with hk | hk
       ·exact hsub k hk
       ·simp only[Qa] at hk;subst hk;omega) ht
      rw[e1]
      exact⟨res,rfl,hI.trans e2⟩
    ·refine⟨_,?_,t,rfl,?_⟩
     ·unfold zBR
      have hdl:decide (((wC l.length).length:Int)<len l)=false:=by rw[tN];simp[len]
      simp only[hdl,zbf,Qc]
     ·rw[z6Q]
      rw[QC] at hI
      exact hI
theorem arg_apply (hs:zQm b D c)(h:tJ b l)(hl:l.length≤40){f:Int}{q:Int}{r:qH}(hr:zC b.2.1 q=some r)(new:List zF)(hnew:l.length+new.length≤41):
  zBl (b,l,new,f) q []=some ((new++zSv b l f q r r.2.2.2.1 []).take (41-l.length)) :=
 zQf 5 λk hk=>by
  obtain⟨res,h1,h2⟩:=z7H hs h hl hr k r.2.2.2.1 [] new (f:=f) (by simp) (by simp) (by have:=hs.body hr;omega) (by simp) hnew
  rw[h1,h2]
theorem roundR_eq{f:Int}{first:Bool}{q:Int}{r:qH}(hr:zC b.2.1 q=some r): zLC b l f first q=if r.2.2.2.1=[] then(if first then[(-1,q,[],r.2.2.2.2)] else[]) else zSv b l f q r r.2.2.2.1 []:=by
 unfold zLC zSv
 rw[hr]
 dsimp only
 split
 ·rename_i hb
  rw[hb]
  simp only[tP,Q3,List.filter_nil]
  cases first <;> simp[zW6,tQ]
 ·rename_i hb
  congr 1
  refine U5 λs hs=>?_
  obtain⟨t,ht,htl,_⟩:=(zU1 l l.length r.2.2.2.1 [] s).1 hs
  rw[QI] at ht
  subst ht
  unfold zW6
  have:s.isEmpty=false:=by
   cases s with
   | nil=>exact absurd (QR htl.symm) hb
   | cons _ _=>rfl
  rw[this,Bool.and_false,Bool.or_false]
theorem z48 (h:tR b): zN (zFG b) (0,([]:List zF))=some (zRp b):=by
 have hn:=h.np
 have hl:=zMn b
 have:=(zWp (B:=zFG b) (zRp b) (λs a=>s++[a]) (λs=>s) (λi s=>s.length≤i) [] (by simp) (λi a s hi hs=>by
  obtain⟨p,hp,rfl⟩:=zPO hi
  have hlt:=vM hp
  refine⟨?_,by simp;omega⟩
  unfold zFG
  simp only[wL hp,Qf,qQ hp,zob]
  rw[wD (by simp;omega)]
  simp only[zob,qV hp (by omega)]) (λs _=>by
  unfold zFG
  rw[hl]
  simp only[uH,zbf,Qc])).1
 rw[this]
 have:=zH5 (λa:zF=>a) (zRp b) []
 simpa using this
theorem z3j (hs:zQm b D c)(h:tJ b l)(hl:l.length≤40){f:Int}{r:Nat}(hr0:1≤r)(hr:r<1000)(z:List zF):
  ∃ res,zN (zDC b ((r:Int),l,z,f)) (0,[])=some res ∧
   (if 40<(l++xH b l f (decide (r≤1))).length then ∃ x,res=.inr (.inr (l,x,f))∧l.length+x.length=41 else res=.inl (xH b l f (decide (r≤1)))):=by
 have hnr:=hs.valid.nr
 have hone:((r:Int)==1)=decide (r≤1):=by
  rw[QZ]
  simp only[Q5,Qm]
  omega
 refine uP (B:=zDC b ((r:Int),l,z,f)) (λi (t:List zF)=>((i:Int),t)) (wC b.2.1.length)
  (λi t=>t=((wC b.2.1.length).take i).flatMap (zLC b l f (decide (r≤1)))∧l.length+t.length≤40)
  (λres=>if 40<(l++xH b l f (decide (r≤1))).length then ∃ x,res=.inr (.inr (l,x,f))∧l.length+x.length=41 else res=.inl (xH b l f (decide (r≤1)))) (λi x t hi hI=>?_) (λt hI=>?_) [] ⟨by simp,by simpa using hl⟩
 ·obtain⟨rfl,hin⟩:=zS2 hi
  obtain⟨ru,hru⟩:=zMJ (l:=b.2.1) (j:=(i:Int)) (by omega) (by omega)
  have hd:decide ((i:Int)<len b.2.1)=true:=by simp[len];omega
  obtain⟨hI1,hI2⟩:=hI
  have hnext:((wC b.2.1.length).take (i+1)).flatMap (zLC b l f (decide (r≤1)))=t++zLC b l f (decide (r≤1)) i:=by
   rw[uL hi,UI,List.flatMap_singleton,←hI1]
  have hpart:(t++zLC b l f (decide (r≤1)) i).length≤(xH b l f (decide (r≤1))).length:=by
   rw[←hnext]
   unfold xH
   conv=>rhs;rw[←QG (i+1) (wC b.2.1.length),UI]
   rw[Qd]
   omega
  have hs7:(if decide (0<len ru.2.2.2.1)=true then(zBl (b,l,t,f) i []).bind λr2=>some r2
    else if((r:Int)==1)=true then(qF t [((-1:Int),(i:Int),([]:List Int),ru.2.2.2.2)]).bind λx4=>some x4 else some t)=some ((t++zLC b l f (decide (r≤1)) i).take (41-l.length)):=by
   rw[roundR_eq hru,hone]
   by_cases hb:ru.2.2.2.1=[]
   ·have hd0:decide (0<len ru.2.2.2.1)=false:=by rw[hb];rfl
    rw[Ql hb]
    simp only[hd0,zbf,Qc]
    cases hr1:decide (r≤1) with
    | true =>
     simp only[Qf]
     rw[wD (by simp;omega)]
     simp only[zob]
     rw[Qx (by simp;omega)]
    | false =>
     simp only[zbf,Qc,QF]
     rw[Qx (by omega)]
   ·have hd0:decide (0<len ru.2.2.2.1)=true:=by
     have:=QY.2 hb
     simp[len];omega
    rw[Qi hb]
    simp only[hd0,Qf]
    rw[arg_apply hs h hl hru t (by omega)]
    rfl
  unfold zDC
  simp only[hd,Qf,hru,zob]
  rw[hs7]
  simp only[zob]
  rw[z6T b l _ f (by omega) (by rw[QB];omega)]
  simp only[zob,yJ i (by omega)]
  by_cases hlim:40<l.length+(t++zLC b l f (decide (r≤1)) i).length
  ·have hx:l.length+((t++zLC b l f (decide (r≤1)) i).take (41-l.length)).length=41:=by rw[QB];omega
   have hd4:decide (40<l.length+((t++zLC b l f (decide (r≤1)) i).take (41-l.length)).length)=true:=by simp only[Qm];omega
   simp only[hd4,Qf]
   refine .inr ⟨_,rfl,?_⟩
   rw[Ql (by rw[Qd];omega)]
   exact⟨_,rfl,hx⟩
  ·have hx:(t++zLC b l f (decide (r≤1)) i).take (41-l.length)=t++zLC b l f (decide (r≤1)) i:=Qx (by omega)
   rw[hx]
   have hd4:decide (40<l.length+(t++zLC b l f (decide (r≤1)) i).length)=false:=by simp only[QV];omega
   simp only[hd4,zbf,Qc]
   exact .inl ⟨_,rfl,hnext.symm,by omega⟩
 ·obtain⟨hI1,hI2⟩:=hI
  rw[QC] at hI1
  have:t=xH b l f (decide (r≤1)):=hI1
  unfold zDC
  have hd:decide (((wC b.2.1.length).length:Int)<len b.2.1)=false:=by rw[tN];simp[len]
  simp only[hd,zbf,Qc]
  refine⟨_,rfl,?_⟩
  rw[Qi (by rw[Qd,←this];omega),this]
theorem z4q (hs:zQm b D c): ∀(k:Nat) (l z:List zF) (f:Int) (r:Nat),tJ b l->l.length≤40->41≤l.length+k->r+k≤900->1≤r->
  ∃ l' x' f',zN (zB2 b) ((r:Int),l,z,f)=some (l',x',f')∧l'.length≤100∧x'.length≤100 ∧
   match zUR b k l f (decide (r≤1)) with | none=>40<l'.length+x'.length | some y=>l'=y∧x'=[]∧y.length≤40:=by
 intro k
 induction k with
 | zero=>intros;omega
 | succ k ih =>
  intro l z f r h hl hk hr h1
  obtain⟨res,e1,e2⟩:=z3j hs h hl (f:=f) h1 (by omega) z
  unfold zUR
  by_cases hlim:40<(l++xH b l f (decide (r≤1))).length
  ·rw[Ql hlim] at e2
   obtain⟨x,rfl,hx⟩:=e2
   refine⟨l,x,f,?_,by omega,by omega,?_⟩
   ·have hstep:zB2 b ((r:Int),l,z,f)=some (.inr (l,x,f)):=by
     unfold zB2
     rw[e1]
     rfl
    rw[yF,hstep]
   ·rw[Ql hlim]
    dsimp only
    omega
  ·rw[Qi hlim] at e2
   subst e2
   by_cases hn:xH b l f (decide (r≤1))=[]
   ·refine⟨l,[],f,?_,by omega,by simp,?_⟩
    ·have hstep:zB2 b ((r:Int),l,z,f)=some (.inr (l,[],f)):=by
      unfold zB2
      rw[e1,hn]
      rfl
     rw[yF,hstep]
    ·rw[Qi hlim,Ql hn]
     exact⟨rfl,rfl,hl⟩
   ·rw[Qi hlim,Qi hn]
    have hpos:0<(xH b l f (decide (r≤1))).length:=QY.2 hn
    rw[Qd] at hlim
    obtain⟨l',x',f',g1,g2,g3,g4⟩:=ih (l++xH b l f (decide (r≤1))) (xH b l f (decide (r≤1))) l.length (r+1) (h.round hs (by rw[Qd];omega)) (by rw[Qd];omega) (by rw[Qd];omega) (by omega) (by omega)
    rw[show decide (r+1≤1)=false from by simp;omega] at g4
    refine⟨l',x',f',?_,g2,g3,g4⟩
    have hstep:zB2 b ((r:Int),l,z,f)=some (.inl (((r+1:Nat):Int),l++xH b l f (decide (r≤1)),xH b l f (decide (r≤1)),(l.length:Int))):=by
     unfold zB2
     rw[e1]
     simp only[vH,zob]
     have hl0:((len (xH b l f (decide (r≤1))))==0)=false:=by simp only[len,QU];omega
     simp only[hl0,zbf,Qc]
     rw[wD (by omega)]
     simp only[zob,yJ r (by omega)]
    rw[yF,hstep]
    exact g1
theorem arg_Build (hs:zQm b D c): zDe b=some (ansB (zQe b)):=by
 unfold zDe
 rw[zZZ (zPI hs.valid),zOB.2 hs.valid]
 simp only[zob,bne_self_eq_false,zbf,Qc]
 rw[z48 hs.valid]
 have hn:=hs.valid.np
 obtain⟨l',x',f',g1,g2,g3,g4⟩:=z4q hs 50 (zRp b) [] 0 1 (zXI hs.valid) (by rw[zMn];omega) (by omega) (by omega) (by omega)
 rw[show((1:Nat):Int)=1 from rfl] at g1
 simp only[zob,g1]
 rw[z6T b l' x' f' g2 g3]
 simp only[zob]
 unfold zQe
 rw[show decide (1≤1)=true from rfl] at g4
 cases hb:zUR b 50 (zRp b) 0 true with
 | none =>
  rw[hb] at g4
  dsimp only at g4
  simp only[g4,decide_true,Qf]
  rfl
 | some y =>
  rw[hb] at g4
  obtain⟨rfl,rfl,g5⟩:=g4
  have hd:decide (40<l'.length+([]:List zF).length)=false:=by simp;omega
  simp only[hd,zbf,Qc]
  rfl
theorem z1h (hc:Cnt3 b)(h:¬ tR b): zDe b=some ([],zNj b):=by
 unfold zDe
 rw[zYE hc]
 have:(zNj b != 0)=true:=by
  rw[bne_iff_ne]
  exact λh'=>h (zOB.1 h')
 simp only[zob,this,Qf]
end
section
variable {b:zM}{l:List zF}
theorem small_ofA (h:tR b)(hr:b.2.1.length≤12): zQm b (b.2.1.map λr=>r.2.2.2.2) 4:=by
 refine⟨h,λr hr=>⟨Qn.2 ⟨r,hr,rfl⟩,zVl (h.rule r hr)⟩,by decide,?_⟩
 rw[QJ]
 exact Nat.lt_of_le_of_lt (zZT (by decide) hr) (by decide)
theorem z7P (h:tR b)(hr:b.2.1.length≤12){x:List zF}(hx:zQe b=some x): tJ b x∧x.length≤40 :=
 zZi (small_ofA h hr) 50 (zRp b) 0 true x (zXI h) (by rw[zMn];have:=h.np;omega) hx
theorem z7x (h:l.length≤100)(o:yZ): (zPD b l o).length≤3000000:=QD (Qz _ _) (zZf h)
def ords:List yZ:=[(1,1),(1,2),(2,1),(2,2)]
theorem z1P:zNC=some ords:=rfl
end
section
variable {b:zM}{l:List zF}
theorem z8F (h:tR b)(hr:b.2.1.length≤12): zQm b (b.2.1.map λr=>r.2.2.2.2) 4:=by
 refine⟨h,λr hr=>⟨Qn.2 ⟨r,hr,rfl⟩,zVl (h.rule r hr)⟩,by decide,?_⟩
 rw[QJ]
 exact Nat.lt_of_le_of_lt (zZT (by decide) hr) (by decide)
end
section
variable {b:zM}{l:List zF}
theorem z9B{i:Int}(h:¬ (0≤i∧i<l.length)): zBQ l i=some false:=by
 unfold zBQ
 congr 1
 rw[Bool.and_eq_false_iff]
 by_cases h0:0≤i
 ·exact .inr (by simp[len];omega)
 ·exact .inl (by simpa using h0)
def zWz (l:List zF)(i:Int): List zI:=match zC l i with | some a=>[a.2.2.2] | none=>[]
theorem idx_out{α:Type}{l:List α}{i:Int}(h:¬ (0≤i∧i<l.length)): zC l i=none:=by grind [zC]
theorem zZr (is:List Int): (is.flatMap (zWz l)).length≤is.length*1:=zO0 (zWz l) 1 is λi _=>by
 grind [zWz]
theorem zSN (is:List Int)(h:is.length<1000000): zCC l is=some (xR vA (is.flatMap (zWz l))):=by
 unfold zCC
 have hloop:=zOC (B:=zEJ is l) is (zWz l) (λs=>s) 1 (λi _=>by unfold zWz;split <;> simp) [] (λi x s hi hs=>by
  have hlt:=vM hi
  unfold zEJ zWz
  simp only[wL hi,Qf,qQ hi,zob,qV hi (show is.length<4294967296 by omega)]
  by_cases hin:0≤x∧x<l.length
  ·obtain⟨a,ha⟩:=zMJ (l:=l) hin.1 hin.2
   have:zBQ l x=some true:=by
    unfold zBQ
    congr 1
    rw[QA]
    exact⟨by simpa using hin.1,by simpa [len] using hin.2⟩
   simp only[this,zob,Qf,ha]
   rw[wD (by simp at hs ⊢;omega)]
   rfl
  ·simp only[z9B hin,zob,zbf,Qc,idx_out hin,QF]) (λs=>by
  unfold zEJ
  simp only[uH,zbf,Qc])
 rw[hloop]
 have hl:=zZr (l:=l) is
 simp only[zob,QI]
 rw[z2H (by omega)]
 rfl
end
section
def jn (l:List zD): zD:=[(32:UInt8)].intercalate l
theorem jn_nil:jn []=[]:=rfl
theorem z4p (w:zD): jn [w]=w:=by simp[jn,List.intercalate]
theorem z2Z (w x:zD)(l:List zD): jn (w::x::l)=w++32::jn (x::l):=by simp[jn,List.intercalate]
theorem z4u:∀ l:List zD,(jn l).length≤(l.map List.length).sum+l.length
 | []=>by simp[jn_nil]
 | [w]=>by simp[z4p]
 | w::x::l=>by
  have:=z4u (x::l)
  rw[z2Z]
  grind
theorem zXF{l:List zD}(h1:l.length≤1000000)(h2:(l.map List.length).sum≤1000000000): zK2 l [32]=some (jn l):=by
 have:=z4u l
 unfold zK2 joinM
 rw[Ql]
 ·rfl
 ·refine⟨by omega,?_⟩
  show(jn l).length≤_
  omega
def wd (w:zD): Bool:=!w.isEmpty&&w.all λb=>!Lib.isSp b&&decide (b.toNat<128)
theorem wd_ne{w:zD}(h:wd w=true): w≠[]:=by rintro rfl;simp[wd] at h
theorem zRA:∀(w cur l:zD),(∀ b∈w,Lib.isSp b=false)->Lib.fieldsGo cur (w++l)=Lib.fieldsGo (cur++w) l
 | [],cur,l,_=>by simp
 | b::w,cur,l,h=>by
  rw[Ur,Lib.fieldsGo,h b (by simp)]
  rw[zRA w (cur++[b]) l λx hx=>h x (by simp[hx])]
  simp
theorem z5v:∀ l:List zD,(∀ w∈l,wd w=true)->Lib.fields (jn l)=l
 | [],_=>rfl
 | [w],h=>by
  have hw:=h w (by simp)
  have h1:∀ b∈w,Lib.isSp b=false:=λb hb=>by
   simp[wd] at hw
   have:=(hw.2 b hb).1
   simpa using this
  rw[z4p]
  unfold Lib.fields
  have:=zRA w [] [] h1
  rw[QF] at this
  rw[this,Lib.fieldsGo]
  simp[wd_ne hw]
 | w::x::l,h=>by
  have hw:=h w (by simp)
  have h1:∀ b∈w,Lib.isSp b=false:=λb hb=>by
   simp[wd] at hw
   have:=(hw.2 b hb).1
   simpa using this
  rw[z2Z]
  unfold Lib.fields
  rw[zRA w [] _ h1,Lib.fieldsGo]
  have hs:Lib.isSp 32=true:=by decide
  have ih:=z5v (x::l) λy hy=>h y (by simp at hy ⊢;exact .inr hy)
  unfold Lib.fields at ih
  rw[Ql hs,ih]
  simp[wd_ne hw]
theorem jn_low{l:List zD}(h:∀ w∈l,wd w=true): ∀ b∈jn l,b.toNat<128:=by
 induction l with
 | nil=>intro b hb;simp[jn_nil] at hb
 | cons w l ih =>
  have hw:=h w (by simp)
  simp[wd] at hw
  cases l with
  | nil=>intro b hb;rw[z4p] at hb;have:=(hw.2 b hb).2;simpa using this
  | cons x l =>
   intro b hb
   rcases Qb.1 hb with hb | hb
   ·have:=(hw.2 b hb).2;simpa using this
   ·rcases Qw.1 hb with rfl | hb
    ·decide
    ·exact ih (λy hy=>h y (by simp at hy ⊢;exact .inr hy)) b hb
theorem z8o{l:List zD}(h:∀ w∈l,wd w=true): Lib.fieldsD (jn l)=l:=by rw[Lib.fieldsD_ascii _ (jn_low h),z5v l h]
theorem zQo:∀(f:Nat) (cur l:zD),((Lib.fieldsGoD f cur l).map List.length).sum≤cur.length+l.length∧∀ w∈Lib.fieldsGoD f cur l,w≠[]
 | 0,cur,l=>by
  unfold Lib.fieldsGoD
  split
  ·simp
  ·rename_i h;exact⟨by simp,by simpa using h⟩
 | f+1,cur,l=>by
  unfold Lib.fieldsGoD
  split
  ·split
   ·simp
   ·rename_i h;exact⟨by simp,by simpa using h⟩
  ·split
   ·obtain⟨h1,h2⟩:=zQo f [] (l.drop (Lib.decodeL l).2)
    simp at h1
    constructor
    ·split
     ·simp;omega
     ·simp;omega
    ·intro w hw
     split at hw
     ·exact h2 w (by simpa using hw)
     ·rename_i hc
      rcases Qb.1 hw with hw | hw
      ·simp at hw;subst hw;exact hc
      ·exact h2 w hw
   ·obtain⟨h1,h2⟩:=zQo f (cur++l.take (Lib.decodeL l).2) (l.drop (Lib.decodeL l).2)
    refine⟨?_,h2⟩
    simp at h1
    omega
theorem sum_ge:∀ {l:List zD},(∀ w∈l,w≠[])->l.length≤(l.map List.length).sum
 | [],_=>by simp
 | w::l,h=>by
  have h1:=sum_ge (l:=l) λx hx=>h x (by simp[hx])
  have h2:0<w.length:=QY.2 (h w (by simp))
  simp
  omega
theorem zZ6 (l:zD): ((Lib.fieldsD l).map List.length).sum≤l.length∧(Lib.fieldsD l).length≤l.length:=by
 obtain⟨h1,h2⟩:=zQo (l.length+1) [] l
 have h3:=sum_ge h2
 simp at h1
 exact⟨h1,by unfold Lib.fieldsD;omega⟩
def dgt (n:Int): zD:=[UInt8.ofNat (48+n.toNat)]
theorem itoa_M{n:Int}(h0:-9223372036854775808≤n)(h1:n≤9223372036854775807): zDV n=some (Lib.itoa n):=by
 unfold zDV zEt zDQ fmt10
 simp[h0,h1]
theorem z2l{n:Int}(h0:0≤n)(h1:n≤9): zDV n=some (dgt n):=by
 rw[itoa_M (by omega) (by omega)]
 unfold Lib.itoa dgt
 rw[Qi (by omega),Lib.decDigits,dif_pos (by omega)]
theorem zXR{s:zD}(h:vName s=true): wd s=true:=by
 cases s with
 | nil=>simp[vName] at h
 | cons c r =>
  have key:∀ b:UInt8,okB b=true->(!Lib.isSp b&&decide (b.toNat<128))=true:=by
   intro b hb
   have:∀ n:_root_.Fin 256,okB (UInt8.ofNat n.val)=true->(!Lib.isSp (UInt8.ofNat n.val)&&decide ((UInt8.ofNat n.val).toNat<128))=true:=by decide +kernel
   have h2:=this ⟨b.toNat,b.toNat_lt⟩
   simpa using h2 (by simpa using hb)
  simp[vName] at h
  obtain⟨⟨h1,h2⟩,h3⟩:=h
  have hlo:okB c=true:=by
   have:∀ n:_root_.Fin 256,loB (UInt8.ofNat n.val)=true->okB (UInt8.ofNat n.val)=true:=by decide +kernel
   have h4:=this ⟨c.toNat,c.toNat_lt⟩
   simpa using h4 (by simpa using h2)
  simp[wd]
  refine⟨by simpa using key c hlo,λb hb=>?_⟩
  have:=key b (h3 b hb)
  simpa using this
theorem wd_cons{c:UInt8}{s:zD}(hc:(!Lib.isSp c&&decide (c.toNat<128))=true)(h:wd s=true): wd (c::s)=true:=by
 simp[wd] at h ⊢
 exact⟨by simpa using hc,h.2⟩
theorem z6E{c:UInt8}{s:zD}(hc:(!Lib.isSp c&&decide (c.toNat<128))=true)(h:wd s=true): wd (s++[c])=true:=by
 simp only[wd,QA,List.all_append,U8,List.all_nil,U9] at h ⊢
 exact⟨by simp,h.2,by simpa using hc⟩
theorem z43{x:zI}(h:vName x.2=true): wd (zFe x)=true:=by
 unfold zFe
 rw[Ql h]
 split
 ·exact wd_cons (by decide) (zXR h)
 ·exact zXR h
end
section
def zP4 (k:Int): zD:=if k=1 then[97,120,105,111,109] else if k=2 then[112,114,101,109,105,115,101] else[97,115,115,117,109,101]
def z5R:zD:=[102,114,111,109]
def zUa (p:vE): List zD:=[zP4 p.2.1,zFe p.1]++(if p.2.1=2 then[dgt p.2.2.1] else[])++(if p.2.2.2=[] then[] else[z5R,p.2.2.2])
def uS:List zI->List zD
 | []=>[]
 | [x]=>[zFe x]
 | x::y::r=>(zFe x++[44])::uS (y::r)
def zLN:zD:=[115,116,114,105,99,116]
def zPT:zD:=[114,117,108,101]
def z3x (s:Bool): zD:=if s then[45,62] else[61,62]
def zP9 (r:qH): List zD:=(if r.2.1 then[zLN,r.1++[58]] else[zPT,r.1,dgt r.2.2.1++[58]])++uS r.2.2.2.1++[z3x r.2.1,zFe r.2.2.2.2]
def zZN:zD:=[112,114,111,109,111,116,101]
def ifW:zD:=[105,102]
def zUk (p:wW): List zD:=[zZN,p.1,dgt p.2.1,ifW,zFe p.2.2]
theorem z4x (k:Int): (zP4 k).length≤7:=by
 unfold zP4
 split
 ·decide
 ·split <;> decide
theorem kinds_idx{k:Int}(h:k=1∨k=2∨k=3): zC zBE k=some (zP4 k):=by rcases h with rfl | rfl | rfl <;> rfl
theorem z8I{p:vE}(hk:p.2.1=1∨p.2.1=2∨p.2.1=3)(h0:0≤p.2.2.1)(h9:p.2.2.1≤9)(hs:p.2.2.2.length≤1000000): zF2 p=some (jn (zUa p)):=by
 obtain⟨x,k,n,s⟩:=p
 simp only at hk h0 h9 hs
 have hl:=zGN x
 have hkl:=z4x k
 unfold zF2 zUa
 simp only[kinds_idx hk,zQW,zob]
 by_cases h2:k=2
 ·subst h2
  simp only[Ue,Qf,z2l h0 h9,zob]
  rw[wD (by simp)]
  by_cases hs0:s=[]
  ·subst hs0
   simp only[zob,Ue,QO,zbf,Qc,Qf,QF]
   rw[zXF (by simp) (by simp[dgt];omega)]
   rfl
  ·have:(s==[])=false:=by simpa using hs0
   simp only[zob,this,Ul,Qf,Qi hs0]
   rw[wD (by simp)]
   simp only[zob]
   rw[zXF (by simp) (by simp[dgt];omega)]
   rfl
 ·have hk2:(k==2)=false:=by simpa using h2
  simp only[hk2,zbf,Qc,zob,Qi h2,QF]
  by_cases hs0:s=[]
  ·subst hs0
   simp only[zob,Ue,QO,zbf,Qc,Qf,QF]
   rw[zXF (by simp) (by simp;omega)]
   rfl
  ·have:(s==[])=false:=by simpa using hs0
   simp only[this,Ul,Qf,Qi hs0]
   rw[wD (by simp)]
   simp only[zob]
   rw[zXF (by simp) (by simp;omega)]
   rfl
theorem zMl:∀ l:List zI,(uS l).length=l.length
 | []=>rfl
 | [_]=>rfl
 | _::y::r=>by simp[uS,zMl (y::r)]
theorem z5y:∀(l:List zI) (i:Nat),(uS l)[i]?=l[i]?.map λx=>if i+1<l.length then zFe x++[44] else zFe x
 | [],i=>by simp[uS]
 | [x],i=>by cases i <;> simp[uS]
 | x::y::r,0=>by simp[uS]
 | x::y::r,i+1=>by
  simp only[uS,Q2,z5y (y::r) i,QK]
  congr 1
  have:(i+1<r.length+1)↔(i+1+1<r.length+1+1):=by omega
  simp
theorem zZd:∀ l:List zI,((uS l).map List.length).sum≤14*l.length
 | []=>by simp[uS]
 | [x]=>by grind [zGN,uS]
 | x::y::r=>by
  have:=zGN x
  have:=zZd (y::r)
  grind [uS]
theorem z8T (r:qH)(pre:List zD)(hb:r.2.2.2.1.length≤10000)(hp:pre.length≤3): zN (zDr r) (pre,0)=some (pre++uS r.2.2.2.1):=by
 have h:=uP (B:=zDr r) (λi (s:List zD)=>(s,(i:Int))) r.2.2.2.1 (λi s=>s=pre++(uS r.2.2.2.1).take i) (λo=>o=pre++uS r.2.2.2.1) ?_ ?_ pre (by simp)
 ·obtain⟨o,h1,rfl⟩:=h
  exact h1
 ·intro i x s hx hs
  subst hs
  have hi:=(Qe.1 hx).1
  refine .inl ⟨pre++(uS r.2.2.2.1).take (i+1),?_,rfl⟩
  have hg:(uS r.2.2.2.1)[i]?=some (if i+1<r.2.2.2.1.length then zFe x++[44] else zFe x):=by rw[z5y,hx];rfl
  have htk:(uS r.2.2.2.1).take (i+1)=(uS r.2.2.2.1).take i++[if i+1<r.2.2.2.1.length then zFe x++[44] else zFe x]:=by rw[Um,hg];rfl
  have hl:=zGN x
  unfold zDr
  have h1:decide ((i:Int)<len r.2.2.2.1)=true:=by simp;omega
  simp only[h1,Qf,tC,hx,zob,zQW]
  have h2:zH (len r.2.2.2.1-1)=(r.2.2.2.1.length:Int)-1:=vJ (x:=(r.2.2.2.1.length:Int)-1) (by omega) (by omega)
  rw[h2]
  have htl:((uS r.2.2.2.1).take i).length≤10000:=by rw[QB,zMl];omega
  by_cases hlt:i+1<r.2.2.2.1.length
  ·have h3:decide ((i:Int)<(r.2.2.2.1.length:Int)-1)=true:=by simp;omega
   simp[h3]
   rw[zWN (by simp;omega)]
   simp
   rw[wD (by simp;omega),yJ i (by omega),htk,Ql hlt,Qs]
   rfl
  ·have h3:decide ((i:Int)<(r.2.2.2.1.length:Int)-1)=false:=by simp;omega
   simp[h3]
   rw[wD (by simp;omega),yJ i (by omega),htk,Qi hlt,Qs]
   rfl
 ·intro s hs
  subst hs
  refine⟨_,?_,rfl⟩
  unfold zDr
  have h1:decide ((r.2.2.2.1.length:Int)<len r.2.2.2.1)=false:=by simp
  have h2:(uS r.2.2.2.1).take r.2.2.2.1.length=uS r.2.2.2.1:=Qx (by rw[zMl];exact Qr _)
  simp[h2]
theorem z71{r:qH}(h0:0≤r.2.2.1)(h9:r.2.2.1≤9)(hn:r.1.length≤1000000)(hb:r.2.2.2.1.length≤10000): zH8 r=some (jn (zP9 r)):=by
 have hl:=zGN r.2.2.2.2
 have hs:=zZd r.2.2.2.1
 have hbl:=zMl r.2.2.2.1
 unfold zH8 zP9
 rw[zWN (by simp;omega)]
 cases hst:r.2.1 with
 | true =>
  simp
  rw[z8T r _ hb (by simp)]
  simp[zQW]
  rw[wD (by simp;omega)]
  simp
  rw[zXF (by simp;omega) (by simp;omega)]
  rfl
 | false =>
  simp[z2l h0 h9]
  rw[zWN (by simp[dgt])]
  simp
  rw[z8T r _ hb (by simp)]
  simp[zQW]
  rw[wD (by simp;omega)]
  simp
  rw[zXF (by simp;omega) (by simp[dgt];omega)]
  rfl
theorem z7t{p:wW}(h0:0≤p.2.1)(h9:p.2.1≤9)(hn:p.1.length≤1000000): zE5 p=some (jn (zUk p)):=by
 have hl:=zGN p.2.2
 unfold zE5 zUk
 rw[zWN (by simp;omega)]
 simp
 rw[zWN (by simp;omega)]
 simp[z2l h0 h9]
 rw[zWN (by simp[dgt];omega)]
 simp
 rw[zWN (by simp[dgt];omega)]
 simp[zQW]
 rw[zWN (by simp[dgt];omega)]
 simp[z2Z,z4p,zZN,ifW]
end
section
def okP (p:vE): Prop:=(p.2.1=1∨p.2.1=2∨p.2.1=3)∧vName p.1.2=true∧0≤p.2.2.1∧p.2.2.1≤9∧(p.2.1=2∨p.2.2.1=0)∧(p.2.2.2=[]∨vName p.2.2.2=true)
def okR (r:qH): Prop:=vName r.1=true∧vName r.2.2.2.2.2=true∧0≤r.2.2.1∧r.2.2.1≤9∧(r.2.1=true->r.2.2.1=0)∧∀ x∈r.2.2.2.1,vName x.2=true
def okT (p:wW): Prop:=vName p.1=true∧0≤p.2.1∧p.2.1≤9∧vName p.2.2.2=true
theorem okP_of{p:vE}(h:tW p=0): okP p:=by
 unfold tW at h
 split at h
 ·rename_i hk
  split at h
  ·rename_i h2
   grind [okP]
  grind
 grind
theorem okR_of{r:qH}(h:tG r=0): okR r∧r.2.2.2.1.length≤4:=by
 unfold tG at h
 split at h
 ·simp at h
 ·split at h
  ·rename_i h2
   simp only[Uv,Q5,QA,zL9,Qm,Bool.not_eq_true',QW] at h2
   obtain⟨⟨⟨⟨h1,h3⟩,h4,h5⟩,h6⟩,h7⟩:=h2
   refine⟨⟨h1,h3,h4,h5,λhs=>?_,h7⟩,by omega⟩
   grind
  grind
theorem okT_of{b:zM}{p:wW}(h:zXl b p=0)(hf:0≤zPy b p.1->vName p.1=true): okT p:=by
 unfold zXl at h
 split at h
 ·rename_i h2
  grind [okT]
 grind
def fmtT (b:zM): zD:=(b.1.flatMap λp=>jn (zUa p)++[10])++((b.2.1.flatMap λr=>jn (zP9 r)++[10])++(b.2.2.flatMap λp=>jn (zUk p)++[10]))
end
section
theorem zJN (w:zD)(r:List zD)(b:Bool): zAE (w::r,b)=some (w,r,b):=by
 unfold zAE
 have h2:zC (w::r) 0=some w:=rfl
 have h3:sub (w::r) 1 (len (w::r))=some r:=by rw[zX9 (by omega) (by simp;omega)];rfl
 rw[h2]
 rw[h3]
 rfl
theorem next_nil (b:Bool): zAE ([],b)=some ([],[],true):=rfl
theorem zQr (l:List zD)(b:Bool): zAE (l,b)=some (l.headD [],l.tail,b||l.isEmpty):=by
 cases l with
 | nil=>rw[next_nil];simp
 | cons w r=>rw[zJN];simp
def z8Z (s u:zD): zD×Bool:=if u.length≤s.length∧s.drop (s.length-u.length)=u then(s.take (s.length-u.length),true) else(s,false)
theorem zQU{s u:zD}(h:s.length<1000000): zEG s u=some (z8Z s u):=by
 have hs:zCJ s u=some (decide (u.length≤s.length∧s.drop (s.length-u.length)=u)):=by
  unfold zCJ
  by_cases hl:u.length≤s.length
  ·have h1:decide (len u≤len s)=true:=Qy (show(u.length:Int)≤s.length by omega)
   have h2:zH (len s-len u)=((s.length-u.length:Nat):Int):=by rw[vJ (x:=(s.length:Int)-u.length) (by omega) (by omega)];omega
   simp only[h1,Qf,h2]
   rw[zX9 (by omega) (by omega)]
   simp[hl]
   congr 1
   rw[QZ];simp
  ·simp[hl]
 unfold zEG zDi z8Z
 rw[hs]
 by_cases hc:u.length≤s.length∧s.drop (s.length-u.length)=u
 ·have h2:zH (len s-len u)=((s.length-u.length:Nat):Int):=by rw[vJ (x:=(s.length:Int)-u.length) (by omega) (by omega)];omega
  simp[Qy hc,h2,Ql hc]
  rw[zNJ (by omega) (by omega)]
  simp
 ·simp[Q9 hc,Qi hc]
theorem z2c (s u:zD): z8Z (s++u) u=(s,true):=by
 unfold z8Z
 rw[Ql] <;> simp
theorem cutX_len (s u:zD): (z8Z s u).1.length≤s.length:=by
 unfold z8Z
 split
 ·simp[QB]
 ·simp
def ShT (l:List zD): Prop:=∀ w∈l,w.length≤5000
theorem ShT.head{l:List zD}(h:ShT l): (l.headD []).length≤5000:=by
 cases l with
 | nil=>simp
 | cons w r=>exact h w (by simp)
theorem ShT.tail{l:List zD}(h:ShT l): ShT l.tail:=λw hw=>h w (List.mem_of_mem_tail hw)
theorem zV5{l:List zD}(h:ShT l)(b:Bool)(u:zD): ∃ s b',zAS (l,b) u=some (s,l.tail,b')∧s.length≤5000∧(b'=false->b=false∧vName s=true):=by
 have hh:=h.head
 have hc:=cutX_len (l.headD []) u
 unfold zAS
 rw[zQr]
 simp only[zob,zQU (u:=u) (show(l.headD []).length<1000000 by omega)]
 cases hb:(b||l.isEmpty) with
 | true=>exact⟨_,true,rfl,by omega,by simp⟩
 | false =>
  simp only[Un] at hb
  simp only[zbf,Qc]
  cases hx:(z8Z (l.headD []) u).2 with
  | false=>exact⟨_,true,rfl,by omega,by simp⟩
  | true =>
   simp only[QO,zbf,Qc,zSw,zob]
   exact⟨_,_,rfl,by omega,λh=>⟨hb.1,by simpa using h⟩⟩
theorem z3d{s:zD}(h:vName s=true)(u:zD)(hu:u.length≤1)(r:List zD)(b:Bool): zAS ((s++u)::r,b) u=some (s,r,b):=by
 have:=zLZ h
 unfold zAS
 rw[zJN]
 simp
 rw[zQU (by simp;omega),z2c]
 simp[zSw,h]
 cases b <;> rfl
theorem z6G{s:zD}(h:(zRE s).2=0): vName (zRE s).1.2=true:=by
 by_cases h1:∃ r,s=126::r
 ·obtain⟨r,rfl⟩:=h1
  rw[zPZ] at h ⊢
  split at h
  ·rename_i hv;rw[Ql hv];exact hv
  ·simp at h
 ·rw[zM3 λr hr=>h1 ⟨r,hr⟩] at h ⊢
  split at h
  ·rename_i hv;rw[Ql hv];exact hv
  ·simp at h
theorem z3a{l:List zD}(h:ShT l)(b:Bool)(u:zD): ∃ x b',zAf (l,b) u=some (x,l.tail,b')∧(b'=false->b=false∧vName x.2=true):=by
 have hh:=h.head
 unfold zAf
 rw[zQr]
 simp only[zob,zQU (u:=u) (show(l.headD []).length<1000000 by omega),z4Q]
 cases hb:(b||l.isEmpty) with
 | true=>exact⟨_,true,rfl,by simp⟩
 | false =>
  simp only[Un] at hb
  simp only[zbf,Qc]
  cases hx:(z8Z (l.headD []) u).2 with
  | false=>exact⟨_,true,rfl,by simp⟩
  | true =>
   simp only[QO,zbf,Qc,zob]
   exact⟨_,_,rfl,λh=>⟨hb.1,z6G (by simpa using h)⟩⟩
theorem z30{x:zI}(h:vName x.2=true): zRE (zFe x)=(x,0):=by
 obtain⟨g,s⟩:=x
 unfold zFe
 rw[Ql h]
 cases g with
 | true=>simp;rw[zPZ,Ql h]
 | false =>
  simp
  rw[zM3,Ql h]
  rintro r rfl
  exact absurd h (by simp[vName,loB])
theorem z5N{x:zI}(h:vName x.2=true)(u:zD)(hu:u.length≤1)(r:List zD)(b:Bool): zAf ((zFe x++u)::r,b) u=some (x,r,b):=by
 have:=zGN x
 unfold zAf
 rw[zJN]
 simp
 rw[zQU (by simp;omega),z2c]
 simp[z4Q,z30 h]
 cases b <;> rfl
theorem z3E{l:List zD}(h:ShT l)(b:Bool)(u:zD): ∃ n b',zAy (l,b) u=some (n,l.tail,b')∧0≤n∧n≤9∧(b'=false->b=false):=by
 have hh:=h.head
 unfold zAy
 rw[zQr]
 simp only[zob,zQU (u:=u) (show(l.headD []).length<1000000 by omega)]
 cases hx:(z8Z (l.headD []) u).2 with
 | false=>exact⟨0,true,rfl,by omega,by omega,by simp⟩
 | true =>
  simp only[QO,zbf,Qc]
  by_cases h1:(z8Z (l.headD []) u).1.length=1
  ·obtain⟨c,hc⟩:=List.length_eq_one_iff.1 h1
   have e1:((len (z8Z (l.headD []) u).1) != 1)=false:=by rw[hc];rfl
   have e2:xX (z8Z (l.headD []) u).1 0=some (c.toNat:Int):=by rw[hc];rfl
   simp only[e1,zbf,Qc,e2,zob]
   by_cases h2:c.toNat<48
   ·have:decide ((c.toNat:Int)<48)=true:=by simp;omega
    simp only[this,Qf,zob]
    exact⟨0,true,rfl,by omega,by omega,by simp⟩
   ·have:decide ((c.toNat:Int)<48)=false:=by simp;omega
    simp only[this,zbf,Qc,zob]
    by_cases h3:57<c.toNat
    ·have:decide ((57:Int)<c.toNat)=true:=by simp;omega
     simp only[this,Qf]
     exact⟨0,true,rfl,by omega,by omega,by simp⟩
    ·have:decide ((57:Int)<c.toNat)=false:=by simp;omega
     simp only[this,zbf,Qc]
     have hw:zH (IntKind.u8.wrap ((c.toNat:Int)-48))=(c.toNat:Int)-48:=by
      have:IntKind.u8.wrap ((c.toNat:Int)-48)=(c.toNat:Int)-48:=by simp only[IntKind.wrap,IntKind.signed,IntKind.bits,UA,zbf,Qc];omega
      rw[this,vJ (by omega) (by omega)]
     rw[hw]
     exact⟨_,_,rfl,by omega,by omega,λh=>by simp only[Un] at h;exact h.1⟩
  ·have e1:((len (z8Z (l.headD []) u).1) != 1)=true:=bne_iff_ne.2 (show((z8Z (l.headD []) u).1.length:Int)≠1 by omega)
   simp only[e1,Qf]
   exact⟨0,true,rfl,by omega,by omega,by simp⟩
theorem z7G{n:Int}(h0:0≤n)(h9:n≤9)(u:zD)(hu:u.length≤1)(r:List zD)(b:Bool): zAy ((dgt n++u)::r,b) u=some (n,r,b):=by
 unfold zAy
 rw[zJN]
 simp only[zob]
 rw[zQU (by simp[dgt];omega),z2c]
 obtain⟨k,rfl⟩:∃ k:Nat,n=k:=⟨n.toNat,by omega⟩
 have hd:dgt (k:Int)=[UInt8.ofNat (48+k)]:=rfl
 have hc:(UInt8.ofNat (48+k)).toNat=48+k:=by simp;omega
 have e3:xX [UInt8.ofNat (48+k)] 0=some ((UInt8.ofNat (48+k)).toNat:Int):=rfl
 have e2:xX (dgt (k:Int)) 0=some ((48+k:Nat):Int):=by rw[hd,e3,hc]
 have e1:((len (dgt (k:Int))) != 1)=false:=rfl
 simp only[zob,QO,zbf,Qc,e1,e2]
 have d1:decide (((48+k:Nat):Int)<48)=false:=by simp;omega
 have d2:decide ((57:Int)<((48+k:Nat):Int))=false:=by simp;omega
 simp only[d1,d2,zbf,Qc,zob]
 have hw:zH (IntKind.u8.wrap (((48+k:Nat):Int)-48))=(k:Int):=by
  have:IntKind.u8.wrap (((48+k:Nat):Int)-48)=(k:Int):=by simp only[IntKind.wrap,IntKind.signed,IntKind.bits,UA,zbf,Qc];omega
  rw[this,vJ (by omega) (by omega)]
 rw[hw]
end
section
theorem prem_any{l:List zD}(h:ShT l)(b:Bool){k:Int}(hk:k=1∨k=2∨k=3): ∃ p r b',zCH (l,b) k=some (p,r,b')∧p.2.1=k∧0≤p.2.2.1∧p.2.2.1≤9∧p.2.2.2.length≤5000∧(b'=false->okP p):=by
 obtain⟨x,b1,e1,h1⟩:=z3a h b []
 unfold zCH
 rw[e1]
 simp only[zob]
 have hs1:∃ l2 b2 n,(if k==2 then(zAy (l.tail,b1) []).bind λr2=>some (r2.2.1,r2.2.2,r2.1) else some (l.tail,b1,0):Option ((List zD)×Bool×Int))=some (l2,b2,n)∧ShT l2∧0≤n∧n≤9∧(k=2∨n=0)∧(b2=false->b1=false):=by
  by_cases h2:k=2
  ·obtain⟨n,b2,e2,h3,h4,h5⟩:=z3E h.tail b1 []
   have:(k==2)=true:=by simpa using h2
   simp only[this,Qf,e2,zob]
   exact⟨_,_,_,rfl,h.tail.tail,h3,h4,.inl h2,h5⟩
  ·have:(k==2)=false:=by simpa using h2
   simp only[this,zbf,Qc]
   exact⟨_,_,_,rfl,h.tail,by omega,by omega,.inr rfl,id⟩
 obtain⟨l2,b2,n,e2,hs,hn0,hn9,hkn,h2⟩:=hs1
 rw[e2]
 simp only[zob]
 have hs2:∃ l3 b3 sr,(if decide (0<(len l2)) then
   (if b2 then some (l2,true) else(zAE (l2,b2)).bind λr3=>some (r3.2.1,!(r3.1==[102,114,111,109])):Option ((List zD)×Bool)).bind λs3 =>
   (zAS (s3.1,s3.2) []).bind λr4=>some (r4.2.1,r4.2.2,r4.1)
  else some (l2,b2,[]):Option ((List zD)×Bool×zD))=some (l3,b3,sr)∧sr.length≤5000∧(b3=false->b2=false∧(sr=[]∨vName sr=true)):=by
  by_cases h0:0<l2.length
  ·have:decide (0<len l2)=true:=Qy (show(0:Int)<l2.length by omega)
   simp only[this,Qf]
   cases b2 with
   | true =>
    simp only[Qf,zob]
    obtain⟨sr,b4,e4,h4,h5⟩:=zV5 hs true []
    simp only[e4,zob]
    exact⟨_,_,_,rfl,h4,λh=>absurd (h5 h).1 (by simp)⟩
   | false =>
    simp only[zbf,Qc,zQr,zob]
    obtain⟨sr,b4,e4,h4,h5⟩:=zV5 hs.tail (!(l2.headD []==[102,114,111,109])) []
    simp only[e4,zob]
    exact⟨_,_,_,rfl,h4,λh=>⟨by trivial,.inr (h5 h).2⟩⟩
  ·have:decide (0<len l2)=false:=Q9 (show ¬ (0:Int)<l2.length by omega)
   simp only[this,zbf,Qc]
   exact⟨_,_,_,rfl,by simp,λh=>⟨h,.inl rfl⟩⟩
 obtain⟨l3,b3,sr,e3,hsr,h3⟩:=hs2
 rw[e3]
 simp only[zob]
 exact⟨(x,k,n,sr),l3,b3,rfl,rfl,hn0,hn9,hsr,λhb=>⟨hk,(h1 (h2 (h3 hb).1)).2,hn0,hn9,hkn,(h3 hb).2⟩⟩
theorem prem_ok{p:vE}(h:okP p): zCH ((zUa p).tail,false) p.2.1=some (p,[],false):=by
 obtain⟨x,k,n,s⟩:=p
 obtain⟨hk,hx,h0,h9,hkn,hs⟩:=h
 have e1:=λr=>z5N hx [] (by simp) r false
 simp at e1
 have e2:=λr=>z7G h0 h9 [] (by simp) r false
 simp at e2
 unfold zCH zUa
 simp only[Ur,QI,List.tail_cons]
 rw[e1]
 have src:∀ n:Int,((if decide (0<(len (if s=[] then([]:List zD) else[z5R,s]))) then
   (if false then some ((if s=[] then([]:List zD) else[z5R,s]),true) else(zAE ((if s=[] then([]:List zD) else[z5R,s]),false)).bind λr3=>some (r3.2.1,!(r3.1==[102,114,111,109])):Option ((List zD)×Bool)).bind λs3 =>
   (zAS (s3.1,s3.2) []).bind λr4=>some (r4.2.1,r4.2.2,r4.1)
  else some ((if s=[] then([]:List zD) else[z5R,s]),false,[]):Option ((List zD)×Bool×zD)).bind λs2=>some ((x,k,n,s2.2.2),s2.1,s2.2.1))=some ((x,k,n,s),[],false):=by
  intro n
  by_cases hs0:s=[]
  ·subst hs0;simp
  ·have hv:=hs.resolve_left hs0
   have e3:=z3d hv [] (by simp) [] false
   simp at e3
   have h1:decide (0<len [z5R,s])=true:=by simp
   have h2:(z5R==[102,114,111,109])=true:=rfl
   simp[Qi hs0,zJN,h2,e3]
 by_cases h2:k=2
 ·have hk2:(k==2)=true:=by simpa using h2
  simp only[hk2,Qf,Ql h2,List.singleton_append,e2,zob]
  exact src n
 ·have hk2:(k==2)=false:=by simpa using h2
  obtain rfl:n=0:=hkn.resolve_left h2
  simp only[hk2,zbf,Qc,Qi h2,QI,zob]
  exact src 0
theorem prom_any{l:List zD}(h:ShT l)(b:Bool): ∃ p r b',zBi (l,b)=some (p,r,b')∧0≤p.2.1∧p.2.1≤9∧p.1.length≤5000∧(b'=false->okT p):=by
 obtain⟨s,b1,e1,h1,h1'⟩:=zV5 h b []
 obtain⟨n,b2,e2,h2,h2',h2''⟩:=z3E h.tail b1 []
 unfold zBi
 rw[e1]
 simp only[zob,e2]
 have hs1:∃ l3 b3,(if b2 then some (l.tail.tail,true) else(zAE (l.tail.tail,b2)).bind λr3=>some (r3.2.1,!(r3.1==[105,102])):Option ((List zD)×Bool))=some (l3,b3)∧ShT l3∧(b3=false->b2=false):=by
  cases b2 with
  | true=>exact⟨_,_,rfl,h.tail.tail,by simp⟩
  | false =>
   simp only[zbf,Qc,zQr,zob]
   exact⟨_,_,rfl,h.tail.tail.tail,λ_=>by trivial⟩
 obtain⟨l3,b3,e3,h3,h3'⟩:=hs1
 rw[e3]
 obtain⟨x,b4,e4,h4⟩:=z3a h3 b3 []
 simp only[zob,e4]
 exact⟨(s,n,x),_,b4,rfl,h2,h2',h1,λhb=>⟨(h1' (h2'' (h3' (h4 hb).1))).2,h2,h2',(h4 hb).2⟩⟩
theorem prom_ok{p:wW}(h:okT p): zBi ((zUk p).tail,false)=some (p,[],false):=by
 obtain⟨s,n,x⟩:=p
 obtain⟨hs,h0,h9,hx⟩:=h
 have e1:=λr=>z3d hs [] (by simp) r false
 simp at e1
 have e2:=λr=>z7G h0 h9 [] (by simp) r false
 simp at e2
 have e3:=λr=>z5N hx [] (by simp) r false
 simp at e3
 unfold zBi zUk
 simp[e1,e2,zJN]
 have h2:(ifW==[105,102])=true:=rfl
 simp[h2,e3]
theorem body_any{l:List zD}(h:ShT l)(b:Bool)(acc:List zI)(ha:acc.length+l.length≤10000)(hv:b=false->∀ x∈acc,vName x.2=true):
  ∃ r b' body,zN zBd (l,b,acc)=some (r,b',body)∧ShT r∧body.length≤10000∧(b'=false->b=false∧∀ x∈body,vName x.2=true):=by
 have h:=z7k (B:=zBd) (λs=>s.1.length) (λs=>ShT s.1∧s.2.2.length+s.1.length≤10000∧(s.2.1=false->b=false∧∀ x∈s.2.2,vName x.2=true))
  (λo=>ShT o.1∧o.2.2.length≤10000∧(o.2.1=false->b=false∧∀ x∈o.2.2,vName x.2=true)) ?_ (l,b,acc) ⟨h,ha,λhb=>⟨hb,hv hb⟩⟩
 ·obtain⟨⟨r,b',body⟩,h1,h2,h3,h4⟩:=h
  exact⟨r,b',body,h1,h2,h3,h4⟩
 ·rintro ⟨l,bb,acc⟩ ⟨hs,hl,hv⟩
  unfold zBd
  simp only at hs hl hv ⊢
  by_cases hc:2<l.length∧bb=false
  ·obtain⟨h2,rfl⟩:=hc
   have:(decide (2<len l)&&!false)=true:=by simp;exact(show(2:Int)<l.length by omega)
   simp only[this,Qf]
   have hcm:∃ u:zD,(if(len l)==3 then some [] else some [44]:Option zD)=some u:=by split <;> exact⟨_,rfl⟩
   obtain⟨u,hu⟩:=hcm
   rw[hu]
   obtain⟨x,b1,e1,h1⟩:=z3a hs false u
   simp only[zob,e1]
   rw[wD (by simp;omega)]
   simp only[zob]
   refine .inl ⟨_,rfl,⟨hs.tail,by simp;omega,λhb=>⟨(hv rfl).1,λy hy=>?_⟩⟩,by simp;omega⟩
   rcases Qb.1 hy with hy | hy
   ·exact(hv rfl).2 y hy
   ·simp at hy;subst hy;exact(h1 hb).2
  ·have:(decide (2<len l)&&!bb)=false:=by
    cases bb with
    | true=>simp
    | false =>
     simp only[Ul,U9]
     exact Q9 (show ¬ (2:Int)<l.length by simp at hc;omega)
   simp only[this,zbf,Qc]
   exact .inr ⟨_,rfl,hs,by show acc.length≤10000;omega,hv⟩
theorem zXX{σ ρ:Type}{B:σ->Option (σ⊕ρ)}{s s':σ}(h:B s=some (.inl s')): zN B s=zN B s':=by rw[yF,h]
theorem zQp{σ ρ:Type}{B:σ->Option (σ⊕ρ)}{s:σ}{r:ρ}(h:B s=some (.inr r)): zN B s=some r:=by rw[yF,h]
theorem z6Y:∀(l:List zI) (a h:zD) (acc:List zI),(∀ x∈l,vName x.2=true)->acc.length+l.length≤10000->zN zBd (uS l++[a,h],false,acc)=some ([a,h],false,acc++l)
 | [],a,h,acc,_,_=>by
  rw[QF]
  exact zQp rfl
 | x::r,a,h,acc,hv,hl=>by
  have hx:=hv x (by simp)
  have ih:=z6Y r a h (acc++[x]) (λy hy=>hv y (by simp[hy])) (by simp at hl ⊢;omega)
  have step:zBd (uS (x::r)++[a,h],false,acc)=some (.inl (uS r++[a,h],false,acc++[x])):=by
   unfold zBd
   have hc:(decide (2<len (uS (x::r)++[a,h]))&&!false)=true:=by
    simp only[Ul,U9]
    exact Qy (show(2:Int)<(uS (x::r)++[a,h]).length by rw[Qd,zMl];simp;omega)
   simp only[hc,Qf]
   cases r with
   | nil =>
    have h3:((len (uS [x]++[a,h]))==3)=true:=rfl
    have e1:=z5N hx [] (by simp) [a,h] false
    rw[QF] at e1
    have e0:uS [x]++[a,h]=zFe x::[a,h]:=rfl
    simp[h3]
    rw[e0,e1]
    simp
    rw[wD (by simp;omega)]
    rfl
   | cons y r =>
    have h3:((len (uS (x::y::r)++[a,h]))==3)=false:=by
     have:((uS (x::y::r)++[a,h]).length:Int)≠3:=by rw[Qd,zMl];simp;omega
     exact U4 this
    have e1:=z5N hx [44] (by simp) (uS (y::r)++[a,h]) false
    have e0:uS (x::y::r)++[a,h]=(zFe x++[44])::(uS (y::r)++[a,h]):=rfl
    simp[h3]
    rw[e0,e1]
    simp
    rw[wD (by simp;omega)]
    rfl
  rw[zXX step,ih]
  simp
theorem rule_any{l:List zD}(h:ShT l)(hl:l.length≤5000)(st:Bool): ∃ q r b',zDJ (l,false) st=some (q,r,b')∧q.2.1=st∧0≤q.2.2.1∧q.2.2.1≤9∧q.1.length≤5000∧q.2.2.2.1.length≤10000∧(b'=false->okR q):=by
 unfold zDJ
 have hs1:∃ ar l1 b1 nm rk,(if st then(zAS (l,false) [58]).bind λr1=>some ([45,62],r1.2.1,r1.2.2,r1.1,0)
  else(zAS (l,false) []).bind λr2=>(zAy (r2.2.1,r2.2.2) [58]).bind λr3=>some ([61,62],r3.2.1,r3.2.2,r2.1,r3.1):Option (zD×(List zD)×Bool×zD×Int))=some (ar,l1,b1,nm,rk) ∧
   ShT l1∧l1.length≤5000∧nm.length≤5000∧0≤rk∧rk≤9∧(st=true->rk=0)∧(b1=false->vName nm=true):=by
  cases st with
  | true =>
   obtain⟨s,b1,e1,h1,h1'⟩:=zV5 h false [58]
   simp only[Qf,e1,zob]
   exact⟨_,_,_,_,_,rfl,h.tail,by simp;omega,h1,by omega,by omega,λ_=>rfl,λhb=>(h1' hb).2⟩
  | false =>
   obtain⟨s,b1,e1,h1,h1'⟩:=zV5 h false []
   obtain⟨n,b2,e2,h2,h2',h2''⟩:=z3E h.tail b1 [58]
   simp only[zbf,Qc,e1,zob,e2]
   exact⟨_,_,_,_,_,rfl,h.tail.tail,by simp;omega,h1,h2,h2',λh=>(by cases h),λhb=>(h1' (h2'' hb)).2⟩
 obtain⟨ar,l1,b1,nm,rk,e1,hs,hl1,hnm,hr0,hr9,hst,h1⟩:=hs1
 rw[e1]
 obtain⟨l2,b2,body,e2,h2,hbd,h2'⟩:=body_any hs b1 [] (by simp;omega) (by simp)
 simp only[zob,e2]
 have hs2:∃ l3 b3,(if b2 then some (l2,true) else(zAE (l2,b2)).bind λr5=>some (r5.2.1,!(r5.1==ar)):Option ((List zD)×Bool))=some (l3,b3)∧ShT l3∧(b3=false->b2=false):=by
  cases b2 with
  | true=>exact⟨_,_,rfl,h2,by simp⟩
  | false =>
   simp only[zbf,Qc,zQr,zob]
   exact⟨_,_,rfl,h2.tail,λ_=>by trivial⟩
 obtain⟨l3,b3,e3,h3,h3'⟩:=hs2
 rw[e3]
 obtain⟨x,b4,e4,h4⟩:=z3a h3 b3 []
 simp only[zob,e4]
 exact⟨(nm,st,rk,body,x),_,b4,rfl,rfl,hr0,hr9,hnm,hbd,λhb=>⟨h1 (h2' (h3' (h4 hb).1)).1,(h4 hb).2,hr0,hr9,hst,(h2' (h3' (h4 hb).1)).2⟩⟩
theorem rule_ok{r:qH}(h:okR r)(hb:r.2.2.2.1.length≤5000): zDJ ((zP9 r).tail,false) r.2.1=some (r,[],false):=by
 obtain⟨nm,st,rk,body,x⟩:=r
 obtain⟨hn,hx,h0,h9,hst,hv⟩:=h
 simp only at hn hx h0 h9 hst hv hb
 have e5:=z5N hx [] (by simp) [] false
 rw[QF] at e5
 unfold zDJ zP9
 cases st with
 | true =>
  obtain rfl:=hst rfl
  simp
  rw[z3d hn [58] (by simp)]
  simp
  rw[z6Y body _ _ [] hv (by simp;omega)]
  have h2:(z3x true==[45,62])=true:=rfl
  simp[zJN,h2,e5]
 | false =>
  simp
  have e1:=λr=>z3d hn [] (by simp) r false
  simp at e1
  rw[e1]
  simp
  rw[z7G h0 h9 [58] (by simp)]
  simp
  rw[z6Y body _ _ [] hv (by simp;omega)]
  have h2:(z3x false==[61,62])=true:=rfl
  simp[zJN,h2,e5]
end
section
inductive El
 | p (x:vE)
 | r (x:qH)
 | t (x:wW)
def El.ok:El->Prop
 | .p x=>okP x
 | .r x=>okR x
 | .t x=>okT x
def El.ws:El->List zD
 | .p x=>zUa x
 | .r x=>zP9 x
 | .t x=>zUk x
abbrev El.line (e:El): zD:=jn e.ws
def El.kind:El->Int
 | .p _=>1
 | .r _=>2
 | .t _=>3
def El.add (b:zM): El->zM
 | .p x=>(b.1++[x],b.2.1,b.2.2)
 | .r x=>(b.1,b.2.1++[x],b.2.2)
 | .t x=>(b.1,b.2.1,b.2.2++[x])
theorem dgt_wd{n:Int}(h0:0≤n)(h9:n≤9): wd (dgt n)=true:=by
 obtain⟨k,rfl⟩:∃ k:Nat,n=k:=⟨n.toNat,by omega⟩
 have:∀ k:_root_.Fin 10,wd (dgt (k.val:Int))=true:=by decide +kernel
 exact this ⟨k,by omega⟩
theorem z7d:∀ l:List zI,(∀ x∈l,vName x.2=true)->∀ w∈uS l,wd w=true
 | [],_,w,hw=>by cases hw
 | [x],h,w,hw=>by
  simp[uS] at hw
  subst hw;exact z43 (h x (by simp))
 | x::y::r,h,w,hw=>by
  simp[uS] at hw
  rcases hw with rfl | hw
  ·exact z6E (by decide) (z43 (h x (by simp)))
  ·exact z7d (y::r) (λz hz=>h z (by simp at hz ⊢;exact .inr hz)) w hw
theorem kindW_wd (k:Int): wd (zP4 k)=true:=by
 unfold zP4
 split
 ·decide
 ·split <;> decide
theorem El.wd{e:El}(h:e.ok): ∀ w∈e.ws,wd w=true:=by
 cases e with
 | p x =>
  obtain⟨hk,hx,h0,h9,hkn,hs⟩:=h
  intro w hw
  simp only[El.ws,zUa,Qb,Qw,Uk,or_false] at hw
  rcases hw with((rfl | rfl) | hw) | hw
  ·exact kindW_wd _
  ·exact z43 hx
  ·split at hw
   ·simp at hw;subst hw;exact dgt_wd h0 h9
   ·cases hw
  ·split at hw
   ·cases hw
   ·rename_i hs0
    simp at hw
    rcases hw with rfl | rfl
    ·decide
    ·exact zXR (hs.resolve_left hs0)
 | r x =>
  obtain⟨hn,hx,h0,h9,hst,hv⟩:=h
  intro w hw
  simp only[El.ws,zP9,Qb,Qw,Uk,or_false] at hw
  rcases hw with(hw | hw) | (rfl | rfl)
  ·split at hw
   ·simp at hw
    rcases hw with rfl | rfl
    ·decide
    ·exact z6E (by decide) (zXR hn)
   ·simp at hw
    rcases hw with rfl | rfl | rfl
    ·decide
    ·exact zXR hn
    ·exact z6E (by decide) (dgt_wd h0 h9)
  ·exact z7d _ hv w hw
  ·unfold z3x;split <;> decide
  ·exact z43 hx
 | t x =>
  obtain⟨hn,h0,h9,hx⟩:=h
  intro w hw
  simp[El.ws,zUk] at hw
  rcases hw with rfl | rfl | rfl | rfl | rfl
  ·decide
  ·exact zXR hn
  ·exact dgt_wd h0 h9
  ·decide
  ·exact z43 hx
theorem El.fields{e:El}(h:e.ok): Lib.fieldsD e.line=e.ws:=z8o (El.wd h)
theorem z3o{w:zD}(rest:List zD×Bool)(k:Int)(hw:w=zP4 k)(hk:k=1∨k=2∨k=3): zN (zL4 (w,rest)) (1,0)=some k:=by
 have hw':zP4 k=w:=hw.symm
 rcases hk with rfl | rfl | rfl <;>
  (subst hw'
   refine zMx (n:=6) ?_
   rfl)
def BSh (b:zM): Prop:=b.1.length≤10000∧b.2.1.length≤10000∧b.2.2.length≤10000
theorem sel3 (w a b c:zD): (if w==a then some (w==a) else if w==b then some (w==b) else some (w==c):Option Bool)=some (decide (w=a∨w=b∨w=c)):=by
 by_cases h1:w=a
 ·subst h1;simp
 ·by_cases h2:w=b
  ·subst h2;simp
  ·have e1:(w==a)=false:=U4 h1
   have e2:(w==b)=false:=U4 h2
   simp[e1,e2]
   congr 1
   rw[QZ]
   simp[h1,h2]
theorem sel2 (w a b:zD): (if w==a then some (w==a) else some (w==b):Option Bool)=some (decide (w=a∨w=b)):=by
 by_cases h1:w=a
 ·subst h1;simp
 ·have e1:(w==a)=false:=U4 h1
  simp[e1]
  congr 1
  rw[QZ]
  simp[h1]
theorem add_any{l:List zD}(h:ShT l)(hl:l.length≤5000){b:zM}(hb:BSh b): ∃ k t r bad b',zD5 (l,false) b=some (k,t,r,bad,b')∧(bad=false->1≤k->∃ e:El,e.ok∧t=e.line∧k=e.kind∧b'=e.add b):=by
 unfold zD5
 rw[zQr]
 simp only[zob]
 have hs1:(if(l.headD [])==[97,120,105,111,109] then some ((l.headD [])==[97,120,105,111,109]) else
   if(l.headD [])==[112,114,101,109,105,115,101] then some ((l.headD [])==[112,114,101,109,105,115,101]) else some ((l.headD [])==[97,115,115,117,109,101]):Option Bool) =
   some (decide (l.headD []=zP4 1∨l.headD []=zP4 2∨l.headD []=zP4 3)):=sel3 _ _ _ _
 have hs4:(if(l.headD [])==[115,116,114,105,99,116] then some ((l.headD [])==[115,116,114,105,99,116]) else some ((l.headD [])==[114,117,108,101]):Option Bool) =
   some (decide (l.headD []=zLN∨l.headD []=zPT)):=sel2 _ _ _
 rw[hs1]
 simp only[zob,UO]
 by_cases hk:l.headD []=zP4 1∨l.headD []=zP4 2∨l.headD []=zP4 3
 ·obtain⟨k,hw,hk'⟩:∃ k:Int,l.headD []=zP4 k∧(k=1∨k=2∨k=3):=by
   rcases hk with h | h | h
   ·exact⟨1,h,by simp⟩
   ·exact⟨2,h,by simp⟩
   ·exact⟨3,h,by simp⟩
  simp only[Qy hk,Qf]
  rw[z3o _ k hw hk']
  obtain⟨p,r,b',e1,h1,h2,h3,h4,h5⟩:=prem_any h.tail l.isEmpty hk'
  simp only[zob,e1]
  rw[wD (by have:=hb.1;simp;omega),z8I (by rw[h1];exact hk') h2 h3 (by omega)]
  exact⟨1,_,r,b',_,rfl,λhbb _=>⟨.p p,h5 hbb,rfl,rfl,rfl⟩⟩
 ·simp only[Q9 hk,zbf,Qc]
  rw[hs4]
  simp only[zob]
  by_cases hr:l.headD []=zLN∨l.headD []=zPT
  ·simp only[Qy hr,Qf]
   have hne:l.isEmpty=false:=by
    cases l with
    | nil=>rcases hr with h | h <;> cases h
    | cons=>rfl
   rw[hne]
   obtain⟨q,r,b',e1,h1,h2,h3,h4,h5,h6⟩:=rule_any h.tail (by simp;omega) (l.headD []==[115,116,114,105,99,116])
   rw[e1]
   simp only[zob]
   rw[wD (by have:=hb.2.1;simp;omega),z71 h2 h3 (by omega) h5]
   exact⟨2,_,r,b',_,rfl,λhbb _=>⟨.r q,h6 hbb,rfl,rfl,rfl⟩⟩
  ·simp only[Q9 hr,zbf,Qc]
   split
   ·obtain⟨p,r,b',e1,h1,h2,h3,h4⟩:=prom_any h.tail l.isEmpty
    rw[e1]
    simp only[zob]
    rw[wD (by have:=hb.2.2;simp;omega),z7t h1 h2 (by omega)]
    exact⟨3,_,r,b',_,rfl,λhbb _=>⟨.t p,h4 hbb,rfl,rfl,rfl⟩⟩
   ·exact⟨0,_,_,_,_,rfl,λ_ h=>absurd h (by omega)⟩
theorem add_ok{e:El}(h:e.ok){b:zM}(hb:BSh b)(hl:∀ x,e=.r x->x.2.2.2.1.length≤5000): zD5 (e.ws,false) b=some (e.kind,e.line,[],false,e.add b):=by
 unfold zD5
 cases e with
 | p x =>
  have h':okP x:=h
  have hw:∃ r,zUa x=zP4 x.2.1::r:=⟨_,rfl⟩
  obtain⟨r,hr⟩:=hw
  have ht:(zUa x).tail=r:=by rw[hr];rfl
  have e1:=prem_ok h'
  rw[ht] at e1
  simp only[El.ws]
  rw[hr,zJN]
  simp only[zob]
  have hs1:(if(zP4 x.2.1)==[97,120,105,111,109] then some ((zP4 x.2.1)==[97,120,105,111,109]) else
   if(zP4 x.2.1)==[112,114,101,109,105,115,101] then some ((zP4 x.2.1)==[112,114,101,109,105,115,101]) else some ((zP4 x.2.1)==[97,115,115,117,109,101]):Option Bool)=some true:=by
   rcases h'.1 with h | h | h <;> rw[h] <;> rfl
  rw[hs1]
  rw[z3o _ x.2.1 rfl h'.1]
  have hsl:x.2.2.2.length≤1000000:=by
   rcases h'.2.2.2.2.2 with h | h
   ·simp[h]
   ·have:=(zLZ h).2;omega
  simp[e1]
  rw[wD (by have:=hb.1;simp;omega),z8I h'.1 h'.2.2.1 h'.2.2.2.1 hsl]
  rfl
 | r x =>
  have h':okR x:=h
  have hbl:=hl x rfl
  have hw:∃ r,zP9 x=(if x.2.1 then zLN else zPT)::r:=by unfold zP9;cases x.2.1 <;> exact⟨_,rfl⟩
  obtain⟨r,hr⟩:=hw
  have ht:(zP9 x).tail=r:=by rw[hr];rfl
  have e1:=rule_ok h' hbl
  rw[ht] at e1
  simp only[El.ws]
  rw[hr,zJN]
  have hst:((if x.2.1 then zLN else zPT)==([115,116,114,105,99,116]:zD))=x.2.1:=by cases x.2.1 <;> rfl
  have hs1:(if(if x.2.1 then zLN else zPT)==([97,120,105,111,109]:zD) then some ((if x.2.1 then zLN else zPT)==([97,120,105,111,109]:zD)) else
   if(if x.2.1 then zLN else zPT)==([112,114,101,109,105,115,101]:zD) then some ((if x.2.1 then zLN else zPT)==([112,114,101,109,105,115,101]:zD)) else some ((if x.2.1 then zLN else zPT)==([97,115,115,117,109,101]:zD)):Option Bool)=some false:=by
   cases x.2.1 <;> rfl
  have hs4:(if(if x.2.1 then zLN else zPT)==([115,116,114,105,99,116]:zD) then some ((if x.2.1 then zLN else zPT)==([115,116,114,105,99,116]:zD)) else some ((if x.2.1 then zLN else zPT)==([114,117,108,101]:zD)):Option Bool)=some true:=by
   cases x.2.1 <;> rfl
  have hn:=(zLZ h'.1).2
  simp only[zob]
  rw[hs1]
  rw[hs4]
  simp[hst,e1]
  rw[wD (by have:=hb.2.1;simp;omega),z71 h'.2.2.1 h'.2.2.2.1 (by omega) (by omega)]
  rfl
 | t x =>
  have h':okT x:=h
  have e1:=prom_ok h'
  have hn:=(zLZ h'.1).2
  have hr:zUk x=zZN::(zUk x).tail:=rfl
  simp[El.ws]
  rw[hr,zJN]
  simp[e1]
  rw[wD (by have:=hb.2.2;simp;omega),z7t h'.2.1 h'.2.2.1 (by omega)]
  rfl
end
section
def wZ:zD->zD×zD×Bool
 | []=>([],[],false)
 | c::r=>if c=10 then([],r,true) else(c::(wZ r).1,(wZ r).2.1,(wZ r).2.2)
theorem z3N:∀ s:zD,s=(wZ s).1++(if(wZ s).2.2 then 10::(wZ s).2.1 else[])
 | []=>rfl
 | c::r=>by
  have ih:=z3N r
  unfold wZ
  split
  ·rename_i h;subst h;rfl
  ·simp;rw[←ih]
theorem z2U:∀ s:zD,(wZ s).2.2=false->(wZ s).2.1=[]
 | [],_=>rfl
 | c::r,h=>by
  unfold wZ at h ⊢
  split
  ·rename_i hc;simp[hc] at h
  ·rename_i hc;rw[Qi hc] at h;exact z2U r h
theorem z8d (s:zD): (wZ s).1.length≤s.length:=by
 have h:=congrArg List.length (z3N s)
 rw[Qd] at h
 omega
theorem z5t{s:zD}(h:s≠[]): (wZ s).2.1.length<s.length:=by
 have h1:=congrArg List.length (z3N s)
 cases he:(wZ s).2.2 with
 | false=>rw[z2U s he];exact QY.2 h
 | true=>rw[he] at h1;simp at h1;omega
theorem cut1_app{a:zD}(ha:(10:UInt8)∉a)(r:zD): wZ (a++10::r)=(a,r,true):=by
 induction a with
 | nil=>rfl
 | cons c a ih =>
  have hc:c≠10:=λe=>ha (by simp[e])
  rw[Ur,wZ,Qi hc,ih λh=>ha (by simp[h])]
theorem z7e:∀ s:zD,Lib.indexByte s 10=if(wZ s).2.2 then((wZ s).1.length:Int) else -1
 | []=>rfl
 | c::r=>by
  have ih:=z7e r
  unfold wZ Lib.indexByte
  by_cases hc:c=10
  ·subst hc;rfl
  ·have hb:(c==10)=false:=U4 hc
   simp only[hb,zbf,Qc,Qi hc,ih]
   cases (wZ r).2.2 with
   | false=>rfl
   | true =>
    have:(((wZ r).1.length:Int)==-1)=false:=U4 (by omega)
    simp only[Qf,this,zbf,Qc,QK]
    omega
theorem cut_ok{s:zD}(h:s.length<1000000): zNz s [10]=some (wZ s):=by
 unfold zNz zFb zEu z7j
 have hs:=z3N s
 have hl:=congrArg List.length hs
 rw[Qd] at hl
 simp only[zob]
 rw[z7e]
 cases he:(wZ s).2.2 with
 | false =>
  have h2:=z2U s he
  rw[he] at hs
  simp at hs
  have:decide ((0:Int)≤-1)=false:=rfl
  simp
  have:wZ s=((wZ s).1,(wZ s).2.1,(wZ s).2.2):=rfl
  rw[this,he,h2,←hs]
 | true =>
  rw[he] at hs hl
  simp at hs hl
  have:decide ((0:Int)≤((wZ s).1.length:Int))=true:=by simp
  simp
  rw[zNJ (by omega) (by omega)]
  have h1:len ([10]:zD)=1:=rfl
  have hw:zH (((wZ s).1.length:Int)+len ([10]:zD))=(((wZ s).1.length+1:Nat):Int):=by rw[h1,vJ (x:=((wZ s).1.length:Int)+1) (by omega) (by omega)];omega
  rw[hw,zX9 (by omega) (by omega)]
  simp only[zob,Qj]
  have e0:wZ s=((wZ s).1,(wZ s).2.1,(wZ s).2.2):=rfl
  have e1:s.take (wZ s).1.length=(wZ s).1:=by
   have:s.take (wZ s).1.length=((wZ s).1++10::(wZ s).2.1).take (wZ s).1.length:=by rw[←hs]
   rw[this,UX]
  have e2:s.drop ((wZ s).1.length+1)=(wZ s).2.1:=by
   have:s.drop ((wZ s).1.length+1)=((wZ s).1++10::(wZ s).2.1).drop ((wZ s).1.length+1):=by rw[←hs]
   rw[this,←We,List.drop_left];rfl
  rw[e0,he,e1,e2]
theorem le_sum{w:zD}: ∀ {l:List zD},w∈l->w.length≤(l.map List.length).sum
 | x::l,h=>by
  simp only[Ug,List.sum_cons]
  rcases Qw.1 h with rfl | h
  ·omega
  ·have:=le_sum h;omega
open Classical in
noncomputable def elOf (ln:zD): Option El:=if h:∃ e:El,e.ok∧e.line=ln then some h.choose else none
theorem zZe{ln:zD}{e:El}(h:elOf ln=some e): e.ok∧e.line=ln:=by
 unfold elOf at h
 split at h
 ·rename_i hx;cases h;exact hx.choose_spec
 ·cases h
theorem z42{ln:zD}(h:elOf ln=none): ¬ ∃ e:El,e.ok∧e.line=ln:=by
 unfold elOf at h
 split at h
 ·cases h
 ·assumption
theorem El.short{e:El}(h:e.ok){n:Nat}(hl:e.line.length≤n): e.ws.length≤n∧∀ x,e=.r x->x.2.2.2.1.length≤n:=by
 have h1:=(zZ6 e.line).2
 rw[El.fields h] at h1
 refine⟨by omega,λx hx=>?_⟩
 subst hx
 have:(zP9 x).length=(uS x.2.2.2.1).length+(if x.2.1 then 4 else 5):=by
  unfold zP9;cases x.2.1 <;> simp <;> omega
 rw[zMl] at this
 have h2:(zP9 x).length≤(jn (zP9 x)).length:=h1
 have h3:(jn (zP9 x)).length≤n:=hl
 omega
theorem El.inj{e e':El}(h:e.ok)(h':e'.ok)(hl:e.line.length≤5000)(he:e.line=e'.line): e=e':=by
 have hw:e.ws=e'.ws:=by rw[←El.fields h,←El.fields h',he]
 have h1:=add_ok h (b:=([],[],[])) ⟨by simp,by simp,by simp⟩ (λx hx=>(El.short h hl).2 x hx)
 have h2:=add_ok h' (b:=([],[],[])) ⟨by simp,by simp,by simp⟩ (λx hx=>(El.short h' (by rw[←he];exact hl)).2 x hx)
 rw[hw,h2] at h1
 simp only[Qg,Prod.mk.injEq] at h1
 obtain⟨hk,_,_,_,ha⟩:=h1
 cases e with
 | p x=>cases e' with
  | p y=>have h:=congrArg (λb:zM=>b.1) ha;simp[El.add] at h;rw[h]
  | r y=>simp[El.kind] at hk
  | t y=>simp[El.kind] at hk
 | r x=>cases e' with
  | p y=>simp[El.kind] at hk
  | r y=>have h:=congrArg (λb:zM=>b.2.1) ha;simp[El.add] at h;rw[h]
  | t y=>simp[El.kind] at hk
 | t x=>cases e' with
  | p y=>simp[El.kind] at hk
  | r y=>simp[El.kind] at hk
  | t y=>have h:=congrArg (λb:zM=>b.2.2) ha;simp[El.add] at h;rw[h]
theorem elOf_line{e:El}(h:e.ok)(hl:e.line.length≤5000): elOf e.line=some e:=by
 cases hx:elOf e.line with
 | none=>exact absurd ⟨e,h,rfl⟩ (z42 hx)
 | some e' =>
  obtain⟨h1,h2⟩:=zZe hx
  rw[El.inj h h1 hl h2.symm]
noncomputable def zRV:Nat->zD->Int->Int->zM->zM⊕Int
 | 0,_,_,_,b=>.inl b
 | f+1,s,last,n,b=>if s=[] then .inl b else match elOf (wZ s).1 with
  | some e=>if(wZ s).2.2=true∧last≤e.kind then zRV f (wZ s).2.1 e.kind (n+1) (e.add b) else .inr n
  | none=>.inr n
abbrev noB:zM:=(([]:List vE),([]:List qH),([]:List wW))
def endP:zM⊕Int->zM⊕(zM×Int×Int)
 | .inl b=>.inl b
 | .inr n=>.inr (noB,n,3)
theorem El.kind_pos (e:El): 1≤e.kind:=by cases e <;> simp[El.kind]
theorem z2R:∀(f:Nat) (s:zD) (last n:Int) (b:zM),s.length≤f->s.length≤4096->1≤last->1≤n->n+s.length≤6000->b.1.length+s.length≤9000->b.2.1.length+s.length≤9000->b.2.2.length+s.length≤9000->
  zN zFR (s,last,n,b.1,b.2.1,b.2.2)=some (endP (zRV f s last n b))
 | 0,s,last,n,b,hf,_,_,_,_,_,_,_=>by
  obtain rfl:s=[]:=List.length_eq_zero_iff.1 (by omega)
  exact zQp rfl
 | f+1,s,last,n,b,hf,h4,hla,hn,hns,hb1,hb2,hb3=>by
  unfold zRV
  by_cases hs:s=[]
  ·subst hs
   exact zQp rfl
  ·rw[Qi hs]
   have hne:(!(s==[]))=true:=by simpa using hs
   have hcl:=z8d s
   have hless:=z5t hs
   have hfl:=zZ6 (wZ s).1
   have hsh:ShT (Lib.fieldsD (wZ s).1):=λw hw=>by
    have:w.length≤((Lib.fieldsD (wZ s).1).map List.length).sum:=le_sum hw
    omega
   have hff:zKg (wZ s).1=some (Lib.fieldsD (wZ s).1):=by
    unfold zKg z2r
    rw[Ql (by omega)]
   have hbs:BSh b:=⟨by omega,by omega,by omega⟩
   cases hx:elOf (wZ s).1 with
   | some e =>
    obtain⟨ho,hl⟩:=zZe hx
    have hadd:=add_ok ho hbs (λx hx=>(El.short ho (n:=5000) (by rw[hl];omega)).2 x hx)
    have hwf:Lib.fieldsD (wZ s).1=e.ws:=by rw[←hl];exact El.fields ho
    have hB:zFR (s,last,n,b.1,b.2.1,b.2.2)=if(wZ s).2.2=true∧last≤e.kind then some (.inl ((wZ s).2.1,e.kind,n+1,(e.add b).1,(e.add b).2.1,(e.add b).2.2)) else some (.inr (.inr (noB,n,3))):=by
     unfold zFR
     simp only[hne,Qf,cut_ok (show s.length<1000000 by omega),zob,hff,hwf]
     have:((b.1,b.2.1,b.2.2):zM)=b:=rfl
     rw[this,hadd]
     simp only[zob]
     have e1:(!(e.line==(wZ s).1))=false:=by rw[hl];simp
     have e2:decide ((0:Int)<len ([]:List zD))=false:=rfl
     have hw:zH (n+1)=n+1:=vJ (by omega) (by omega)
     simp only[e1,e2,UO,hw]
     by_cases hc:(wZ s).2.2=true∧last≤e.kind
     ·have e3:decide (e.kind<last)=false:=Q9 (by omega)
      rw[Ql hc,e3,hc.1]
      rfl
     ·rw[Qi hc]
      have e3:((!(wZ s).2.2)||decide (e.kind<last))=true:=by
       cases h1:(wZ s).2.2 with
       | false=>rfl
       | true =>
        rw[h1] at hc
        have:e.kind<last:=by simp at hc;omega
        simpa using this
      rw[e3]
      rfl
    simp only
    by_cases hc:(wZ s).2.2=true∧last≤e.kind
    ·rw[Ql hc] at hB ⊢
     rw[zXX hB]
     have hk:=e.kind_pos
     have ha1:(e.add b).1.length≤b.1.length+1∧(e.add b).2.1.length≤b.2.1.length+1∧(e.add b).2.2.length≤b.2.2.length+1:=by
      cases e <;> simp[El.add]
     exact z2R f (wZ s).2.1 e.kind (n+1) (e.add b) (by omega) (by omega) hk (by omega) (by omega) (by omega) (by omega) (by omega)
    ·rw[Qi hc] at hB ⊢
     exact zQp hB
   | none =>
    simp only
    have hno:=z42 hx
    obtain⟨k,t,r,bad,b',hadd,himp⟩:=add_any hsh (by omega) hbs
    apply zQp
    unfold zFR
    simp only[hne,Qf,cut_ok (show s.length<1000000 by omega),zob,hff]
    have:((b.1,b.2.1,b.2.2):zM)=b:=rfl
    rw[this,hadd]
    simp only[zob]
    have hcond:((!(wZ s).2.2)||(bad||((decide ((0:Int)<len r))||((!(t==(wZ s).1))||(decide (k<last))))))=true:=by
     cases hbad:bad with
     | true=>simp
     | false =>
      by_cases hk:k<last
      ·simp[hk]
      ·obtain⟨e,ho,ht,_,_⟩:=himp hbad (by omega)
       have:t≠(wZ s).1:=λhe=>hno ⟨e,ho,ht▸he⟩
       have:(t==(wZ s).1)=false:=U4 this
       simp[this]
    rw[hcond]
    rfl
noncomputable def z8K (s:zD): zM×Int×Int :=
 if 4096<s.length then(noB,0,2) else match zRV s.length s 1 1 noB with
  | .inl b=>if zNj b≠0 then(noB,0,zNj b) else(b,0,0)
  | .inr n=>(noB,n,3)
theorem add_cnt{e:El}{b:zM}{n:Nat}(hl:∀ x,e=.r x->x.2.2.2.1.length≤n)(h:∀ r∈b.2.1,r.2.2.2.1.length≤n): ∀ r∈(e.add b).2.1,r.2.2.2.1.length≤n:=by
 cases e with
 | p x=>exact h
 | t x=>exact h
 | r x =>
  intro r hr
  rcases Qb.1 hr with hr | hr
  ·exact h r hr
  ·simp at hr;subst hr;exact hl r rfl
theorem zZ2:∀(f:Nat) (s:zD) (last n:Int) (b b':zM),s.length≤5000->(∀ r∈b.2.1,r.2.2.2.1.length≤5000)->zRV f s last n b=.inl b'->
  b'.1.length≤b.1.length+f∧b'.2.1.length≤b.2.1.length+f∧b'.2.2.length≤b.2.2.length+f∧∀ r∈b'.2.1,r.2.2.2.1.length≤5000
 | 0,s,last,n,b,b',_,h,he=>by cases he;exact⟨by omega,by omega,by omega,h⟩
 | f+1,s,last,n,b,b',hs5,h,he=>by
  unfold zRV at he
  split at he
  ·cases he;exact⟨by omega,by omega,by omega,h⟩
  ·rename_i hs
   have hcl:=z8d s
   have hless:=z5t hs
   split at he
   ·rename_i e hx
    split at he
    ·obtain⟨ho,hl⟩:=zZe hx
     obtain⟨h1,h2,h3,h4⟩:=zZ2 f _ _ _ _ b' (by omega) (add_cnt (λx hx=>(El.short ho (n:=5000) (by rw[hl];omega)).2 x hx) h) he
     have ha1:(e.add b).1.length≤b.1.length+1∧(e.add b).2.1.length≤b.2.1.length+1∧(e.add b).2.2.length≤b.2.2.length+1:=by
      cases e <;> simp[El.add]
     exact⟨by omega,by omega,by omega,h4⟩
    ·cases he
   ·cases he
theorem rb_Parse (s:zD): zK8 s=some (z8K s):=by
 unfold zK8 z8K
 by_cases h4:4096<s.length
 ·have:decide ((4096:Int)<len s)=true:=Qy (show(4096:Int)<(s.length:Int) by omega)
  rw[Ql h4,this]
  rfl
 ·have:decide ((4096:Int)<len s)=false:=Q9 (show ¬ (4096:Int)<(s.length:Int) by omega)
  rw[Qi h4,this]
  simp only[zbf,Qc]
  have hp:=z2R s.length s 1 1 noB (Qr _) (by omega) (by omega) (by omega) (by omega) (by simp;omega) (by simp;omega) (by simp;omega)
  have e0:(s,(1:Int),(1:Int),([]:List vE),([]:List qH),([]:List wW))=(s,1,1,noB.1,noB.2.1,noB.2.2):=rfl
  rw[e0,hp]
  cases hg:zRV s.length s 1 1 noB with
  | inr n=>rfl
  | inl b =>
   obtain⟨h1,h2,h3,h5⟩:=zZ2 _ _ _ _ _ _ (by omega) (by simp) hg
   simp only[Uq,UB] at h1 h2 h3
   have hc:Cnt b:=⟨by omega,by omega,by omega,λr hr=>by have:=h5 r hr;omega⟩
   simp only[endP,vH]
   have:((b.1,b.2.1,b.2.2):zM)=b:=rfl
   simp only[this,zZZ hc,zob]
   by_cases hv:zNj b=0
   ·simp[hv]
   ·have:(zNj b != 0)=true:=by simpa using hv
    simp[this,hv]
end
section
theorem z3f{α:Type}(g:α->zD)(c:Nat): ∀ l:List α,(∀ x∈l,(g x).length≤c)->(l.flatMap λx=>g x++[10]).length≤(c+1)*l.length
 | [],_=>by simp
 | x::l,h=>by
  have h1:=h x (by simp)
  have h2:=z3f g c l λy hy=>h y (by simp[hy])
  simp[Nat.mul_add] at h2 ⊢
  omega
theorem z5H{b:zM}(hV:tR b): (∀ p∈b.1,okP p)∧(∀ r∈b.2.1,okR r∧r.2.2.2.1.length≤4)∧∀ p∈b.2.2,okT p:=by
 have hR:∀ r∈b.2.1,okR r∧r.2.2.2.1.length≤4:=λr hr=>okR_of (hV.rule r hr)
 exact⟨λp hp=>okP_of (hV.prem p hp),hR,λp hp=>okT_of (hV.prom p hp) (λhf=>by
  obtain⟨k,r,_,h2,h3,_⟩:=z3U hf
  have:r.1=p.1:=by simpa using h3
  rw[←this]
  exact(hR r (UP h2)).1.1)⟩
theorem fmt_short{b:zM}(hV:tR b): (fmtT b).length≤4000:=by
 obtain⟨hP,hR,hT⟩:=z5H hV
 have h1:=z3f (λp=>jn (zUa p)) 42 b.1 (λp hp=>by
  have h:=hP p hp
  have h1:=z4u (zUa p)
  have hl:=zGN p.1
  have hk:=z4x p.2.1
  have hs:p.2.2.2.length≤12:=by
   rcases h.2.2.2.2.2 with h | h
   ·simp[h]
   ·exact(zLZ h).2
  have:((zUa p).map List.length).sum+(zUa p).length≤42:=by
   unfold zUa
   split <;> split <;> simp[dgt,z5R] <;> omega
  grind)
 have h2:=z3f (λr=>jn (zP9 r)) 100 b.2.1 (λr hr=>by
  obtain⟨h,hb⟩:=hR r hr
  have h1:=z4u (zP9 r)
  have hl:=zGN r.2.2.2.2
  have hn:=(zLZ h.1).2
  have hs:=zZd r.2.2.2.1
  have hbl:=zMl r.2.2.2.1
  have:((zP9 r).map List.length).sum+(zP9 r).length≤100:=by
   unfold zP9
   cases r.2.1 <;> simp[zLN,zPT,z3x,dgt,hbl] <;> omega
  grind)
 have h3:=z3f (λp=>jn (zUk p)) 50 b.2.2 (λp hp=>by
  have h:=hT p hp
  have h1:=z4u (zUk p)
  have hl:=zGN p.2.2
  have hn:=(zLZ h.1).2
  have:((zUk p).map List.length).sum+(zUk p).length≤50:=by
   unfold zUk
   simp[zZN,ifW,dgt];omega
  grind)
 have:=hV.np
 have:=hV.nr
 have:=hV.nm
 grind [fmtT]
theorem jn_no10{l:List zD}(h:∀ w∈l,wd w=true): (10:UInt8)∉jn l:=by
 intro hm
 induction l with
 | nil=>simp[jn_nil] at hm
 | cons w l ih =>
  have hw:=h w (by simp)
  simp only[wd,QA,QW] at hw
  have hs:Lib.isSp 10=true:=by decide
  have hnw:(10:UInt8)∉w:=λhx=>by have:=(hw.2 10 hx).1;rw[hs] at this;cases this
  cases l with
  | nil=>rw[z4p] at hm;exact hnw hm
  | cons x l =>
   rw[z2Z] at hm
   rcases Qb.1 hm with hm | hm
   ·exact hnw hm
   ·rcases Qw.1 hm with hm | hm
    ·cases hm
    ·exact ih (λy hy=>h y (by simp at hy ⊢;exact .inr hy)) hm
def txt (es:List El): zD:=es.flatMap λe=>e.line++[10]
def Up:Int->List El->Prop
 | _,[]=>True
 | k,e::es=>k≤e.kind∧Up e.kind es
theorem z0e:∀(es:List El) (f:Nat) (last n:Int) (b:zM),(∀ e∈es,e.ok)->(txt es).length≤f->(txt es).length≤4096->Up last es->zRV f (txt es) last n b=.inl (es.foldl (λb e=>e.add b) b)
 | [],f,last,n,b,_,_,_,_=>by cases f <;> rfl
 | e::es,0,last,n,b,_,hf,_,_=>by simp[txt] at hf
 | e::es,f+1,last,n,b,ho,hf,h4,hu=>by
  have h1:=ho e (by simp)
  have ht:txt (e::es)=e.line++10::txt es:=by simp[txt]
  rw[ht] at hf h4 ⊢
  simp only[Qd,QK] at hf h4
  unfold zRV
  rw[Qi (by simp),cut1_app (jn_no10 (El.wd h1)),elOf_line h1 (by omega)]
  simp only[true_and]
  rw[Ql hu.1]
  exact z0e es f e.kind (n+1) (e.add b) (λx hx=>ho x (by simp[hx])) (by omega) (by omega) hu.2
def els (b:zM): List El:=b.1.map .p++(b.2.1.map .r++b.2.2.map .t)
theorem line_p (x:vE): (El.p x).line=jn (zUa x):=rfl
theorem line_r (x:qH): (El.r x).line=jn (zP9 x):=rfl
theorem line_t (x:wW): (El.t x).line=jn (zUk x):=rfl
theorem els_txt (b:zM): txt (els b)=fmtT b:=by simp[txt,els,fmtT,UI,List.flatMap_map,line_p,line_r,line_t]
theorem els_fold (b:zM): (els b).foldl (λb e=>e.add b) noB=b:=by
 have h1:∀(l:List vE) (a:zM),(l.map El.p).foldl (λb e=>e.add b) a=(a.1++l,a.2.1,a.2.2):=by
  intro l
  induction l with
  | nil=>simp
  | cons x l ih=>intro a;rw[Ug,UT,ih];simp[El.add]
 have h2:∀(l:List qH) (a:zM),(l.map El.r).foldl (λb e=>e.add b) a=(a.1,a.2.1++l,a.2.2):=by
  intro l
  induction l with
  | nil=>simp
  | cons x l ih=>intro a;rw[Ug,UT,ih];simp[El.add]
 have h3:∀(l:List wW) (a:zM),(l.map El.t).foldl (λb e=>e.add b) a=(a.1,a.2.1,a.2.2++l):=by
  intro l
  induction l with
  | nil=>simp
  | cons x l ih=>intro a;rw[Ug,UT,ih];simp[El.add]
 unfold els
 rw[List.foldl_append,List.foldl_append,h1,h2,h3]
 simp
theorem els_up (b:zM): Up 1 (els b):=by
 have h3:∀(l:List wW) (k:Int),k≤3->Up k (l.map El.t):=by
  intro l
  induction l with
  | nil=>intro k _;trivial
  | cons x l ih=>intro k hk;exact⟨hk,ih 3 (by omega)⟩
 have h2:∀(l:List qH) (k:Int),k≤2->Up k (l.map El.r++b.2.2.map El.t):=by
  intro l
  induction l with
  | nil=>intro k hk;exact h3 _ k (by omega)
  | cons x l ih=>intro k hk;exact⟨hk,ih 2 (by omega)⟩
 have h1:∀(l:List vE) (k:Int),k≤1->Up k (l.map El.p++(b.2.1.map El.r++b.2.2.map El.t)):=by
  intro l
  induction l with
  | nil=>intro k hk;exact h2 _ k (by omega)
  | cons x l ih=>intro k hk;exact⟨hk,ih 1 (by omega)⟩
 exact h1 b.1 1 (by omega)
theorem els_ok{b:zM}(hV:tR b): ∀ e∈els b,e.ok:=by
 obtain⟨hP,hR,hT⟩:=z5H hV
 intro e he
 simp only[els,Qb,Qn] at he
 rcases he with⟨x,hx,rfl⟩ | ⟨x,hx,rfl⟩ | ⟨x,hx,rfl⟩
 ·exact hP x hx
 ·exact(hR x hx).1
 ·exact hT x hx
theorem parse_fmt{b:zM}(hV:tR b): z8K (fmtT b)=(b,0,0):=by
 have hs:=fmt_short hV
 unfold z8K
 rw[Qi (by omega),←els_txt,z0e (els b) _ 1 1 noB (els_ok hV) (Qr _) (by rw[els_txt];omega) (els_up b),els_fold]
 simp[zOB.2 hV]
end
section
def rankK (y:List zI)(r:qH)(k:Int)(p:wW): Int:=if(!r.2.1&&p.1==r.1&&decide (p.2.2∈y))=true then p.2.1 else k
def rankS (ps:List wW)(y:List zI)(r:qH): Int:=ps.foldl (rankK y r) r.2.2.1
def promR (ps:List wW)(y:List zI)(r:qH): qH:=(r.1,r.2.1,rankS ps y r,r.2.2.2.1,r.2.2.2.2)
def zX7 (b:zM)(y:List zI): zM:=(b.1,b.2.1.map (promR b.2.2 y),b.2.2)
def upto (b:zM)(y:List zI)(i:Nat): List qH:=(b.2.1.take i).map (promR b.2.2 y)++b.2.1.drop i
theorem upto_len (b:zM)(y:List zI)(i:Nat): (upto b y i).length=b.2.1.length:=by simp[upto];omega
theorem upto_at{b:zM}{y:List zI}{i:Nat}{r:qH}(hr:b.2.1[i]?=some r): (upto b y i)[i]?=some r:=by grind [upto]
theorem upto_set{b:zM}{y:List zI}{i:Nat}{r:qH}(hr:b.2.1[i]?=some r): (upto b y i).set i (promR b.2.2 y r)=upto b y (i+1):=by
 have hi:=(Qe.1 hr).1
 have h1:((b.2.1.take i).map (promR b.2.2 y)).length=i:=by simp;omega
 unfold upto
 rw[List.set_append_right _ _ (by omega),h1,Nat.sub_self,Um,hr]
 grind [List.drop_eq_getElem_cons]
theorem upto_all (b:zM)(y:List zI): upto b y b.2.1.length=b.2.1.map (promR b.2.2 y):=by simp[upto]
def mid (b:zM)(y:List zI)(i:Nat)(r:qH)(k:Nat): List qH:=(upto b y i).set i (r.1,r.2.1,(b.2.2.take k).foldl (rankK y r) r.2.2.1,r.2.2.2.1,r.2.2.2.2)
theorem mid_all{b:zM}{y:List zI}{i:Nat}{r:qH}(hr:b.2.1[i]?=some r): mid b y i r b.2.2.length=upto b y (i+1):=by
 unfold mid
 rw[Qx (Qr _)]
 exact upto_set hr
theorem mid_zero{b:zM}{y:List zI}{i:Nat}{r:qH}: mid b y i r 0=(upto b y i).set i r:=by simp[mid]
theorem mid_at{b:zM}{y:List zI}{i:Nat}{r:qH}(hr:b.2.1[i]?=some r)(k:Nat): (mid b y i r k)[i]?=some (r.1,r.2.1,(b.2.2.take k).foldl (rankK y r) r.2.2.1,r.2.2.2.1,r.2.2.2.2):=by
 have hi:=(Qe.1 hr).1
 unfold mid
 rw[List.getElem?_set_self (by rw[upto_len];exact hi)]
theorem mid_suc{b:zM}{y:List zI}{i:Nat}{r:qH}{k:Nat}{p:wW}(hp:b.2.2[k]?=some p):
  (if(!r.2.1&&p.1==r.1&&decide (p.2.2∈y))=true then(mid b y i r k).set i (r.1,r.2.1,p.2.1,r.2.2.2.1,r.2.2.2.2) else mid b y i r k)=mid b y i r (k+1):=by
 unfold mid
 rw[Um,hp]
 simp
 unfold rankK
 by_cases hc:(!r.2.1&&p.1==r.1&&decide (p.2.2∈y))=true
 ·simp_all
 grind
theorem z9t{b:zM}{y:List zI}(h:Cnt b)(hy:y.length<4294967296): zEY b y=some (zX7 b y):=by
 unfold zEY
 have c1:zF0 b.1=some b.1:=by simp[zF0,zPs h.p]
 have c2:zHa b.2.1=some b.2.1:=by simp[zHa,zPs h.r]
 have c3:zEZ b.2.2=some b.2.2:=by simp[zEZ,zPs h.m]
 simp only[c1,c2,c3,zob]
 suffices hh:Ok (zN (zDK b y) (0,b.2.1)) λr=>r=upto b y b.2.1.length by
  obtain⟨r,e,rfl⟩:=hh
  rw[e,upto_all]
  rfl
 refine Ok.forI (λi (s:List qH)=>((i:Int),s)) b.2.1 (λi s=>s=upto b y i) _ (λi r s hr hs=>?_) (λs hs=>?_) b.2.1 (by simp[upto])
 ·have hi:=(Qe.1 hr).1
  have hbr:=h.r
  subst hs
  unfold zDK
  have hx:=upto_at (y:=y) hr
  simp only[dec_lt hr,Qf,tC,hr,hx,zob,z5X (h.q r (UP hr)),Qj]
  refine Ok.forI (λk (s:List qH)=>((k:Int),s)) b.2.2 (λk s=>s=mid b y i r k) _ (λk p s hp hs=>?_) (λs hs=>?_) _ mid_zero.symm
  ·have hk:=(Qe.1 hp).1
   have hbm:=h.m
   subst hs
   unfold zES
   simp only[dec_lt hp,Qf,tC,hp,zob,z6s _ (show y.length<9223372036854775807 by omega),Qj,mid_at hr k]
   have hif:(if(!r.2.1)=true then(if(p.1==r.1)=true then some (decide (p.2.2∈y)) else some false) else some false)=some (!r.2.1&&p.1==r.1&&decide (p.2.2∈y)):=by
    cases hg:(!r.2.1) <;> cases hh:(p.1==r.1) <;> simp
   rw[hif,zob]
   have hm:=mid_suc (b:=b) (y:=y) (i:=i) (r:=r) hp
   refine .ite (λhc=>?_) λhc=>?_
   ·rw[Ql hc] at hm
    exact .ret ⟨_,by rw[yJ k (by omega)],hm⟩
   ·rw[hc] at hm
    simp only[zbf,Qc] at hm
    exact .ret ⟨_,by rw[yJ k (by omega)],hm⟩
  ·subst hs
   unfold zES
   simp only[dec_end,zbf,Qc]
   exact .ret ⟨_,by simp only[yJ i (by omega)],mid_all hr⟩
 ·subst hs
  unfold zDK
  simp only[dec_end,zbf,Qc]
  exact .ret rfl
end
section
def tO (l:List Int)(x:Int): List Int:=(wC l.length).filter λi=>decide (l[i.toNat]?=some x)
theorem zMm (l:List Int)(x:Int): (tO l x).length≤l.length:=QD (Qz _ _) (by rw[tN];grind)
theorem zVz{l:List Int}{x:Int}{j:Nat}: (j:Int)∈tO l x↔l[j]?=some x:=by
 rw[tO,Qk,xW,Qj,Qm]
 exact⟨λh=>h.2,λh=>⟨⟨by omega,by have:=vM h;omega⟩,h⟩⟩
theorem zZI (l:List Int)(x:Int)(hl:l.length<4294967000): zAl l x=some (tO l x):=by
 unfold zAl
 have h:=zEs (B:=zHh l x) (wC l.length) (λs i=>if decide (l[i.toNat]?=some x) then s++[i] else s) id (λi s=>s.length≤i) ([]:List Int) (by simp) ?_ ?_
 ·have h2:=zHx (λi:Int=>decide (l[i.toNat]?=some x)) id (wC l.length) []
  simp only[id,List.map_id,QI] at h2
  rw[h.1,h2];rfl
 ·intro i y s hy hI
  obtain⟨rfl,hi⟩:=zS2 hy
  have hx:l[i]?=some l[i]:=Qh hi
  unfold zHh
  simp[qQ hx,qV hx (by omega)]
  by_cases he:l[i]=x
  ·rw[wD (by simp;omega)]
   grind
  grind
 ·rw[tN]
  unfold zHh
  simp
abbrev zeroC:zBv:=(([],[],[]),[],[],(0,[]))
def badO (o:yZ): Bool:=if o.1 != 1 then(o.1 != 2)||((o.2 != 1)&&(o.2 != 2)) else(o.2 != 1)&&(o.2 != 2)
noncomputable def gphS (b:zM)(l:List zF)(o:yZ): List qG:=xR tY (zKL (zPD b l o))
noncomputable def accS (b:zM)(l:List zF)(o:yZ): List zI:=xR vA ((tO (yW l.length (gphS b l o)) 1).flatMap (zWz l))
noncomputable def zXd (b:zM)(l:List zF)(o:yZ): zBv:=(zX7 b (accS b l o),l,zPD (zX7 b (accS b l o)) l o,((l.length:Int),gphS (zX7 b (accS b l o)) l o))
open Classical in
noncomputable def compS (b:zM)(o:yZ): zBv×Int:=if tR b then(match zQe b with
  | none=>(zeroC,2)
  | some l=>if badO o then(zeroC,4) else(zXd b l o,0))
 else(zeroC,zNj b)
theorem zS4{b:zM}{l:List zF}(hl:l.length≤40)(o:yZ): zZ5 (len l) (zPD b l o)=(((l.length:Int),gphS b l o),0)∧wY l.length (gphS b l o):=by
 have h0:(decide (len l<0)||decide (40<len l))=false:=by
  simp only[len,Un,QV];omega
 have h1:(zPD b l o).any (z90 (len l))=false:=by
  rw[Us]
  intro y hy
  have hy:=z5I (b:=b) (l:=l) y |>.1 (Qk.1 hy).1
  simp only[z90,len,Uv,Qm,not_or]
  omega
 have h2:zZ5 (len l) (zPD b l o)=(((l.length:Int),gphS b l o),0):=by
  unfold zZ5 gphS
  simp only[h0,h1,zbf,Qc]
 obtain⟨N,e1,e2,e3,_⟩:=z6x h2
 have:N=l.length:=by simp only[len] at e1;omega
 grind
theorem form_prom{b:zM}{l:List zF}{y:List zI}(h:FormB b l): FormB (zX7 b y) l :=
 ⟨h.toFormA,by simpa [zX7] using h.np,by simpa [zX7] using h.nr,λi a ha=>by simpa [zX7] using h.kind i a ha⟩
theorem accS_len (b:zM)(l:List zF)(o:yZ): (accS b l o).length≤l.length:=by
 refine QD (zWm _ _) (QD (zZr _) ?_)
 rw[UK]
 refine QD (zMm _ _) ?_
 rw[yW,zEX];grind
section
variable {b:zM}
theorem zZb (hc:Cnt3 b)(hr:b.2.1.length≤12)(o:yZ): zCu b o=some (compS b o):=by
 unfold zCu compS
 by_cases hv:tR b
 ·rw[arg_Build (z8F hv hr),Ql hv]
  cases hb:zQe b with
  | none=>rfl
  | some l =>
   obtain⟨hf,hl⟩:=z7P hv hr hb
   have hB:=hf.toFormC.toFormB
   simp only[ansB,zob,bne_self_eq_false,zbf,Qc]
   show(if badO o=true then _ else _)=_
   cases ho:badO o with
   | true=>rfl
   | false =>
    have hd:=z7x (b:=b) (l:=l) (by omega) o
    obtain⟨hg,hG⟩:=zS4 (b:=b) hl o
    have hac:=accS_len b l o
    have hd2:=z7x (b:=zX7 b (accS b l o)) (l:=l) (by omega) o
    obtain⟨hg2,_⟩:=zS4 (b:=zX7 b (accS b l o)) hl o
    have hgl:(yW l.length (gphS b l o)).length=l.length:=zEX _ _
    have hw:=zMm (yW l.length (gphS b l o)) 1
    simp only[zbf,Qc,z0h hB o,zob]
    rw[zYH _ _ (by omega),hg]
    simp only[zob,bne_self_eq_false,zbf,Qc]
    rw[zPa hG]
    simp only[zob]
    rw[zZI _ _ (by omega)]
    simp only[zob]
    rw[zSN _ (by omega)]
    simp only[zob]
    rw[show xR vA ((tO (yW l.length (gphS b l o)) 1).flatMap (zWz l))=accS b l o from rfl,z9t (zPI hv) (by omega)]
    simp only[zob,z0h (form_prom hB) o]
    rw[zYH _ _ (by omega),hg2]
    rfl
 ·rw[z1h hc hv,Qi hv]
  have:(zNj b != 0)=true:=by
   rw[bne_iff_ne]
   exact λh'=>hv (zOB.1 h')
  simp only[zob,this,Qf]
theorem z1k (hc:Cnt b)(hr:b.2.1.length≤12)(o:yZ): zCu b o=some (compS b o):=zZb hc.c3 hr o
end
end
section
theorem z2E:zNO=some ():=rfl
theorem z3u{N:Nat}{L:List qG}(h:wY N L): zAk ((N:Int),L) 1=some ([tO (yW N L) 1],0):=by
 have hgl:(yW N L).length=N:=zEX _ _
 have hN:=h.hN
 have h1:zA5 ((N:Int),L)=some ([yW N L],0):=by
  unfold zA5 zGB
  rw[zPa h]
  rfl
 have h2:zAu ((N:Int),L)=some ([tO (yW N L) 1],0):=by
  unfold zAu
  rw[h1]
  simp only[zob,bne_self_eq_false,zbf,Qc]
  have hl:=zEs (B:=zA6 ([yW N L],0)) [yW N L] (λs x=>s++[tO x 1]) (λs=>(s,(0:Int))) (λi s=>s.length≤i) ([]:List (List Int)) (by simp) ?_ ?_
  ·rw[hl.1];rfl
  ·intro i x s hx hI
   have:=vM hx
   have hx2:x.length=N:=by
    have:=wG hx
    simp only[Qa] at this
    rw[this,hgl]
   unfold zA6
   simp only[wL hx,Qf,qQ hx,zob,qV hx (by simp),zZI x 1 (by omega)]
   rw[wD (by simp at this ⊢;omega)]
   exact⟨rfl,by simp;omega⟩
  ·intro s _
   unfold zA6
   simp[len]
 unfold zAk
 rw[h.v1]
 simp only[zob,bne_self_eq_false,zbf,Qc,z2E]
 have hd:(decide ((1:Int)<1)||decide (((10:Nat):Int)≤1))=false:=by decide
 rw[hd]
 simp only[zbf,Qc,Ue,Qf]
 rw[h2]
 rfl
def zNn (l:List zF)(s:List Int): List zI:=xR vA (s.flatMap (zWz l))
theorem z8f (l:List zF)(s:List Int): yA vA (zNn l s):=(zLV zSb _).1
theorem z9b (l:List zF)(s:List Int): (zNn l s).length≤s.length:=QD (zWm _ _) (by have:=zZr (l:=l) s;omega)
theorem zU4{c:zBv}{q:Int}{es:List (List Int)}(h:zAk c.2.2.2 q=some (es,0))(hl:es.length≤100000)(hs:∀ s∈es,s.length<1000000):
  zD7 c q=some (es.map (zNn c.2.1),0):=by
 unfold zD7
 rw[h]
 simp only[zob,bne_self_eq_false,zbf,Qc]
 have hlp:=zEs (B:=zC3 (es,0) c) es (λr s=>r++[zNn c.2.1 s]) (λr=>(r,(0:Int))) (λi s=>s.length≤i) ([]:List (List zI)) (by simp) ?_ ?_
 ·rw[hlp.1,zH5];rfl
 ·intro i x s hx hI
  have:=vM hx
  unfold zC3
  simp only[wL hx,Qf,qQ hx,zob,qV hx (by omega),zSN x (hs x (wG hx))]
  rw[wD (by simp;omega)]
  exact⟨rfl,by simp;omega⟩
 ·intro s _
  unfold zC3
  simp[len]
def accS2 (cl:List (List zI))(all:Bool): List zI:=(xR vA cl.flatten).filter λx=>!(all&&cl.any λy=>!decide (x∈y))
theorem z6D (cl:List (List zI))(hl:cl.length≤100000)(hs:∀ s∈cl,s.length≤10000): zC0 cl=some cl.flatten:=by
 have htot:∀ k:Nat,(cl.take k).flatten.length≤10000*k:=by
  intro k
  induction k with
  | zero=>simp
  | succ k ih =>
   cases hx:cl[k]? with
   | none =>
    have:cl.take (k+1)=cl.take k:=by
     rw[List.getElem?_eq_none_iff] at hx
     rw[Qx (by omega),Qx (by omega)]
    rw[this];omega
   | some x =>
    rw[uL hx,List.flatten_append,Qd]
    have:=hs x (wG hx)
    rw[show[x].flatten=x by simp]
    omega
 unfold zC0
 have h1:=uP (B:=zC6 cl) (λi (n:Nat)=>((n:Int),(i:Int))) cl (λi n=>n=(cl.take i).flatten.length) (λr=>r=((cl.flatten.length:Nat):Int)) ?_ ?_ 0 (by simp)
 ·obtain⟨r,h2,rfl⟩:=h1
  rw[show zN (zC6 cl) (0,0)=_ from h2]
  simp only[zob]
  have hfl:=htot cl.length
  rw[QC] at hfl
  have hg:zEv (cl.flatten.length:Int)=some []:=by
   unfold zEv
   have hn:decide ((cl.flatten.length:Int)<0)=false:=Q9 (by omega)
   have hw:zH ((cl.flatten.length:Int)-zH (((0:Nat):Int)-len ([]:List zI)))=(cl.flatten.length:Int):=by
    have:zH (((0:Nat):Int)-len ([]:List zI))=0:=rfl
    rw[this,Int.sub_zero,z6i _ (by omega)]
   simp only[hn,zbf,Qc,zob,hw]
   by_cases h0:decide (0<(cl.flatten.length:Int))=true
   ·rw[Ql h0]
    unfold mkS
    rw[Ql ⟨by omega,by omega,by omega⟩]
    simp only[zob]
    have:sub (List.replicate (cl.flatten.length:Int).toNat ((false,[]):zI)) 0 (len ([]:List zI))=some []:=by
     rw[zNJ (by simp[len]) (by simp[len])]
     simp[len]
    rw[this]
    rfl
   ·rw[Qi h0]
  rw[hg]
  simp only[zob]
  have h3:=zEs (B:=zDj cl) cl (λs x=>s++x) id (λi s=>s.length≤10000*i) ([]:List zI) (by simp) ?_ ?_
  ·rw[h3.1]
   have:∀(m:List (List zI)) (acc:List zI),m.foldl (λs x=>s++x) acc=acc++m.flatten:=by
    intro m
    induction m with
    | nil=>intro acc;simp
    | cons x m ih=>intro acc;rw[UT,ih];simp
   rw[this];simp
  ·intro i x s hx hI
   have hi:=vM hx
   have:=hs x (wG hx)
   unfold zDj
   simp only[wL hx,Qf,qQ hx,zob,qV hx (by omega)]
   rw[wD (by omega)]
   exact⟨rfl,by simp;omega⟩
  ·intro s _
   unfold zDj
   simp[len]
 ·rintro i x n hx rfl
  have hi:=vM hx
  have h4:=htot i
  have h5:=htot (i+1)
  have hle:=hs x (wG hx)
  have hsum:zH (((cl.take i).flatten.length:Int)+len x)=(((cl.take (i+1)).flatten.length:Nat):Int):=by
   have e:(cl.take (i+1)).flatten.length=(cl.take i).flatten.length+x.length:=by rw[uL hx,List.flatten_append,Qd,show[x].flatten=x by simp]
   rw[e]
   simp only[len]
   rw[vJ (by omega) (by omega)]
   omega
  refine .inl ⟨_,?_,rfl⟩
  unfold zC6
  simp only[wL hx,Qf,qQ hx,zob,hsum,qV hx (show cl.length<4294967296 by omega)]
  rw[Q9 (by omega)]
  rfl
 ·rintro n rfl
  rw[QC]
  refine⟨_,?_,rfl⟩
  unfold zC6
  simp only[uH,zbf,Qc]
theorem acc_del (cl:List (List zI))(hl:cl.length≤100000)(hs:∀ s∈cl,s.length≤10000)(all:Bool)(l:List zI)(hb:l.length<4294967296):
  zAR l all cl=some (l.filter λx=>!(all&&cl.any λy=>!decide (x∈y))):=by
 have hp:∀ x:zI,zCR x all cl=some (all&&cl.any λy=>!decide (x∈y)):=by
  intro x
  have h1:zAH cl x=some (cl.any λy=>!decide (x∈y)):=by
   have:=zTI (λy=>zDN y x) (λy=>!decide (x∈y)) cl (by omega) (λy hy=>by
    unfold zDN
    rw[z6s x (by have:=hs y hy;omega)]
    rfl)
   exact this
  unfold zCR
  cases all with
  | true=>simp only[Qf,h1,zob,Uw]
  | false=>rfl
 exact zVa (λx=>zCR x all cl) (λx=>all&&cl.any λy=>!decide (x∈y)) (false,[]) l hb λx _=>hp x
theorem zRa{c:zBv}{q:Int}{es:List (List Int)}(h:zAk c.2.2.2 q=some (es,0))(hl:es.length≤100000)(hs:∀ s∈es,s.length≤10000)(all:Bool):
  zBU c q all=some (accS2 (es.map (zNn c.2.1)) all,0):=by
 have hs2:∀ s∈es.map (zNn c.2.1),s.length≤10000:=by
  intro s hs'
  obtain⟨e,he,rfl⟩:=Qn.1 hs'
  exact QD (z9b _ _) (hs e he)
 unfold zBU
 rw[zU4 h hl λs hs'=>by have:=hs s hs';omega]
 simp only[zob,bne_self_eq_false,zbf,Qc]
 rw[z6D _ (by simpa using hl) hs2]
 simp only[zob]
 have hfl:(es.map (zNn c.2.1)).flatten.length≤1000000000:=by
  have:∀ m:List (List zI),(∀ s∈m,s.length≤10000)->m.flatten.length≤10000*m.length:=by
   intro m
   induction m with
   | nil=>intro _;simp
   | cons x m ih =>
    intro hm
    have h1:=hm x Qq
    have h2:=ih λs hs=>hm s (Qo _ hs)
    simp only[Wq,Qd,QK]
    omega
  have h1:=this _ hs2
  rw[QJ] at h1
  omega
 rw[z2H (by omega)]
 simp only[zob]
 rw[acc_del _ (by simpa using hl) hs2 all _ (by have:=zWm vA (es.map (zNn c.2.1)).flatten;omega)]
 rfl
theorem accS2_one{l:List zI}(h:yA vA l)(all:Bool): accS2 [l] all=l:=by
 unfold accS2
 have h1:xR vA [l].flatten=l:=z2S zSb h λx=>by simp
 rw[h1,UH.2]
 intro x hx
 simp[hx]
theorem z5P{c:zBv}{N:Nat}{L:List qG}(hG:wY N L)(hc:c.2.2.2=((N:Int),L)): zBU c 1 true=some (zNn c.2.1 (tO (yW N L) 1),0):=by
 have hN:=hG.hN
 have hgl:(yW N L).length=N:=zEX _ _
 have hw:=zMm (yW N L) 1
 have h1:zAk c.2.2.2 1=some ([tO (yW N L) 1],0):=by rw[hc];exact z3u hG
 rw[zRa h1 (by simp) (λs hs=>by simp only[Qa] at hs;subst hs;omega) true]
 rw[List.map_singleton,accS2_one (z8f _ _)]
end
section
section
variable {N:Nat}{L:List qG}
theorem any_cf{α:Type}{B:Int->Option (Int⊕Int)}(l:List α)(q:α->Bool)(hB:∀(i:Nat) x,l[i]?=some x->B (i:Int)=some (if q x then .inr (i:Int) else .inl ((i+1:Nat):Int)))(he:B (l.length:Int)=some (.inr (-1))):
  ((zN B 0:Option Int).bind λr=>some (decide (0≤r)))=some (l.any q):=by
 rw[zSH q l (-1) id hB he]
 show((some (if l.any q then z3s q l else -1):Option Int).bind _)=_
 rw[z09,zob]
 congr 1
 cases ha:l.any q with
 | true=>exact Qy (by have:=mt z8c.1 (show ¬ _=false by rw[ha];simp);omega)
 | false=>exact Q9 (by have:=z8c.2 ha;omega)
theorem all_map{α β:Type}{B:List β×Int->Option ((List β×Int)⊕(List β×Int))}(l:List α)(g:α->β)(hl:l.length≤100000)(hB:∀(i:Nat) x s,l[i]?=some x->B (s,(i:Int))=(qF s [g x]).bind λz=>some (.inl (z,((i+1:Nat):Int))))(he:∀ s,B (s,(l.length:Int))=some (.inr (s,0))):
  zN B ([],0)=some (l.map g,0):=by
 have h:=zEs (B:=B) l (λs x=>s++[g x]) (λs=>(s,(0:Int))) (λi s=>s.length≤i) ([]:List β) (by simp) (λi x s hx hI=>by
  have:=vM hx
  rw[hB i x s hx,wD (by simp;omega)]
  exact⟨rfl,by simp;omega⟩) (λs _=>he s)
 rw[h.1,zH5];rfl
theorem z94{α β:Type}{B:List α×Int->Option ((List α×Int)⊕β)}(l:List α)(q:α->Bool)(fin:List α->β)(hl:l.length≤100000)(hB:∀(i:Nat) x s,l[i]?=some x->B (s,(i:Int))=if q x=true then(qF s [x]).bind λz=>some (.inl (z,((i+1:Nat):Int))) else some (.inl (s,((i+1:Nat):Int))))(he:∀ s,B (s,(l.length:Int))=some (.inr (fin s))):
  zN B ([],0)=some (fin (l.filter q)):=by
 have h:=zEs (B:=B) l (λs x=>if q x=true then s++[x] else s) fin (λi s=>s.length≤i) ([]:List α) (by simp) (λi x s hx hI=>by
  have:=vM hx
  rw[hB i x s hx]
  cases q x with
  | true=>simp only[Qf];rw[wD (by simp;omega)];exact⟨rfl,by simp;omega⟩
  | false=>exact⟨rfl,by simp;omega⟩) (λs _=>he s)
 rw[h.1,zHx q (λx=>x) l []]
 simp
def ssubB (x y:List Int): Bool:=decide (x.length<y.length)&&x.all λi=>decide (i∈y)
theorem z9j (x y:List Int)(hx:x.length<4294967296)(hy:y.length<4294967296): zD0 x y=some (ssubB x y):=by
 have h1:zAF x y=some (x.any λi=>!decide (i∈y)):=by
  unfold zAF zAZ
  refine any_cf x (λi=>!decide (i∈y)) (λi u hu=>?_) (by unfold zAT;simp[len])
  unfold zAT zEn
  simp only[wL hu,Qf,qQ hu,zob,qV hu hx,zGC y u (by omega)]
  cases decide (u∈y) <;> rfl
 unfold zD0
 rw[h1]
 unfold ssubB
 have hd:decide ((len x)<(len y))=decide (x.length<y.length):=by rw[Wg];simp only[len];omega
 rw[hd,show(x.all λi=>decide (i∈y))=!(x.any λi=>!decide (i∈y)) from List.all_eq_not_any_not]
 cases decide (x.length<y.length) <;> simp
theorem z1m (x:List Int)(hx:x.length<1000000)(k:Int): zBe x [k]=some (tO x k):=by
 have h:=zMm x k
 unfold zBe
 rw[zXX (s':=(tO x k,1)) (by unfold zEV;simp only[zZI x _ (show x.length<4294967000 by omega),zC,len];simp[wD (show([]:List Int).length+(tO x k).length<4294967296 by simp;omega)];rfl)]
 rw[zQp (r:=tO x k) (by unfold zEV;rfl)]
def zVT (x y:List Int): Bool:=ssubB (tO y 1) (tO x 1)
theorem ext_pref (x y:List Int)(hx:x.length<1000000)(hy:y.length<1000000): zCY x y=some (zVT x y):=by
 have h1:=zMm x 1
 have h2:=zMm y 1
 unfold zCY
 rw[z1m y hy,zob,z1m x hx,zob,z9j _ _ (by omega) (by omega)]
 rfl
theorem ext_best{l:List (List Int)}(hl:l.length<4294967296)(hs:∀ x∈l,x.length<1000000){y:List Int}(hy:y.length<1000000): zAI l y=some (l.any λx=>zVT x y):=by
 unfold zAI zA8
 refine any_cf l (λx=>zVT x y) (λi u hu=>?_) (by unfold zAW;simp[len])
 unfold zAW zA3
 simp only[wL hu,Qf,qQ hu,zob,qV hu hl,ext_pref u y (hs u (wG hu)) hy]
 cases zVT u y <;> rfl
end
end
section
theorem ord_good{i:Int}{o:yZ}(h:zC ords i=some o): badO o=false:=by
 obtain⟨n,rfl,hn⟩:=zTC h
 have hm:=wG hn
 have:∀ o∈ords,badO o=false:=by decide
 exact this o hm
end
section
def allB:Nat->List (List Bool)
 | 0=>[[]]
 | n+1=>(allB n).map (true::·)++(allB n).map (false::·)
theorem z80:∀ n,(allB n).length=2 ^ n
 | 0=>rfl
 | n+1=>by rw[allB,Qd,QJ,QJ,z80 n,Nat.pow_succ];omega
theorem z2T:∀(l:List Bool),l∈allB l.length
 | []=>Qq
 | true::l=>List.mem_append_left _ (Qn.2 ⟨l,z2T l,rfl⟩)
 | false::l=>List.mem_append_right _ (Qn.2 ⟨l,z2T l,rfl⟩)
theorem z7S{α:Type}{l:List α}(hn:l.Nodup)(φ:α->List Bool)(n:Nat)(hl:∀ x∈l,(φ x).length=n)(hi:∀ x∈l,∀ y∈l,φ x=φ y->x=y): l.length≤2 ^ n:=by
 have hnd:(l.map φ).Nodup:=by
  rw[List.nodup_iff_pairwise_ne,Q8]
  exact List.Pairwise.imp_of_mem (R:=λa b=>a≠b) (λ{a c} ha hc hne h=>hne (hi a ha c hc h)) hn
 have:=zMu hnd (m:=allB n) λy hy=>by
  obtain⟨x,hx,rfl⟩:=Qn.1 hy
  have:=z2T (φ x)
  rwa [hl x hx] at this
 rwa [QJ,z80] at this
theorem zXp{α:Type}(p:α->Bool)(l:List α): (l.filter p).length+(l.filter λx=>!p x).length=l.length:=by
 induction l with
 | nil=>rfl
 | cons x l ih =>
  rw[Q3,Q3]
  cases p x <;> simp <;> omega
def gB:Nat->Nat->Nat
 | 0,_=>1
 | 1,v=>min 2 (2 ^ v)
 | u+2,v=>max (min (2 ^ (u+2)) (2 ^ v)) (gB u v+gB (u+1) (v+1))
theorem gB_min (u v:Nat): min (2 ^ u) (2 ^ v)≤gB u v:=by
 match u with
 | 0=>simp[gB];omega
 | 1=>simp[gB]
 | u+2=>exact Nat.le_max_left _ _
theorem gB_sum (u v:Nat): gB u v+gB (u+1) (v+1)≤gB (u+2) v:=by
 rw[gB];exact Nat.le_max_right _ _
theorem gB_v (u v:Nat): gB u v≤gB u (v+1):=by
 match u with
 | 0=>exact Qr _
 | 1 =>
  have:2 ^ v≤2 ^ (v+1):=US (by omega) (by omega)
  simp only[gB];omega
 | u+2 =>
  have h1:=gB_v u v
  have h2:=gB_v (u+1) (v+1)
  have:2 ^ v≤2 ^ (v+1):=US (by omega) (by omega)
  simp only[gB];omega
theorem gB_u (u v:Nat): gB u v≤gB (u+1) v:=by
 match u with
 | 0 =>
  have:0<2 ^ v:=Nat.pow_pos (by omega)
  simp only[gB];omega
 | u+1 =>
  have h1:=gB_v (u+1) v
  have h2:=gB_sum u v
  show gB (u+1) v≤gB (u+2) v
  omega
theorem z6W{u u' v v':Nat}(hu:u'≤u)(hv:v'≤v): gB u' v'≤gB u v:=by
 have h1:∀ k,gB u' v'≤gB u' (v' + k):=λk=>by
  induction k with
  | zero=>exact Qr _
  | succ k ih=>exact QD ih (gB_v _ _)
 have h2:∀ k w,gB u' w≤gB (u' + k) w:=λk w=>by
  induction k with
  | zero=>exact Qr _
  | succ k ih=>exact QD ih (gB_u _ _)
 have:=QD (h1 (v-v')) (h2 (u-u') _)
 rwa [show u' + (u-u')=u by omega,show v' + (v-v')=v by omega] at this
theorem gB_nine:gB 9 0=121:=by decide +kernel
section
variable {N:Nat}{L:List qG}
theorem CL.two{f:Nat->Nat}(h:CL N L f){i:Nat}(hi:i<N){j:Nat}(hj:j<N)(he:wA L j i)(h1:f j=1): f i=2:=by
 rcases h.r i hi with q | q | q
 ·have:=h.i1 i hi q j hj he
  omega
 ·exact q
 ·exact absurd h1 ((h.i3 i hi q).2 j hj he)
theorem CL.one{f:Nat->Nat}(h:CL N L f){i:Nat}(hi:i<N)(ha:∀ j,j<N->wA L j i->f j=2): f i=1:=by
 rcases h.r i hi with q | q | q
 ·exact q
 ·obtain⟨j,hj,he,h1⟩:=h.i2 i hi q
  have:=ha j hj he
  omega
 ·obtain⟨⟨j,hj,he,h1⟩,_⟩:=h.i3 i hi q
  have:=ha j hj he
  omega
theorem CL.ext{f g:Nat->Nat}(hf:CL N L f)(hg:CL N L g)(h:∀ i,i<N->(f i=1↔g i=1)): ∀ i,i<N->f i=g i:=by
 intro i hi
 have h2:f i=2↔g i=2:=by
  constructor
  ·intro q
   obtain⟨j,hj,he,h1⟩:=hf.i2 i hi q
   exact hg.two hi hj he ((h j hj).1 h1)
  ·intro q
   obtain⟨j,hj,he,h1⟩:=hg.i2 i hi q
   exact hf.two hi hj he ((h j hj).2 h1)
 have h1:=h i hi
 rcases hf.r i hi with q | q | q <;> rcases hg.r i hi with p | p | p <;> omega
structure StL (N:Nat)(L:List qG)(U V:List Nat)(d:Nat->Bool)(Ls:List (List Int)): Prop where
 cl:∀ x∈Ls,∃ f,CL N L f∧x=uE N f
 nd:Ls.Nodup
 uN:∀ a∈U,a<N
 blk:∀ f,CL N L f->uE N f∈Ls->∀ i,i<N->i∈V->f i≠1
 dec1:∀ f,CL N L f->uE N f∈Ls->∀ i,i<N->i∉U->i∉V->d i=true->f i=1
 dec0:∀ f,CL N L f->uE N f∈Ls->∀ i,i<N->i∉U->i∉V->d i=false->f i=2
 far:∀ a∈U,∀ i,i<N->i∉U->i∉V->d i=true->¬ wA L i a
theorem StL.same{U V:List Nat}{d:Nat->Bool}{Ls:List (List Int)}(h:StL N L U V d Ls){f g:Nat->Nat}(hf:CL N L f)(hg:CL N L g)(hx:uE N f∈Ls)(hy:uE N g∈Ls)(he:∀ i,i<N->i∈U->(f i=1↔g i=1)): uE N f=uE N g:=by
 refine labL_eq (hf.ext hg λi hi=>?_)
 by_cases hU:i∈U
 ·exact he i hi hU
 ·by_cases hV:i∈V
  ·exact⟨λq=>absurd q (h.blk f hf hx i hi hV),λq=>absurd q (h.blk g hg hy i hi hV)⟩
  ·cases hd:d i with
   | true=>exact⟨λ_=>h.dec1 g hg hy i hi hU hV hd,λ_=>h.dec1 f hf hx i hi hU hV hd⟩
   | false =>
    have h1:=h.dec0 f hf hx i hi hU hV hd
    have h2:=h.dec0 g hg hy i hi hU hV hd
    omega
open Classical in
theorem count_cl:∀(n:Nat) (U V:List Nat) (d:Nat->Bool) (Ls:List (List Int)),U.length≤n->StL N L U V d Ls->Ls.length≤gB U.length V.length:=by
 intro n
 induction n with
 | zero =>
  intro U V d Ls hU h
  have hU':U=[]:=QR (by omega)
  subst hU'
  have:=z7S h.nd (λ_=>[]) 0 (λ_ _=>rfl) λx hx y hy _=>by
   obtain⟨f,hf,rfl⟩:=h.cl x hx
   obtain⟨g,hg,rfl⟩:=h.cl y hy
   exact h.same hf hg hx hy λi _ hi=>by simp at hi
  simpa [gB] using this
 | succ n ih =>
  intro U V d Ls hU h
  by_cases hex:∃ a∈U,∃ b∈U,a≠b∧(wA L a b∨wA L b a)
  ·obtain⟨a,ha,b,hb,hab,hnb⟩:=hex
   have haN:=h.uN a ha
   have hA:(Ls.filter λx=>decide (x[a]?=some 1)).length≤gB (U.length-2) V.length:=by
    have h2:(U.filter λi=>!(decide (i=a∨wA L a i∨wA L i a))).length+2≤U.length:=by
     have e:=zXp (λi=>decide (i=a∨wA L a i∨wA L i a)) U
     have:2≤(U.filter λi=>decide (i=a∨wA L a i∨wA L i a)).length :=
      zMu (l:=[a,b]) (by simp[hab]) λx hx=>by
       rcases Qw.1 hx with rfl | hx
       ·exact Qk.2 ⟨ha,by simp⟩
       ·rw[Qa] at hx
        subst hx
        exact Qk.2 ⟨hb,by simp only[Qm];exact .inr hnb⟩
     omega
    refine QD (ih (U.filter λi=>!(decide (i=a∨wA L a i∨wA L i a))) (V.filter λi=>!(decide (i=a∨wA L a i∨wA L i a))) (λi=>if i=a then true else if wA L a i∨wA L i a then false else d i) _ (by omega) ?_) (z6W (by omega) (Qz _ _))
    have hin:∀ f,uE N f∈(Ls.filter λx=>decide (x[a]?=some 1))->uE N f∈Ls∧f a=1:=λf hf=>by
     obtain⟨g1,g2⟩:=Qk.1 hf
     refine⟨g1,?_⟩
     rw[zM5 haN] at g2
     have:((f a:Nat):Int)=1:=by simpa using g2
     omega
    have hout:∀ f,CL N L f->f a=1->∀ i,i<N->(wA L a i∨wA L i a)->f i=2:=λf hf h1 i hi hn=>by
     rcases hn with hn | hn
     ·exact hf.two hi haN hn h1
     ·exact hf.i1 a haN h1 i hi hn
    have hmem:∀ W:List Nat,∀ i,i∉(W.filter λi=>!(decide (i=a∨wA L a i∨wA L i a)))->i≠a->¬ (wA L a i∨wA L i a)->i∉W:=λW i hi h1 h2 hW=>hi (Qk.2 ⟨hW,by
     rw[Bool.not_eq_true',QV]
     rintro (q | q)
     ·exact h1 q
     ·exact h2 q⟩)
    refine⟨λx hx=>h.cl x (Qk.1 hx).1,h.nd.sublist List.filter_sublist,λi hi=>h.uN i (Qk.1 hi).1,λf hf hm i hi hV=>h.blk f hf (hin f hm).1 i hi (Qk.1 hV).1,?_,?_,?_⟩
    ·intro f hf hm i hi hiU hiV hd
     by_cases h1:i=a
     ·rw[h1];exact(hin f hm).2
     ·rw[Qi h1] at hd
      by_cases h2:wA L a i∨wA L i a
      ·rw[Ql h2] at hd;cases hd
      ·rw[Qi h2] at hd
       exact h.dec1 f hf (hin f hm).1 i hi (hmem U i hiU h1 h2) (hmem V i hiV h1 h2) hd
    ·intro f hf hm i hi hiU hiV hd
     by_cases h1:i=a
     ·rw[Ql h1] at hd;cases hd
     ·rw[Qi h1] at hd
      by_cases h2:wA L a i∨wA L i a
      ·exact hout f hf (hin f hm).2 i hi h2
      ·rw[Qi h2] at hd
       exact h.dec0 f hf (hin f hm).1 i hi (hmem U i hiU h1 h2) (hmem V i hiV h1 h2) hd
    ·intro c hc i hi hiU hiV hd he
     obtain⟨hcU,hcn⟩:=Qk.1 hc
     rw[Bool.not_eq_true',QV] at hcn
     by_cases h1:i=a
     ·subst h1;exact hcn (.inr (.inl he))
     ·rw[Qi h1] at hd
      by_cases h2:wA L a i∨wA L i a
      ·rw[Ql h2] at hd;cases hd
      ·rw[Qi h2] at hd
       exact h.far c hcU i hi (hmem U i hiU h1 h2) (hmem V i hiV h1 h2) hd he
   have hB:(Ls.filter λx=>!decide (x[a]?=some 1)).length≤gB (U.length-1) (V.length+1):=by
    have h2:(U.filter λi=>!(decide (i=a))).length+1≤U.length:=by
     have e:=zXp (λi=>decide (i=a)) U
     have:1≤(U.filter λi=>decide (i=a)).length:=zMu (l:=[a]) (by simp) λx hx=>by
      rw[Qa] at hx
      subst hx
      exact Qk.2 ⟨ha,by simp⟩
     omega
    refine QD (ih (U.filter λi=>!(decide (i=a))) (a::V) d _ (by omega) ?_) (z6W (by omega) (by simp))
    have hin:∀ f,uE N f∈(Ls.filter λx=>!decide (x[a]?=some 1))->uE N f∈Ls∧f a≠1:=λf hf=>by
     obtain⟨g1,g2⟩:=Qk.1 hf
     refine⟨g1,λh1=>?_⟩
     rw[zM5 haN,h1] at g2
     simp at g2
    have hmem:∀ i,i∉(U.filter λi=>!(decide (i=a)))->i≠a->i∉U:=λi hi h1 hW=>hi (Qk.2 ⟨hW,by simp[h1]⟩)
    refine⟨λx hx=>h.cl x (Qk.1 hx).1,h.nd.sublist List.filter_sublist,λi hi=>h.uN i (Qk.1 hi).1,λf hf hm i hi hV=>?_,?_,?_,?_⟩
    ·rcases Qw.1 hV with rfl | hV
     ·exact(hin f hm).2
     ·exact h.blk f hf (hin f hm).1 i hi hV
    ·intro f hf hm i hi hiU hiV hd
     exact h.dec1 f hf (hin f hm).1 i hi (hmem i hiU λe=>hiV (e▸Qq)) (λhV=>hiV (Qo _ hV)) hd
    ·intro f hf hm i hi hiU hiV hd
     exact h.dec0 f hf (hin f hm).1 i hi (hmem i hiU λe=>hiV (e▸Qq)) (λhV=>hiV (Qo _ hV)) hd
    ·intro c hc i hi hiU hiV hd
     exact h.far c (Qk.1 hc).1 i hi (hmem i hiU λe=>hiV (e▸Qq)) (λhV=>hiV (Qo _ hV)) hd
   have hsum:=zXp (λx:List Int=>decide (x[a]?=some 1)) Ls
   have h2:2≤U.length:=zMu (l:=[a,b]) (by simp[hab]) λx hx=>by
    rcases Qw.1 hx with rfl | hx
    ·exact ha
    ·rw[Qa] at hx;subst hx;exact hb
   have hg:=gB_sum (U.length-2) V.length
   rw[show U.length-2+1=U.length-1 by omega,show U.length-2+2=U.length by omega] at hg
   omega
  ·
   have hno:∀ a∈U,∀ b∈U,wA L a b->a=b:=λa ha b hb he=>Classical.byContradiction λhne=>hex ⟨a,ha,b,hb,hne,.inl he⟩
   refine QD ?_ (gB_min _ _)
   refine Nat.le_min.2 ⟨?_,?_⟩
   ·refine z7S h.nd (λx=>U.map λi=>decide (x[i]?=some 1)) U.length (λ_ _=>QJ _) λx hx y hy he=>?_
    obtain⟨f,hf,rfl⟩:=h.cl x hx
    obtain⟨g,hg,rfl⟩:=h.cl y hy
    refine h.same hf hg hx hy λi hi hiU=>?_
    have:=List.map_inj_left.1 he i hiU
    rw[zM5 hi,zM5 hi,Wg] at this
    simp only[Qg] at this
    omega
   ·refine z7S h.nd (λx=>V.map λi=>decide (x[i]?=some 2)) V.length (λ_ _=>QJ _) λx hx y hy he=>?_
    obtain⟨f,hf,rfl⟩:=h.cl x hx
    obtain⟨g,hg,rfl⟩:=h.cl y hy
    have hVV:∀ j,j<N->j∈V->(f j=2↔g j=2):=λj hj hV=>by
     have:=List.map_inj_left.1 he j hV
     rw[zM5 hj,zM5 hj,Wg] at this
     simp only[Qg] at this
     omega
    have key:∀ f g,CL N L f->CL N L g->uE N f∈Ls->uE N g∈Ls->(∀ j,j<N->j∈V->(f j=2->g j=2))->∀ i,i<N->i∈U->f i=1->g i=1:=by
     intro f g hf hg hx hy hV2 i hi hiU h1
     refine hg.one hi λj hj hji=>?_
     have hfj:=hf.i1 i hi h1 j hj hji
     by_cases hjU:j∈U
     ·have:=hno j hjU i hiU hji
      subst this
      omega
     ·by_cases hjV:j∈V
      ·exact hV2 j hj hjV hfj
      ·cases hd:d j with
       | true=>exact absurd hji (h.far i hiU j hj hjU hjV hd)
       | false=>exact h.dec0 g hg hy j hj hjU hjV hd
    exact h.same hf hg hx hy λi hi hiU=>⟨key f g hf hg hx hy (λj hj hV=>(hVV j hj hV).1) i hi hiU,key g f hg hf hy hx (λj hj hV=>(hVV j hj hV).2) i hi hiU⟩
theorem nine{Ls:List (List Int)}(hN:N≤9)(h1:∀ x∈Ls,∃ f,CL N L f∧x=uE N f)(h2:Ls.Nodup): Ls.length≤121:=by
 have h:=count_cl N (List.range N) [] (λ_=>true) Ls (by simp) ⟨h1,h2,λa ha=>Ua.1 ha,λf _ _ i _ h=>by simp at h,λf _ _ i hi hU=>absurd (Ua.2 hi) hU,λf _ _ i hi hU=>absurd (Ua.2 hi) hU,λa _ i hi hU=>absurd (Ua.2 hi) hU⟩
 refine QD h (QD (z6W (u:=9) (v:=0) (by simpa using hN) (by simp)) (Nat.le_of_eq gB_nine))
theorem z7F (h:wY N L)(hN:N≤9): ∃ l:List (List Int),zBO ((N:Int),L)=some (l,0)∧l.length≤121∧l.Nodup∧(∀ x∈l,∃ f,CL N L f∧x=uE N f)∧∀ f,CL N L f->uE N f∈l:=by
 obtain⟨l,h1,h2,h3⟩:=z1B h
 have h4:=nine hN h1 h2
 rcases h3 with⟨e1,_,e3⟩ | ⟨_,e2⟩
 ·exact⟨l,e1,h4,h2,h1,e3⟩
 ·omega
end
end
section
section
variable {N:Nat}{L:List qG}
def z67 (p:List Int->List Int->Bool)(l:List (List Int)): List (List Int):=l.filter λy=>!l.any λx=>p x y
theorem z6r{p:List Int->List Int->Bool}{l:List (List Int)}: ∀ x∈z67 p l,x∈l:=λx hx=>(Qk.1 hx).1
theorem top_len (p:List Int->List Int->Bool)(l:List (List Int)): (z67 p l).length≤l.length:=Qz _ _
theorem z2y (hN:N≤40){l:List (List Int)}(e1:zBO ((N:Int),L)=some (l,0))(e2:l.length≤200)(hlen:∀ x∈l,x.length=N): zBh ((N:Int),L)=some (z67 zVT l,0):=by
 unfold zBh zAa
 rw[e1,zob,Qi (by simp)]
 have hl:zN (zAD (l,0)) ([],0)=some (z67 zVT l,0):=by
  refine z94 (B:=zAD (l,0)) l (λx=>!l.any λy=>zVT y x) (λs=>(s,(0:Int))) (by omega) (λi x s hx=>?_) (λs=>by unfold zAD;simp[len])
  unfold zAD
  simp only[wL hx,Qf,qQ hx,zob,qV hx (show l.length<4294967296 by omega),ext_best (show l.length<4294967296 by omega) (λz hz=>by have:=hlen z hz;omega) (show x.length<1000000 by have:=hlen x (wG hx);omega)]
 rw[hl]
 rfl
theorem z14 (hN:N≤40){l:List (List Int)}(e1:zBh ((N:Int),L)=some (l,0))(e2:l.length≤200)(hlen:∀ x∈l,x.length=N): zAN ((N:Int),L)=some (l.map λx=>tO x 1,0):=by
 unfold zAN
 rw[e1,zob,Qi (by simp)]
 refine all_map (B:=zAU (l,0)) l (λx=>tO x 1) (by omega) (λi x s hx=>?_) (λs=>by unfold zAU;simp[len])
 unfold zAU
 simp only[wL hx,Qf,qQ hx,zob,qV hx (show l.length<4294967296 by omega),zZI x 1 (show x.length<4294967000 by have:=hlen x (wG hx);omega)]
theorem ext_of (h:wY N L){q:Int}{v:List (List Int)×Int}(hq:(q=2∧zB5 ((N:Int),L)=some v)∨(q=3∧zAN ((N:Int),L)=some v)∨(q=4∧zBW ((N:Int),L)=some v) ∨
  (q=5∧zAr ((N:Int),L)=some v)∨(q=6∧zBL ((N:Int),L)=some v)∨(q=7∧zBK ((N:Int),L)=some v)):zAk ((N:Int),L) q=some v:=by
 unfold zAk
 rw[h.v1]
 simp only[zob,bne_self_eq_false,zbf,Qc,z2E]
 rcases hq with⟨rfl,e⟩ | ⟨rfl,e⟩ | ⟨rfl,e⟩ | ⟨rfl,e⟩ | ⟨rfl,e⟩ | ⟨rfl,e⟩ <;>
 ·repeat rw[Qi (by decide)]
  rw[Ql (by decide),e]
  rfl
end
end
section
theorem Ok.whG{σ ρ:Type}{B:σ->Option (σ⊕ρ)}(I:σ->Prop)(μ:σ->Nat){Q:ρ->Prop}(h:∀ s,I s->Ok (B s) λo=>match o with | .inl t=>I t∧μ t<μ s | .inr r=>Q r){s:σ}(hs:I s): Ok (zN B s) Q:=by
 refine zO5 I μ Q (λs hI=>?_) s hs
 obtain⟨o,h1,h2⟩:=h s hI
 cases o with
 | inl t=>exact .inl ⟨t,h1,h2⟩
 | inr r=>exact .inr ⟨r,h1,h2⟩
end
section
section
variable {N:Nat}{L:List qG}
noncomputable abbrev vR (N:Nat)(L:List qG)(i:Nat): Int:=qZ N L (N+1) i
theorem now_lastS{i:Nat}: ¬ tT N L (N+1) i:=λh=>h.2 (gr_le (Wj N) (gr_last (D:=(· < N)) (λ_ h=>h) h.1))
theorem gl_2{i:Nat}: vR N L i=2↔∃ m,vR N L m=1∧wA L m i:=by
 rw[zY7]
 exact⟨λ⟨m,h1,h2⟩=>⟨m,(z9g N L).2 h1,h2⟩,λ⟨m,h1,h2⟩=>⟨m,(z9g N L).1 h1,h2⟩⟩
theorem gl_1 (h:wY N L){i:Nat}(hi:i<N): vR N L i=1↔∀ m,wA L m i->vR N L m=2:=by
 constructor
 ·intro h1 m hm
  obtain⟨k,h2,h3⟩:=((z9g N L).1 h1).2 m hm
  exact(zY7 N L).2 ⟨k,zRM h2,h3⟩
 ·intro h1
  rcases zPV N L (N+1) i with h2 | h2 | h2
  ·exact h2
  ·obtain⟨m,h3,h4⟩:=gl_2.1 h2
   have:=h1 m h4
   rw[h3] at this;cases this
  ·exact absurd ((now_iff N L hi h.hR).1 ⟨h2,λb _ hb=>h1 b hb⟩) now_lastS
def opn (N:Nat)(L:List qG)(f:Nat->Int)(i:Nat): Prop:=(∀ k,wA L k i->f k≠1)∧∃ k,wA L k i∧f k=3
theorem gl_open (h:wY N L){i:Nat}(hi:i<N)(h3:vR N L i=3): opn N L (vR N L) i:=by
 refine⟨λk hk h1=>?_,?_⟩
 ·have:=gl_2.2 ⟨k,h1,hk⟩
  rw[h3] at this;cases this
 ·apply Classical.byContradiction
  intro hno
  have:vR N L i=1:=(gl_1 h hi).2 λm hm=>by
   rcases zPV N L (N+1) m with h2 | h2 | h2
   ·have:=gl_2.2 ⟨m,h2,hm⟩
    rw[h3] at this;cases this
   ·exact h2
   ·exact absurd ⟨m,hm,h2⟩ hno
  rw[h3] at this;cases this
theorem zMw (h:wY N L){k:Nat}{i:Int}: (k:Int)∈qJ N L i↔ed L (k:Int) i=true:=by
 rw[Qk,xW]
 refine⟨λh=>h.2,λhe=>⟨⟨by omega,?_⟩,he⟩⟩
 obtain⟨a,b,h1,_,h2,_⟩:=h.inN _ _ he
 omega
end
end
section
section
variable {N:Nat}{L:List qG}
theorem lab_0 (i:Nat): qZ N L 0 i=3:=(lab3 N L).2 ⟨λh:xJ N L 0 i=>h.elim,λ⟨m,(h:xJ N L 0 m),_⟩=>h.elim⟩
theorem z78{m i:Nat}(h:qZ N L m i≠3): qZ N L (m+1) i=qZ N L m i:=by
 rcases zPV N L m i with h1 | h1 | h1
 ·rw[h1,lab_stay1 N L h1]
 ·rw[h1,z4Z N L h1]
 ·exact absurd h1 h
theorem rk_at{i:Nat}: ∀ {m:Nat},qZ N L m i≠3->∃ k,k<m∧xL N L m i=((k+1:Nat):Int)∧qZ N L k i=3∧qZ N L (k+1) i=qZ N L m i
 | 0,h=>absurd (lab_0 i) h
 | m+1,h=>by
  by_cases he:qZ N L (m+1) i=qZ N L m i
  ·obtain⟨k,h1,h2,h3,h4⟩:=rk_at (m:=m) (by rw[←he];exact h)
   exact⟨k,by omega,by rw[xL,Ql he,h2],h3,by rw[h4,he]⟩
  ·refine⟨m,by omega,by rw[xL,Qi he],?_,rfl⟩
   apply Classical.byContradiction
   exact λh3=>he (z78 h3)
theorem rk_le{k i:Nat}(h:qZ N L k i≠3): ∀ {m:Nat},k≤m->xL N L m i≤(k:Int)∧qZ N L m i=qZ N L k i:=by
 intro m hm
 induction m with
 | zero=>rw[show k=0 by omega];exact⟨rnk_le N L 0 i,rfl⟩
 | succ m ih =>
  by_cases he:k=m+1
  ·rw[he];exact⟨rnk_le N L (m+1) i,rfl⟩
  ·obtain⟨h1,h2⟩:=ih (by omega)
   have h3:=z78 (N:=N) (L:=L) (m:=m) (i:=i) (by rw[h2];exact h)
   exact⟨by rw[xL,Ql h3];exact h1,by rw[h3,h2]⟩
theorem rk_in{i:Nat}(h1:vR N L i=1): 1≤xL N L (N+1) i∧∀ j,wA L j i->xL N L (N+1) j<xL N L (N+1) i:=by
 obtain⟨k,h2,h3,h4,h5⟩:=rk_at (N:=N) (L:=L) (i:=i) (m:=N+1) (by show vR N L i≠3;rw[h1];decide)
 refine⟨by rw[h3];omega,λj hj=>?_⟩
 have h6:xJ N L (k+1) i:=(z9g N L).1 (h5.trans h1)
 have h7:qZ N L k j=2:=(zY7 N L).2 (h6.2 j hj)
 have:=(rk_le (N:=N) (L:=L) (k:=k) (i:=j) (by rw[h7];decide) (m:=N+1) (by omega)).1
 rw[h3];omega
theorem rk_out{i:Nat}(h1:vR N L i=2): ∃ j,wA L j i∧vR N L j=1∧1≤xL N L (N+1) j∧xL N L (N+1) j≤xL N L (N+1) i:=by
 obtain⟨k,h2,h3,h4,h5⟩:=rk_at (N:=N) (L:=L) (i:=i) (m:=N+1) (by show vR N L i≠3;rw[h1];decide)
 obtain⟨m,h6,h7⟩:=(zY7 N L).1 (h5.trans h1)
 have h8:qZ N L (k+1) m=1:=(z9g N L).2 h6
 obtain⟨h9,h10⟩:=rk_le (N:=N) (L:=L) (k:=k+1) (i:=m) (by rw[h8];decide) (m:=N+1) (by omega)
 have h11:vR N L m=1:=h10.trans h8
 exact⟨m,h7,h11,(rk_in h11).1,by rw[h3];exact h9⟩
theorem z2d (hN:N≤40): zDO ((N:Int),L) (yW N L)=some true:=by
 have hgl:(yW N L).length=N:=zEX _ _
 have h1:zAG (yW N L)=some false:=by
  have h2:=zTI (λy=>zH1 y) (λy=>(y != 1)&&((y != 2)&&(y != 3))) (yW N L) (by omega) λy _=>rfl
  rw[show zAG (yW N L)=_ from h2]
  congr 1
  rw[Us]
  intro y hy
  obtain⟨i,_,rfl⟩:=Qn.1 hy
  rcases zPV N L (N+1) i with h | h | h <;> rw[h] <;> decide
 unfold zDO
 rw[Ql (by simp[len,hgl]),h1]
 rfl
def uG (f:Nat->Int)(v:Int)(l:List Int): Nat:=(l.filter λx=>f x.toNat==v).length
theorem z85{f:Nat->Int}{v:Int}{l:List Int}{q:Nat}{x:Int}(hx:l[q]?=some x): uG f v (l.take (q+1))=uG f v (l.take q)+if f x.toNat=v then 1 else 0:=by
 unfold uG
 rw[uL hx,Uo,Qd]
 by_cases h:f x.toNat=v <;> simp[h]
theorem z93 (f:Nat->Int)(v:Int)(l:List Int): uG f v l≤l.length:=Qz _ _
theorem legal_ok (h:wY N L){i:Nat}(hi:i<N): zDL ((N:Int),L) (yW N L) (i:Int)=some true:=by
 have hN:=h.hN
 have hl:=zMa (L:=L) (N:=N) (i:Int)
 have key:Ok (zDL ((N:Int),L) (yW N L) (i:Int)) λr=>r=true:=by
  unfold zDL
  rw[zJ1 h,zob]
  refine .bind (I:=λs:Int×Int×Int×Int=>s.2.1=(uG (vR N L) 1 (qJ N L (i:Int)):Int)∧s.2.2.1=(uG (vR N L) 2 (qJ N L (i:Int)):Int)) ?_ λs hs=>?_
  ·refine Ok.forI (λq (c:Int×Int×Int×Int)=>((q:Int),c)) (qJ N L (i:Int)) (λq c=>c.2.1=(uG (vR N L) 1 ((qJ N L (i:Int)).take q):Int)∧c.2.2.1=(uG (vR N L) 2 ((qJ N L (i:Int)).take q):Int)) _ (λq x c hx hI=>?_) (λc hI=>?_) (0,0,0,0) ⟨by simp[uG],by simp[uG]⟩
   ·have hq:=vM hx
    obtain⟨c0,c1,c2,c3⟩:=c
    obtain⟨g1,g2⟩:=hI
    dsimp only at g1 g2
    subst g1
    subst g2
    obtain⟨k,rfl,hk,he⟩:=zWr hx
    have b1:=z93 (vR N L) 1 ((qJ N L (i:Int)).take q)
    have b2:=z93 (vR N L) 2 ((qJ N L (i:Int)).take q)
    rw[QB] at b1 b2
    unfold zEm
    simp only[wL hx,Qf,qQ hx,zob,qV hx (by omega)]
    rw[show zC (yW N L) (k:Int)=some (vR N L k) from zIu _ hk,zob]
    have s1:=z85 (f:=vR N L) (v:=1) hx
    have s2:=z85 (f:=vR N L) (v:=2) hx
    rw[Qj] at s1 s2
    rcases zPV N L (N+1) k with h1 | h1 | h1
    ·rw[show vR N L k=1 from h1] at s1 s2 ⊢
     refine⟨_,rfl,_,rfl,?_,?_⟩
     ·show zH ((uG (vR N L) 1 ((qJ N L (i:Int)).take q):Int)+1)=_
      rw[yJ _ (by omega),s1,Ql rfl]
     ·show((uG (vR N L) 2 ((qJ N L (i:Int)).take q):Nat):Int)=_
      rw[s2,Qi (by decide),QM]
    ·rw[show vR N L k=2 from h1] at s1 s2 ⊢
     refine⟨_,rfl,_,rfl,?_,?_⟩
     ·show((uG (vR N L) 1 ((qJ N L (i:Int)).take q):Nat):Int)=_
      rw[s1,Qi (by decide),QM]
     ·show zH ((uG (vR N L) 2 ((qJ N L (i:Int)).take q):Int)+1)=_
      rw[yJ _ (by omega),s2,Ql rfl]
    ·rw[show vR N L k=3 from h1] at s1 s2 ⊢
     refine⟨_,rfl,_,rfl,?_,?_⟩
     ·show((uG (vR N L) 1 ((qJ N L (i:Int)).take q):Nat):Int)=_
      rw[s1,Qi (by decide),QM]
     ·show((uG (vR N L) 2 ((qJ N L (i:Int)).take q):Nat):Int)=_
      rw[s2,Qi (by decide),QM]
   ·obtain⟨c0,c1,c2,c3⟩:=c
    rw[QC] at hI
    unfold zEm
    simp only[uH,zbf,Qc]
    exact .ret hI
  ·obtain⟨c0,c1,c2,c3⟩:=s
   obtain⟨g1,g2⟩:=hs
   dsimp only at g1 g2 ⊢
   subst g1
   subst g2
   rw[show zC (yW N L) (i:Int)=some (vR N L i) from zIu _ hi,zob]
   have hall:∀ k:Nat,(k:Int)∈qJ N L (i:Int)↔wA L k i:=λk=>zMw h
   have hat:∀ x∈qJ N L (i:Int),∃ k:Nat,x=(k:Int)∧wA L k i:=λx hx=>by
    obtain⟨q,hq⟩:=Qp.1 hx
    obtain⟨a,q1,q2,q3⟩:=zWr hq
    exact⟨a,q1,q3⟩
   rcases zPV N L (N+1) i with h1 | h1 | h1
   ·rw[show vR N L i=1 from h1,Ql (by rfl)]
    refine .ret ?_
    have:uG (vR N L) 2 (qJ N L (i:Int))=(qJ N L (i:Int)).length:=by
     unfold uG
     rw[UH.2 λx hx=>?_]
     obtain⟨k,rfl,hk⟩:=hat x hx
     rw[Qj,Q5]
     exact(gl_1 h hi).1 h1 k hk
    rw[this];simp[len]
   ·rw[show vR N L i=2 from h1,Qi (by decide),Ql (by rfl)]
    refine .ret ?_
    obtain⟨m,q1,q2⟩:=gl_2.1 h1
    have:0<uG (vR N L) 1 (qJ N L (i:Int)):=List.length_pos_of_mem (Qk.2 ⟨(hall m).2 q2,by rw[Qj,Q5];exact q1⟩)
    exact Qy (by omega)
   ·rw[show vR N L i=3 from h1,Qi (by decide),Qi (by decide)]
    refine .ret ?_
    obtain⟨q1,k,q2,q3⟩:=gl_open h hi h1
    have z1:uG (vR N L) 1 (qJ N L (i:Int))=0:=by
     unfold uG
     rw[UV.2 λx hx=>?_];rfl
     obtain⟨k,rfl,hk⟩:=hat x hx
     rw[Qj,Q5]
     exact q1 k hk
    have z2:uG (vR N L) 2 (qJ N L (i:Int))<(qJ N L (i:Int)).length:=by
     rcases Nat.lt_or_ge (uG (vR N L) 2 (qJ N L (i:Int))) (qJ N L (i:Int)).length with hlt | hge
     ·exact hlt
     ·have he:((qJ N L (i:Int)).filter λx=>vR N L x.toNat==2).length=(qJ N L (i:Int)).length:=Nat.le_antisymm (z93 (vR N L) 2 _) hge
      have:=(List.length_filter_eq_length_iff.1 he) _ ((hall k).2 q2)
      rw[Qj,q3] at this
      cases this
    rw[z1]
    simp only[Int.natCast_zero,Ue,U9,Qm,len]
    omega
 obtain⟨r,e,rfl⟩:=key
 exact e
theorem z6V (h:wY N L): zCB ((N:Int),L) (yW N L)=some true:=by
 have hN:=h.hN
 have hgl:(yW N L).length=N:=zEX _ _
 have h1:zEE ((N:Int),L) (yW N L)=some []:=by
  unfold zEE
  rw[z2d hN,zob,Qi (by decide)]
  have h2:=uP (B:=zCA (yW N L) ((N:Int),L)) (λq (_:Unit)=>(([]:List Int),(q:Int))) (yW N L) (λ_ _=>True) (λr=>r=[]) ?_ ?_ () trivial
  ·obtain⟨r,e,rfl⟩:=h2;exact e
  ·intro q x _ hx _
   have hq:=vM hx
   refine .inl ⟨(),?_,trivial⟩
   unfold zCA
   simp only[wL hx,Qf,legal_ok h (show q<N by omega),zob,qV hx (by omega),QO,zbf,Qc]
  ·intro _ _
   refine⟨_,?_,rfl⟩
   unfold zCA
   simp only[uH,zbf,Qc]
 unfold zCB
 rw[z2d hN,zob,Ql rfl,h1]
 rfl
theorem proved_ok (h:wY N L){i:Nat}(hi:i<N): zJq ((N:Int),L) (yW N L) (zTn N L) (i:Int)=some true:=by
 have hN:=h.hN
 have hl:=zMa (L:=L) (N:=N) (i:Int)
 have hlb:∀ {k:Nat},k<N->zC (yW N L) (k:Int)=some (vR N L k):=λhk=>zIu _ hk
 have hrk:∀ {k:Nat},k<N->zC (zTn N L) (k:Int)=some (xL N L (N+1) k):=λhk=>zIu _ hk
 have hat:∀ x∈qJ N L (i:Int),∃ k:Nat,x=(k:Int)∧k<N∧wA L k i:=λx hx=>by
  obtain⟨q,hq⟩:=Qp.1 hx
  obtain⟨a,q1,q2,q3⟩:=zWr hq
  exact⟨a,q1,q2,q3⟩
 unfold zJq
 rw[zJ1 h,zob,hlb hi,zob]
 rcases zPV N L (N+1) i with h1 | h1 | h1
 ·obtain⟨q1,q2⟩:=rk_in h1
  have hc:zAo (qJ N L (i:Int)) (zTn N L) (i:Int)=some false:=by
   have h2:=zTI (λy=>zHi y (zTn N L) (i:Int)) (λy=>decide (xL N L (N+1) i≤xL N L (N+1) y.toNat)) (qJ N L (i:Int)) (by omega) λy hy=>by
    obtain⟨k,rfl,hk,_⟩:=hat y hy
    unfold zHi
    rw[hrk hk,zob,hrk hi,zob,Qj]
   rw[show zAo (qJ N L (i:Int)) (zTn N L) (i:Int)=_ from h2]
   congr 1
   rw[Us]
   intro y hy
   obtain⟨k,rfl,hk,he⟩:=hat y hy
   have:=q2 k he
   rw[Qj,Qm];omega
  rw[show vR N L i=1 from h1,Ql (by rfl),hrk hi,zob,Ql (Qy q1),hc]
  rfl
 ·obtain⟨j,q1,q2,q3,q4⟩:=rk_out h1
  have hj:=(h.inN.nat q1).1
  have hc:zAn (qJ N L (i:Int)) (yW N L) (zTn N L) (i:Int)=some true:=by
   have h2:=zTI (λy=>zH2 y (yW N L) (zTn N L) (i:Int)) (λy=>(vR N L y.toNat==1)&&(decide (1≤xL N L (N+1) y.toNat)&&decide (xL N L (N+1) y.toNat≤xL N L (N+1) i))) (qJ N L (i:Int)) (by omega) λy hy=>by
    obtain⟨k,rfl,hk,_⟩:=hat y hy
    unfold zH2
    rw[hlb hk,hrk hk,hrk hi,Qj]
    simp only[zob]
    by_cases c1:vR N L k=1
    ·by_cases c2:1≤xL N L (N+1) k
     ·simp[c1,c2]
     ·simp[c1,c2]
    ·simp[c1]
   rw[show zAn (qJ N L (i:Int)) (yW N L) (zTn N L) (i:Int)=_ from h2]
   congr 1
   rw[Q6]
   exact⟨(j:Int),(zMw h).2 q1,by rw[Qj];simp[q2,q3,q4]⟩
  rw[show vR N L i=2 from h1,Qi (by decide),Ql (by rfl),hc]
  rfl
 ·rw[show vR N L i=3 from h1,Qi (by decide),Qi (by decide)]
theorem check_ok (h:wY N L): zKd ((N:Int),L) (yW N L) (zTn N L)=some 0:=by
 have hN:=h.hN
 have hrl:(zTn N L).length=N:=zEX _ _
 unfold zKd
 rw[h.v1,zob,Qi (by decide),z2d hN,zob,Qi (by decide),zob,Qi (by simp[len,hrl]),z6V h,zob,Qi (by decide)]
 refine zZO (l:=zTn N L) (λq x hx=>?_) ?_
 ·have hq:=vM hx
  unfold zKo
  rw[Ql (Qy (by show(q:Int)<(N:Int);omega)),proved_ok h (show q<N by omega),zob,Qi (by decide),qV hx (by omega)]
 ·unfold zKo
  rw[Qi (by rw[hrl];simp)]
end
end
section
theorem z9O{b:zM}(h:tR b)(k:Nat): tR (b.1,b.2.1.take k,([]:List wW)) where
 np:=h.np
 nr:=by have:=h.nr;show(b.2.1.take k).length≤24;rw[QB];omega
 nm:=by simp
 prem:=h.prem
 rule:=λr hr=>h.rule r (UF hr)
 dp:=h.dp
 dr:=λi j p q hp hq e=>by
  have hs:∀ {i:Nat} {p:qH},(b.2.1.take k)[i]?=some p->b.2.1[i]?=some p:=λ{i p} hp=>by
   rw[QX] at hp
   split at hp
   ·exact hp
   ·cases hp
  exact h.dr i j p q (hs hp) (hs hq) e
 prom:=λp hp=>by cases hp
theorem z38{b:zM}(h:tR b)(h0:b.2.1=[]): zQe b=some (zRp b):=by
 have hr:xH b (zRp b) 0 true=[]:=List.eq_nil_iff_forall_not_mem.2 λa ha=>by
  obtain⟨_,r,hr,_⟩:=z2J.1 ha
  rw[h0] at hr
  unfold zC at hr
  split at hr <;> simp at hr
 have hl:=zMn b
 have hn:=h.np
 unfold zQe
 rw[show(50:Nat)=49+1 from rfl,zUR,hr,QF,Qi (by omega),Ql rfl]
end
section
def xC (x:Int): Int:=if zH (0-x) > x then zH (0-x) else x
theorem z4F (x:Int): zJT x=some (xC x):=rfl
theorem zO6{x:Int}(h:x.natAbs≤1000): xC x=(x.natAbs:Int):=by
 unfold xC
 rw[vJ (by omega) (by omega)]
 split <;> omega
def ltV (x y:Int): Bool:=z5U uC uC (xC x,x) (xC y,y)
theorem z6t:z0U ltV where
 irrefl x:=(zVJ xP xP).irrefl _
 trans x y z h1 h2:=(zVJ xP xP).trans _ _ _ h1 h2
 tri x y:=by
  rcases(zVJ xP xP).tri (xC x,x) (xC y,y) with h | h | h
  ·exact .inl h
  ·exact .inr (.inl (congrArg Prod.snd h))
  ·exact .inr (.inr h)
theorem res_cmp (x y:Int): zEF x y=some (orF [z3h (xC x) (xC y),z3h x y]):=by
 unfold zEF
 rw[z4F,z4F]
 simp only[zob]
 rw[zP0,zP0]
 simp only[zob]
 rw[z7h _ (by simp)]
 rfl
theorem z3z (x y:Int): yL zEF x y=ltV x y:=by
 simp only[yL,res_cmp,Ux]
 exact zRX (by rw[zRX (r:=[]) (b:=false) (by simp[orF])];simp)
theorem sortcompV{β:Type}{l:List Int}(h:l.length<4294967296)(k:List Int->Option β): ((zAh l).bind λr6=>(zAq r6).bind λr7=>k r7)=k (xR ltV l):=by
 have ho:OrdOn zEF l:=by
  have hd:∀ x y,ltV x y=false->ltV y x=false->x=y:=λx y h1 h2=>by
   rcases z6t.tri x y with h | h | h
   ·rw[h] at h1;cases h1
   ·exact h
   ·rw[h] at h2;cases h2
  refine⟨λx _ y _=>⟨_,res_cmp x y⟩,λx _=>by rw[z3z];exact z6t.irrefl x,λx _ y _ z _ h1 h2=>?_,λx _ y _ z _ h1 h2=>?_,λx _ y _ h1 h2=>?_⟩
  ·rw[z3z] at h1 h2 ⊢
   exact z6t.trans _ _ _ h1 h2
  ·rw[z3z] at h1 h2 ⊢
   cases h3:ltV x z with
   | false=>rfl
   | true =>
    rcases z6t.tri y x with h | h | h
    ·rw[z6t.trans _ _ _ h h3] at h2;cases h2
    ·subst h;rw[h3] at h2;cases h2
    ·rw[h] at h1;cases h1
  ·rw[z3z] at h1 h2
   exact hd x y h1 h2
 have hs:zAh l=some (l.mergeSort λx y=>!ltV y x):=by
  unfold zAh sortO
  rw[Ql ⟨ho,h⟩]
  simp only[z3z]
 rw[hs]
 rw[zob,z0n (by rw[Wo];exact h),zob]
 rfl
structure zOw (n:Nat)(c:List Int): Prop where
 lit:∀ x∈c,x≠0∧x.natAbs≤n
 asc:c.Pairwise λx y=>x.natAbs<y.natAbs
theorem zOw.len{n:Nat}{c:List Int}(h:zOw n c): c.length≤n:=by
 have hn:(c.map Int.natAbs).Nodup:=by
  rw[List.Nodup,Q8]
  exact h.asc.imp λhlt=>by omega
 have:=zMu (m:=List.range' 1 n) hn λx hx=>by
  obtain⟨y,hy,rfl⟩:=Qn.1 hx
  obtain⟨h1,h2⟩:=h.lit y hy
  rw[List.mem_range'_1];omega
 simpa using this
theorem zOw.mono{n m:Nat}{c:List Int}(h:zOw n c)(hm:n≤m): zOw m c:=⟨λx hx=>by have:=h.lit x hx;omega,h.asc⟩
theorem zWF{n:Nat}{c:List Int}(h:zOw n c)(hn:n≤200)(hl:c.length≤50): zGH (n:Int) c=some 0:=by
 unfold zGH
 rw[Qi (by simp only[len,Qm];omega)]
 have h1:zN (zJg c (n:Int)) 0=some (.inl ()):=by
  refine zZO (l:=c) (λi x hx=>?_) ?_
  ·obtain⟨h2,h3⟩:=h.lit x (wG hx)
   unfold zJg
   simp only[wL hx,Qf,qQ hx,zob,qV hx (by omega)]
   rw[vJ (x:=0-(n:Int)) (by omega) (by omega)]
   have hd:((x==0)||((decide (x<0-(n:Int)))||(decide ((n:Int)<x))))=false:=by
    simp only[Un,QU,QV]
    exact⟨h2,by omega,by omega⟩
   rw[hd]
   rfl
  ·unfold zJg
   simp only[uH,zbf,Qc]
 rw[h1]
 show zN (zED c) 1=some 0
 have key:∀ k i:Nat,1≤i->k+i=c.length+1->zN (zED c) (i:Int)=some 0:=by
  intro k
  induction k with
  | zero =>
   intro i h1 h2
   refine zQp ?_
   unfold zED
   rw[Qi (by simp only[len,Qm];omega)]
  | succ k ih =>
   intro i h1 h2
   by_cases hlt:i<c.length
   ·have hx:c[i]?=some c[i]:=Qh hlt
    have hy:c[i-1]?=some c[i-1]:=Qh (by omega)
    have hpw:=Ud.1 h.asc (i-1) i (by omega) hlt (by omega)
    have hs:∀ x∈c,x.natAbs≤1000:=λx hx=>by have:=(h.lit x hx).2;omega
    have hst:zED c (i:Int)=some (.inl ((i+1:Nat):Int)):=by
     unfold zED
     rw[Ql (by simp only[len,Qm];omega),vJ (x:=(i:Int)-1) (by omega) (by omega),show(i:Int)-1=((i-1:Nat):Int) by omega,qQ hy,zob,qQ hx,zob,z4F,z4F,zob,zob,
      zO6 (hs _ (wG hy)),zO6 (hs _ (wG hx)),Qi (by simp only[Qm];omega),yJ i (by omega)]
    rw[zXX hst]
    exact ih (i+1) (by omega) (by omega)
   ·refine zQp ?_
    unfold zED
    rw[Qi (by simp only[len,Qm];omega)]
 exact key c.length 1 (by omega) (by omega)
def resL (a b:List Int)(p:Int): List Int:=(a.filter λx=>xC x != p)++(b.filter λx=>xC x != p)
def rsvC (a b:List Int)(p:Int): List Int:=xR ltV (resL a b p)
theorem zWf{a b:List Int}{p x:Int}: x∈rsvC a b p↔(x∈a∨x∈b)∧xC x≠p:=by
 unfold rsvC resL
 rw[(zLV z6t _).2,Qb,Qk,Qk,bne_iff_ne]
 constructor
 ·rintro (⟨h1,h2⟩ | ⟨h1,h2⟩)
  ·exact⟨.inl h1,h2⟩
  ·exact⟨.inr h1,h2⟩
 ·rintro ⟨h1 | h1,h2⟩
  ·exact .inl ⟨h1,h2⟩
  ·exact .inr ⟨h1,h2⟩
theorem z5d{n:Nat}(hn:n≤200){a b:List Int}{p:Int}(ha:zOw n a)(hb:zOw n b)(hno:∀ x y,(x∈a∨x∈b)->(y∈a∨y∈b)->xC x≠p->x≠-y): zOw n (rsvC a b p):=by
 have hlit:∀ x,(x∈a∨x∈b)->x≠0∧x.natAbs≤n:=λx hx=>hx.elim (ha.lit x) (hb.lit x)
 refine⟨λx hx=>hlit x (zWf.1 hx).1,?_⟩
 have h1:=(zLV z6t (resL a b p)).1
 refine List.Pairwise.imp_of_mem (λ{x y} hx hy hlt=>?_) h1
 obtain⟨hx1,hx2⟩:=zWf.1 hx
 obtain⟨hy1,hy2⟩:=zWf.1 hy
 obtain⟨x0,xn⟩:=hlit x hx1
 obtain⟨y0,yn⟩:=hlit y hy1
 have hne:=hno x y hx1 hy1 hx2
 have hlt':ltV x y=true:=hlt
 unfold ltV at hlt'
 rw[zO6 (by omega),zO6 (by omega)] at hlt'
 simp[z5U,uC] at hlt'
 rcases hlt' with h | ⟨h,h2⟩ <;> omega
theorem res_L2{x1:List Int}(hl:x1.length≤1000)(p:Int)(s4:(List Int)×Int){q:Nat}(hq:s4.2=(q:Int))(hq2:q<1000)(hs:s4.1.length≤1000):
  zN (zFo x1 p s4) (s4.1,0)=some (.inl (s4.1++x1.filter (λx=>xC x != p),((q+1:Nat):Int))):=by
 have h:=uP (B:=zFo x1 p s4) (λi (s:List Int)=>(s,(i:Int))) x1 (λi s=>s=s4.1++(x1.take i).filter (λx=>xC x != p)) (λr=>r=.inl (s4.1++x1.filter (λx=>xC x != p),((q+1:Nat):Int))) ?_ ?_ s4.1 (by simp)
 ·obtain⟨r,h1,rfl⟩:=h
  exact h1
 ·rintro i x s hx rfl
  have hi:=vM hx
  have hfl:=Qz (λx=>xC x != p) (x1.take i)
  rw[QB] at hfl
  refine .inl ⟨_,?_,rfl⟩
  unfold zFo
  simp only[wL hx,Qf,qQ hx,zob,z4F,qV hx (by omega)]
  rw[uL hx,Uo]
  by_cases hc:(xC x != p)=true
  ·rw[Ql hc,wD (by rw[Qd,Qt];omega),zob]
   simp[hc]
  ·rw[Qi hc]
   simp[hc]
 ·rintro s rfl
  refine⟨_,?_,rfl⟩
  unfold zFo
  simp only[uH,zbf,Qc,QC]
  rw[hq,yJ q (by omega)]
theorem z9i{n:Nat}(hn:n≤50){a b:List Int}{p:Int}(ha:zOw n a)(hb:zOw n b)(hp:1≤p)(hpn:p≤n)(hpa:p∈a)(hpb:-p∈b)(hno:∀ x y,(x∈a∨x∈b)->(y∈a∨y∈b)->xC x≠p->x≠-y):
  zFP a b p=some (rsvC a b p,true):=by
 have hla:=ha.len
 have hlb:=hb.len
 have hg:=z5d (by omega) ha hb hno
 have hlg:=hg.len
 unfold zFP
 rw[Qi (by simp only[Qm];omega)]
 rw[show(200:Int)=((200:Nat):Int) from rfl,zWF (ha.mono (by omega)) (Qr _) (by omega),zWF (hb.mono (by omega)) (Qr _) (by omega)]
 simp only[zob,bne_self_eq_false,zbf,Qc]
 rw[zGC a p (by omega),vJ (x:=0-p) (by omega) (by omega),show(0:Int)-p=-p by omega,zGC b (-p) (by omega)]
 simp only[zob,Qy hpa,Qy hpb,QO,zbf,Qc]
 have hL:zN (zDW a b p) (([]:List Int),0)=some (resL a b p):=by
  have s1:zDW a b p (([]:List Int),0)=some (.inl (a.filter (λx=>xC x != p),1)):=by
   unfold zDW
   rw[Ql (by rfl),show zC [a,b] 0=some a from rfl,zob]
   exact(res_L2 (by omega) p (([]:List Int),0) (q:=0) rfl (by omega) (by simp)).trans (by simp)
  have hfa:=Qz (λx=>xC x != p) a
  have s2:zDW a b p (a.filter (λx=>xC x != p),1)=some (.inl (resL a b p,2)):=by
   unfold zDW
   rw[Ql (by rfl),show zC [a,b] 1=some b from rfl,zob]
   exact res_L2 (by omega) p (a.filter (λx=>xC x != p),1) (q:=1) rfl (by omega) (by show(a.filter (λx=>xC x != p)).length≤1000;omega)
  rw[zXX s1,zXX s2]
  refine zQp ?_
  unfold zDW
  rw[Qi (by simp[len])]
 rw[hL,zob]
 have hll:(resL a b p).length<4294967296:=by
  have h1:=Qz (λx=>xC x != p) a
  have h2:=Qz (λx=>xC x != p) b
  unfold resL
  rw[Qd];omega
 rw[sortcompV hll]
 rw[show xR ltV (resL a b p)=rsvC a b p from rfl,zWF (hg.mono (by omega)) (Qr _) (by omega)]
 rfl
end
section
def vl (v:List Int)(x:Int): Int:=if 0<x then v.getD (x.natAbs-1) 0 else-v.getD (x.natAbs-1) 0
structure z1z (n:Nat)(v:List Int): Prop where
 len:v.length=n
 at_:∀ x∈v,x=-1∨x=0∨x=1
section
variable {n:Nat}{v:List Int}
theorem vl_3 (h:z1z n v){x:Int}(hx:x≠0)(hn:x.natAbs≤n): vl v x=-1∨vl v x=0∨vl v x=1:=by
 have hl:=h.len
 have hi:x.natAbs-1<v.length:=by omega
 have hm:=h.at_ _ (List.getElem_mem hi)
 unfold vl
 rw[Ub,Qh hi,Ux]
 split <;> omega
theorem z7y (x:Int)(hx:x≠0): vl v (-x)=- vl v x:=by
 unfold vl
 rw[Int.natAbs_neg]
 by_cases h:0<x
 ·rw[Qi (by omega),Ql h]
 ·rw[Ql (by omega),Qi h,Int.neg_neg]
theorem z8O (h:z1z n v)(hn:n≤12){s:uI}(hs:s.1=v){x:Int}(hx:x≠0)(hxn:x.natAbs≤n): zDw s x=some (vl v x):=by
 have hl:=h.len
 have hi:x.natAbs-1<v.length:=by omega
 have hg:v[x.natAbs-1]?=some v[x.natAbs-1]:=Qh hi
 have hm:=h.at_ _ (List.getElem_mem hi)
 unfold zDw vl
 rw[hs,Ub,hg,Ux]
 by_cases hp:0<x
 ·rw[Ql (Qy hp),Ql hp,vJ (by omega) (by omega),show x-1=((x.natAbs-1:Nat):Int) by omega,qQ hg,zob]
 ·rw[Qi (by simpa using hp),Qi hp,vJ (x:=0-x) (by omega) (by omega),vJ (x:=0-x-1) (by omega) (by omega),show 0-x-1=((x.natAbs-1:Nat):Int) by omega,qQ hg,zob,vJ (by omega) (by omega)]
  congr 1
  omega
def P2 (v:List Int)(c:List Int): Prop:=(∃ x∈c,vl v x=1)∨∃ x∈c,∃ y∈c,x≠y∧vl v x=0∧vl v y=0
def Fls (v:List Int)(c:List Int): Prop:=∀ x∈c,vl v x=-1
def Unt (v:List Int)(c:List Int)(y:Int): Prop:=y∈c∧vl v y=0∧∀ x∈c,x≠y->vl v x=-1
theorem look_L2 (h:z1z n v)(hn:n≤12){s:uI}(hs:s.1=v){c:List Int}(hc:zOw n c)(s1:Int×Int×Int):
  Ok (zN (zEa c s s1) (0,0)) λo=>match o with
   | .inl y=>(y=0∧Fls v c)∨(y≠0∧Unt v c y)
   | .inr (.inl t)=>t=(s1.1,s1.2.1,zH (s1.2.2+1))∧P2 v c
   | .inr (.inr _)=>False:=by
 have hcl:=hc.len
 refine Ok.forI (λi (y:Int)=>(y,(i:Int))) c (λi y=>(y=0∧∀ x∈c.take i,vl v x=-1)∨(y≠0∧y∈c∧y∈c.take i∧vl v y=0∧∀ x∈c.take i,x≠y->vl v x=-1)) _ (λi x y hx hI=>?_) (λy hI=>?_) 0 (.inl ⟨rfl,by simp⟩)
 ·obtain⟨x0,xn⟩:=hc.lit x (wG hx)
  have hi:=vM hx
  unfold zEa
  simp only[wL hx,Qf,qQ hx,zob,z8O h hn hs x0 xn,qV hx (by omega)]
  have hnot:x∉c.take i:=λhm=>by
   obtain⟨j,hj⟩:=Qp.1 hm
   rw[QX] at hj
   split at hj
   ·have hj2:=(Qe.1 hj).1
    have:=Ud.1 hc.asc j i hj2 hi (by assumption)
    rw[(Qe.1 hj).2,(Qe.1 hx).2] at this
    omega
   ·cases hj
  rcases vl_3 h x0 xn with hv | hv | hv
  ·
   rw[hv,Qi (by decide),zob]
   have e:((-1:Int)==0&&y != 0)=false:=rfl
   rw[e,Qi (by decide),Qi (by decide)]
   refine .ret ⟨y,rfl,?_⟩
   dsimp only
   rw[uL hx]
   rcases hI with⟨h1,h2⟩ | ⟨h1,h2,h3,h4,h5⟩
   ·refine .inl ⟨h1,λz hz=>?_⟩
    rcases Qb.1 hz with hz | hz
    ·exact h2 z hz
    ·rw[Qa] at hz;subst hz;exact hv
   ·refine .inr ⟨h1,h2,Qb.2 (.inl h3),h4,λz hz hzy=>?_⟩
    rcases Qb.1 hz with hz | hz
    ·exact h5 z hz hzy
    ·rw[Qa] at hz;subst hz;exact hv
  ·
   rw[hv,Qi (by decide),zob]
   have e:((0:Int)==0&&y != 0)=(y != 0):=rfl
   rw[e]
   refine .ite (λhy=>.ret ⟨rfl,?_⟩) (λhy=>?_)
   ·have hy:y≠0:=by simpa using hy
    rcases hI with⟨h1,_⟩ | ⟨_,h2,h3,h4,_⟩
    ·exact absurd h1 hy
    ·exact .inr ⟨y,h2,x,wG hx,λe=>hnot (e▸h3),h4,hv⟩
   ·have hy:y=0:=by simpa using hy
    rw[Ql (by rfl)]
    refine .ret ⟨x,rfl,.inr ⟨x0,wG hx,by rw[uL hx];simp,hv,λz hz hzx=>?_⟩⟩
    rw[uL hx] at hz
    rcases Qb.1 hz with hz | hz
    ·rcases hI with⟨_,h2⟩ | ⟨h1,_⟩
     ·exact h2 z hz
     ·exact absurd hy h1
    ·rw[Qa] at hz;exact absurd hz hzx
  ·
   rw[hv,Ql (by decide),zob,Ql (by decide)]
   exact .ret ⟨rfl,.inl ⟨x,wG hx,hv⟩⟩
 ·unfold zEa
  simp only[uH,zbf,Qc]
  rw[QC] at hI
  refine .ret ?_
  rcases hI with⟨h1,h2⟩ | ⟨h1,h2,h3,h4,h5⟩
  ·exact .inl ⟨h1,h2⟩
  ·exact .inr ⟨h1,h2,h4,h5⟩
def Lk (v:List Int)(C:List (List Int))(r:Int×Int): Prop :=
 (r.2=0∧∃(k:Nat) (c:List Int),r.1=(k:Int)∧C[k]?=some c∧Fls v c)∨(r.1=-1∧r.2=0∧∀ c∈C,P2 v c)∨(r.2≠0∧∃(k:Nat) (c:List Int),r.1=(k:Int)∧C[k]?=some c∧Unt v c r.2)
theorem look_ok (h:z1z n v)(hn:n≤12){s:uI}(hs:s.1=v){C:List (List Int)}(hC:s.2.1=C)(hg:∀ c∈C,zOw n c)(hl:C.length≤100000): Ok (zFv s) (Lk v C):=by
 unfold zFv
 refine Ok.forI (λi (t:Int×Int)=>(t.1,t.2,(i:Int))) C (λi t=>(t.1=-1∧t.2=0∧∀ c∈C.take i,P2 v c)∨(t.2≠0∧∃(k:Nat) (c:List Int),t.1=(k:Int)∧C[k]?=some c∧Unt v c t.2)) _ (λi c t hx hI=>?_) (λt hI=>?_) (-1,0) (.inl ⟨rfl,rfl,by simp⟩)
 ·obtain⟨u,y⟩:=t
  have hi:=vM hx
  unfold zGh
  rw[hC]
  simp only[wL hx,Qf,qQ hx,zob,qV hx (by omega)]
  refine Ok.seqE (look_L2 h hn hs (hg c (wG hx)) (u,y,(i:Int))) (λz hz=>?_) (λo ho=>?_)
  ·refine .ite (λh0=>.ret ?_) (λh0=>?_)
   ·have h0:z=0:=by simpa using h0
    rcases hz with⟨_,hf⟩ | ⟨h1,_⟩
    ·exact .inl ⟨rfl,i,c,rfl,hx,hf⟩
    ·exact absurd h0 h1
   ·have h0:z≠0:=by simpa using h0
    have hu:Unt v c z:=hz.resolve_left (λh1=>h0 h1.1) |>.2
    refine .ite (λh1=>.ret ⟨((i:Int),z),rfl,.inr ⟨h0,i,c,rfl,hx,hu⟩⟩) (λh1=>.ret ⟨(u,y),rfl,?_⟩)
    rcases hI with⟨h2,_⟩ | h2
    ·dsimp only at h2;subst h2;simp at h1
    ·exact .inr h2
  ·cases o with
   | inl t =>
    obtain⟨rfl,hp⟩:=ho
    refine⟨(u,y),by rw[qV hx (by omega)],?_⟩
    rcases hI with⟨h1,h2,h3⟩ | h1
    ·refine .inl ⟨h1,h2,λd hd=>?_⟩
     rw[uL hx] at hd
     rcases Qb.1 hd with hd | hd
     ·exact h3 d hd
     ·rw[Qa] at hd;subst hd;exact hp
    ·exact .inr h1
   | inr t=>exact ho.elim
 ·unfold zGh
  rw[hC]
  simp only[uH,zbf,Qc]
  rw[QC] at hI
  exact .ret (.inr hI)
theorem branch_L2 (h:z1z n v)(hn:n≤12){s:uI}(hs:s.1=v){c:List Int}(hc:zOw n c)(k:Int):
  Ok (zN (zDk c s k) (0,0)) λo=>match o with
   | .inl t=>t=zH (k+1)∧∃ x∈c,vl v x=1
   | .inr y=>(y=0∧∀ x∈c,vl v x=-1)∨(y∈c∧vl v y=0):=by
 have hcl:=hc.len
 refine Ok.forI (λi (y:Int)=>(y,(i:Int))) c (λi y=>(y=0∧∀ x∈c.take i,vl v x=-1)∨(y≠0∧y∈c∧vl v y=0)) _ (λi x y hx hI=>?_) (λy hI=>?_) 0 (.inl ⟨rfl,by simp⟩)
 ·obtain⟨x0,xn⟩:=hc.lit x (wG hx)
  unfold zDk
  simp only[wL hx,Qf,qQ hx,zob,z8O h hn hs x0 xn,qV hx (by omega)]
  rcases vl_3 h x0 xn with hv | hv | hv
  ·rw[hv,Qi (by decide),Qi (by decide)]
   refine .ret ⟨y,rfl,?_⟩
   rcases hI with⟨h1,h2⟩ | h1
   ·refine .inl ⟨h1,λz hz=>?_⟩
    rw[uL hx] at hz
    rcases Qb.1 hz with hz | hz
    ·exact h2 z hz
    ·rw[Qa] at hz;subst hz;exact hv
   ·exact .inr h1
  ·rw[hv,Qi (by decide),Ql (by rfl)]
   refine .ite (λhy=>.ret ⟨x,rfl,.inr ⟨x0,wG hx,hv⟩⟩) (λhy=>.ret ⟨y,rfl,?_⟩)
   have hy:y≠0:=by simpa using hy
   exact .inr (hI.resolve_left λh1=>hy h1.1)
  ·rw[hv,Ql (by rfl)]
   exact .ret ⟨rfl,x,wG hx,hv⟩
 ·unfold zDk
  simp only[uH,zbf,Qc]
  rw[QC] at hI
  refine .ret ?_
  rcases hI with h1 | ⟨_,h1⟩
  ·exact .inl h1
  ·exact .inr h1
theorem z5k (h:z1z n v)(hn:n≤12){s:uI}(hs:s.1=v){C:List (List Int)}(hC:s.2.1=C)(hg:∀ c∈C,zOw n c)(hl:C.length≤100000)(h2:∀ c∈C,P2 v c):
  Ok (zEy s) λr=>(r=0∧∀ c∈C,∃ x∈c,vl v x=1)∨(r≠0∧r.natAbs≤n∧vl v r=0):=by
 unfold zEy
 refine Ok.forI (λi (_:Unit)=>(i:Int)) C (λi _=>∀ c∈C.take i,∃ x∈c,vl v x=1) _ (λi c _ hx hI=>?_) (λ_ hI=>?_) () (by simp)
 ·have hi:=vM hx
  unfold zFd
  rw[hC]
  simp only[wL hx,Qf,qQ hx,zob]
  refine(branch_L2 h hn hs (hg c (wG hx)) (i:Int)).imp λo ho=>?_
  cases o with
  | inl t =>
   obtain⟨rfl,hp⟩:=ho
   refine⟨(),by rw[qV hx (by omega)],λd hd=>?_⟩
   rw[uL hx] at hd
   rcases Qb.1 hd with hd | hd
   ·exact hI d hd
   ·rw[Qa] at hd;subst hd;exact hp
  | inr y =>
   rcases ho with⟨h1,h3⟩ | ⟨h1,h3⟩
   ·rcases h2 c (wG hx) with⟨x,h4,h5⟩ | ⟨x,h4,_,_,_,h5,_⟩
    ·rw[h3 x h4] at h5;cases h5
    ·rw[h3 x h4] at h5;cases h5
   ·exact .inr ⟨((hg c (wG hx)).lit y h1).1,((hg c (wG hx)).lit y h1).2,h3⟩
 ·unfold zFd
  rw[hC]
  simp only[uH,zbf,Qc]
  rw[QC] at hI
  exact .ret (.inl ⟨rfl,hI⟩)
end
end
section
theorem zWh{n:Nat}(h:n<10): Lib.decDigits n=[UInt8.ofNat (48+n)]:=by rw[Lib.decDigits,dif_pos h]
theorem z2t{n:Nat}(h:¬ n<10): Lib.decDigits n=Lib.decDigits (n / 10)++[UInt8.ofNat (48+n % 10)]:=by rw[Lib.decDigits,dif_neg h]
theorem z8R{n:Nat}(h:n<10): (UInt8.ofNat (48+n)).toNat=48+n:=by
 rw[UInt8.toNat_ofNat'];omega
def z89 (c:UInt8): Bool:=decide (48≤c.toNat)&&decide (c.toNat≤57)
theorem isDigV_of{n:Nat}(h:n<10): z89 (UInt8.ofNat (48+n))=true:=by grind [z89,z8R]
theorem dec_digsV (n:Nat): ∀ c∈Lib.decDigits n,z89 c=true:=by
 induction n using Nat.strongRecOn with
 | ind n ih =>
  grind [zWh,isDigV_of,z2t]
def stepV (a:Nat)(c:UInt8): Nat:=a*10+(c.toNat-48)
def valV (acc:Nat)(l:zD): Nat:=l.foldl stepV acc
theorem z2a (acc:Nat): valV acc []=acc:=rfl
theorem zZo (acc:Nat)(c:UInt8)(r:zD): valV acc (c::r)=valV (acc*10+(c.toNat-48)) r:=by grind [valV,stepV]
theorem z4G:∀(l:zD) (acc:Nat) (c:UInt8),valV acc (l++[c])=valV acc l*10+(c.toNat-48)
 | [],acc,c=>by rw[QI,zZo,z2a,z2a]
 | x::l,acc,c=>by rw[Ur,zZo,zZo,z4G l]
theorem z86 (n:Nat): valV 0 (Lib.decDigits n)=n:=by
 induction n using Nat.strongRecOn with
 | ind n ih =>
  grind [zWh,z2a,z8R,z2t,z4G]
theorem z8e:∀(k n:Nat),1≤k->n<10 ^ k->(Lib.decDigits n).length≤k:=by
 intro k
 induction k with
 | zero=>grind
 | succ k ih =>
  grind [zWh,z2t]
theorem itoa_anyV{n:Int}(h0:-9223372036854775808≤n)(h1:n≤9223372036854775807): zDV n=some (Lib.itoa n):=by
 unfold zDV zEt zDQ fmt10
 grind
theorem dec_inj{a b:Nat}(h:Lib.decDigits a=Lib.decDigits b): a=b:=by rw[←z86 a,h,z86]
theorem z7W{n:Nat}{c:UInt8}(hc:z89 c=false): c∉Lib.decDigits n:=λhm=>by
 rw[dec_digsV n c hm] at hc;cases hc
theorem itoa_inj{a b:Int}(h:Lib.itoa a=Lib.itoa b): a=b:=by
 unfold Lib.itoa at h
 by_cases ha:a<0 <;> by_cases hb:b<0
 ·rw[Ql ha,Ql hb] at h
  have:=dec_inj (List.cons.inj h).2
  omega
 ·rw[Ql ha,Qi hb] at h
  exact absurd (h▸Qq) (z7W (c:=45) (by decide))
 ·rw[Qi ha,Ql hb] at h
  exact absurd (h.symm▸Qq) (z7W (c:=45) (by decide))
 ·rw[Qi ha,Qi hb] at h
  have:=dec_inj h
  omega
theorem z47 (n:Int): (32:UInt8)∉Lib.itoa n:=by
 unfold Lib.itoa
 split
 ·rw[Qw,not_or]
  exact⟨by decide,z7W (by decide)⟩
 ·exact z7W (by decide)
theorem z8C:∀ {a b r s:zD},(32:UInt8)∉a->(32:UInt8)∉b->a++32::r=b++32::s->a=b∧r=s
 | [],[],r,s,_,_,h=>⟨rfl,(List.cons.inj h).2⟩
 | [],y::b,r,s,_,hb,h=>by
  have:=(List.cons.inj h).1
  subst this
  exact absurd Qq hb
 | x::a,[],r,s,ha,_,h=>by
  have:=(List.cons.inj h).1
  subst this
  exact absurd Qq ha
 | x::a,y::b,r,s,ha,hb,h=>by
  obtain⟨h1,h2⟩:=List.cons.inj h
  obtain⟨h3,h4⟩:=z8C (λhm=>ha (Qo _ hm)) (λhm=>hb (Qo _ hm)) h2
  exact⟨by rw[h1,h3],h4⟩
def z7B (c:List Int): zD:=c.flatMap λx=>Lib.itoa x++[32]
theorem zV6 (x:Int)(c:List Int): z7B (x::c)=Lib.itoa x++32::z7B c:=by simp[z7B]
theorem z8J:∀ {c d:List Int},z7B c=z7B d->c=d
 | [],[],_=>rfl
 | [],y::d,h=>by
  rw[zV6] at h
  have:=congrArg List.length h
  simp[z7B] at this
 | x::c,[],h=>by
  rw[zV6] at h
  have:=congrArg List.length h
  simp[z7B] at this
 | x::c,y::d,h=>by
  rw[zV6,zV6] at h
  obtain⟨h1,h2⟩:=z8C (z47 x) (z47 y) h
  rw[itoa_inj h1,z8J h2]
theorem itoa_len5{x:Int}(h:x.natAbs≤1000): (Lib.itoa x).length≤5:=by
 unfold Lib.itoa
 split
 ·have:=z8e 4 x.natAbs (by omega) (by omega)
  rw[QK];omega
 ·have:=z8e 4 x.toNat (by omega) (by omega)
  omega
theorem key_ok{c:List Int}(hs:∀ x∈c,x.natAbs≤1000)(hl:c.length≤100): zRQ c=some (z7B c):=by
 unfold zRQ
 have h:=uP (B:=zKZ c) (λi (s:zD)=>((i:Int),s)) c (λi s=>s=z7B (c.take i)∧s.length≤6*i) (λr=>r=z7B c) ?_ ?_ [] ⟨by simp[z7B],by simp⟩
 ·obtain⟨r,h1,rfl⟩:=h
  rw[show zN (zKZ c) (0,[])=_ from h1,zob]
  rfl
 ·rintro i x s hx ⟨h1,h2⟩
  have hi:=vM hx
  have hxs:=hs x (wG hx)
  have h5:=itoa_len5 hxs
  refine .inl ⟨s++Lib.itoa x++[32],?_,?_,?_⟩
  ·unfold zKZ
   simp only[wL hx,Qf,qQ hx,zob,qV hx (by omega)]
   rw[itoa_anyV (by omega) (by omega),zob]
   have hw:zCx s (Lib.itoa x)=some (len (Lib.itoa x),(),s++Lib.itoa x):=by
    unfold zCx wstrM
    grind
   rw[hw,zob]
   have hb:zD1 (s++Lib.itoa x) 32=some ((),s++Lib.itoa x++[32]):=by
    unfold zD1
    have:(decide ((0:Int)≤32)&&decide ((32:Int)<256)&&decide (len (s++Lib.itoa x)+1<4294967296))=true:=by
     simp only[len,Qd,QA,Qm];omega
    rw[this]
    rfl
   rw[show(len (Lib.itoa x),(),s++Lib.itoa x).2.2=s++Lib.itoa x from rfl,hb]
   rfl
  ·rw[h1,uL hx]
   simp[z7B]
  ·rw[Qd,Qd,Qt];omega
 ·rintro s ⟨h1,h2⟩
  refine⟨s,?_,by rw[h1,QC]⟩
  unfold zKZ
  simp only[uH,zbf,Qc]
end
end Go.GD
