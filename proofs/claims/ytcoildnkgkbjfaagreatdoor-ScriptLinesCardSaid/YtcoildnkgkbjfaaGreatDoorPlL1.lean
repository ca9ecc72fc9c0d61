/- A part. Conditions: none. -/
import Derived.Test.YtcoildnkgkbjfaaGreatDoorLib
import Derived.Test.YtcoildnkgkbjfaaGreatDoorModels
import Derived.Lib.TrailingZeros
import Derived.Shelf.Strings.FieldsAny
import Derived.Test.YtcoildnkgkbjfaaGreatDoorFrm
import Derived.Test.YtcoildnkgkbjfaaGreatDoorJoin
namespace Go.GD
set_option autoImplicit false
set_option linter.unusedVariables false
section
noncomputable def zIS (y0:Int): Option Bool :=
 some (y0 != y0)
noncomputable def zFT (y0:Int)(y1:Int): Option Int :=
 (zIS y0).bind fun r1 =>
 (zIS y1).bind fun r2 =>
 if r1 then
  if r2 then
   some 0
  else
   some (-1)
 else
  if r2 then
   some 1
  else
   if decide (y0<y1) then
    some (-1)
   else
    if decide (y1<y0) then
     some 1
    else
     some 0
noncomputable def zSq (y0:List Int)(s1:Int): Option (Int⊕Int) :=
 if decide (s1<(len y0)) then
  (zD y0 s1).bind fun x1 =>
  if x1 != 0 then
   some (.inr x1)
  else
   some (.inl (zF (s1+1)))
 else
  some (.inr 0)
noncomputable def zPp (y0:List Int): Option Int :=
 zJ (zSq y0) 0
noncomputable def zIR (y0:wU)(y1:wU): Option Int :=
 (zFT y0.1 y1.1).bind fun r1 =>
 (zFT y0.2 y1.2).bind fun r2 =>
 (zPp ([r1,r2]:List Int)).bind fun r3 =>
 some r3
noncomputable def zBd (y0:uF)(s1:Int): Option (Int⊕Int) :=
 if decide (s1<(len y0.2)) then
  (zD y0.2 s1).bind fun x1 =>
  if(decide ((if x1.2<x1.1 then x1.2 else x1.1)<0))||(decide (y0.1≤(if x1.2 > x1.1 then x1.2 else x1.1))) then
   some (.inr 1)
  else
   (
    if decide (0<s1) then
     (zD y0.2 (zF (s1-1))).bind fun x2 =>
     (zIR x2 x1).bind fun r1 =>
     some (decide (0≤r1))
    else
     some false:Option Bool).bind fun s2 =>
   if s2 then
    some (.inr 8)
   else
    some (.inl (zF (s1+1)))
 else
  some (.inr 0)
noncomputable def zCj (y0:uF): Option Int :=
 if(decide (y0.1<0))||(decide (40<y0.1)) then
  some 1
 else
  zJ (zBd y0) 0
noncomputable def zJv (y0:List zU)(y1:Int): Option Bool :=
 some ((decide (0≤y1))&&(decide (y1<(len y0))))
noncomputable def zKE (y0:List Int)(s1:Int)(s3:(List Int)×Int×Int): Option (((List Int)×Int×Int)⊕((List Int)×Int)) :=
 if decide (s3.2.2<((Int.toNat (((List.length y0:Nat):Int)-s1):Nat):Int)) then
  (z59 s3.1 s1 s3.2.2).bind fun x3 =>
  (z59 s3.1 s1 (zF (s3.2.2-1))).bind fun x4 =>
  if x3 != x4 then
   (z59 s3.1 s1 s3.2.2).bind fun x5 =>
   (zD s3.1 s3.2.1).bind fun _ =>
   some (.inl (List.set s3.1 (Int.toNat s3.2.1) x5,zF (s3.2.1+1),zF (s3.2.2+1)))
  else
   some (.inl (s3.1,s3.2.1,zF (s3.2.2+1)))
 else
  some (.inr (s3.1,s3.2.1))
noncomputable def zKN (y0:List Int)(s1:Int): Option (Int⊕(List Int)) :=
 if decide (s1<(len y0)) then
  (zD y0 s1).bind fun x1 =>
  (zD y0 (zF (s1-1))).bind fun x2 =>
  if x1==x2 then
   (chk (decide (0≤s1)&&decide (s1≤len y0))).bind fun _ =>
   (zJ (zKE y0 s1) (y0,s1,1):Option ((List Int)×Int)).bind fun s2 =>
   (chk (decide (0≤s2.2)&&decide (s2.2≤len s2.1))).bind fun _ =>
   (sub (zLn s2.1 s2.2 0) 0 s2.2).bind fun x7 =>
   some (.inr x7)
  else
   some (.inl (zF (s1+1)))
 else
  some (.inr y0)
noncomputable def zFe (y0:List Int): Option (List Int) :=
 if decide ((len y0)<2) then
  some y0
 else
  zJ (zKN y0) 1
noncomputable def zDQ (y0:List Int): Option (List Int):=z6a y0
noncomputable def zEg (x1:zU)(rec_argument_Subs:(List zU)->Int->Option (List Int))(y0:List zU)(s2:(List Int)×Int): Option (((List Int)×Int)⊕(List Int)) :=
 if decide (s2.2<(len x1.2.2.1)) then
  (zD x1.2.2.1 s2.2).bind fun x2 =>
  (rec_argument_Subs y0 x2).bind fun r2 =>
  (qT s2.1 r2).bind fun x3 =>
  some (.inl (x3,zF (s2.2+1)))
 else
  some (.inr s2.1)
noncomputable def zI5 (rec_argument_Subs:(List zU)->Int->Option (List Int))(y0:List zU)(y1:Int): Option (List Int) :=
 (zJv y0 y1).bind fun r1 =>
 if !r1 then
  some ([]:List Int)
 else
  (
   (zD y0 y1).bind fun x1 =>
   zJ (zEg x1 rec_argument_Subs y0) (([y1]:List Int),0):Option (List Int)).bind fun s1 =>
  (zDQ s1).bind fun r3 =>
  (zFe r3).bind fun r4 =>
  some r4
noncomputable def zFB:Nat->(List zU)->Int->Option (List Int)
 | 0=>fun _ _=>none
 | k+1=>fun y0 y1=>zI5 (zFB k) y0 y1
noncomputable def zLK (y0:List zU)(y1:Int): Option (List Int):=yH fun k=>zFB k y0 y1
noncomputable def zCe (r1:(List Int))(y0:List zU)(s2:(List Int)×Int): Option (((List Int)×Int)⊕(List Int)) :=
 if decide (s2.2<(len r1)) then
  (zD r1 s2.2).bind fun x1 =>
  (zD y0 x1).bind fun x2 =>
  if decide (0≤x2.1) then
   (zD y0 x1).bind fun x3 =>
   (qT s2.1 ([x3.1]:List Int)).bind fun x4 =>
   some (.inl (x4,zF (s2.2+1)))
  else
   some (.inl (s2.1,zF (s2.2+1)))
 else
  some (.inr s2.1)
noncomputable def zGO (y0:List zU)(y1:Int): Option (List Int) :=
 (
  (zLK y0 y1).bind fun r1 =>
  zJ (zCe r1 y0) (([]:List Int),0):Option (List Int)).bind fun s1 =>
 (zDQ s1).bind fun r2 =>
 some r2
noncomputable def zGm (y1:List Int)(y0:zX)(s1:(List Int)×Int): Option (((List Int)×Int)⊕(List Int)) :=
 if decide (s1.2<(len y1)) then
  (zD y1 s1.2).bind fun x1 =>
  (zD y0.2.1 x1).bind fun x2 =>
  (qT s1.1 ([x2.2.2.1]:List Int)).bind fun x3 =>
  some (.inl (x3,zF (s1.2+1)))
 else
  some (.inr s1.1)
noncomputable def zW8 (y0:zX)(y1:List Int): Option (List Int) :=
 zJ (zGm y1 y0) (([]:List Int),0)
noncomputable def zBv (r1:(List Int))(y0:zX)(s1:(List Int)×Int): Option (((List Int)×Int)⊕(List Int)) :=
 if decide (s1.2<(len r1)) then
  (zD r1 s1.2).bind fun x1 =>
  (zD y0.1 x1).bind fun x2 =>
  if x2.2.1==2 then
   (qT s1.1 ([x2.2.2.1]:List Int)).bind fun x3 =>
   some (.inl (x3,zF (s1.2+1)))
  else
   if x2.2.1==3 then
    (qT s1.1 ([(-1)]:List Int)).bind fun x4 =>
    some (.inl (x4,zF (s1.2+1)))
   else
    some (.inl (s1.1,zF (s1.2+1)))
 else
  some (.inr s1.1)
noncomputable def zGP (y0:zX)(y1:List zU)(y2:Int): Option (List Int) :=
 (zGO y1 y2).bind fun r1 =>
 zJ (zBv r1 y0) (([]:List Int),0)
noncomputable def zJ8 (rec_ref30_digits:Int->Option zA)(y0:Int): Option zA :=
 if decide (y0<10) then
  some (zKH ([IntKind.u8.wrap (zF (48+y0))]:List Int))
 else
  (
   (z3i .i64 y0 10).bind fun x1 =>
   (z4q y0 10).bind fun x2 =>
   (rec_ref30_digits x1).bind fun r1 =>
   (qE r1 (zKH ([IntKind.u8.wrap (zF (48+x2))]:List Int))).bind fun x3 =>
   some x3:Option zA).bind fun s1 =>
  some s1
noncomputable def zER:Nat->Int->Option zA
 | 0=>fun _=>none
 | k+1=>fun y0=>zJ8 (zER k) y0
noncomputable def zMj (y0:Int): Option zA:=yH fun k=>zER k y0
noncomputable def zC4 (y0:zA)(s2:Int×Int): Option ((Int×Int)⊕Int) :=
 if decide (s2.2<(len y0)) then
  (
   (vR y0 s2.2).bind fun x2 =>
   if decide (x2<48) then
    some true
   else
    (vR y0 s2.2).bind fun x3 =>
    some (decide (57<x3)):Option Bool).bind fun s3 =>
  if s3 then
   some (.inr (-1))
  else
   (vR y0 s2.2).bind fun x4 =>
   some (.inl (zF ((zF (s2.1*10))+(zF (IntKind.u8.wrap (x4-48)))),zF (s2.2+1)))
 else
  some (.inr s2.1)
noncomputable def zJU (y0:zA): Option Int :=
 (
  if decide ((len y0)<1) then
   some true
  else
   if decide (4<(len y0)) then
    some true
   else
    if decide (1<(len y0)) then
     (vR y0 0).bind fun x1 =>
     some (x1==48)
    else
     some false:Option Bool).bind fun s1 =>
 if s1 then
  some (-1)
 else
  zJ (zC4 y0) (0,0)
noncomputable def zBa (y0:zA)(s2:(List zA)×zA×Int): Option (((List zA)×zA×Int)⊕((List zA)×zA)) :=
 if decide (s2.2.2<(len y0)) then
  (vR y0 s2.2.2).bind fun x1 =>
  if x1==32 then
   (qT s2.1 ([s2.2.1]:List zA)).bind fun x2 =>
   some (.inl (x2,[],zF (s2.2.2+1)))
  else
   (sub y0 s2.2.2 (zF (s2.2.2+1))).bind fun x3 =>
   (qE s2.2.1 x3).bind fun x4 =>
   some (.inl (s2.1,x4,zF (s2.2.2+1)))
 else
  some (.inr (s2.1,s2.2.1))
noncomputable def zKJ (y0:zA): Option (List zA) :=
 (zJ (zBa y0) (([]:List zA),[],0):Option ((List zA)×zA)).bind fun s1 =>
 (qT s1.1 ([s1.2]:List zA)).bind fun x5 =>
 some x5
noncomputable def zD6 (y0:List Int)(y1:Int)(s1:(List Int)×Int): Option (((List Int)×Int)⊕(List Int)) :=
 if decide (s1.2<(len y0)) then
  (zD y0 s1.2).bind fun x1 =>
  if x1==y1 then
   (qT s1.1 ([s1.2]:List Int)).bind fun x2 =>
   some (.inl (x2,zF (s1.2+1)))
  else
   some (.inl (s1.1,zF (s1.2+1)))
 else
  some (.inr s1.1)
noncomputable def zKo (y0:List Int)(y1:Int): Option (List Int) :=
 zJ (zD6 y0 y1) (([]:List Int),0)
end
section
theorem yL{x:Int}(h1:-9223372036854775808≤x)(h2:x<9223372036854775808): zF x=x:=by
 simp only[zF,IntKind.wrap,IntKind.signed,IntKind.bits]
 simp;omega
theorem z6Z (n:Nat)(h:n<9223372036854775808): zF (n:Int)=n:=yL (by omega) (by omega)
theorem wI (n:Nat)(h:n+1<9223372036854775808): zF ((n:Int)+1)=((n+1:Nat):Int):=by rw[yL (by omega) (by omega)];omega
theorem tV{α:Type}(l:List α)(i:Nat): zD l (i:Int)=l[i]?:=by simp[zD]
theorem zCn (l:zA)(i:Nat): vR l (i:Int)=(l[i]?).map (fun b=>(b.toNat:Int)):=by simp[vR]
theorem zRJ{α:Type}{l:List α}{i:Int}(h0:0≤i)(h1:i<l.length): ∃ x,zD l i=some x∧l[i.toNat]?=some x:=by
 have:l[i.toNat]?=some l[i.toNat]:=Qi (by omega)
 grind [zD]
theorem yC{α:Type}{l m:List α}(h:l.length+m.length<4294967296): qT l m=some (l++m):=by simp[qT,h]
theorem qL{l m:zA}(h:l.length+m.length<4294967296): qE l m=some (l++m):=by simp[qE,h]
theorem zJw{α:Type}{l:List α}{i j:Int}(h0:0≤i)(h1:i≤j)(h2:j≤l.length): sub l i j=some ((l.take j.toNat).drop i.toNat):=by grind [sub]
theorem zLY{α:Type}{l:List α}{j:Int}(h1:0≤j)(h2:j≤l.length): sub l 0 j=some (l.take j.toNat):=by simp[sub,h1,h2]
theorem zPd{α:Type}{l:List α}{i:Int}(h1:0≤i)(h2:i≤l.length): sub l i (len l)=some (l.drop i.toNat):=by simp[sub,h1,h2]
def zVv{σ ρ α:Type}(step:Nat->σ->α->Option (σ⊕ρ))(fin:σ->Option ρ): Nat->List α->σ->Option ρ
 | _,[],s=>fin s
 | i,x::l,s=>match step i s x with
  | none=>none
  | some (.inl s')=>zVv step fin (i+1) l s'
  | some (.inr r)=>some r
theorem z30{σ ρ α τ:Type}{B:τ->Option (τ⊕ρ)}(mk:Nat->σ->τ)(l:List α)(step:Nat->σ->α->Option (σ⊕ρ))(fin:σ->Option ρ)
  (hB:∀ i x s,l[i]?=some x->B (mk i s)=(step i s x).map fun o=>match o with | .inl s'=>.inl (mk (i+1) s') | .inr r=>.inr r)
  (he:∀ s,B (mk l.length s)=(fin s).map .inr):∀(n i:Nat) (s:σ),i+n=l.length->zJ B (mk i s)=zVv step fin i (l.drop i) s:=by
 intro n
 induction n with
 | zero =>
  intro i s h
  rw[QU] at h
  subst h
  rw[yS,he,U7]
  cases hf:fin s <;> simp[zVv,hf]
 | succ n ih =>
  grind [yS,List.drop_eq_getElem_cons,zVv]
theorem zMH{σ ρ α τ:Type}{B:τ->Option (τ⊕ρ)}(mk:Nat->σ->τ)(l:List α)(step:Nat->σ->α->Option (σ⊕ρ))(fin:σ->Option ρ)
  (hB:∀ i x s,l[i]?=some x->B (mk i s)=(step i s x).map fun o=>match o with | .inl s'=>.inl (mk (i+1) s') | .inr r=>.inr r)
  (he:∀ s,B (mk l.length s)=(fin s).map .inr) (s:σ):zJ B (mk 0 s)=zVv step fin 0 l s:=by
 have:=z30 mk l step fin hB he l.length 0 s (by omega)
 grind
theorem zZn{ρ α:Type}{B:Int->Option (Int⊕ρ)}{l:List α}{r:ρ}(hB:∀(i:Nat) (x:α),l[i]?=some x->B (i:Int)=some (.inl ((i+1:Nat):Int)))
  (he:B (l.length:Int)=some (.inr r)):zJ B 0=some r:=by
 have h:=zMH (B:=B) (fun i (_:Unit)=>(i:Int)) l (fun _ _ _=>some (.inl ())) (fun _=>some r) (fun i x s hx=>by grind) (fun s=>by simp[he]) ()
 have key:∀(l:List α) (i:Nat),zVv (fun _ (_:Unit) (_:α)=>some (.inl ())) (fun _=>some r) i l ()=some r:=by
  intro l
  induction l with
  | nil=>intro i;rfl
  | cons x l ih=>intro i;exact ih (i+1)
 grind
theorem tK{ρ α σ τ:Type}{B:τ->Option (τ⊕ρ)}(mk:Nat->σ->τ)(l:List α)(I:Nat->σ->Prop)(Q:ρ->Prop)
  (hB:∀ i x s,l[i]?=some x->I i s->(∃ s',B (mk i s)=some (.inl (mk (i+1) s'))∧I (i+1) s')∨∃ r,B (mk i s)=some (.inr r)∧Q r)
  (he:∀ s,I l.length s->∃ r,B (mk l.length s)=some (.inr r)∧Q r):∀ s,I 0 s->∃ r,zJ B (mk 0 s)=some r∧Q r:=by
 have key:∀ n i s,i+n=l.length->I i s->∃ r,zJ B (mk i s)=some r∧Q r:=by
  intro n
  induction n with
  | zero =>
   intro i s h hI
   rw[QU] at h
   grind [yS]
  | succ n ih =>
   intro i s h hI
   have hx:l[i]?=some l[i]:=Qi (by omega)
   grind [yS]
 simp_all
end
section
structure wX (s:vH): Prop where
 lo:0≤s.2
 hi:s.2≤s.1.length
 small:s.1.length≤2000
theorem z4u (l:List Int): zMR l=some (l.take 2000,0):=by
 unfold zMR
 by_cases h:2000<len l
 ·rw[Qm h,zLY (by omega) (by grind)];rfl
 ·rw[Qa h,zLY (by simp[len]) (by simp[len])]
  simp only[zob]
  rw[QX (by simp),QX (by grind)]
theorem z1P (l:List Int): wX (l.take 2000,0):=⟨Int.le_refl _,by simp,by simp;omega⟩
theorem zZm{s:vH}(h:wX s): ∃ v k,zHQ s=some (v,k)∧wX (s.1,k):=by
 obtain⟨h1,h2,h3⟩:=h
 unfold zHQ
 by_cases hk:len s.1≤s.2
 ·exact⟨0,s.2,by simp[hk],h1,h2,h3⟩
 ·have hk':s.2<s.1.length:=by simpa [len] using hk
  obtain⟨x,hx,_⟩:=zRJ h1 hk'
  refine⟨x,s.2+1,?_,by grind,by grind,h3⟩
  simp only[hk,decide_false,zbf,Qh]
  rw[yL (x:=s.2+1) (by omega) (by omega),show s.2+1-1=s.2 by omega,yL (by omega) (by omega),hx];rfl
theorem zYz{x n:Int}(h0:1≤n)(h1:n≤4611686018427387904): ∃ v,zHF x n=some v∧0≤v∧v<n:=by
 unfold zHF
 have hn:¬ n<1:=by omega
 have hn0:n≠0:=by omega
 simp only[hn,decide_false,zbf,Qh,z4q,hn0,zob]
 have ha:=Int.tmod_lt_of_pos x (show 0<n by omega)
 have hb:-n<x.tmod n:=by
  have:=Int.lt_tmod_of_pos x (show 0<n by omega)
  exact this
 by_cases hx:x.tmod n<0
 ·grind [yL]
 grind
theorem zHZ{s:vH}{n:Int}(h:wX s)(h0:1≤n)(h1:n≤4611686018427387904): ∃ v k,yN s n=some (v,k)∧0≤v∧v<n∧wX (s.1,k):=by
 obtain⟨v,k,hr,hk⟩:=zZm h
 obtain⟨u,hu,h2,h3⟩:=zYz (x:=v) h0 h1
 grind [yN]
theorem zXC{s:vH}{l:List zA}(h:wX s)(h0:l≠[])(h1:l.length≤1000): ∃ x k,zC9 s l=some (x,k)∧x∈l∧wX (s.1,k):=by
 have hp:=QL.2 h0
 obtain⟨v,k,hr,h2,h3,hk⟩:=zHZ (n:=len l) h (by grind) (by grind)
 obtain⟨x,hx,hx2⟩:=zRJ h2 h3
 exact⟨x,k,by simp[zC9,hr,hx],Uc hx2,hk⟩
def zKv (k:Nat): zA:=[UInt8.ofNat (97+k)]
theorem zH0{s:vH}{n:Int}(h:wX s)(h0:1≤n)(h1:n≤26): ∃(g:Bool) (j:Nat) (k:Int),zAq s n=some ((g,zKv j),k)∧(j:Int)<n∧wX (s.1,k):=by
 obtain⟨v,k,hr,h2,h3,hk⟩:=zHZ (n:=2*n) h (by omega) (by omega)
 obtain⟨m,rfl⟩:=Q1 h2
 refine⟨z7n .i64 m 1==1,m / 2,k,?_,by omega,hk⟩
 unfold zAq
 rw[yL (x:=2*n) (by omega) (by omega),hr]
 have hq:z3i .i64 (m:Int) 2=some ((m / 2:Nat):Int):=by
  simp only[z3i]
  rw[Qa (by omega)]
  show some (zF _)=_
  have:(m:Int).tdiv 2=((m / 2:Nat):Int):=by
   rw[Int.tdiv_eq_ediv_of_nonneg (by omega)];omega
  rw[this,yL (by omega) (by omega)]
 simp only[zob,hq]
 have hw:IntKind.u8.wrap (zF (97+((m / 2:Nat):Int)))=((97+m / 2:Nat):Int):=by
  rw[yL (by omega) (by omega)]
  simp only[IntKind.wrap,IntKind.signed,IntKind.bits]
  simp;omega
 rw[hw]
 rfl
end
section
theorem z4o{α:Type}(l:List α)(i k:Nat): z59 l (i:Int) (k:Int)=l[i+k]?:=by
 simp only[z59]
 rw[Qm (by omega),show((i:Int)+(k:Int))=((i+k:Nat):Int) by omega,tV]
section
variable {α:Type}[BEq α]
noncomputable def zLV (y0:List α)(s1:Int)(s3:(List α)×Int×Int): Option (((List α)×Int×Int)⊕((List α)×Int)) :=
 if decide (s3.2.2<((Int.toNat (((List.length y0:Nat):Int)-s1):Nat):Int)) then
  (z59 s3.1 s1 s3.2.2).bind fun x3 =>
  (z59 s3.1 s1 (zF (s3.2.2-1))).bind fun x4 =>
  if !(x3==x4) then
   (z59 s3.1 s1 s3.2.2).bind fun x5 =>
   (zD s3.1 s3.2.1).bind fun _ =>
   some (.inl (List.set s3.1 (Int.toNat s3.2.1) x5,zF (s3.2.1+1),zF (s3.2.2+1)))
  else
   some (.inl (s3.1,s3.2.1,zF (s3.2.2+1)))
 else
  some (.inr (s3.1,s3.2.1))
noncomputable def zOc (z:α)(y0:List α)(s1:Int): Option (Int⊕(List α)) :=
 if decide (s1<(len y0)) then
  (zD y0 s1).bind fun x1 =>
  (zD y0 (zF (s1-1))).bind fun x2 =>
  if x1==x2 then
   (chk (decide (0≤s1)&&decide (s1≤len y0))).bind fun _ =>
   (zJ (zLV y0 s1) (y0,s1,1):Option ((List α)×Int)).bind fun s2 =>
   (chk (decide (0≤s2.2)&&decide (s2.2≤len s2.1))).bind fun _ =>
   (sub (zLn s2.1 s2.2 z) 0 s2.2).bind fun x7 =>
   some (.inr x7)
  else
   some (.inl (zF (s1+1)))
 else
  some (.inr y0)
noncomputable def zZ0 (z:α)(y0:List α): Option (List α) :=
 if decide ((len y0)<2) then
  some y0
 else
  zJ (zOc z y0) 1
def dd (a:α): List α->List α
 | []=>[]
 | b::r=>if a==b then dd b r else b::dd b r
def zJT:List α->List α
 | []=>[]
 | a::r=>a::dd a r
theorem zWh:∀(r s:List α) (a:α),dd a (r++s)=dd a r++dd (r.getLastD a) s
 | [],s,a=>rfl
 | b::r,s,a=>by
  simp only[Q5,dd,zWh r s b,List.getLastD_cons]
  grind
theorem zTy{l:List α}{j:Nat}{y x:α}(h1:l[j]?=some y)(h2:l[j+1]?=some x): zJT (l.take (j+2))=zJT (l.take (j+1))++if y==x then[] else[x]:=by
 have e1:l.take (j+2)=l.take (j+1)++[x]:=by
  rw[Ue (i:=j+1),h2];rfl
 have e2:l.take (j+1)=l.take j++[y]:=by rw[Ue,h1];rfl
 rw[e1]
 cases hl:l.take (j+1) with
 | nil=>simp_all
 | cons a r =>
  have hlast:r.getLastD a=y:=by
   have:(a::r).getLast?=some y:=by rw[←hl,e2];simp
   rw[←List.getLastD_cons (a:=a) (b:=a) (l:=r),List.getLastD_eq_getLast?,this];rfl
  grind [zJT,zWh,dd]
theorem z5v:∀(r:List α) (a:α),(dd a r).length≤r.length
 | [],_=>Qt _
 | b::r,a=>by
  simp only[dd]
  have:=z5v r b
  grind
theorem z1Q (l:List α): (zJT l).length≤l.length:=by
 cases l with
 | nil=>simp[zJT]
 | cons a r=>grind [z5v,zJT]
theorem zTD[LawfulBEq α](l:List α)(i0:Nat)(h0:1≤i0)(hi:i0<l.length)(hbig:l.length<9223372036854775807)(hd:zJT (l.take (i0+1))=zJT (l.take i0))(hk:zJT (l.take i0)=l.take i0):
  ∃ c k,zJ (zLV l (i0:Int)) (l,(i0:Int),1)=some (c,((k:Nat):Int))∧c.length=l.length∧k≤l.length∧c.take k=zJT l:=by
 have key:∀ n k2 (c:List α) (k:Nat),i0+k2+n=l.length->1≤k2->c.length=l.length->k+1≤i0+k2->(∀ j,i0+k2≤j+1->c[j]?=l[j]?)->c.take k=zJT (l.take (i0+k2))->
   ∃ c' k',zJ (zLV l (i0:Int)) (c,(k:Int),(k2:Int))=some (c',((k':Nat):Int))∧c'.length=l.length∧k'≤l.length∧c'.take k'=zJT l:=by
  intro n
  induction n with
  | zero =>
   intro k2 c k hn h1 hc hk1 hsame htake
   refine⟨c,k,?_,hc,by omega,?_⟩
   ·rw[yS]
    unfold zLV
    have:decide ((k2:Int)<((Int.toNat (((List.length l:Nat):Int)-(i0:Int)):Nat):Int))=false:=by simp;omega
    grind
   grind
  | succ n ih =>
   intro k2 c k hn h1 hc hk1 hsame htake
   have hx:l[i0+k2]?=some l[i0+k2]:=Qi (by omega)
   have hy:l[i0+k2-1]?=some l[i0+k2-1]:=Qi (by omega)
   have hcx:c[i0+k2]?=some l[i0+k2]:=by rw[hsame _ (by omega)];exact hx
   have hcy:c[i0+(k2-1)]?=some l[i0+k2-1]:=by rw[hsame _ (by omega),←hy];congr 1;omega
   have hlt:decide ((k2:Int)<((Int.toNat (((List.length l:Nat):Int)-(i0:Int)):Nat):Int))=true:=by simp;omega
   have hw1:zF ((k2:Int)-1)=((k2-1:Nat):Int):=by rw[yL (by omega) (by omega)];omega
   have hdt:=zTy (l:=l) (j:=i0+k2-1) (y:=l[i0+k2-1]) (x:=l[i0+k2]) hy (by rw[show i0+k2-1+1=i0+k2 by omega];exact hx)
   rw[show i0+k2-1+2=i0+(k2+1) by omega,show i0+k2-1+1=i0+k2 by omega] at hdt
   have hklt:k<c.length:=by omega
   rw[yS]
   unfold zLV
   simp only[hlt,Qe,z4o,hcx,zob,hw1,hcy]
   rw[BEq.comm]
   have hklt':zD c (k:Int)=some c[k]:=by rw[tV];exact Qi hklt
   cases hb:l[i0+k2-1]==l[i0+k2] with
   | true =>
    simp only[Qx,zbf,Qh]
    rw[wI k2 (by omega)]
    have:=ih (k2+1) c k (by omega) (by omega) hc (by omega) (fun j hj=>hsame j (by omega)) (by grind)
    exact this
   | false =>
    simp only[QM,Qe,hklt',zob]
    rw[wI k2 (by omega),wI k (by omega),Qw]
    refine ih (k2+1) (c.set k l[i0+k2]) (k+1) (by omega) (by omega) (by simp[hc]) (by omega) (fun j hj=>?_) ?_
    ·grind [List.getElem?_set_ne]
    ·rw[hdt,hb,←htake]
     rw[Ue,List.getElem?_set_self hklt,List.take_set_of_le (Qt _)]
     rfl
 have hsome:l[i0]?=some l[i0]:=Qi hi
 refine key (l.length-(i0+1)) 1 l i0 (by omega) (Qt _) rfl (by omega) (fun j _=>rfl) ?_
 rw[hd,hk]
theorem zVH[LawfulBEq α](z:α)(l:List α)(hbig:l.length<9223372036854775807): zZ0 z l=some (zJT l):=by
 unfold zZ0
 by_cases h2:l.length<2
 ·have:decide (len l<2)=true:=by simp[len];omega
  simp only[this,Qe]
  match l,h2 with
  | [],_=>rfl
  | [a],_=>rfl
 ·have:decide (len l<2)=false:=by simp[len];omega
  simp only[this,zbf,Qh]
  have key:∀ n k,k+n=l.length->1≤k->zJT (l.take k)=l.take k->zJ (zOc z l) (k:Int)=some (zJT l):=by
   intro n
   induction n with
   | zero =>
    intro k hn h1 hp
    rw[yS]
    unfold zOc
    grind
   | succ n ih =>
    intro k hn h1 hp
    have hx:l[k]?=some l[k]:=Qi (by omega)
    have hy:l[k-1]?=some l[k-1]:=Qi (by omega)
    have hlt:decide ((k:Int)<len l)=true:=by simp[len];omega
    have hw1:zF ((k:Int)-1)=((k-1:Nat):Int):=by rw[yL (by omega) (by omega)];omega
    have hdt:=zTy (l:=l) (j:=k-1) (y:=l[k-1]) (x:=l[k]) hy (by grind)
    rw[show k-1+2=k+1 by omega,show k-1+1=k by omega,hp] at hdt
    rw[yS]
    unfold zOc
    simp only[hlt,Qe,tV,hx,hw1,hy,zob]
    rw[BEq.comm]
    cases hb:l[k-1]==l[k] with
    | true =>
     have hc1:(decide (0≤(k:Int))&&decide ((k:Int)≤len l))=true:=by simp[len];omega
     obtain⟨c,q,hl,hcl,hq,htk⟩:=zTD l k h1 (by omega) hbig (by grind) hp
     have hc2:(decide (0≤((q:Nat):Int))&&decide (((q:Nat):Int)≤len c))=true:=by simp[len];omega
     simp only[Qe,hc1,chk,zob,hl,hc2]
     grind [zLY,zQr,Int.toNat_natCast,zLn,List.length_take]
    | false =>
     simp only[zbf,Qh]
     rw[wI k (by omega)]
     refine ih (k+1) (by omega) (by omega) ?_
     simp_all
  exact key (l.length-1) 1 (by omega) (Qt _) (by match l,h2 with | a::r,_=>rfl)
end
section
variable {α:Type}{lt:α->α->Bool}
structure zWp (lt:α->α->Bool): Prop where
 irrefl:∀ x,lt x x=false
 trans:∀ x y z,lt x y=true->lt y z=true->lt x z=true
 tri:∀ x y,lt x y=true∨x=y∨lt y x=true
abbrev yA (lt:α->α->Bool)(l:List α): Prop:=l.Pairwise fun x y=>lt x y=true
theorem zWp.asymm (O:zWp lt){x y:α}(h:lt x y=true): lt y x=false:=by
 cases hb:lt y x with
 | false=>rfl
 | true=>have:=O.trans _ _ _ h hb;rw[O.irrefl] at this;cases this
theorem yA.ext (O:zWp lt): ∀ {l m:List α},yA lt l->yA lt m->(∀ x,x∈l↔x∈m)->l=m
 | [],[],_,_,_=>rfl
 | [],y::m,_,_,h=>by grind [List.mem_cons_self]
 | x::l,[],_,_,h=>by grind [List.mem_cons_self]
 | x::l,y::m,hl,hm,h=>by
  obtain⟨h1,h2⟩:=QP.1 hl
  obtain⟨h3,h4⟩:=QP.1 hm
  have hxy:x=y:=by
   rcases QG.1 ((h x).1 (Qz)) with h5 | h5
   ·exact h5
   ·rcases QG.1 ((h y).2 (Qz)) with h6 | h6
    ·grind
    ·have:=O.asymm (h3 x h5);grind
  subst hxy
  congr 1
  refine yA.ext O h2 h4 fun z=>⟨fun hz=>?_,fun hz=>?_⟩
  ·rcases QG.1 ((h z).1 (Qq _ hz)) with rfl | h5
   ·have:=h1 z hz;rw[O.irrefl] at this;cases this
   ·exact h5
  ·rcases QG.1 ((h z).2 (Qq _ hz)) with rfl | h5
   ·have:=h3 z hz;rw[O.irrefl] at this;cases this
   ·exact h5
theorem zWs[BEq α][LawfulBEq α](O:zWp lt): ∀ {l:List α},l.Pairwise (fun x y=>lt y x=false)->yA lt (zJT l)∧∀ x,x∈zJT l↔x∈l:=by
 have key:∀(r:List α) (a:α),(a::r).Pairwise (fun x y=>lt y x=false)->yA lt (a::dd a r)∧∀ x,x∈a::dd a r↔x∈a::r:=by
  intro r
  induction r with
  | nil=>intro a _;simp[dd]
  | cons b r ih =>
   intro a h
   obtain⟨h1,h2⟩:=QP.1 h
   obtain⟨i1,i2⟩:=ih b h2
   by_cases hab:a=b
   ·subst hab
    simp only[dd,QQ,Qe]
    grind
   ·have hb:(a==b)=false:=Qr.2 hab
    simp only[dd,hb,zbf,Qh]
    have hlt:lt a b=true:=by
     rcases O.tri a b with h | h | h
     ·exact h
     ·grind
     ·grind
    refine⟨QP.2 ⟨fun y hy=>?_,i1⟩,fun x=>?_⟩
    ·rcases QG.1 hy with rfl | hy
     ·exact hlt
     ·exact O.trans _ _ _ hlt ((QP.1 i1).1 y hy)
    grind
 intro l h
 cases l with
 | nil=>simp[zJT]
 | cons a r=>exact key r a h
theorem zQA (O:zWp lt)(l:List α): (l.mergeSort fun x y=>!lt y x).Pairwise (fun x y=>lt y x=false):=by
 have h:=List.pairwise_mergeSort (le:=fun x y=>!lt y x) (fun a b c h1 h2=>?_) (fun a b=>?_) l
 ·grind
 ·simp only[Bool.not_eq_true'] at *
  cases h3:lt c a with
  | false=>rfl
  | true =>
   rcases O.tri a b with h | rfl | h
   ·have:=O.trans _ _ _ h3 h;grind
   ·grind
   grind
 ·cases h:lt b a with
  | false=>simp
  | true=>simp[O.asymm h]
def nrm[BEq α](lt:α->α->Bool)(l:List α): List α:=zJT (l.mergeSort fun x y=>!lt y x)
theorem zOu[BEq α][LawfulBEq α](O:zWp lt)(l:List α): yA lt (nrm lt l)∧∀ x,x∈nrm lt l↔x∈l:=by
 obtain⟨h1,h2⟩:=zWs O (zQA O l)
 exact⟨h1,fun x=>by rw[nrm,h2,List.mem_mergeSort]⟩
theorem zZb[BEq α][LawfulBEq α](O:zWp lt){l m:List α}(h1:yA lt m)(h2:∀ x,x∈m↔x∈l): nrm lt l=m:=by
 grind [zOu,yA.ext]
theorem zYW[BEq α](lt:α->α->Bool)(l:List α): (nrm lt l).length≤l.length:=by
 have:=z1Q (l.mergeSort fun x y=>!lt y x)
 simpa [nrm] using this
end
end
section
structure Le{α:Type}(a b:Option α): Prop where
 el:∀ r,a=some r->b=some r
theorem Le.refl{α:Type}(a:Option α): Le a a:=⟨fun _ h=>h⟩
theorem Le.bind{α β:Type}{a b:Option α}{f g:α->Option β}(h:Le a b)(k:∀ x,Le (f x) (g x)): Le (a.bind f) (b.bind g):=⟨fun r hr=>by
 cases a with
 | none=>cases hr
 | some x=>rw[h.el x rfl];exact(k x).el r hr⟩
theorem Le.ite{α:Type}{c:Prop}[Decidable c]{a b a' b':Option α}(h:Le a b)(k:Le a' b'): Le (if c then a else a') (if c then b else b'):=by grind
theorem Le.seqE{σ α:Type}{a b:Option (σ⊕α)}{f g:σ->Option α}(h:Le a b)(k:∀ x,Le (f x) (g x)): Le (uQ a f) (uQ b g) :=
 by grind [Le.bind,Le.refl,uQ]
theorem Le.none{α:Type}(b:Option α): Le none b:=⟨fun _ h=>nomatch h⟩
abbrev lp{σ ρ:Type}(n:Nat)(B:σ->Option (σ⊕ρ))(s:σ): Option ρ:=tY B n s
theorem Le.lp{σ ρ:Type}{B C:σ->Option (σ⊕ρ)}(h:∀ s,Le (B s) (C s))(n:Nat)(s:σ): Le (lp n B s) (zJ C s):=by
 refine⟨fun r hr=>?_⟩
 refine zIp (n:=n) ?_
 revert s
 induction n with
 | zero=>intro s hr;cases hr
 | succ n ih =>
  grind [tY,el]
theorem Le.lim{α:Type}{a:Option α}{f:Nat->Option α}(n:Nat)(h:∀ m,n≤m->Le a (f m)): Le a (yH f):=⟨fun r hr=>zKO n fun m hm=>(h m hm).el r hr⟩
def ins{α:Type}(lt:α->α->Bool)(x:α): List α->List α
 | []=>[x]
 | y::r=>if lt y x then y::ins lt x r else x::y::r
def zXg{α:Type}(lt:α->α->Bool): List α->List α
 | []=>[]
 | x::r=>ins lt x (zXg lt r)
end
section
abbrev xB (x y:Int): Bool:=decide (x<y)
abbrev z3j (x y:Int): Int:=if x<y then -1 else if y<x then 1 else 0
def orF:List Int->Int
 | []=>0
 | x::r=>if x != 0 then x else orF r
abbrev z49{α β:Type}[BEq α](lt1:α->α->Bool)(lt2:β->β->Bool)(x y:α×β): Bool:=lt1 x.1 y.1||(x.1==y.1&&lt2 x.2 y.2)
theorem zEV:zWp xB:=⟨fun x=>by simp,fun x y z h1 h2=>by grind,fun x y=>by simp;omega⟩
theorem z7F{α β:Type}[BEq α][LawfulBEq α]{lt1:α->α->Bool}{lt2:β->β->Bool}(O1:zWp lt1)(O2:zWp lt2): zWp (z49 lt1 lt2):=by
 refine⟨fun x=>by simp[O1.irrefl,O2.irrefl],fun x y z h1 h2=>?_,fun x y=>?_⟩
 ·simp only[z49,QI,Qb,QH] at *
  rcases h1 with h1 | ⟨h1,h1'⟩ <;> rcases h2 with h2 | ⟨h2,h2'⟩
  ·exact .inl (O1.trans _ _ _ h1 h2)
  ·grind
  ·grind
  ·exact .inr ⟨h1.trans h2,O2.trans _ _ _ h1' h2'⟩
 ·obtain⟨a,b⟩:=x;obtain⟨c,d⟩:=y
  simp only[z49,QI,Qb,QH,Prod.mk.injEq]
  rcases O1.tri a c with h | rfl | h
  ·grind
  ·rcases O2.tri b d with h | rfl | h
   ·grind
   ·grind
   grind
  grind
noncomputable def orL (y0:List Int)(s1:Int): Option (Int⊕Int) :=
 if decide (s1<(len y0)) then
  (zD y0 s1).bind fun x1 =>
  if x1 != 0 then
   some (.inr x1)
  else
   some (.inl (zF (s1+1)))
 else
  some (.inr 0)
theorem z4I (l:List Int)(hb:l.length<9223372036854775807): zJ (orL l) 0=some (orF l):=by
 have h:=zMH (B:=orL l) (fun i (_:Unit)=>(i:Int)) l (fun _ _ x=>if x != 0 then some (.inr x) else some (.inl ())) (fun _=>some 0) (fun i x s hx=>?_) (fun s=>by simp[orL,len]) ()
 ·have key:∀(l:List Int) (i:Nat),zVv (fun _ (_:Unit) (x:Int)=>if x != 0 then some (Sum.inr x) else some (.inl ())) (fun _=>some 0) i l ()=some (orF l):=by
   intro l
   induction l with
   | nil=>intro i;rfl
   | cons x l ih =>
    grind [zVv,orF]
  grind
 ·have hi:=(Qj.1 hx).1
  unfold orL
  have hlt:decide ((i:Int)<len l)=true:=by simp[len];omega
  simp only[hlt,Qe,tV,hx,zob]
  by_cases h0:x=0
  ·grind [wI]
  grind
section
variable {α:Type}{lt:α->α->Bool}
theorem zVJ (x:α): ∀ l:List α,(ins lt x l).Perm (x::l)
 | []=>List.Perm.refl _
 | y::r=>by
  unfold ins
  split
  ·exact((zVJ x r).cons y).trans (List.Perm.swap x y r)
  simp_all
theorem zJu:∀ l:List α,(zXg lt l).Perm l
 | []=>List.Perm.refl _
 | x::r=>(zVJ x _).trans ((zJu r).cons x)
theorem zTv (O:zWp lt)(x:α): ∀ l:List α,l.Pairwise (fun x y=>lt y x=false)->(ins lt x l).Pairwise (fun x y=>lt y x=false)
 | [],_=>by simp[ins]
 | y::r,h=>by
  obtain⟨h1,h2⟩:=QP.1 h
  unfold ins
  split
  ·rename_i hlt
   refine QP.2 ⟨fun z hz=>?_,zTv O x r h2⟩
   rcases QG.1 ((zVJ x r).mem_iff.1 hz) with rfl | hz
   ·exact O.asymm hlt
   grind
  ·rename_i hlt
   have hyx:lt y x=false:=by simpa using hlt
   refine QP.2 ⟨fun z hz=>?_,h⟩
   rcases QG.1 hz with rfl | hz
   ·exact hyx
   ·cases hzx:lt z x with
    | false=>rfl
    | true =>
     have hzy:=h1 z hz
     rcases O.tri x y with h3 | rfl | h3
     ·rw[O.trans _ _ _ hzx h3] at hzy;cases hzy
     ·grind
     grind
theorem zIw (O:zWp lt): ∀ l:List α,(zXg lt l).Pairwise (fun x y=>lt y x=false)
 | []=>List.Pairwise.nil
 | x::r=>zTv O x _ (zIw O r)
theorem zXu (O:zWp lt)(l:List α): (l.mergeSort fun x y=>!lt y x)=zXg lt l:=by
 refine List.Perm.eq_of_pairwise (le:=fun x y=>lt y x=false) (fun a b _ _ h1 h2=>?_) (zQA O l) (zIw O l) ((List.mergeSort_perm _ _).trans (zJu l).symm)
 rcases O.tri a b with h | h | h
 ·grind
 ·exact h
 grind
end
theorem zYd{l:List Int}(h:l.length<4294967296): z6a l=some (zXg xB l):=by
 unfold z6a
 rw[Qm h,←zXu zEV]
 grind
end
section
section
variable {α:Type}{l:List α}{i:Nat}{x:α}
theorem uS (h:l[i]?=some x): i<l.length:=by grind
theorem vY (h:l[i]?=some x): decide ((i:Int)<len l)=true:=by grind
theorem zNS (l:List α): decide (((l.length:Nat):Int)<len l)=false:=by simp[len]
theorem wV (h:l[i]?=some x): zD l (i:Int)=some x:=by rw[tV];exact h
theorem vO (h:l[i]?=some x)(hl:l.length<4294967296): zF ((i:Int)+1)=((i+1:Nat):Int):=wI i (by grind)
theorem zMh{j:Int}(h:zD l j=some x): ∃ n:Nat,j=(n:Int)∧l[n]?=some x:=by grind [zD]
theorem zI9{j:Int}(h0:0≤j)(h1:j<l.length): ∃ x,zD l j=some x:=by obtain⟨x,h,_⟩:=zRJ h0 h1;grind
theorem zCp (h:l[i]?=some x): l.take (i+1)=l.take i++[x]:=by rw[Ue,h];rfl
theorem zE3 (h:l[i]?=some x): x∈l:=by grind
end
section
variable {α σ ρ:Type}
theorem zFn{B:σ×Int->Option ((σ×Int)⊕ρ)}(l:List α)(f:σ->α->σ)(fin:σ->ρ)(I:Nat->σ->Prop)(s:σ)(h0:I 0 s)
  (hB:∀(i:Nat) x s,l[i]?=some x->I i s->B (s,(i:Int))=some (.inl (f s x,((i+1:Nat):Int)))∧I (i+1) (f s x))
  (he:∀ s,I l.length s->B (s,(l.length:Int))=some (.inr (fin s))):zJ B (s,0)=some (fin (l.foldl f s))∧I l.length (l.foldl f s):=by
 have key:∀(n i:Nat) (s:σ),i+n=l.length->I i s->zJ B (s,(i:Int))=some (fin ((l.drop i).foldl f s))∧I l.length ((l.drop i).foldl f s):=by
  intro n
  induction n with
  | zero =>
   intro i s h hI
   rw[QU] at h
   subst h
   rw[yS,he s hI,U7]
   grind
  | succ n ih =>
   grind [yS,List.drop_eq_getElem_cons]
 have:=key l.length 0 s (by omega) h0
 grind
theorem z0e{B:Int×σ->Option ((Int×σ)⊕ρ)}(l:List α)(f:σ->α->σ)(fin:σ->ρ)(I:Nat->σ->Prop)(s:σ)(h0:I 0 s)
  (hB:∀(i:Nat) x s,l[i]?=some x->I i s->B ((i:Int),s)=some (.inl (((i+1:Nat):Int),f s x))∧I (i+1) (f s x))
  (he:∀ s,I l.length s->B ((l.length:Int),s)=some (.inr (fin s))):zJ B (0,s)=some (fin (l.foldl f s))∧I l.length (l.foldl f s):=by
 have key:∀(n i:Nat) (s:σ),i+n=l.length->I i s->zJ B ((i:Int),s)=some (fin ((l.drop i).foldl f s))∧I l.length ((l.drop i).foldl f s):=by
  intro n
  induction n with
  | zero =>
   intro i s h hI
   rw[QU] at h
   subst h
   rw[yS,he s hI,U7]
   grind
  | succ n ih =>
   grind [yS,List.drop_eq_getElem_cons]
 have:=key l.length 0 s (by omega) h0
 grind
theorem zXU{B:Int->Option (Int⊕ρ)}(l:List α)(p:α->Bool)(yes no:ρ)
  (hB:∀(i:Nat) x,l[i]?=some x->B (i:Int)=some (if p x then .inr yes else .inl ((i+1:Nat):Int))) (he:B (l.length:Int)=some (.inr no)) :
  zJ B 0=some (if l.any p then yes else no):=by
 have key:∀(n i:Nat),i+n=l.length->zJ B (i:Int)=some (if(l.drop i).any p then yes else no):=by
  intro n
  induction n with
  | zero =>
   intro i h
   rw[QU] at h
   grind [yS]
  | succ n ih =>
   intro i h
   have hx:l[i]?=some l[i]:=Qi (by omega)
   rw[yS,hB i _ hx,Qu (by omega)]
   cases hp:p l[i] with
   | true=>grind
   | false =>
    grind
 have:=key l.length 0 (by omega)
 grind
theorem zRI{B:Int->Option (Int⊕Bool)}(l:List α)(p:α->Bool)(hB:∀(i:Nat) x,l[i]?=some x->B (i:Int)=some (if p x then .inr true else .inl ((i+1:Nat):Int)))(he:B (l.length:Int)=some (.inr false)):
  zJ B 0=some (l.any p):=by
 rw[zXU l p true false hB he]
 grind
end
theorem zGE{α β:Type}(p:α->Bool)(g:α->β): ∀(l:List α) (acc:List β),l.foldl (fun s x=>if p x then s++[g x] else s) acc=acc++(l.filter p).map g
 | [],acc=>by simp
 | x::l,acc=>by
  simp only[Uz,zGE p g l]
  grind
theorem zOL{α β:Type}(g:α->β): ∀(l:List α) (acc:List β),l.foldl (fun s x=>s++[g x]) acc=acc++l.map g
 | [],acc=>by simp
 | x::l,acc=>by simp only[Uz,zOL g l];simp
theorem zHP{α β:Type}(g:α->List β): ∀(l:List α) (acc:List β),l.foldl (fun s x=>s++g x) acc=acc++l.flatMap g
 | [],acc=>by simp
 | x::l,acc=>by simp only[Uz,zHP g l];simp
theorem z0N{l r:List Int}(h:r.Perm l)(hs:r.Pairwise (fun x y=>xB y x=false)): zJT r=nrm xB l:=by
 obtain⟨h1,h2⟩:=zWs zEV hs
 exact(zZb zEV h1 (fun x=>by grind)).symm
end
section
def yP (n:Nat): List Int:=(List.range n).map Int.ofNat
theorem zFa (n:Nat): (yP n).length=n:=by simp[yP]
theorem zPv{n i:Nat}{x:Int}(h:(yP n)[i]?=some x): x=(i:Int)∧i<n:=by grind [yP]
theorem zHc{n:Nat}{x:Int}: x∈yP n↔0≤x∧x<n:=by
 simp only[yP,QB,UG]
 exact⟨fun⟨a,h1,h2⟩=>by grind,fun h=>⟨x.toNat,by omega,by simp;omega⟩⟩
theorem z7Z (n:Nat): yA xB (yP n):=by
 rw[yP,yA,U3]
 exact Ut.imp fun {a b} h=>by simp;omega
theorem zLg{α β ρ:Type}{B:List β×Int->Option ((List β×Int)⊕ρ)}(l:List α)(g:α->List β)(fin:List β->ρ)(c:Nat)(hg:∀ x∈l,(g x).length≤c)(acc:List β)
  (hB:∀(i:Nat) x s,l[i]?=some x->s.length≤acc.length+c*i->B (s,(i:Int))=some (.inl (s++g x,((i+1:Nat):Int))))
  (he:∀ s,B (s,(l.length:Int))=some (.inr (fin s))):zJ B (acc,0)=some (fin (acc++l.flatMap g)):=by
 have h:=zFn (B:=B) l (fun s x=>s++g x) fin (fun i s=>s.length≤acc.length+c*i) acc (by simp) (fun i x s hx hI=>⟨hB i x s hx hI,by
  grind⟩) (fun s _=>he s)
 rw[zHP] at h
 exact h.1
theorem zKG{α β:Type}(g:α->List β)(c:Nat): ∀(l:List α),(∀ x∈l,(g x).length≤c)->(l.flatMap g).length≤l.length*c
 | [],_=>by simp
 | x::l,h=>by
  have h1:=zKG g c l fun y hy=>h y (Qq _ hy)
  have h2:=h x Qz
  simp only[Um,Qc,Qn,Q0,UM]
  omega
theorem zY1{α β:Type}(p:α->Bool)(g:α->List β)(l:List α): (l.filter p).flatMap g=l.flatMap fun x=>if p x then g x else[]:=by
 induction l with
 | nil=>rfl
 | cons x l ih =>
  grind
end
section
theorem z1G (x y:Int): zFT x y=some (z3j x y):=by
 unfold zFT z3j
 grind [zIS]
theorem or_int (l:List Int)(hb:l.length<9223372036854775807): zPp l=some (orF l):=z4I l hb
abbrev lt2:wU->wU->Bool:=z49 xB xB
theorem ord2:zWp lt2:=z7F zEV zEV
theorem z6H{x y:Int}{r:List Int}{b:Bool}(h:decide (orF r<0)=b): decide (orF (z3j x y::r)<0)=(xB x y||(x==y&&b)):=by
 unfold orF z3j
 grind
def zX0 (n:Int)(a:wN): Bool:=decide (a.1<0)||decide (n≤a.1)||decide (a.2.1<0)||decide (n≤a.2.1)
def zPL (l:List wN): List wU:=l.map fun a=>(a.1,a.2.1)
def zSm (n:Int)(l:List wN): uF×Int :=
 if decide (n<0)||decide (40<n) then((0,[]),1) else if l.any (zX0 n) then((0,[]),1) else((n,nrm lt2 (zPL l)),0)
theorem zKK{α:Type}{l:List α}{i:Nat}{x:α}(p:α->Bool)(hx:l[i]?=some x): (l.take (i+1)).any p=((l.take i).any p||p x):=by
 rw[Ue,hx];simp
abbrev z7f (l:List wN)(i j:Int): Bool:=l.any fun a=>a.1==i&&a.2.1==j
abbrev z0u (l:List wN)(N:Nat)(i:Nat): List wU:=((List.range N).filter fun(j:Nat)=>z7f l (i:Int) (j:Int)).map fun(j:Nat)=>((i:Int),(j:Int))
abbrev z6T (l:List wN)(N:Nat)(k:Nat): List wU:=(List.range k).flatMap (z0u l N)
theorem z2y{n:Int}{l:List wN}(h0:0≤n)(hb:l.any (zX0 n)=false): nrm lt2 (zPL l)=z6T l n.toNat n.toNat:=by
 apply zZb ord2
 ·refine List.pairwise_flatMap.2 ⟨fun i _=>?_,?_⟩
  ·rw[U3]
   refine(Ut.filter _).imp fun {a b} h=>?_
   simp;omega
  ·refine Ut.imp fun {a b} h x hx y hy=>?_
   obtain⟨j,_,rfl⟩:=QB.1 hx
   obtain⟨k,_,rfl⟩:=QB.1 hy
   simp;omega
 ·rintro ⟨i,j⟩
  constructor
  ·intro h
   obtain⟨a,_,hx⟩:=Ui.1 h
   obtain⟨b,hb2,he⟩:=QB.1 hx
   obtain⟨hb3,hb4⟩:=QR.1 hb2
   obtain⟨z,hz,hz2⟩:=US.1 hb4
   simp only[Qb,QH] at hz2
   grind [zPL]
  ·intro h
   obtain⟨z,hz,he⟩:=QB.1 h
   have hzb:zX0 n z=false:=by
    cases hq:zX0 n z with
    | false=>rfl
    | true=>grind
   simp only[zX0,QT,QN] at hzb
   obtain⟨⟨⟨h1,h2⟩,h3⟩,h4⟩:=hzb
   refine Ui.2 ⟨z.1.toNat,UG.2 (by omega),QB.2 ⟨z.2.1.toNat,QR.2 ⟨UG.2 (by omega),?_⟩,?_⟩⟩
   ·grind
   grind
theorem zXh (n:Int)(l:List wN)(hl:l.length<4294967000):
  zJ (zDr l n) 0=some (if l.any (zX0 n) then .inr ((0,[]),1) else .inl ()):=by
 have h:=tK (B:=zDr l n) (fun i (_:Unit)=>(i:Int)) l (fun i _=>(l.take i).any (zX0 n)=false)
  (fun r=>r=if l.any (zX0 n) then .inr ((0,[]),1) else .inl ()) ?_ ?_ () (by simp)
 ·grind
 ·intro i x s hx hI
  have hi:=(Qj.1 hx).1
  unfold zDr
  have hlt:decide ((i:Int)<len l)=true:=by simp[len];omega
  simp only[hlt,Qe,tV,hx,zob]
  have hc:(if decide (x.1<0)=true then some true else if decide (n≤x.1)=true then some true else if decide (x.2.1<0)=true then some true else some (decide (n≤x.2.1)):Option Bool)=some (zX0 n x):=by
   unfold zX0
   cases decide (x.1<0) <;> cases decide (n≤x.1) <;> cases decide (x.2.1<0) <;> simp
  rw[hc]
  simp only[zob]
  cases hb:zX0 n x with
  | true =>
   grind
  | false=>exact .inl ⟨(),by simp[wI i (by omega)],by rw[zKK _ hx,hI,hb];rfl⟩
 ·intro s hI
  unfold zDr
  grind
theorem zYL (l:List wN)(s5 s6:Int×List wU)(hl:l.length<4294967000): zJ (zEA l s5 s6) (false,0)=some (z7f l s5.1 s6.1):=by
 have h:=tK (B:=zEA l s5 s6) (fun i (b:Bool)=>(b,(i:Int))) l (fun i b=>b=(l.take i).any fun a=>a.1==s5.1&&a.2.1==s6.1) (fun r=>r=z7f l s5.1 s6.1) ?_ ?_ false (by simp)
 ·grind
 ·rintro i x s hx rfl
  have hi:=(Qj.1 hx).1
  unfold zEA
  have hlt:decide ((i:Int)<len l)=true:=by simp[len];omega
  simp only[hlt,Qe,tV,hx,zob]
  refine .inl ⟨_,?_,rfl⟩
  grind [zKK,wI]
 ·rintro s rfl
  unfold zEA
  simp[len]
theorem zXz (n:Int)(l:List wN)(k:Nat)(acc:List wU)(h0:0≤n)(h1:n≤40)(hl:l.length<4294967000)(hk:k<40)(ha:acc.length≤1600):
  zJ (zEC n l ((k:Int),acc)) (0,acc)=some (.inl (((k+1:Nat):Int),acc++z0u l n.toNat k)):=by
 have h:=tK (B:=zEC n l ((k:Int),acc)) (fun i (s:List wU)=>((i:Int),s)) (List.range n.toNat) (fun i s=>s=acc++z0u l i k) (fun r=>r=.inl (((k+1:Nat):Int),acc++z0u l n.toNat k)) ?_ ?_ acc (by simp)
 ·grind
 ·rintro i x s hx rfl
  have hi:=(Qj.1 hx).1
  rw[UB] at hi
  unfold zEC
  have hlt:decide ((i:Int)<n)=true:=by simp;omega
  simp only[hlt,Qe,zYL l _ _ hl,zob]
  have hrow:z0u l (i+1) k=z0u l i k++if z7f l k i then[((k:Int),(i:Int))] else[]:=by
   unfold z0u
   rw[List.range_succ,List.filter_append,Wc]
   congr 1
   by_cases hh:z7f l k i=true <;> simp[hh]
  have hlen:(z0u l i k).length≤i:=by
   unfold z0u
   rw[UV]
   exact Qy (Q4 _ _) (by simp)
  refine .inl ⟨_,?_,rfl⟩
  rw[hrow,wI i (by omega)]
  cases z7f l k i with
  | true=>rw[yC (by grind)];simp
  | false=>simp
 ·rintro s rfl
  unfold zEC
  have hlt:decide (((List.range n.toNat).length:Int)<n)=false:=by simp;omega
  rw[UB] at *
  simp only[hlt,zbf,Qh]
  exact⟨_,rfl,by rw[wI k (by omega)]⟩
theorem zXo (n:Int)(l:List wN)(h0:0≤n)(h1:n≤40)(hl:l.length<4294967000): zJ (zDz n l) (0,[])=some (z6T l n.toNat n.toNat):=by
 have h:=tK (B:=zDz n l) (fun i (s:List wU)=>((i:Int),s)) (List.range n.toNat) (fun i s=>s=z6T l n.toNat i∧s.length≤40*i) (fun r=>r=z6T l n.toNat n.toNat) ?_ ?_ [] (by simp)
 ·grind
 ·rintro i x s hx ⟨rfl,hs⟩
  have hi:=(Qj.1 hx).1
  rw[UB] at hi
  unfold zDz
  have hlt:decide ((i:Int)<n)=true:=by simp;omega
  simp only[hlt,Qe]
  have hlen:(z0u l n.toNat i).length≤40:=by
   unfold z0u
   rw[UV]
   exact Qy (Q4 _ _) (by simp;omega)
  have hm:z6T l n.toNat (i+1)=z6T l n.toNat i++z0u l n.toNat i:=by
   unfold z6T
   rw[List.range_succ,UF];simp
  refine .inl ⟨_,zXz n l i _ h0 h1 hl (by omega) (by omega),hm.symm,?_⟩
  grind
 ·rintro s ⟨rfl,hs⟩
  unfold zDz
  grind
theorem zXB (n:Int)(l:List wN)(hl:l.length<4294967000): zGZ n l=some (zSm n l):=by
 unfold zGZ zSm
 cases h0:(decide (n<0)||decide (40<n)) with
 | true=>simp
 | false =>
  simp only[QT,QN] at h0
  simp only[zbf,Qh]
  rw[zXh n l hl]
  cases hb:l.any (zX0 n) with
  | true=>simp[uQ]
  | false =>
   simp only[zbf,Qh,uQ,zob]
   rw[zXo n l (by omega) (by omega) hl,z2y (by omega) hb]
   rfl
end
section
theorem zEs:∀ a:zA,yX a a=false
 | []=>rfl
 | a::x=>by simp[yX,zEs x,UInt8.lt_irrefl]
theorem zKD:∀ {a b c:zA},yX a b=true->yX b c=true->yX a c=true
 | _,_,[],_,h=>by simp[yX] at h
 | _,[],_::_,h,_=>by simp[yX] at h
 | [],_::_,_::_,_,_=>rfl
 | a::x,b::y,c::z,h1,h2=>by
  simp only[yX,QI,Ql,Qb,QH] at *
  rcases h1 with h1 | ⟨rfl,h1⟩ <;> rcases h2 with h2 | ⟨rfl,h2⟩
  ·grind
  ·grind
  ·grind
  ·exact .inr ⟨rfl,zKD h1 h2⟩
theorem zRl:∀ a b:zA,yX a b=true∨a=b∨yX b a=true
 | [],[]=>.inr (.inl rfl)
 | [],_::_=>.inl rfl
 | _::_,[]=>.inr (.inr rfl)
 | a::x,b::y=>by
  simp only[yX,QI,Ql,Qb,QH,List.cons.injEq]
  rcases UInt8.lt_or_lt_of_ne (a:=a) (b:=b) |> fun f=>(Classical.em (a=b)).imp id f with rfl | h | h
  ·rcases zRl x y with h | rfl | h
   ·grind
   ·grind
   grind
  ·grind
  grind
theorem zSx{a b:zA}(h:yX a b=true): yX b a=false:=by
 grind [zKD,zEs]
def loB (b:UInt8): Bool:=decide (97≤(b.toNat:Int))&&decide ((b.toNat:Int)≤122)
def uM (b:UInt8): Bool:=loB b||(if decide (48≤(b.toNat:Int)) then decide ((b.toNat:Int)≤57)||(b.toNat:Int)==95 else(b.toNat:Int)==95)
def vName:zA->Bool
 | []=>false
 | c::r=>decide (r.length+1≤12)&&loB c&&r.all uM
theorem zOp (s:zA): zBc s=some (vName s):=by
 unfold zBc
 cases s with
 | nil=>rfl
 | cons c r =>
  have h0:((len (c::r))==0)=false:=by rw[Qr];simp[len];omega
  by_cases hl:r.length+1≤12
  ·have h1:decide (12<len (c::r))=false:=by simp[len];omega
   rw[h0,h1]
   simp only[Bool.or_self,zbf,Qh]
   have h:=zMH (B:=zCg (c::r)) (fun i (_:Unit)=>(i:Int)) (c::r)
    (fun i _ b=>some (if loB b then .inl () else if decide (0<(i:Int))&&uM b then .inl () else .inr false)) (fun _=>some true) ?_ ?_ ()
   ·rw[show((0:Nat):Int)=0 from rfl] at h
    rw[h]
    have key:∀(l:List UInt8) (i:Nat),0<i->zVv (fun(i:Nat) (_:Unit) (b:UInt8)=>some (if loB b then .inl () else if decide (0<(i:Int))&&uM b then .inl () else .inr false)) (fun _=>some true) i l ()=some (l.all uM):=by
     intro l
     induction l with
     | nil=>intro i _;rfl
     | cons b l ih =>
      intro i hi
      have hd:decide (0<(i:Int))=true:=by simp;omega
      by_cases hb:uM b=true
      ·by_cases hlo:loB b=true
       ·simp only[zVv,hlo,Qe];grind
       ·simp only[zVv,hlo,Qh,hd,hb,Bool.and_self,Qe,zbf];grind
      grind [uM,zVv]
    by_cases hlo:loB c=true
    ·simp only[zVv,hlo,Qe]
     grind [vName]
    ·simp[zVv,hlo,vName]
   ·intro i x s hx
    have hi:=(Qj.1 hx).1
    have hlt:decide ((i:Int)<len (c::r))=true:=by simp[len] at hi ⊢;omega
    unfold zCg
    rw[zCn,hx,wI i (by grind)]
    simp only[hlt,Qe,QW,zob]
    by_cases hlo:loB x=true
    ·have hlo':=hlo
     unfold loB at hlo'
     grind
    ·have hlo':=hlo
     unfold loB at hlo'
     simp only[hlo',Qh,hlo,zbf]
     by_cases hc:(decide (0<(i:Int))&&uM x)=true
     ·have hc':=hc
      unfold uM at hc'
      grind
     ·have hc':=hc
      unfold uM at hc'
      grind
   ·intro s
    unfold zCg
    simp[len]
  ·have h1:decide (12<len (c::r))=true:=by simp[len];omega
   rw[h1]
   simp[vName,hl]
theorem zDf (s:zA): zAy s=some (vName s):=by
 unfold zAy
 cases s with
 | nil=>rfl
 | cons c r =>
  have h0:decide ((len (c::r))<1)=false:=by simp[len];omega
  have hs0:vR (c::r) 0=some (c.toNat:Int):=rfl
  rw[h0]
  by_cases hl:r.length+1≤12
  ·have h1:decide (12<len (c::r))=false:=by simp[len];omega
   rw[h1]
   simp only[zbf,Qh,hs0,zob]
   by_cases hlo:loB c=true
   ·have ha:decide ((c.toNat:Int)<97)=false:=by simp[loB] at hlo ⊢;omega
    have hb:decide (122<(c.toNat:Int))=false:=by simp[loB] at hlo ⊢;omega
    simp only[ha,hb,zbf,Qh,zob]
    have h:=zMH (B:=zDD (c::r)) (fun i (_:Unit)=>(i:Int)) (c::r)
     (fun _ _ b=>some (if uM b then .inl () else .inr false)) (fun _=>some true) ?_ ?_ ()
    ·rw[show((0:Nat):Int)=0 from rfl] at h
     rw[h]
     have key:∀(l:List UInt8) (i:Nat),zVv (fun(_:Nat) (_:Unit) (b:UInt8)=>some (if uM b then .inl () else .inr false)) (fun _=>some true) i l ()=some (l.all uM):=by
      intro l
      induction l with
      | nil=>intro i;rfl
      | cons b l ih =>
       intro i
       by_cases hb:uM b=true
       ·simp only[zVv,hb,Qe];grind
       ·simp[zVv,hb]
     grind [vName,uM]
    ·intro i x s hx
     have hi:=(Qj.1 hx).1
     have hlt:decide ((i:Int)<len (c::r))=true:=by simp[len] at hi ⊢;omega
     unfold zDD
     rw[zCn,hx,wI i (by grind)]
     simp only[hlt,Qe,QW,zob]
     have hok:uM x=!(if decide ((x.toNat:Int)<97) then(if decide ((x.toNat:Int)<48) then((x.toNat:Int) != 95) else if decide (57<(x.toNat:Int)) then((x.toNat:Int) != 95) else false)
       else if decide (122<(x.toNat:Int)) then(if decide ((x.toNat:Int)<48) then((x.toNat:Int) != 95) else if decide (57<(x.toNat:Int)) then((x.toNat:Int) != 95) else false) else false):=by
      unfold uM loB
      generalize (x.toNat:Int)=n
      rw[UJ]
      simp
      constructor
      ·grind
      ·grind
     grind
    ·intro s
     unfold zDD
     simp[len]
   ·have hor:(decide ((c.toNat:Int)<97)||decide (122<(c.toNat:Int)))=true:=by simp[loB] at hlo ⊢;omega
    have hv:vName (c::r)=false:=by simp[vName,hlo]
    grind
  ·have h1:decide (12<len (c::r))=true:=by simp[len];omega
   rw[h1]
   simp[vName,hl]
theorem zOO (x:zE): zFC x=some (vName x.2):=by simp[zFC,zOp]
theorem zEG (x:zE): zBI x=some (vName x.2):=by simp[zBI,zDf]
theorem zEF{s:zA}(h:vName s=true): 1≤s.length∧s.length≤12:=by
 cases s with
 | nil=>simp[vName] at h
 | cons c r=>grind [vName]
def qH (x:zE): zA:=if vName x.2 then(if x.1 then 126::x.2 else x.2) else[]
theorem zHH (x:zE): zCS x=some (qH x):=by
 unfold zCS qH
 rw[zOO]
 cases h:vName x.2 with
 | false=>rfl
 | true =>
  have:=zEF h
  cases hx:x.1 <;> simp[qL (l:=[126]) (m:=x.2) (by simp;omega)]
theorem zDK (x:zE): zB2 x=some (qH x):=by
 unfold zB2 qH
 rw[zEG]
 cases h:vName x.2 with
 | false=>rfl
 | true =>
  have:=zEF h
  cases hx:x.1 <;> simp[qL (l:=[126]) (m:=x.2) (by simp;omega)]
theorem yK (x:zE): (qH x).length≤13:=by grind [qH,zEF]
def zE7 (s:zA): zE×Int :=
 let x:zE:=match s with
  | 126::r=>(true,r)
  | _=>(false,s)
 if vName x.2 then(x,0) else((false,[]),3)
theorem zJb (r:zA): zE7 (126::r)=if vName r then((true,r),0) else((false,[]),3):=rfl
theorem zFk{s:zA}(h:∀ r,s≠126::r): zE7 s=if vName s then((false,s),0) else((false,[]),3):=by
 unfold zE7
 grind
theorem z2G (s:zA): zGq s=some (zE7 s):=by
 unfold zGq
 cases s with
 | nil=>simp[len,zOO,zFk,vName]
 | cons c r =>
  have h0:decide (0<len (c::r))=true:=by simp[len]
  have hs0:vR (c::r) 0=some (c.toNat:Int):=rfl
  simp only[h0,Qe,hs0,zob]
  by_cases hc:c=126
  ·subst hc
   have hs:=zPd (l:=(126::r:zA)) (i:=1) (by omega) (by simp;omega)
   have h1:(((126:UInt8).toNat:Int)==126)=true:=rfl
   simp only[h1,Qe,hs,zob,zOO]
   rw[zJb]
   grind
  ·have h1:((c.toNat:Int)==126)=false:=by
    rw[Qr]
    intro h;exact hc (UInt8.toNat_inj.1 (by grind))
   simp only[h1,Qh,zob,zOO,zbf]
   rw[zFk (fun r' h=>hc (by grind))]
   grind
theorem zXR (s:zA): zCY s=some (zE7 s):=by
 unfold zCY
 cases s with
 | nil=>simp[len,zEG,zFk,vName]
 | cons c r =>
  have h0:decide (0<len (c::r))=true:=by simp[len]
  have hs0:vR (c::r) 0=some (c.toNat:Int):=rfl
  simp only[h0,Qe,hs0,zob]
  by_cases hc:c=126
  ·subst hc
   have hs:=zPd (l:=(126::r:zA)) (i:=1) (by omega) (by simp;omega)
   have h1:(((126:UInt8).toNat:Int)==126)=true:=rfl
   simp only[h1,Qe,hs,zob,zEG]
   rw[zJb]
   grind
  ·have h1:((c.toNat:Int)==126)=false:=by
    rw[Qr]
    intro h;exact hc (UInt8.toNat_inj.1 (by grind))
   simp only[h1,Qh,zob,zEG,zbf]
   rw[zFk (fun r' h=>hc (by grind))]
   grind
def vX (a b:zE): Bool:=yX a.2 b.2||(a.2==b.2&&(!a.1&&b.1))
def zPy (a b:zE): Int:=if vX a b then -1 else if a=b then 0 else 1
theorem zVj (a:zE): vX a a=false:=by simp[vX,zEs]
theorem zNY{a b c:zE}(h1:vX a b=true)(h2:vX b c=true): vX a c=true:=by
 obtain⟨g,a⟩:=a;obtain⟨g',b⟩:=b;obtain⟨g'',c⟩:=c
 simp only[vX,QI,Qb,QH,Bool.not_eq_true'] at *
 rcases h1 with h1 | ⟨rfl,h1,h1'⟩ <;> rcases h2 with h2 | ⟨rfl,h2,h2'⟩
 ·exact .inl (zKD h1 h2)
 ·grind
 ·grind
 grind
theorem zRX (a b:zE): vX a b=true∨a=b∨vX b a=true:=by
 obtain⟨g,a⟩:=a;obtain⟨g',b⟩:=b
 simp only[vX,QI,Qb,QH,Bool.not_eq_true',Prod.mk.injEq]
 rcases zRl a b with h | rfl | h
 ·grind
 ·grind
 grind
theorem zST (a b:zE): zEv a b=some (zPy a b):=by grind [zEv,zPy,vX,zEs]
end
section
theorem z7A:zWp vX:=⟨zVj,fun _ _ _=>zNY,zRX⟩
def z6i (x:zE): zE:=(!x.1,x.2)
end
section
theorem zUG{l:List zE}(x:zE)(h:l.length<1073741824)(ha:yA vX l): ∃ r,zFg l x=some r∧yA vX r∧(∀ y,y∈r↔y=x∨y∈l)∧r.length≤l.length+1:=by
 have hloop:∃ k,zJ (zDH l x) 0=some k∧∃ n:Nat,k=n∧n≤l.length∧(∀ j y,j<n->l[j]?=some y->vX y x=true)∧∀ y,l[n]?=some y->vX y x=false:=by
  refine tK (B:=zDH l x) (fun i (_:Unit)=>(i:Int)) l (fun i _=>∀ j y,j<i->l[j]?=some y->vX y x=true) _ ?_ ?_ () (by simp)
  ·intro i y s hy hI
   have hi:=(Qj.1 hy).1
   have hlt:decide ((i:Int)<len l)=true:=by simp[len];omega
   unfold zDH
   simp only[hlt,Qe,tV,hy,zob,zST]
   cases hc:vX y x with
   | true =>
    refine .inl ⟨(),by simp[zPy,hc,wI i (by omega)],fun j z hj hz=>?_⟩
    grind
   | false =>
    refine .inr ⟨(i:Int),?_,i,rfl,by omega,hI,fun z hz=>by grind⟩
    have:decide (zPy y x<0)=false:=by simp[zPy,hc];split <;> omega
    grind
  ·intro s hI
   refine⟨(l.length:Int),by unfold zDH;simp[len],l.length,rfl,Qt _,hI,fun y hy=>by simp at hy⟩
 obtain⟨_,hk,n,rfl,hn,hlo,hhi⟩:=hloop
 unfold zFg
 rw[hk]
 simp only[zob]
 by_cases hx:l[n]?=some x
 ·have hlt:decide ((n:Int)<len l)=true:=by have:=(Qj.1 hx).1;simp[len];omega
  refine⟨l,by simp only[hlt,Qe,tV,hx,zob,QQ],ha,fun y=>⟨.inr,fun h=>?_⟩,by omega⟩
  grind
 ·have hcond:((if decide ((n:Int)<len l)=true then(zD l (n:Int)).bind fun x2=>some (x2==x) else some false:Option Bool))=some false:=by
   by_cases hlt:n<l.length
   ·have hy:l[n]?=some l[n]:=Qi hlt
    have h1:decide ((n:Int)<len l)=true:=by simp[len];omega
    have h2:(l[n]==x)=false:=Qr.2 (fun e=>hx (by rw[hy,e]))
    simp only[h1,Qe,tV,hy,zob,h2]
   ·grind
  rw[hcond]
  simp only[zob,zbf,Qh]
  rw[zLY (by omega) (by omega),zPd (by omega) (by omega)]
  simp only[zob,Qw]
  rw[yC (by simp;omega)]
  simp only[zob,QA]
  rw[yC (by simp;omega)]
  simp only[zob]
  rw[yC (by simp;omega)]
  refine⟨_,rfl,?_,fun y=>?_,by simp;omega⟩
  ·have hsplit:=QC n l
   rw[←hsplit] at ha
   obtain⟨h1,h2,h3⟩:=Uj.1 ha
   have hlow:∀ y∈l.take n,vX y x=true:=fun y hy=>by
    obtain⟨j,hj⟩:=Qv.1 hy
    grind
   have hhigh:∀ y∈l.drop n,vX x y=true:=fun y hy=>by
    by_cases hlt:n<l.length
    ·have hfirst:vX x l[n]=true:=by
      rcases zRX x l[n] with h | h | h
      ·exact h
      ·grind
      ·grind
     rw[Qu hlt] at hy h2
     rcases QG.1 hy with rfl | hy
     ·grind
     grind [zNY,List.pairwise_cons]
    grind
   rw[Qo]
   refine Uj.2 ⟨h1,Uj.2 ⟨by simp,h2,fun a ha b hb=>?_⟩,fun a ha b hb=>?_⟩
   ·grind
   grind
  ·rw[Qk,Qk,Qf]
   grind [List.take_append_drop]
theorem zXa{l:List zE}(x:zE)(h:l.length<9223372036854775807): zIV l x=some (decide (x∈l)):=by
 have hh:=tK (B:=zHL l x) (fun i (_:Unit)=>(i:Int)) l (fun i _=>∀ j,j<i->l[j]?≠some x) (fun r=>r=decide (x∈l)) ?_ ?_ () (by simp)
 ·obtain⟨r,h1,rfl⟩:=hh;exact h1
 ·intro i y s hy hI
  have hi:=(Qj.1 hy).1
  have hlt:decide ((i:Int)<len l)=true:=by simp[len];omega
  unfold zHL
  simp only[hlt,Qe,tV,hy,zob]
  by_cases hxy:y=x
  ·grind
  ·refine .inl ⟨(),by simp[hxy,wI i (by omega)],fun j hj=>?_⟩
   grind
 ·intro s hI
  refine⟨false,by unfold zHL;simp[len],?_⟩
  grind [List.mem_iff_getElem?]
end
section
theorem z1X (l:List Int)(n:Int)(hl:l.length<4294967290): ∃ k:Nat,zJ (zDW l n) 0=some (k:Int)∧k≤l.length∧(∀ j x,j<k->l[j]?=some x->x<n)∧∀ x,l[k]?=some x->n≤x:=by
 have h:=tK (B:=zDW l n) (fun i (_:Unit)=>(i:Int)) l (fun i _=>∀ j x,j<i->l[j]?=some x->x<n)
  (fun r=>∃ k:Nat,r=(k:Int)∧k≤l.length∧(∀ j x,j<k->l[j]?=some x->x<n)∧∀ x,l[k]?=some x->n≤x) ?_ ?_ () (by omega)
 ·grind
 ·intro i x s hx hI
  unfold zDW
  simp only[vY hx,Qe,wV hx,zob]
  by_cases hlt:x<n
  ·refine .inl ⟨(),by simp[hlt,vO hx (by omega)],fun j y hj hy=>?_⟩
   grind
  grind
 ·intro s hI
  unfold zDW
  grind
theorem zN3{l:List Int}(n:Int)(hl:l.length<4294967000)(ha:yA xB l): ∃ r,zET l n=some r∧yA xB r∧(∀ y,y∈r↔y=n∨y∈l)∧r.length≤l.length+1:=by
 obtain⟨k,h1,h2,h3,h4⟩:=z1X l n (by omega)
 have hsplit:l=l.take k++l.drop k:=(QC k l).symm
 have hlo:∀ x∈l.take k,x<n:=fun x hx=>by
  grind [List.mem_iff_getElem?]
 have hhi:∀ x∈l.drop k,n≤x:=fun x hx=>by
  obtain⟨j,hj⟩:=Qv.1 hx
  rw[UX] at hj
  cases j with
  | zero=>grind
  | succ j =>
   have hk:k<l.length:=by have:=uS hj;omega
   grind [List.pairwise_iff_getElem]
 unfold zET
 rw[h1]
 simp only[zob]
 by_cases he:∃ x,l[k]?=some x∧x=n
 ·obtain⟨x,hx,rfl⟩:=he
  refine⟨l,by simp only[vY hx,Qe,wV hx,zob,QQ],ha,fun y=>⟨.inr,fun h=>by grind⟩,by omega⟩
 ·have hc:(if decide ((k:Int)<len l)=true then(zD l (k:Int)).bind fun x2=>some (x2==n) else some false)=some false:=by
   by_cases hk:k<l.length
   ·have hx:l[k]?=some l[k]:=Qi hk
    simp only[vY hx,Qe,wV hx,zob]
    grind
   ·grind
  rw[hc]
  simp only[zob,zbf,Qh]
  rw[zLY (by omega) (by omega),zPd (by omega) (by omega)]
  simp only[zob,Qw]
  have l1:(l.take k).length=k:=by simp;omega
  have l2:(l.drop k).length=l.length-k:=by simp
  rw[yC (by simp;omega)]
  simp only[zob,QA]
  rw[yC (by simp;omega)]
  simp only[zob]
  rw[yC (by simp;omega)]
  refine⟨_,rfl,?_,fun y=>?_,by simp;omega⟩
  ·rw[Qo]
   refine Uj.2 ⟨ha.sublist (List.take_sublist k l),?_,fun x hx y hy=>?_⟩
   ·refine Uj.2 ⟨by simp,ha.sublist (List.drop_sublist k l),fun x hx y hy=>?_⟩
    simp only[Qf] at hx
    subst hx
    have h5:=hhi y hy
    have h6:y≠x:=fun e=>by
     subst e
     obtain⟨j,hj⟩:=Qv.1 hy
     rw[UX] at hj
     cases j with
     | zero=>grind
     | succ j =>
      have hk:k<l.length:=by have:=uS hj;omega
      grind [List.pairwise_iff_getElem]
    simp;omega
   grind
  ·have hm:y∈l↔y∈l.take k∨y∈l.drop k:=by rw[←Qk,QC]
   rw[hm]
   simp only[Qk,Qf]
   constructor
   ·grind
   grind
theorem zUQ{l m:List Int}(hl:l.length+m.length<4294966000)(ha:yA xB l): ∃ r,zHr l m=some r∧yA xB r∧(∀ y,y∈r↔y∈l∨y∈m)∧r.length≤l.length+m.length:=by
 have h:=tK (B:=zGK m) (fun i (s:List Int)=>(s,(i:Int))) m (fun i s=>yA xB s∧(∀ y,y∈s↔y∈l∨y∈m.take i)∧s.length≤l.length+i)
  (fun r=>yA xB r∧(∀ y,y∈r↔y∈l∨y∈m)∧r.length≤l.length+m.length) ?_ ?_ l ⟨ha,by simp,by omega⟩
 ·exact h
 ·rintro i x s hx ⟨h1,h2,h3⟩
  have hi:=uS hx
  obtain⟨r,e1,e2,e3,e4⟩:=zN3 x (by omega) h1
  refine .inl ⟨r,?_,e2,fun y=>?_,by omega⟩
  ·unfold zGK
   simp only[vY hx,Qe,wV hx,zob,e1,vO hx (by omega)]
  ·rw[e3,h2,zCp hx]
   grind
 ·rintro s ⟨h1,h2,h3⟩
  refine⟨s,by unfold zGK;simp[len],h1,fun y=>by grind,h3⟩
theorem zWu{l:List Int}(h:l.length<4294967296): zDQ l=some (zXg xB l):=zYd h
theorem zYG{l:List Int}(h:l.length<4294967296): zFe l=some (zJT l):=zVH 0 l (by omega)
theorem z5H{β:Type}{l:List Int}(h:l.length<4294967296)(k:List Int->Option β): ((zDQ l).bind fun r3=>(zFe r3).bind fun r4=>k r4)=k (nrm xB l):=by
 rw[zWu h]
 simp only[zob]
 rw[zYG (by rw[(zJu l).length_eq];exact h)]
 simp only[zob]
 rw[z0N (zJu l) (zIw zEV l)]
theorem zYa (l:List Int): yA xB (nrm xB l):=(zOu zEV l).1
theorem z77 (l:List Int)(x:Int): x∈nrm xB l↔x∈l:=(zOu zEV l).2 x
inductive zKA (l:List zU): Int->Int->Prop
 | self (i:Int):zKA l i i
 | step {i k j:Int} {a:zU}:zD l i=some a->k∈a.2.2.1->zKA l k j->zKA l i j
structure FormA (l:List zU): Prop where
 len:l.length≤100
 nsub:∀ a∈l,a.2.2.1.length≤100
 sub:∀(i:Nat) a,l[i]?=some a->∀ k∈a.2.2.1,0≤k∧k<i
theorem FormA.at{l:List zU}(h:FormA l){i:Int}{a:zU}(hi:zD l i=some a): a.2.2.1.length≤100∧0≤i∧i<l.length∧∀ k∈a.2.2.1,0≤k∧k<i:=by
 obtain⟨n,rfl,hn⟩:=zMh hi
 exact⟨h.nsub a (zE3 hn),by omega,by grind,h.sub n a hn⟩
theorem zKA.le{l:List zU}(h:FormA l){i j:Int}(hs:zKA l i j): 0≤i->0≤j∧j≤i:=by
 induction hs with
 | self i=>grind
 | step hi hk _ ih=>intro h0;have:=(h.at hi).2.2.2 _ hk;grind
theorem zKA.trans{l:List zU}{i j k:Int}(h:zKA l i j)(h2:zKA l j k): zKA l i k:=by
 induction h with
 | self i=>exact h2
 | step hi hk _ ih=>exact .step hi hk (ih h2)
theorem zKA.iff{l:List zU}{i j:Int}{a:zU}(hi:zD l i=some a): zKA l i j↔j=i∨∃ k∈a.2.2.1,zKA l k j:=by
 constructor
 ·intro h
  cases h with
  | self=>grind
  | step h1 h2 h3=>grind
 ·rintro (rfl | ⟨k,h1,h2⟩)
  ·exact .self _
  ·exact .step hi h1 h2
open Classical in
noncomputable def yR (l:List zU)(i:Int): List Int:=((List.range l.length).map Int.ofNat).filter fun j=>decide (zKA l i j)
theorem zNu (l:List zU)(i:Int): yA xB (yR l i):=by
 refine List.Pairwise.filter _ ?_
 rw[U3]
 exact Ut.imp fun {a b} h=>by simp;omega
theorem zFq (l:List zU)(i:Int): (yR l i).length≤l.length:=Qy (Q4 _ _) (by simp)
theorem zJd{l:List zU}(h:FormA l){i:Int}(h0:0≤i)(h1:i<l.length)(j:Int): j∈yR l i↔zKA l i j:=by
 simp only[yR,QR,QB,UG,Ql]
 constructor
 ·grind
 ·intro hs
  have:=hs.le h h0
  exact⟨⟨j.toNat,by omega,by simp;omega⟩,hs⟩
theorem z0M{l:List zU}(h:FormA l): ∀(n:Nat) (i:Int),0≤i->i<l.length->i<n->zFB n l i=some (yR l i):=by
 intro n
 induction n with
 | zero=>grind
 | succ n ih =>
  intro i h0 h1 h2
  obtain⟨a,ha⟩:=zI9 h0 h1
  obtain⟨hn,_,_,hsub⟩:=h.at ha
  show zI5 (zFB n) l i=_
  have hL:=zFn (B:=zEg a (zFB n) l) a.2.2.1 (fun s k=>s++yR l k) (fun s=>s) (fun q s=>s.length≤1+q*100) [i] (by simp) (fun q k s hk hI=>?_) (fun s hI=>?_)
  ·obtain⟨e1,e2⟩:=hL
   rw[zHP] at e1 e2
   unfold zI5 zJv
   have hin:(decide (0≤i)&&decide (i<len l))=true:=by simp[len];omega
   simp only[hin,zob,Qx,zbf,Qh,ha,e1]
   have hlen:([i]++a.2.2.1.flatMap (yR l)).length<4294967296:=by omega
   refine(z5H hlen some).trans ?_
   grind [zZb,zEV,zNu,zJd,zKA.iff]
  ·have hks:=hsub k (zE3 hk)
   have hq:=uS hk
   have hsl:=zFq l k
   have hl:=h.len
   unfold zEg
   simp only[vY hk,Qe,wV hk,zob]
   rw[ih k hks.1 (by omega) (by omega)]
   simp only[zob]
   rw[yC (by omega)]
   refine⟨by simp only[zob,vO hk (by omega)],by grind⟩
  ·unfold zEg
   simp[len]
theorem z4R{l:List zU}(h:FormA l){i:Int}(h0:0≤i)(h1:i<l.length): zLK l i=some (yR l i) :=
 zKO (i.toNat+1) fun m hm=>z0M h m i h0 h1 (by omega)
theorem z0c{l:List zU}(h:FormA l): ∀(n:Nat) (i:Int),0≤i->i<l.length->i<n->zEq n l i=some (yR l i):=by
 intro n
 induction n with
 | zero=>grind
 | succ n ih =>
  intro i h0 h1 h2
  obtain⟨a,ha⟩:=zI9 h0 h1
  obtain⟨hn,_,_,hsub⟩:=h.at ha
  have hl:=h.len
  show zJN (zEq n) l i=_
  have hL:=tK (B:=zGi l i (zEq n)) (fun q (s:List Int)=>(s,(q:Int))) a.2.2.1 (fun q s=>yA xB s∧(∀ y,y∈s↔y=i∨∃ k∈a.2.2.1.take q,zKA l k y)∧s.length≤1+q*100)
   (fun r=>yA xB r∧∀ y,y∈r↔zKA l i y) (fun q k s hk hI=>?_) (fun s hI=>?_) [i] ⟨by simp,by simp,by simp⟩
  ·obtain⟨r,e1,e2,e3⟩:=hL
   unfold zJN
   have hin:(decide (i<0)||decide (len l≤i))=false:=by simp[len];omega
   simp only[hin,zbf,Qh]
   exact e1.trans (congrArg some (yA.ext zEV e2 (zNu l i) fun j=>by rw[e3,zJd h h0 h1]))
  ·obtain⟨g1,g2,g3⟩:=hI
   have hks:=hsub k (zE3 hk)
   have hq:=uS hk
   have hsl:=zFq l k
   obtain⟨r,e1,e2,e3,e4⟩:=zUQ (l:=s) (m:=yR l k) (by omega) g1
   refine .inl ⟨r,?_,e2,fun y=>?_,by omega⟩
   ·unfold zGi
    simp only[ha,zob,vY hk,Qe,wV hk]
    rw[ih k hks.1 (by omega) (by omega)]
    simp only[zob,e1,vO hk (by omega)]
   ·rw[e3,g2,zJd h hks.1 (by omega),zCp hk]
    grind
  ·obtain⟨g1,g2,g3⟩:=hI
   rw[Q7] at g2
   refine⟨s,by unfold zGi;grind,g1,fun y=>by rw[g2,zKA.iff ha]⟩
theorem zUa{l:List zU}(h:FormA l){i:Int}(h0:0≤i)(h1:i<l.length): zHW l i=some (yR l i) :=
 zKO (i.toNat+1) fun m hm=>z0c h m i h0 h1 (by omega)
structure FormB (b:zX)(l:List zU): Prop extends FormA l where
 np:b.1.length≤100
 nr:b.2.1.length≤100
 kind:∀(i:Nat) a,l[i]?=some a->(a.1=(i:Int)∧i<b.1.length∧a.2.1=-1)∨(a.1=-1∧0≤a.2.1∧a.2.1<b.2.1.length)
variable {b:zX}{l:List zU}
theorem FormB.prem (h:FormB b l){j:Int}{a:zU}(hj:zD l j=some a): (0≤a.1->a.1=j∧(∃ p,zD b.1 a.1=some p)∧a.2.1=-1)∧(a.1<0->∃ r,zD b.2.1 a.2.1=some r)∧(0≤a.2.1↔a.1<0):=by
 obtain⟨n,rfl,hn⟩:=zMh hj
 rcases h.kind n a hn with⟨h1,h2,h3⟩ | ⟨h1,h2,h3⟩
 ·exact⟨fun _=>⟨h1,zI9 (by omega) (by omega),h3⟩,fun h=>by omega,by omega⟩
 ·exact⟨fun h=>by omega,fun _=>zI9 h2 h3,by omega⟩
noncomputable def zHh (l:List zU)(i:Int): List Int:=(yR l i).filter fun j=>match zD l j with | some a=>decide (0≤a.1) | none=>false
theorem zUF (l:List zU)(i:Int): yA xB (zHh l i):=(zNu l i).filter _
theorem zP3 (l:List zU)(i:Int): (zHh l i).length≤l.length:=Qy (Q4 _ _) (zFq l i)
theorem zMQ (h:FormA l){i:Int}(h0:0≤i)(h1:i<l.length){j:Int}(hj:j∈yR l i): ∃ a,zD l j=some a:=by
 have:=((zJd h h0 h1 j).1 hj).le h h0
 exact zI9 this.1 (by omega)
theorem z12{m:List Int}(h:yA xB m): zXg xB m=m:=by
 refine List.Perm.eq_of_pairwise (le:=fun x y=>xB y x=false) (fun a c _ _ h1 h2=>?_) (zIw zEV m) (h.imp fun h=>by grind) (zJu m)
 grind
theorem zWM (h:FormB b l){i:Int}(h0:0≤i)(h1:i<l.length): ∀(m acc:List Int),(∀ j∈m,j∈yR l i)->
  m.foldl (fun s j=>match zD l j with | some a=>if decide (0≤a.1) then s++[a.1] else s | none=>s) acc=acc++m.filter fun j=>match zD l j with | some a=>decide (0≤a.1) | none=>false
 | [],acc,_=>by simp
 | j::m,acc,hm=>by
  obtain⟨a,ha⟩:=zMQ h.toFormA h0 h1 (hm j Qz)
  rw[Uz,zWM h h0 h1 m _ fun q hq=>hm q (Qq _ hq),List.filter_cons]
  simp only[ha]
  by_cases hp:0≤a.1
  ·have:=(((h.prem ha).1 hp).1)
   grind
  grind
theorem zQY (h:FormB b l){i:Int}(h0:0≤i)(h1:i<l.length): zGO l i=some (zHh l i):=by
 have hl:=h.len
 have hsl:=zFq l i
 have hL:=zFn (B:=zCe (yR l i) l) (yR l i) (fun s j=>match zD l j with | some a=>if decide (0≤a.1) then s++[a.1] else s | none=>s) (fun s=>s) (fun q s=>s.length≤q) [] (by simp) (fun q j s hj hI=>?_) (fun s hI=>?_)
 ·unfold zGO
  rw[z4R h.toFormA h0 h1]
  simp only[zob]
  rw[hL.1,zWM h h0 h1 _ _ fun j hj=>hj]
  simp only[zob,QA]
  show(zDQ (zHh l i)).bind _=_
  grind [zWu,z12,zUF,zHh]
 ·obtain⟨a,ha⟩:=zMQ h.toFormA h0 h1 (zE3 hj)
  have hq:=uS hj
  unfold zCe
  simp only[vY hj,Qe,wV hj,zob,ha]
  by_cases hp:0≤a.1
  ·simp only[hp,decide_true,Qe]
   rw[yC (by simp;omega)]
   exact⟨by simp only[zob,vO hj (by omega)],by simp;omega⟩
  ·simp only[hp,decide_false,zbf,Qh]
   exact⟨by simp only[vO hj (by omega)],by omega⟩
 ·unfold zCe
  simp[len]
theorem zQP (h:FormB b l){i:Int}(h0:0≤i)(h1:i<l.length): zDs l i=some (zHh l i):=by
 have hl:=h.len
 have hsl:=zFq l i
 have hL:=tK (B:=zD8 (yR l i) l) (fun q (s:List Int)=>(s,(q:Int))) (yR l i) (fun q s=>yA xB s∧(∀ y,y∈s↔y∈(yR l i).take q∧∃ a,zD l y=some a∧0≤a.1)∧s.length≤q)
  (fun r=>r=zHh l i) (fun q j s hj hI=>?_) (fun s hI=>?_) [] (by simp)
 ·obtain⟨r,e1,rfl⟩:=hL
  unfold zDs
  rw[zUa h.toFormA h0 h1]
  exact e1
 ·obtain⟨g1,g2,g3⟩:=hI
  obtain⟨a,ha⟩:=zMQ h.toFormA h0 h1 (zE3 hj)
  have hq:=uS hj
  unfold zD8
  simp only[vY hj,Qe,wV hj,zob,ha]
  by_cases hp:0≤a.1
  ·have haj:=((h.prem ha).1 hp).1
   obtain⟨r,e1,e2,e3,e4⟩:=zN3 (l:=s) a.1 (by omega) g1
   simp only[hp,decide_true,Qe,e1,zob]
   refine .inl ⟨r,by simp only[vO hj (by omega)],e2,fun y=>?_,by omega⟩
   rw[e3,g2,zCp hj,haj]
   grind
  ·simp only[hp,decide_false,zbf,Qh]
   refine .inl ⟨s,by simp only[vO hj (by omega)],g1,fun y=>?_,by omega⟩
   rw[g2,zCp hj]
   grind
 ·obtain⟨g1,g2,g3⟩:=hI
  rw[Q7] at g2
  refine⟨s,by unfold zD8;simp[len],yA.ext zEV g1 (zUF l i) fun y=>?_⟩
  rw[g2]
  simp only[zHh,QR]
  grind
abbrev z3P (b:zX)(a:zU): Bool:=match zD b.2.1 a.2.1 with | some r=>!r.2.1 | none=>false
noncomputable def zKb (b:zX)(l:List zU)(i:Int): List Int:=nrm xB (((yR l i).filter fun j=>match zD l j with | some a=>decide (0≤a.2.1)&&z3P b a | none=>false).map fun j=>match zD l j with | some a=>a.2.1 | none=>0)
theorem zOR (h:FormB b l){i:Int}(h0:0≤i)(h1:i<l.length)(y:Int): y∈zKb b l i↔∃ j∈yR l i,∃ a,zD l j=some a∧0≤a.2.1∧z3P b a=true∧y=a.2.1:=by
 rw[zKb,z77]
 simp only[QB,QR]
 constructor
 ·rintro ⟨j,⟨h2,h3⟩,h4⟩
  obtain⟨a,ha⟩:=zMQ h.toFormA h0 h1 h2
  simp only[ha,Qb,Ql] at h3 h4
  exact⟨j,h2,a,ha,h3.1,h3.2,h4.symm⟩
 ·rintro ⟨j,h2,a,ha,h3,h4,rfl⟩
  exact⟨j,⟨h2,by simp only[ha,Qb,Ql];exact⟨h3,h4⟩⟩,by simp only[ha]⟩
theorem zNq (b:zX)(l:List zU)(i:Int): (zKb b l i).length≤l.length:=by
 refine Qy (zYW xB _) ?_
 grind [zFq]
theorem zMt (h:FormB b l){i:Int}(h0:0≤i)(h1:i<l.length): zCR b l i=some (zKb b l i):=by
 have hl:=h.len
 have hsl:=zFq l i
 have hL:=tK (B:=zCm (yR l i) l b) (fun q (s:List Int)=>(s,(q:Int))) (yR l i) (fun q s=>yA xB s∧(∀ y,y∈s↔∃ j∈(yR l i).take q,∃ a,zD l j=some a∧0≤a.2.1∧z3P b a=true∧y=a.2.1)∧s.length≤q)
  (fun r=>r=zKb b l i) (fun q j s hj hI=>?_) (fun s hI=>?_) [] (by simp)
 ·obtain⟨r,e1,rfl⟩:=hL
  unfold zCR
  rw[zUa h.toFormA h0 h1]
  exact e1
 ·obtain⟨g1,g2,g3⟩:=hI
  obtain⟨a,ha⟩:=zMQ h.toFormA h0 h1 (zE3 hj)
  have hq:=uS hj
  have hc:(if decide (0≤a.2.1)=true then(zD b.2.1 a.2.1).bind fun x3=>some (!x3.2.1) else some false)=some (decide (0≤a.2.1)&&z3P b a):=by
   by_cases hr:0≤a.2.1
   ·obtain⟨r,hr2⟩:=(h.prem ha).2.1 ((h.prem ha).2.2.1 hr)
    grind
   ·simp[hr]
  unfold zCm
  simp only[vY hj,Qe,wV hj,zob,ha,hc]
  cases hd:(decide (0≤a.2.1)&&z3P b a) with
  | true =>
   obtain⟨r,e1,e2,e3,e4⟩:=zN3 (l:=s) a.2.1 (by omega) g1
   simp only[Qe,e1,zob]
   simp only[Qb,Ql] at hd
   refine .inl ⟨r,by simp only[vO hj (by omega)],e2,fun y=>?_,by omega⟩
   rw[e3,g2,zCp hj]
   simp only[Qk,Qf,or_and_right,exists_or,exists_eq_left]
   grind
  | false =>
   simp only[zbf,Qh]
   refine .inl ⟨s,by simp only[vO hj (by omega)],g1,fun y=>?_,by omega⟩
   rw[g2,zCp hj]
   simp only[Qk,Qf,or_and_right,exists_or,exists_eq_left]
   grind
 ·obtain⟨g1,g2,g3⟩:=hI
  rw[Q7] at g2
  refine⟨s,by unfold zCm;simp[len],yA.ext zEV g1 (zYa _) fun y=>?_⟩
  grind [zOR]
inductive zLW (b:zX)(l:List zU): Int->Int->Prop
 | here {i:Int} {a:zU} {r:qW}:zD l i=some a->0≤a.2.1->zD b.2.1 a.2.1=some r->r.2.1=false->zLW b l i a.2.1
 | step {i k y:Int} {a:zU} {r:qW}:zD l i=some a->0≤a.2.1->zD b.2.1 a.2.1=some r->r.2.1=true->k∈a.2.2.1->zLW b l k y->zLW b l i y
theorem zLW.rng (_h:FormB b l){i y:Int}(hs:zLW b l i y): 0≤y∧y<b.2.1.length:=by
 induction hs with
 | here h1 h2 h3 h4=>grind [zMh]
 | step _ _ _ _ _ _ ih=>exact ih
open Classical in
noncomputable def zIi (b:zX)(l:List zU)(i:Int): List Int:=((List.range b.2.1.length).map Int.ofNat).filter fun y=>decide (zLW b l i y)
theorem zWF (b:zX)(l:List zU)(i:Int): yA xB (zIi b l i):=by
 refine List.Pairwise.filter _ ?_
 rw[U3]
 exact Ut.imp fun {a b} h=>by simp;omega
theorem zOC (b:zX)(l:List zU)(i:Int): (zIi b l i).length≤b.2.1.length:=Qy (Q4 _ _) (by simp)
theorem zO7 (h:FormB b l)(i y:Int): y∈zIi b l i↔zLW b l i y:=by
 simp only[zIi,QR,QB,UG,Ql]
 exact⟨fun h=>h.2,fun hs=>by have:=hs.rng h;exact⟨⟨y.toNat,by omega,by simp;omega⟩,hs⟩⟩
theorem z2E{i:Int}{a:zU}(ha:zD l i=some a)(hr:a.2.1<0): zIi b l i=[]:=by
 simp only[zIi,List.filter_eq_nil_iff,Ql]
 intro y _ hy
 cases hy with
 | here h1 h2 _ _=>grind
 | step h1 h2 _ _ _ _=>grind
theorem z5N (h:FormB b l){i:Int}{a:zU}{r:qW}(ha:zD l i=some a)(h0:0≤a.2.1)(hr:zD b.2.1 a.2.1=some r)(hs:r.2.1=false): zIi b l i=[a.2.1]:=by
 refine yA.ext zEV (zWF b l i) (by simp) fun y=>?_
 rw[zO7 h,Qf]
 constructor
 ·intro hy
  cases hy with
  | here h1 _ _ _=>grind
  | step h1 _ h3 h4 _ _=>grind
 ·rintro rfl;exact .here ha h0 hr hs
theorem z2w{i y:Int}{a:zU}{r:qW}(ha:zD l i=some a)(h0:0≤a.2.1)(hr:zD b.2.1 a.2.1=some r)(hs:r.2.1=true): zLW b l i y↔∃ k∈a.2.2.1,zLW b l k y:=by
 constructor
 ·intro hy
  cases hy with
  | here h1 _ h3 h4=>grind
  | step h1 _ _ _ h5 h6=>grind
 ·rintro ⟨k,h1,h2⟩;exact .step ha h0 hr hs h1 h2
theorem z01 (h:FormB b l): ∀(n:Nat) (i:Int),0≤i->i<l.length->i<n->zEz n b l i=some (zIi b l i):=by
 intro n
 induction n with
 | zero=>grind
 | succ n ih =>
  intro i h0 h1 h2
  obtain⟨a,ha⟩:=zI9 h0 h1
  obtain⟨hn,_,_,hsub⟩:=h.toFormA.at ha
  have hi0:¬ i<0:=by omega
  have hi1:¬ len l≤i:=by simp[len];omega
  show zIx (zEz n) b l i=_
  unfold zIx
  simp only[hi0,hi1,decide_false,zob,zbf,Qh,ha]
  by_cases hr:a.2.1<0
  ·simp only[hr,decide_true,Qe]
   rw[z2E ha hr]
  ·simp only[hr,decide_false,zbf,Qh]
   obtain⟨r,hr2⟩:=(h.prem ha).2.1 ((h.prem ha).2.2.1 (by omega))
   simp only[hr2,zob]
   cases hs:r.2.1 with
   | false =>
    simp only[QM,Qe]
    grind [z5N]
   | true =>
    simp only[Qx,zbf,Qh]
    have hnr:=h.nr
    have hL:=tK (B:=zGo l i (zEz n) b) (fun q (s:List Int)=>(s,(q:Int))) a.2.2.1 (fun q s=>yA xB s∧(∀ y,y∈s↔∃ k∈a.2.2.1.take q,zLW b l k y)∧s.length≤q*100)
     (fun r=>yA xB r∧∀ y,y∈r↔zLW b l i y) (fun q k s hk hI=>?_) (fun s hI=>?_) [] (by simp)
    ·obtain⟨r',e1,e2,e3⟩:=hL
     exact e1.trans (congrArg some (yA.ext zEV e2 (zWF b l i) fun j=>by rw[e3,zO7 h]))
    ·obtain⟨g1,g2,g3⟩:=hI
     have hks:=hsub k (zE3 hk)
     have hq:=uS hk
     have hsl:=zOC b l k
     obtain⟨r',e1,e2,e3,e4⟩:=zUQ (l:=s) (m:=zIi b l k) (by omega) g1
     refine .inl ⟨r',?_,e2,fun y=>?_,by omega⟩
     ·unfold zGo
      simp only[ha,zob,vY hk,Qe,wV hk]
      rw[ih k hks.1 (by omega) (by omega)]
      simp only[zob,e1,vO hk (by omega)]
     ·rw[e3,g2,zO7 h,zCp hk]
      grind
    ·obtain⟨g1,g2,g3⟩:=hI
     rw[Q7] at g2
     refine⟨s,by unfold zGo;grind,g1,fun y=>by grind [z2w]⟩
theorem z4J (h:FormB b l){i:Int}(h0:0≤i)(h1:i<l.length): zLo b l i=some (zIi b l i) :=
 zKO (i.toNat+1) fun m hm=>z01 h m i h0 h1 (by omega)
end
section
def minF:List Int->Int
 | []=>0
 | x::r=>r.foldl (fun m y=>if y<m then y else m) x
def maxF:List Int->Int
 | []=>0
 | x::r=>r.foldl (fun m y=>if y > m then y else m) x
def zNK (x y:List Int)(o:Int): Bool:=(o==1||o==2)&&!x.isEmpty&&(y.isEmpty||if o==1 then decide (minF x<minF y) else decide (maxF x<maxF y))
theorem zVu{l:List Int}(h:l≠[])(hl:l.length<4294967296): zDt l=some (minF l,maxF l):=by
 match l,h with
 | x::r,_ =>
  unfold zDt
  simp only[zob,show zD (x::r) 0=some x from rfl]
  have key:∀(n i:Nat) (a b:Int),i+n=(x::r).length->zJ (zDd (x::r)) (a,b,(i:Int))=some (((x::r).drop i).foldl (fun m y=>if y<m then y else m) a,((x::r).drop i).foldl (fun m y=>if y > m then y else m) b):=by
   intro n
   induction n with
   | zero =>
    intro i a b h
    rw[QU] at h
    subst h
    rw[yS]
    unfold zDd
    grind
   | succ n ih =>
    intro i a b h
    have hx:(x::r)[i]?=some (x::r)[i]:=Qi (by omega)
    rw[yS]
    unfold zDd
    simp only[vY hx,Qe,wV hx,zob,vO hx hl]
    rw[Qu (by omega)]
    exact ih (i+1) _ _ (by omega)
  exact key r.length 1 x x (by simp;omega)
theorem len0{α:Type}(l:List α): ((len l)==0)=l.isEmpty:=by
 cases l with
 | nil=>rfl
 | cons x r=>grind
theorem isE{α:Type}{l:List α}(h:l.isEmpty=false): l≠[]:=by grind
theorem zNM{x y:List Int}(o:Int)(hx:x.length<4294967296)(hy:y.length<4294967296): zDS x y o=some (zNK x y o):=by grind [zDS,zNK,len0,zVu,isE]
variable {b:zX}{l:List zU}
theorem zWH (h:FormB b l){i:Int}(h0:0≤i)(h1:i<l.length){p:Int}(hp:p∈zHh l i): ∃ q,zD b.1 p=some q:=by
 obtain⟨h2,h3⟩:=QR.1 hp
 obtain⟨a,ha⟩:=zMQ h.toFormA h0 h1 h2
 simp only[ha,Ql] at h3
 obtain⟨e1,⟨q,e2⟩,_⟩:=(h.prem ha).1 h3
 grind
theorem z55 (h:FormB b l){i:Int}(h0:0≤i)(h1:i<l.length){y:Int}(hy:y∈zKb b l i): ∃ q,zD b.2.1 y=some q:=by
 obtain⟨j,_,a,ha,h3,_,rfl⟩:=(zOR h h0 h1 y).1 hy
 grind
theorem z4H (h:FormB b l){i y:Int}(hy:y∈zIi b l i): ∃ q,zD b.2.1 y=some q:=by
 have:=((zO7 h i y).1 hy).rng h
 exact zI9 this.1 this.2
def z2v (b:zX)(k p:Int): Bool:=match zD b.1 p with | some q=>q.2.1==k | none=>false
noncomputable def zVR (b:zX)(l:List zU)(i:Int): Bool:=(zHh l i).any (z2v b 3)
def zMA (b:zX)(p:Int): List Int:=match zD b.1 p with | some q=>if q.2.1==2 then[q.2.2.1] else if q.2.1==3 then[-1] else[] | none=>[]
noncomputable def zEP (b:zX)(l:List zU)(i:Int): List Int:=(zHh l i).flatMap (zMA b)
def z2I (b:zX)(y:Int): Int:=match zD b.2.1 y with | some q=>q.2.2.1 | none=>0
abbrev zI4 (b:zX)(rs:List Int): List Int:=rs.map (z2I b)
theorem zUI{rs:List Int}(hl:rs.length<4294967296)(h:∀ y∈rs,∃ q,zD b.2.1 y=some q): zW8 b rs=some (zI4 b rs):=by
 have hL:=zFn (B:=zGm rs b) rs (fun s y=>s++[z2I b y]) (fun s=>s) (fun q s=>s.length=q) [] rfl (fun i y s hy hI=>?_) (fun s hI=>?_)
 ·obtain⟨e1,_⟩:=hL
  rw[zOL] at e1
  exact e1
 ·obtain⟨q,hq⟩:=h y (zE3 hy)
  have:=uS hy
  unfold zGm
  simp only[vY hy,Qe,wV hy,zob,hq]
  rw[yC (by simp;omega)]
  exact⟨by simp only[zob,vO hy hl,z2I,hq],by simp;omega⟩
 ·unfold zGm
  simp[len]
theorem zNm (h:FormB b l){i:Int}(h0:0≤i)(h1:i<l.length): zDG b l i=some (zI4 b (zIi b l i)):=by
 have hll:=zOC b l i
 have hnr:=h.nr
 unfold zDG
 rw[z4J h h0 h1]
 exact zUI (by omega) fun y hy=>z4H h hy
theorem zO5 (h:FormB b l){i:Int}(h0:0≤i)(h1:i<l.length): zDM b l i=some (zI4 b (zKb b l i)):=by
 have hll:=zNq b l i
 have hnr:=h.len
 unfold zDM
 rw[zMt h h0 h1]
 exact zUI (by omega) fun y hy=>z55 h h0 h1 hy
theorem zQI (b:zX)(p:Int): (zMA b p).length≤1:=by grind [zMA]
theorem zPg (h:FormB b l){i:Int}(h0:0≤i)(h1:i<l.length): zGP b l i=some (zEP b l i):=by
 have hpl:=zP3 l i
 have hl:=h.len
 have hL:=zFn (B:=zBv (zHh l i) b) (zHh l i) (fun s p=>s++zMA b p) (fun s=>s) (fun q s=>s.length≤q) [] (by simp) (fun j p s hp hI=>?_) (fun s hI=>?_)
 ·grind [zHP,zGP,zQY,zEP]
 ·obtain⟨q,hq⟩:=zWH h h0 h1 (zE3 hp)
  have:=uS hp
  have hpr:=zQI b p
  unfold zBv
  simp only[vY hp,Qe,wV hp,zob,hq]
  refine⟨?_,by grind⟩
  unfold zMA
  simp only[hq]
  cases hk2:q.2.1==2 with
  | true =>
   simp only[Qe]
   rw[yC (by simp;omega)]
   simp only[zob,vO hp (by omega)]
  | false =>
   cases hk3:q.2.1==3 with
   | true =>
    simp only[zbf,Qh,Qe]
    rw[yC (by simp;omega)]
    simp only[zob,vO hp (by omega)]
   | false=>simp only[zbf,Qh,QJ,vO hp (by omega)]
 ·unfold zBv
  simp[len]
theorem zKk (h:FormB b l){i:Int}(h0:0≤i)(h1:i<l.length): zBZ b l i=some (zEP b l i):=by
 have e:=zPg h h0 h1
 unfold zGP at e
 unfold zBZ
 rw[zQY h h0 h1] at e
 rw[zQP h h0 h1]
 simp only[zob] at e ⊢
 rw[←e]
 congr 1
 funext s
 unfold zGj zBv
 split
 ·cases h2:zD (zHh l i) s.2 with
  | none=>rfl
  | some p =>
   simp only[zob]
   cases h3:zD b.1 p with
   | none=>rfl
   | some q=>rfl
 ·rfl
theorem zYe (h:FormB b l){i:Int}(h0:0≤i)(h1:i<l.length): zG3 b l i=some (zVR b l i):=by
 have hpl:=zP3 l i
 have hl:=h.len
 unfold zG3
 rw[zQP h h0 h1]
 simp only[zob]
 refine zRI (B:=zEd (zHh l i) b) (zHh l i) (z2v b 3) (fun q p hp=>?_) ?_
 ·obtain⟨r,hr⟩:=zWH h h0 h1 (zE3 hp)
  unfold zEd
  simp only[vY hp,Qe,wV hp,zob,hr,z2v,vO hp (by omega)]
  grind
 ·unfold zEd
  grind
noncomputable def z02 (b:zX)(l:List zU)(i k:Int)(o:zAm): Bool :=
 decide (0≤i)&&decide (i<l.length)&&decide (0≤k)&&decide (k<l.length)&&!zVR b l k &&
 let pr:=zNK (zEP b l i) (zEP b l k) o.2
 if o.1==1 then zNK (zI4 b (zIi b l i)) (zI4 b (zIi b l k)) o.2||((zIi b l i).isEmpty&&(zIi b l k).isEmpty&&pr)
 else if o.1==2 then
  if(zKb b l i).isEmpty&&(zKb b l k).isEmpty then pr
  else if(zEP b l i).isEmpty&&(zEP b l k).isEmpty then zNK (zI4 b (zKb b l i)) (zI4 b (zKb b l k)) o.2
  else pr&&zNK (zI4 b (zKb b l i)) (zI4 b (zKb b l k)) o.2
 else false
theorem zNs (b:zX)(l:List zU)(i:Int): (zEP b l i).length≤l.length:=by
 have key:∀ m:List Int,(m.flatMap (zMA b)).length≤m.length:=by
  intro m
  induction m with
  | nil=>simp
  | cons x m ih=>grind [zQI]
 exact Qy (key _) (zP3 l i)
theorem zYN{α β:Type}(f:α->β)(l:List α): (l.map f).isEmpty=l.isEmpty:=by cases l <;> rfl
theorem z5X (h:FormB b l)(i k:Int)(o:zAm): zHT b l i k o=some (z02 b l i k o):=by
 have hl:=h.len
 have hnr:=h.nr
 unfold zHT
 by_cases hr:0≤i∧i<l.length∧0≤k∧k<l.length
 ·obtain⟨i0,i1,k0,k1⟩:=hr
  have c1:¬ i<0:=by omega
  have c2:¬ len l≤i:=by simp[len];omega
  have c3:¬ k<0:=by omega
  have c4:¬ len l≤k:=by simp[len];omega
  simp only[c1,c2,c3,c4,decide_false,zbf,Qh,zYe h k0 k1,zob]
  have f1:=zNs b l i
  have f2:=zNs b l k
  have f3:=zOC b l i
  have f4:=zOC b l k
  have f5:=zNq b l i
  have f6:=zNq b l k
  cases ha:zVR b l k with
  | true=>simp[z02,ha]
  | false =>
   simp only[zbf,Qh,zKk h i0 i1,zKk h k0 k1,zNm h i0 i1,zNm h k0 k1,zO5 h i0 i1,zO5 h k0 k1,zob,len0,zYN,
    zNM o.2 (show(zEP b l i).length<4294967296 by omega) (show(zEP b l k).length<4294967296 by omega),
    zNM o.2 (show(zI4 b (zIi b l i)).length<4294967296 by simp;omega) (show(zI4 b (zIi b l k)).length<4294967296 by simp;omega),
    zNM o.2 (show(zI4 b (zKb b l i)).length<4294967296 by simp;omega) (show(zI4 b (zKb b l k)).length<4294967296 by simp;omega),z02,i0,i1,k0,k1,ha,decide_true,QM,UK]
   by_cases o1:o.1=1
   ·simp only[o1,QQ,Qe]
    cases zNK (zI4 b (zIi b l i)) (zI4 b (zIi b l k)) o.2 <;> cases (zIi b l i).isEmpty <;> cases (zIi b l k).isEmpty <;> simp
   grind
 ·have hf:z02 b l i k o=false:=by
   unfold z02
   by_cases a1:0≤i <;> by_cases a2:i<l.length <;> by_cases a3:0≤k <;> by_cases a4:k<l.length <;> simp[a1,a2,a3,a4]
   exact absurd ⟨a1,a2,a3,a4⟩ hr
  grind
end
section
variable {b:zX}{l:List zU}
def zVb (b:zX)(l:List zU)(i c kd:Int): Bool:=match zD l i,zD l c with
 | some x,some a =>
  if decide (a.2.1<0) then kd==1&&x.2.2.2==z6i a.2.2.2&&(match zD b.1 a.1 with | some p=>p.2.1 != 1 | none=>false)
  else match zD b.2.1 a.2.1 with
   | some r=>!r.2.1&&((kd==2&&x.2.2.2==z6i a.2.2.2)||(kd==3&&x.2.2.2==(true,r.1)))
   | none=>false
 | _,_=>false
theorem zTg (x:zE): zG2 x=some (z6i x):=rfl
theorem zYY (h:FormB b l){i c:Int}(i0:0≤i)(i1:i<l.length)(c0:0≤c)(c1:c<l.length)(kd:Int): zGg b l i c kd=some (zVb b l i c kd):=by
 obtain⟨x,hx⟩:=zI9 i0 i1
 obtain⟨a,ha⟩:=zI9 c0 c1
 unfold zGg zVb
 simp only[hx,ha,zob,zTg]
 by_cases hr:a.2.1<0
 ·obtain⟨_,⟨p,hp⟩,_⟩:=(h.prem ha).1 (by have:=(h.prem ha).2.2;omega)
  grind
 ·obtain⟨r,hr2⟩:=(h.prem ha).2.1 ((h.prem ha).2.2.1 (by omega))
  grind
abbrev z2F (b:zX)(l:List zU)(i c:Int): List Int:=[1,2,3].filter (zVb b l i c)
abbrev zXX (b:zX)(l:List zU)(i k c:Int): List wN:=(z2F b l i c).map fun kd=>(i,k,c,kd)
noncomputable def zUj (b:zX)(l:List zU): List wN:=(yP l.length).flatMap fun i=>(yP l.length).flatMap fun k=>(yR l k).flatMap fun c=>zXX b l i k c
theorem z2P (y:wN): y∈zUj b l↔(0≤y.1∧y.1<l.length)∧(0≤y.2.1∧y.2.1<l.length)∧y.2.2.1∈yR l y.2.1∧y.2.2.2∈z2F b l y.1 y.2.2.1:=by
 obtain⟨i,k,c,kd⟩:=y
 simp only[zUj,Ui,QB,zHc]
 grind
theorem z5D{k c:Int}(h:c∈yR l k): 0≤c∧c<l.length:=by grind [yR]
theorem zXq (b:zX)(l:List zU)(i k c:Int): (zXX b l i k c).length≤3:=by grind
theorem zW5 (h:l.length≤100): (zUj b l).length≤3000000:=by
 have h1:∀ i k:Int,((yR l k).flatMap fun c=>zXX b l i k c).length≤300:=fun i k=>by
  have:=zKG (fun c=>zXX b l i k c) 3 (yR l k) fun c _=>zXq b l i k c
  have:=zFq l k
  omega
 have h2:∀ i:Int,((yP l.length).flatMap fun k=>(yR l k).flatMap fun c=>zXX b l i k c).length≤30000:=fun i=>by
  have:=zKG (fun k=>(yR l k).flatMap fun c=>zXX b l i k c) 300 (yP l.length) fun k _=>h1 i k
  rw[zFa] at this
  omega
 have:=zKG (fun i=>(yP l.length).flatMap fun k=>(yR l k).flatMap fun c=>zXX b l i k c) 30000 (yP l.length) fun i _=>h2 i
 grind [yP,zUj]
theorem ref_L4 (h:FormB b l){acc0:List wN}{i k c:Int}(s3:(List wN)×Int)(i0:0≤i)(i1:i<l.length)(c0:0≤c)(c1:c<l.length)(acc:List wN)(ha:acc.length<4294960000):
  zJ (zCs b l (acc0,i) c (acc0,k) s3) (acc,1)=some (.inl (acc++zXX b l i k c,zF (s3.2+1))):=by
 have step:∀(acc:List wN) (kd:Int),acc.length<4294967000->0≤kd->kd≤3->zCs b l (acc0,i) c (acc0,k) s3 (acc,kd)=some (.inl (acc++(if zVb b l i c kd then[(i,k,c,kd)] else[]),kd+1)):=fun acc kd h1 h2 h3=>by
  unfold zCs
  have hd:decide (kd≤3)=true:=by simpa using h3
  simp only[hd,Qe,zYY h i0 i1 c0 c1 kd,zob]
  rw[yL (by omega) (by omega)]
  cases zVb b l i c kd with
  | true =>
   simp only[Qe]
   grind [qT]
  | false=>simp
 have l1:∀(p:Bool) (x:wN),(if p then[x] else[]).length≤1:=fun p x=>by cases p <;> simp
 rw[yS,step acc 1 (by omega) (by omega) (by omega)]
 simp only
 rw[yS,step _ (1+1) (by have:=l1 (zVb b l i c 1) (i,k,c,1);grind) (by omega) (by omega)]
 simp only
 rw[yS,step _ (1+1+1) (by have:=l1 (zVb b l i c 1) (i,k,c,1);have:=l1 (zVb b l i c (1+1)) (i,k,c,1+1);grind) (by omega) (by omega)]
 simp only
 rw[yS]
 unfold zCs
 have hd:decide ((1+1+1+1:Int)≤3)=false:=by simp
 simp only[hd,zbf,Qh]
 congr 3
 rw[Qo,Qo]
 congr 1
 simp only[zXX,z2F,List.filter_cons,List.filter_nil]
 show _=List.map _ (if zVb b l i c 1 then 1::(if zVb b l i c 2 then 2::(if zVb b l i c 3 then[3] else[]) else(if zVb b l i c 3 then[3] else[])) else(if zVb b l i c 2 then 2::(if zVb b l i c 3 then[3] else[]) else(if zVb b l i c 3 then[3] else[])))
 rw[show(1+1:Int)=2 from rfl,show(2+1:Int)=3 from rfl]
 cases zVb b l i c 1 <;> cases zVb b l i c 2 <;> cases zVb b l i c 3 <;> rfl
theorem zYf (h:FormB b l): zGl b l=some (zUj b l):=by
 have hl:=h.len
 have h1:∀ i k:Int,((yR l k).flatMap fun c=>zXX b l i k c).length≤300:=fun i k=>by
  have:=zKG (fun c=>zXX b l i k c) 3 (yR l k) fun c _=>zXq b l i k c
  have:=zFq l k
  omega
 have h2:∀ i:Int,((yP l.length).flatMap fun k=>(yR l k).flatMap fun c=>zXX b l i k c).length≤30000:=fun i=>by
  have:=zKG (fun k=>(yR l k).flatMap fun c=>zXX b l i k c) 300 (yP l.length) fun k _=>h1 i k
  rw[zFa] at this
  omega
 unfold zGl
 refine zLg (B:=zEb l b) (yP l.length) (fun i=>(yP l.length).flatMap fun k=>(yR l k).flatMap fun c=>zXX b l i k c) (fun s=>s) 30000 (fun i _=>h2 i) [] (fun q i s hi hs=>?_) (fun s=>?_)
 ·obtain⟨rfl,hq⟩:=zPv hi
  have hd:decide ((q:Int)<len l)=true:=by simp[len];omega
  unfold zEb
  simp only[hd,Qe]
  refine(zLg (B:=zEe l b (s,(q:Int))) (yP l.length) (fun k=>(yR l k).flatMap fun c=>zXX b l (q:Int) k c) (fun r=>.inl (r,zF ((q:Int)+1))) 300 (fun k _=>h1 _ k) s (fun u k s' hk hs'=>?_) (fun s'=>?_)).trans ?_
  ·obtain⟨rfl,hu⟩:=zPv hk
   have hd:decide ((u:Int)<len l)=true:=by simp[len];omega
   unfold zEe
   simp only[hd,Qe,zUa h.toFormA (show(0:Int)≤u by omega) (by omega),zob]
   simp only[UA] at hs
   refine(zLg (B:=zE8 (yR l u) b l (s,(q:Int)) (s',(u:Int))) (yR l u) (fun c=>zXX b l (q:Int) (u:Int) c) (fun r=>.inl (r,zF ((u:Int)+1))) 3 (fun c _=>zXq b l _ _ c) s' (fun v c s'' hc hs''=>?_) (fun s''=>?_)).trans ?_
   ·have hcr:=z5D (zE3 hc)
    have hv:=uS hc
    have:=zFq l u
    unfold zE8
    simp only[vY hc,Qe,wV hc,zob]
    refine(ref_L4 h (s'',(v:Int)) (by omega) (by omega) hcr.1 hcr.2 s'' (by omega)).trans ?_
    grind [vO]
   ·unfold zE8
    grind
   grind [wI]
  ·unfold zEe
   have hd:decide (((yP l.length).length:Int)<len l)=false:=by rw[zFa];exact zNS l
   grind
  grind [wI]
 ·unfold zEb
  have hd:decide (((yP l.length).length:Int)<len l)=false:=by rw[zFa];exact zNS l
  grind
noncomputable def zMG (b:zX)(l:List zU)(o:zAm)(y:wN): Bool:=y.2.2.2==3||!z02 b l y.1 y.2.2.1 o
noncomputable def zJR (b:zX)(l:List zU)(o:zAm): List wN:=(zUj b l).filter (zMG b l o)
theorem zR7 (h:FormB b l)(o:zAm): zEp b l o=some (zJR b l o):=by
 have hlen:=zW5 (b:=b) h.len
 unfold zEp
 rw[zYf h]
 simp only[zob]
 have hL:=zFn (B:=zE4 (zUj b l) b l o) (zUj b l) (fun s x=>if zMG b l o x then s++[x] else s) (fun s=>s) (fun q s=>s.length≤q) [] (by simp) (fun i x s hx hI=>?_) (fun s hI=>?_)
 ·have e:=zGE (zMG b l o) (fun x=>x) (zUj b l) []
  rw[hL.1,e]
  simp[zJR]
 ·have hi:=uS hx
  unfold zE4
  have hc:(if x.2.2.2==3 then some true else(zHT b l x.1 x.2.2.1 o).bind fun r2=>some (!r2))=some (zMG b l o x):=by
   simp only[zMG,z5X h,zob]
   cases x.2.2.2==3 <;> simp
  simp only[vY hx,Qe,wV hx,zob]
  rw[hc]
  simp only[zob]
  cases hd:zMG b l o x with
  | true =>
   simp only[Qe]
   rw[yC (by simp;omega)]
   exact⟨by simp only[zob,vO hx (by omega)],by simp;omega⟩
  | false=>exact⟨by simp only[zbf,Qh,vO hx (by omega)],by grind⟩
 ·unfold zE4
  simp[len]
end
section
section
variable {α ρ:Type}
def zZ4 (q:α->Bool)(l:List α): Int:=if l.any q then(l.findIdx q:Int) else -1
theorem zXO{B:Int->Option (Int⊕ρ)}(q:α->Bool)(l:List α)(no:ρ)(yes:Int->ρ)(hB:∀(i:Nat) x,l[i]?=some x->B (i:Int)=some (if q x then .inr (yes (i:Int)) else .inl ((i+1:Nat):Int)))(he:B (l.length:Int)=some (.inr no)):
  zJ B 0=some (if l.any q then yes (zZ4 q l) else no):=by
 have key:∀(n i:Nat),i+n=l.length->zJ B (i:Int)=some (if(l.drop i).any q then yes ((i+(l.drop i).findIdx q:Nat):Int) else no):=by
  intro n
  induction n with
  | zero =>
   intro i h
   rw[QU] at h
   grind [yS]
  | succ n ih =>
   intro i h
   have hx:l[i]?=some l[i]:=Qi (by omega)
   rw[yS,hB i _ hx,Qu (by omega)]
   cases hp:q l[i] with
   | true=>grind
   | false =>
    simp only[zbf,Qh,List.any_cons,hp,Bool.false_or,List.findIdx_cons,cond_false]
    grind
 have h:=key l.length 0 (by omega)
 simp only[Ug,Ud] at h
 grind [zZ4]
theorem zVG{q:α->Bool}{l:List α}{i:Nat}{x:α}(hx:l[i]?=some x)(hq:q x=true): 0≤zZ4 q l∧zZ4 q l≤i:=by
 have ha:l.any q=true:=US.2 ⟨x,zE3 hx,hq⟩
 rw[zZ4,Qm ha]
 grind
theorem zUp{q:α->Bool}{l:List α}(h:0≤zZ4 q l): ∃(k:Nat) (x:α),zZ4 q l=(k:Int)∧l[k]?=some x∧q x=true∧∀ j y,j<k->l[j]?=some y->q y=false:=by
 unfold zZ4 at h ⊢
 split at h
 ·rename_i ha
  rw[Qm ha]
  grind
 ·omega
def zSz (e:Nat->α->Int): Nat->List α->Int
 | _,[]=>0
 | i,x::r=>if e i x != 0 then e i x else zSz e (i+1) r
theorem zOz{B:Int->Option (Int⊕ρ)}(l:List α)(e:Nat->α->Int)(yes:Int->ρ)(no:ρ)(hB:∀(i:Nat) x,l[i]?=some x->B (i:Int)=some (if e i x != 0 then .inr (yes (e i x)) else .inl ((i+1:Nat):Int)))(he:B (l.length:Int)=some (.inr no)):
  zJ B 0=some (if zSz e 0 l != 0 then yes (zSz e 0 l) else no):=by
 have key:∀(n i:Nat),i+n=l.length->zJ B (i:Int)=some (if zSz e i (l.drop i) != 0 then yes (zSz e i (l.drop i)) else no):=by
  intro n
  induction n with
  | zero =>
   intro i h
   rw[QU] at h
   grind [yS,zSz]
  | succ n ih =>
   intro i h
   have hx:l[i]?=some l[i]:=Qi (by omega)
   rw[yS,hB i _ hx,Qu (by omega)]
   simp only[zSz]
   grind
 have h:=key l.length 0 (by omega)
 grind
theorem zPA{e:Nat->α->Int}: ∀ {l:List α} {k:Nat},zSz e k l=0↔∀(i:Nat) x,l[i]?=some x->e (k+i) x=0
 | [],k=>by simp[zSz]
 | x::r,k=>by
  simp only[zSz]
  constructor
  ·intro h
   cases hx:e k x != 0 with
   | true=>grind
   | false =>
    rw[hx] at h
    simp only[zbf,Qh] at h
    intro i y hy
    cases i with
    | zero=>grind
    | succ i=>rw[show k+(i+1)=k+1+i by omega];exact zPA.1 h i y (by grind)
  ·intro h
   have h0:=h 0 x rfl
   rw[QU] at h0
   rw[h0]
   simp only[bne_self_eq_false,zbf,Qh]
   exact zPA.2 fun i y hy=>by rw[show k+1+i=k+(i+1) by omega];simp_all
end
abbrev zHd (n:Int): Bool:=decide (0≤n)&&decide (n≤9)
def zKt (p:yD): Int :=
 if p.2.1==1||p.2.1==2||p.2.1==3 then
  if vName p.1.2&&zHd p.2.2.1&&(p.2.1==2||p.2.2.1==0)&&(p.2.2.2==[]||vName p.2.2.2) then 0 else 1
 else 4
def z5k:List zE->Bool
 | a::b::r=>vX a b&&z5k (b::r)
 | _=>true
def zJk (r:qW): Int :=
 if 4<r.2.2.2.1.length then 2
 else if vName r.1&&vName r.2.2.2.2.2&&zHd r.2.2.1&&(!r.2.1||r.2.2.1==0)&&r.2.2.2.1.all (fun x=>vName x.2) then(if z5k r.2.2.2.1 then 0 else 8) else 1
def zN1 (b:zX)(nm:zA): Int:=zZ4 (fun r:qW=>r.1==nm) b.2.1
def z0O (b:zX)(x:zE): Int:=zZ4 (fun p:yD=>p.1==x) b.1
def zUZ (b:zX)(p:yF): Int :=
 if zHd p.2.1&&vName p.2.2.2 then(if zN1 b p.1<0 then 6 else match zD b.2.1 (zN1 b p.1) with | some r=>if r.2.1 then 4 else 0 | none=>0) else 1
def zKm (b:zX): Int :=
 if 16<b.1.length||24<b.2.1.length||8<b.2.2.length then 2
 else
  let e1:=zSz (fun i p=>if zKt p != 0 then zKt p else if z0O b p.1<(i:Int) then 5 else 0) 0 b.1
  if e1 != 0 then e1 else
  let e2:=zSz (fun i r=>if zJk r != 0 then zJk r else if zN1 b r.1<(i:Int) then 5 else 0) 0 b.2.1
  if e2 != 0 then e2 else zSz (fun _ p=>zUZ b p) 0 b.2.2
theorem zYB (p:yD): zG9 p=some (zKt p):=by
 unfold zG9 zFF zKt
 simp only[zEG,zDf,zob]
 grind
theorem z1u{B:Int->Option (Int⊕Int)}(l:List zE)(hl:l.length<4294967296)
  (hB:∀(i:Nat) x y,l[i]?=some x->l[i+1]?=some y->B ((i+1:Nat):Int)=some (if decide (0≤zPy x y) then .inr 8 else .inl ((i+1+1:Nat):Int))) (he:∀ k:Nat,l.length≤k->B (k:Int)=some (.inr 0)) :
  zJ B 1=some (if z5k l then 0 else 8):=by
 have key:∀(n i:Nat),i+1+n=l.length->zJ B ((i+1:Nat):Int)=some (if z5k (l.drop i) then 0 else 8):=by
  intro n
  induction n with
  | zero =>
   intro i h
   rw[yS,he (i+1) (by omega),Qu (by omega),Q8 (by omega)]
   rfl
  | succ n ih =>
   intro i h
   have hx:l[i]?=some l[i]:=Qi (by omega)
   have hy:l[i+1]?=some l[i+1]:=Qi (by omega)
   rw[yS,hB i _ _ hx hy,Qu (by omega),Qu (by omega)]
   have hc:decide (0≤zPy l[i] l[i+1])=!vX l[i] l[i+1]:=by
    unfold zPy
    cases vX l[i] l[i+1] with
    | true=>simp
    | false =>
     grind
   rw[hc]
   cases hlt:vX l[i] l[i+1] with
   | true =>
    simp only[Qx,zbf,Qh]
    rw[ih (i+1) (by omega),Qu (show i+1<l.length by omega)]
    simp only[z5k,hlt,UK]
   | false=>simp only[QM,Qe,z5k,hlt,Bool.false_and,zbf,Qh]
 match l,hl,hB,he,key with
 | [],_,_,he,_=>rw[yS,show(1:Int)=((1:Nat):Int) from rfl,he 1 (by simp)];rfl
 | x::r,_,_,_,key=>exact key r.length 0 (by simp;omega)
theorem z4x (r:qW): zIq r=some (zJk r):=by
 unfold zIq zJk
 by_cases h4:4<r.2.2.2.1.length
 ·grind
 have hr:r.2.2.2.1.length<4294967296:=by omega
 have:decide (4<len r.2.2.2.1)=false:=by simp[len];omega
 simp only[this,zbf,Qh,h4,zDf,zEG,zFF,zob]
 have hc:(if vName r.1=true then if(decide (0≤r.2.2.1)&&decide (r.2.2.1≤9))=true then if(!r.2.1)=true then some (vName r.2.2.2.2.2) else if(r.2.2.1==0)=true then some (vName r.2.2.2.2.2) else some false else some false else some false)
   = some (vName r.1&&vName r.2.2.2.2.2&&zHd r.2.2.1&&(!r.2.1||r.2.2.1==0)):=by
  cases vName r.1 <;> cases vName r.2.2.2.2.2 <;> cases hk:zHd r.2.2.1 <;> cases r.2.1 <;> cases hz:r.2.2.1==0 <;> simp[hk]
 rw[hc]
 simp only[zob]
 have h1:=zFn (B:=zGc r) r.2.2.2.1 (fun s x=>s&&vName x.2) (fun s=>s) (fun _ _=>True) (vName r.1&&vName r.2.2.2.2.2&&zHd r.2.2.1&&(!r.2.1||r.2.2.1==0)) trivial (fun i x s hx _=>⟨by
  unfold zGc
  simp only[vY hx,Qe,wV hx,zob,zEG]
  cases s <;> simp only[zbf,Qh,Qe,zob,vO hx hr,Bool.false_and,UK],trivial⟩) (fun s _=>by unfold zGc;grind)
 rw[h1.1]
 have hf:∀(l:List zE) (g:Bool),l.foldl (fun s x=>s&&vName x.2) g=(g&&l.all (fun x=>vName x.2)):=by
  intro l
  induction l with
  | nil=>grind
  | cons x l ih=>grind
 rw[hf]
 simp only[zob]
 cases hg:(vName r.1&&vName r.2.2.2.2.2&&zHd r.2.2.1&&(!r.2.1||r.2.2.1==0)&&r.2.2.2.1.all (fun x=>vName x.2)) with
 | false=>rfl
 | true =>
  simp only[Qx,zbf,Qh,Qe]
  refine z1u (B:=zGh r) r.2.2.2.1 hr (fun i x y hx hy=>?_) (fun k hk=>?_)
  ·unfold zGh
   have e1:zF (((i+1:Nat):Int)-1)=(i:Int):=by have:=uS hy;rw[yL (by omega) (by omega)];omega
   simp only[vY hy,Qe,wV hy,e1,wV hx,zob,zST,vO hy hr]
   split <;> rfl
  ·unfold zGh
   grind
theorem z2p{α:Type}(q:α->Bool)(l:List α): (if l.any q then zZ4 q l else -1)=zZ4 q l:=by grind [zZ4]
theorem zZZ (b:zX)(nm:zA)(h:b.2.1.length<4294967296): zJH b nm=some (zN1 b nm):=by
 have:=zXO (B:=zGk b nm) (fun r:qW=>r.1==nm) b.2.1 (-1:Int) (fun i=>i) (fun i x hx=>by
  unfold zGk
  simp only[vY hx,Qe,wV hx,zob,vO hx h]
  grind) (by unfold zGk;grind)
 rw[z2p] at this
 exact this
theorem zY9 (b:zX)(x:zE)(h:b.1.length<4294967296): zI3 b x=some (z0O b x):=by
 have:=zXO (B:=zEj b x) (fun r:yD=>r.1==x) b.1 (-1:Int) (fun i=>i) (fun i x hx=>by
  unfold zEj
  simp only[vY hx,Qe,wV hx,zob,vO hx h]
  grind) (by unfold zEj;grind)
 rw[z2p] at this
 exact this
theorem z1R{b:zX}{nm:zA}(h:¬ zN1 b nm<0): ∃ r,zD b.2.1 (zN1 b nm)=some r:=by
 obtain⟨k,x,h1,h2,_⟩:=zUp (q:=fun r:qW=>r.1==nm) (l:=b.2.1) (by unfold zN1 at h;omega)
 grind [zN1,zD]
structure Cnt (b:zX): Prop where
 p:b.1.length<4294967296
 r:b.2.1.length<4294967296
 m:b.2.2.length<4294967296
 q:∀ r∈b.2.1,r.2.2.2.1.length<4294967296
structure Cnt3 (b:zX): Prop where
 p:b.1.length<4294967296
 r:b.2.1.length<4294967296
 m:b.2.2.length<4294967296
theorem Cnt.c3{b:zX}(h:Cnt b): Cnt3 b:=⟨h.p,h.r,h.m⟩
theorem zOS{b:zX}(h:Cnt3 b): zCk b=some (zKm b):=by
 unfold zCk zKm
 have h0:(decide (16<len b.1)||(decide (24<len b.2.1)||decide (8<len b.2.2)))=(decide (16<b.1.length)||decide (24<b.2.1.length)||decide (8<b.2.2.length)):=by
  rw[UJ];simp[len];omega
 rw[h0]
 cases hc:(decide (16<b.1.length)||decide (24<b.2.1.length)||decide (8<b.2.2.length)) with
 | true=>simp
 | false =>
  simp only[zbf,Qh]
  rw[zOz (B:=zDm b) b.1 (fun i p=>if zKt p != 0 then zKt p else if z0O b p.1<(i:Int) then 5 else 0) (fun e=>(.inr e:Unit⊕Int)) (.inl ()) (fun i x hx=>by
   unfold zDm
   simp only[vY hx,Qe,wV hx,zob,zYB,zY9 b x.1 h.p,vO hx h.p]
   grind) (by unfold zDm;grind)]
  cases he:zSz (fun i p=>if zKt p != 0 then zKt p else if z0O b p.1<(i:Int) then 5 else 0) 0 b.1 != 0 with
  | true=>simp[uQ]
  | false =>
   simp only[zbf,Qh,uQ,zob]
   rw[zOz (B:=zDb b) b.2.1 (fun i r=>if zJk r != 0 then zJk r else if zN1 b r.1<(i:Int) then 5 else 0) (fun e=>(.inr e:Unit⊕Int)) (.inl ()) (fun i x hx=>by
    unfold zDb
    simp only[vY hx,Qe,wV hx,zob,z4x x,zZZ b x.1 h.r,vO hx h.r]
    grind) (by unfold zDb;grind)]
   cases he2:zSz (fun i r=>if zJk r != 0 then zJk r else if zN1 b r.1<(i:Int) then 5 else 0) 0 b.2.1 != 0 with
   | true=>simp
   | false =>
    simp only[zbf,Qh,zob]
    rw[zOz (B:=zDl b) b.2.2 (fun _ p=>zUZ b p) (fun e=>e) 0 (fun i x hx=>by
     unfold zDl zUZ zFF
     simp only[vY hx,Qe,wV hx,zob,zEG,zZZ b x.1 h.r,vO hx h.m,zHd]
     by_cases hr:(decide (0≤x.2.1)&&decide (x.2.1≤9))=true
     ·simp only[hr,UK,Qx,zbf,Qh]
      cases hv:vName x.2.2.2 with
      | false=>rfl
      | true =>
       simp only[Qx,zbf,Qh,zob,Qe]
       by_cases hn:zN1 b x.1<0
       ·simp[hn]
       ·obtain⟨r,hr2⟩:=z1R hn
        grind
     grind) (by unfold zDl;grind)]
    grind
theorem zLz{b:zX}(h:Cnt b): zCk b=some (zKm b):=zOS h.c3
structure zHX (b:zX): Prop where
 np:b.1.length≤16
 nr:b.2.1.length≤24
 nm:b.2.2.length≤8
 prem:∀ p∈b.1,zKt p=0
 rule:∀ r∈b.2.1,zJk r=0
 dp:∀(i j:Nat) p q,b.1[i]?=some p->b.1[j]?=some q->p.1=q.1->i=j
 dr:∀(i j:Nat) p q,b.2.1[i]?=some p->b.2.1[j]?=some q->p.1=q.1->i=j
 prom:∀ p∈b.2.2,zUZ b p=0
theorem zTu{α β:Type}[BEq β][LawfulBEq β](g:α->β)(l:List α): (∀(i:Nat) p,l[i]?=some p->¬ zZ4 (fun x=>g x==g p) l<(i:Int))↔∀(i j:Nat) p q,l[i]?=some p->l[j]?=some q->g p=g q->i=j:=by
 constructor
 ·intro h i j p q hp hq e
  have h1:=h i p hp
  have h2:=h j q hq
  have h3:=(zVG (q:=fun x=>g x==g p) hq (by simp[e])).2
  have h4:=(zVG (q:=fun x=>g x==g q) hp (by simp[e])).2
  grind
 ·intro h i p hp hlt
  have h1:=zVG (q:=fun x=>g x==g p) hp (by simp)
  grind [zUp]
theorem zIH{b:zX}: zKm b=0↔zHX b:=by
 have hcnd:∀(a c:Int) (p:Prop) [Decidable p],(if a != 0 then a else if p then 5 else 0)=(0:Int)↔a=0∧¬ p:=fun a c p _=>by
  grind
 have h1:zSz (fun i p=>if zKt p != 0 then zKt p else if z0O b p.1<(i:Int) then 5 else 0) 0 b.1=0↔(∀ p∈b.1,zKt p=0)∧∀(i j:Nat) p q,b.1[i]?=some p->b.1[j]?=some q->p.1=q.1->i=j:=by
  rw[zPA,←zTu (fun p:yD=>p.1)]
  simp only[Ud,hcnd _ 0]
  exact⟨fun h=>⟨fun p hp=>by grind [List.mem_iff_getElem?],fun i p hp=>(h i p hp).2⟩,fun h i p hp=>⟨h.1 p (zE3 hp),h.2 i p hp⟩⟩
 have h2:zSz (fun i r=>if zJk r != 0 then zJk r else if zN1 b r.1<(i:Int) then 5 else 0) 0 b.2.1=0↔(∀ p∈b.2.1,zJk p=0)∧∀(i j:Nat) p q,b.2.1[i]?=some p->b.2.1[j]?=some q->p.1=q.1->i=j:=by
  rw[zPA,←zTu (fun p:qW=>p.1)]
  simp only[Ud,hcnd _ 0]
  exact⟨fun h=>⟨fun p hp=>by grind [List.mem_iff_getElem?],fun i p hp=>(h i p hp).2⟩,fun h i p hp=>⟨h.1 p (zE3 hp),h.2 i p hp⟩⟩
 have h3:zSz (fun _ p=>zUZ b p) 0 b.2.2=0↔∀ p∈b.2.2,zUZ b p=0:=by
  rw[zPA]
  exact⟨fun h p hp=>by grind [List.mem_iff_getElem?],fun h i p hp=>h p (zE3 hp)⟩
 unfold zKm
 cases hc:(decide (16<b.1.length)||decide (24<b.2.1.length)||decide (8<b.2.2.length)) with
 | true =>
  simp only[Qe]
  refine⟨fun h=>(by cases h),fun h=>?_⟩
  simp at hc
  have:=h.np;have:=h.nr;have:=h.nm
  omega
 | false =>
  simp at hc
  simp only[zbf,Qh]
  constructor
  ·intro h
   have e1:zSz (fun i p=>if zKt p != 0 then zKt p else if z0O b p.1<(i:Int) then 5 else 0) 0 b.1=0:=by
    refine Decidable.byContradiction fun hn=>?_
    rw[Qm (by grind)] at h
    exact hn h
   rw[Qa (by grind)] at h
   have e2:zSz (fun i r=>if zJk r != 0 then zJk r else if zN1 b r.1<(i:Int) then 5 else 0) 0 b.2.1=0:=by
    refine Decidable.byContradiction fun hn=>?_
    rw[Qm (by grind)] at h
    exact hn h
   rw[Qa (by grind)] at h
   exact⟨by omega,by omega,by omega,(h1.1 e1).1,(h2.1 e2).1,(h1.1 e1).2,(h2.1 e2).2,h3.1 h⟩
  ·intro h
   rw[Qa (by rw[h1.2 ⟨h.prem,h.dp⟩];simp),Qa (by rw[h2.2 ⟨h.rule,h.dr⟩];simp)]
   exact h3.2 h.prom
end
section
variable {b:zX}{l m:List zU}
structure FormC (b:zX)(l:List zU): Prop extends FormB b l where
 l41:l.length≤41
 pr:∀(i:Nat) a p,l[i]?=some a->0≤a.1->zD b.1 a.1=some p->a.2.2.2=p.1∧a.2.2.1=[]
 ru:∀(i:Nat) a r,l[i]?=some a->0≤a.2.1->zD b.2.1 a.2.1=some r->a.2.2.2=r.2.2.2.2∧a.2.2.1.length=r.2.2.2.1.length∧∀(j:Nat) k y,a.2.2.1[j]?=some k->r.2.2.2.1[j]?=some y->∃ a',zD l k=some a'∧a'.2.2.2=y
structure z3q (b:zX)(l:List zU)(a:zU): Prop where
 p:a.1=-1
 r:∃ q,zD b.2.1 a.2.1=some q∧a.2.2.2=q.2.2.2.2∧a.2.2.1.length=q.2.2.2.1.length∧a.2.2.1.length≤100∧∀(j:Nat) k y,a.2.2.1[j]?=some k->q.2.2.2.1[j]?=some y->∃ a',zD l k=some a'∧a'.2.2.2=y
theorem z2O{α:Type}{l:List α}{i:Int}{x:α}(h:zD l i=some x): 0≤i∧i<l.length:=by
 obtain⟨n,rfl,hn⟩:=zMh h
 grind
theorem zPJ{α:Type}{l m:List α}{i:Int}{x:α}(h:zD l i=some x): zD (l++m) i=some x:=by
 obtain⟨n,rfl,hn⟩:=zMh h
 rw[tV,Ux (uS hn)]
 exact hn
theorem zII{α:Type}{l m:List α}{i:Int}(h1:i<l.length): zD (l++m) i=zD l i:=by grind [zD]
theorem z3q.sub{a:zU}(h:z3q b l a): ∀ k∈a.2.2.1,0≤k∧k<l.length:=by
 intro k hk
 obtain⟨q,_,_,h3,_,h5⟩:=h.r
 obtain⟨j,hj⟩:=Qv.1 hk
 have hjl:=uS hj
 obtain⟨a',h6,_⟩:=h5 j k _ hj (Qi (by omega))
 exact z2O h6
theorem z3q.more{a:zU}(h:z3q b l a): z3q b (l++m) a:=by
 obtain⟨q,h1,h2,h3,h4,h5⟩:=h.r
 exact⟨h.p,q,h1,h2,h3,h4,fun j k y hk hy=>by grind [zPJ]⟩
theorem FormC.app (h:FormC b l)(hm:∀ a∈m,z3q b l a)(hl:l.length+m.length≤41): FormC b (l++m):=by
 have hlen:(l++m).length≤41:=by rw[Qc];exact hl
 have key:∀(i:Nat) a,(l++m)[i]?=some a->(l[i]?=some a∧i<l.length)∨(l.length≤i∧a∈m):=fun i a ha=>by
  grind
 refine⟨⟨⟨by omega,fun a ha=>?_,fun i a ha k hk=>?_⟩,h.np,h.nr,fun i a ha=>?_⟩,hlen,fun i a p ha h0 hp=>?_,fun i a r ha h0 hr=>?_⟩
 ·rcases Qk.1 ha with ha | ha
  ·exact h.nsub a ha
  ·obtain⟨q,_,_,_,h4,_⟩:=(hm a ha).r;exact h4
 ·rcases key i a ha with⟨h1,_⟩ | ⟨h1,h2⟩
  ·exact h.sub i a h1 k hk
  ·have:=(hm a h2).sub k hk;omega
 ·rcases key i a ha with⟨h1,_⟩ | ⟨h1,h2⟩
  ·exact h.kind i a h1
  ·obtain⟨q,h3,_⟩:=(hm a h2).r
   have:=z2O h3
   exact .inr ⟨(hm a h2).p,this⟩
 ·rcases key i a ha with⟨h1,_⟩ | ⟨h1,h2⟩
  ·exact h.pr i a p h1 h0 hp
  ·rw[(hm a h2).p] at h0;omega
 ·rcases key i a ha with⟨h1,_⟩ | ⟨h1,h2⟩
  ·obtain⟨g1,g2,g3⟩:=h.ru i a r h1 h0 hr
   grind [zPJ]
  ·obtain⟨q,g1,g2,g3,_,g5⟩:=(hm a h2).r
   grind [zPJ]
theorem z7Q (h:FormA l){i j:Int}(h0:0≤i)(h1:i<l.length): zKA (l++m) i j↔zKA l i j:=by
 constructor
 ·intro hs
  induction hs with
  | self i=>exact .self i
  | step hi hk _ ih =>
   rw[zII h1] at hi
   have:=(h.at hi).2.2.2 _ hk
   exact .step hi hk (ih this.1 (by omega))
 ·intro hs
  clear h0 h1
  induction hs with
  | self i=>exact .self i
  | step hi hk _ ih=>exact .step (zPJ hi) hk ih
theorem z43 (h:FormA l)(h':FormA (l++m)){i:Int}(h0:0≤i)(h1:i<l.length): yR (l++m) i=yR l i:=by grind [yA.ext,zEV,zNu,zJd,z7Q]
theorem z50 (h:FormC b l)(h':FormC b (l++m)){i:Int}(h0:0≤i)(h1:i<l.length): zKb b (l++m) i=zKb b l i:=by
 refine yA.ext zEV (zYa _) (zYa _) fun y=>?_
 rw[zOR h.toFormB h0 h1,zOR h'.toFormB h0 (by grind),z43 h.toFormA h'.toFormA h0 h1]
 refine exists_congr fun j=>and_congr_right fun hj=>?_
 have:=((zJd h.toFormA h0 h1 j).1 hj).le h.toFormA h0
 rw[zII (by omega)]
inductive zNj (b:zX)(l:List zU): Int->zE->Prop
 | here {i:Int} {a:zU}:zD l i=some a->zNj b l i a.2.2.2
 | step {i k:Int} {a:zU} {r:qW} {y:zE}:zD l i=some a->0≤a.2.1->zD b.2.1 a.2.1=some r->r.2.1=true->k∈a.2.2.1->zNj b l k y->zNj b l i y
theorem z6j (h:FormA l){i:Int}{y:zE}(h0:0≤i)(h1:i<l.length): zNj b (l++m) i y↔zNj b l i y:=by
 constructor
 ·intro hs
  induction hs with
  | here hi=>rw[zII h1] at hi;exact .here hi
  | step hi hr hq hs hk _ ih =>
   rw[zII h1] at hi
   have:=(h.at hi).2.2.2 _ hk
   exact .step hi hr hq hs hk (ih this.1 (by omega))
 ·intro hs
  clear h0 h1
  induction hs with
  | here hi=>exact .here (zPJ hi)
  | step hi hr hq hs hk _ ih=>exact .step (zPJ hi) hr hq hs hk ih
structure z6U (b:zX)(l:List zU): Prop where
 ref:∀ i:Int,0≤i->i<l.length->∃ r,zKS b l i=some r∧r.length<4294967296∧∀ y,y∈r↔zNj b l i y
structure z4p (b:zX)(l:List zU)(sz:Int->Nat): Prop where
 one:∀ i,1≤sz i
 big:∀ i:Int,0≤i->i<l.length->sz i<4294967296
 step:∀ i a r,zD l i=some a->0≤a.2.1->zD b.2.1 a.2.1=some r->r.2.1=true->1+(a.2.2.1.map sz).sum≤sz i
theorem zXe (f:Int->Nat)(l:List Int)(q:Nat): ((l.take q).map f).sum≤(l.map f).sum:=by
 have h:=congrArg (fun x=>(x.map f).sum) (QC q l)
 grind
theorem z19{sz:Int->Nat}(h:FormB b l)(hz:z4p b l sz): ∀(n:Nat) (i:Int),0≤i->i<l.length->i<n->∃ r,zBY n b l i=some r∧r.length≤sz i∧∀ y,y∈r↔zNj b l i y:=by
 intro n
 induction n with
 | zero=>grind
 | succ n ih =>
  intro i h0 h1 h2
  obtain⟨a,ha⟩:=zI9 h0 h1
  obtain⟨hn,_,_,hsub⟩:=h.toFormA.at ha
  have h1z:=hz.one i
  show ∃ r,zGM (zBY n) b l i=some r∧_
  unfold zGM
  simp only[ha,zob]
  have hone:∀(hno:∀ r,0≤a.2.1->zD b.2.1 a.2.1=some r->r.2.1=false) y,y∈[a.2.2.2]↔zNj b l i y:=fun hno y=>by
   rw[Qf]
   constructor
   ·rintro rfl;exact .here ha
   ·intro hr
    cases hr with
    | here h1=>grind
    | step h1 h2 h3 h4 _ _=>grind
  by_cases hr:0≤a.2.1
  ·obtain⟨r,hr2⟩:=(h.prem ha).2.1 ((h.prem ha).2.2.1 hr)
   simp only[hr,decide_true,Qe,hr2,zob]
   cases hs:r.2.1 with
   | false =>
    grind
   | true =>
    simp only[Qe]
    have hst:=hz.step i a r ha hr hr2 hs
    have hbig:=hz.big i h0 h1
    refine(tK (B:=zEO l i (zBY n) b) (fun q (s:List zE)=>(s,(q:Int))) a.2.2.1 (fun q s=>s.length≤1+((a.2.2.1.take q).map sz).sum∧∀ y,y∈s↔y=a.2.2.2∨∃ k∈a.2.2.1.take q,zNj b l k y)
     (fun r=>r.length≤sz i∧∀ y,y∈r↔zNj b l i y) (fun q k s hk hI=>?_) (fun s hI=>?_) [a.2.2.2] (by simp))
    ·obtain⟨g1,g2⟩:=hI
     have hks:=hsub k (zE3 hk)
     obtain⟨r1,e1,e2,e3⟩:=ih k hks.1 (by omega) (by omega)
     have hq:=zXe sz a.2.2.1 (q+1)
     rw[zCp hk,Wc,List.sum_append] at hq
     simp only[QY,List.map_nil,List.sum_cons,List.sum_nil] at hq
     refine .inl ⟨s++r1,?_,?_,fun y=>?_⟩
     ·unfold zEO
      simp only[ha,zob,vY hk,Qe,wV hk,e1]
      rw[yC (by omega)]
      simp only[zob,vO hk (show a.2.2.1.length<4294967296 by omega)]
     ·rw[zCp hk,Wc,List.sum_append,Qc]
      grind
     ·rw[Qk,g2,e3,zCp hk]
      grind
    ·obtain⟨g1,g2⟩:=hI
     rw[Q7] at g1 g2
     refine⟨s,by unfold zEO;grind,by omega,fun y=>?_⟩
     rw[g2]
     constructor
     ·rintro (rfl | ⟨k,h1,h2⟩)
      ·exact .here ha
      ·exact .step ha hr hr2 hs h1 h2
     ·intro hrun
      cases hrun with
      | here h1=>grind
      | step h1 _ _ _ h5 h6=>grind
  ·simp only[hr,decide_false,zbf,Qh,zob]
   grind
theorem zWt{n n':Nat}(b:zX)(l:List zU): n≤n'->∀ i r,zBY n b l i=some r->zBY n' b l i=some r:=by
 intro hn i r h
 have key:∀ n n',n≤n'->∀ i r,zBY n b l i=some r->zBY n' b l i=some r:=by
  intro n
  induction n with
  | zero=>intro n' _ i r h;cases h
  | succ n ih =>
   intro n' hn i r h
   obtain⟨n',rfl⟩:∃ q,n'=q+1:=⟨n' - 1,by omega⟩
   have hle:Le (zGM (zBY n) b l i) (zGM (zBY n') b l i):=by
    have hrec:∀ x,Le (zBY n b l x) (zBY n' b l x):=fun x=>⟨fun r hr=>ih n' (by omega) x r hr⟩
    unfold zGM
    refine Le.bind (Le.refl _) fun x1=>Le.bind (Le.refl _) fun s1=>?_
    refine Le.ite ?_ (Le.refl _)
    refine⟨fun r hr=>?_⟩
    obtain⟨q,hq⟩:=zHR hr
    refine(Le.lp (B:=zEO l i (zBY n) b) (fun s=>?_) q _).el r hq
    unfold zEO
    refine Le.bind (Le.refl _) fun x5=>?_
    refine Le.ite ?_ (Le.refl _)
    refine Le.bind (Le.refl _) fun x6=>Le.bind (Le.refl _) fun x7=>Le.bind (hrec _) fun r1=>Le.refl _
   exact hle.el r h
 grind
theorem z6z{sz:Int->Nat}(h:FormB b l)(hz:z4p b l sz){i:Int}(h0:0≤i)(h1:i<l.length): ∃ r,zKS b l i=some r∧r.length<4294967296∧∀ y,y∈r↔zNj b l i y:=by
 obtain⟨r,e1,e2,e3⟩:=z19 h hz (i.toNat+1) i h0 h1 (by omega)
 have:=hz.big i h0 h1
 exact⟨r,zKO (i.toNat+1) fun m hm=>zWt b l hm i r e1,by omega,e3⟩
theorem runsB{sz:Int->Nat}(h:FormB b l)(hz:z4p b l sz): z6U b l :=
 ⟨fun _ h0 h1=>z6z h hz h0 h1⟩
open Classical in
noncomputable def cutB (b:zX)(l:List zU)(q:Int)(r:qW)(k:Int): Bool:=if r.2.1 then decide (zNj b l k r.2.2.2.2) else decide (q∈zKb b l k)
noncomputable def zDc (b:zX)(l:List zU)(q:Int)(r:qW)(subs:List Int): Bool:=!subs.any (cutB b l q r)
theorem zJy (h:FormC b l)(h':FormC b (l++m)){q:Int}{r:qW}{subs:List Int}(hs:∀ k∈subs,0≤k∧k<l.length): zDc b (l++m) q r subs=zDc b l q r subs:=by
 unfold zDc
 congr 1
 rw[UJ,US,US]
 refine exists_congr fun k=>and_congr_right fun hk=>?_
 have:=hs k hk
 unfold cutB
 rw[z50 h h' this.1 this.2]
 split
 ·simp only[Ql];exact z6j h.toFormA this.1 this.2
 grind
theorem ref_in (m:List Int)(x:Int)(hb:m.length<4294967296): zMK m x=some (decide (x∈m)):=by
 have h:=zRI (B:=zHv m x) m (fun y=>y==x) (fun i y hy=>by
  unfold zHv
  simp only[vY hy,Qe,wV hy,zob,vO hy hb]
  grind) (by unfold zHv;grind)
 refine h.trans ?_
 grind
theorem z06 (h:FormC b l)(hr:z6U b l){q:Int}{r:qW}{subs:List Int}(hq:zD b.2.1 q=some r)(hs:∀ k∈subs,0≤k∧k<l.length)(hn:subs.length<4294967296): zEM b l q subs=some (zDc b l q r subs):=by
 have hl:=h.len
 unfold zEM
 simp only[hq,zob]
 have hL:=zXU (B:=zFJ subs r b l q) subs (cutB b l q r) false true (fun i k hk=>?_) (by unfold zFJ;grind)
 ·grind [zDc]
 ·have hks:=hs k (zE3 hk)
  unfold zFJ
  simp only[vY hk,Qe,wV hk,zob,vO hk hn]
  unfold cutB
  cases hst:r.2.1 with
  | true =>
   obtain⟨ru,e1,e2,e3⟩:=hr.ref k hks.1 hks.2
   simp only[Qe,e1,zob,zXa r.2.2.2.2 (show ru.length<9223372036854775807 by omega),Qx,zbf,Qh]
   grind
  | false =>
   have hd:=zNq b l k
   simp only[zbf,Qh,QM,Qe,zMt h.toFormB hks.1 hks.2,zob,ref_in (zKb b l k) q (by omega)]
   grind
def chS (l:List zU)(n:Nat): List zE->List Int->List (List Int)
 | [],sofar=>[sofar]
 | y::ys,sofar=>(yP n).flatMap fun i=>match zD l i with
  | some a=>if a.2.2.2==y then chS l n ys (sofar++[i]) else[]
  | none=>[]
theorem zVQ (l:List zU)(n:Nat): ∀(ys:List zE) (sofar:List Int),(chS l n ys sofar).length≤n ^ ys.length
 | [],sofar=>by simp[chS]
 | y::ys,sofar=>by
  have:=zKG (fun i=>match zD l i with | some a=>if a.2.2.2==y then chS l n ys (sofar++[i]) else[] | none=>[]) (n ^ ys.length) (yP n) (fun i _=>by
   split
   ·split
    ·exact zVQ l n ys _
    ·simp
   ·simp)
  grind [zFa,chS]
theorem zPb (l:List zU)(n:Nat): ∀(ys:List zE) (sofar s:List Int),s∈chS l n ys sofar↔∃ t,s=sofar++t∧t.length=ys.length∧∀(j:Nat) k y,t[j]?=some k->ys[j]?=some y->0≤k∧k<n∧∃ a,zD l k=some a∧a.2.2.2=y
 | [],sofar,s=>by
  simp only[chS,Qf]
  simp_all
 | y::ys,sofar,s=>by
  simp only[chS,Ui,zHc]
  constructor
  ·rintro ⟨i,hi,hs⟩
   split at hs
   ·rename_i a ha
    split at hs
    ·rename_i hc
     obtain⟨t,h1,h2,h3⟩:=(zPb l n ys _ s).1 hs
     grind
    ·cases hs
   ·cases hs
  ·rintro ⟨t,h1,h2,h3⟩
   cases t with
   | nil=>simp at h2
   | cons i t =>
    obtain⟨i0,i1,a,ha,hay⟩:=h3 0 i y rfl rfl
    refine⟨i,⟨i0,i1⟩,?_⟩
    simp only[ha]
    rw[Qm (by simp[hay])]
    exact(zPb l n ys _ s).2 ⟨t,by grind,by grind,fun j k z hk hz=>h3 (j+1) k z (by grind) (by grind)⟩
theorem zVO{k:Nat}(hl:l.length≤100){n:Nat}(hn:n≤l.length)(body:List zE)(hb:body.length≤4): ∀(ys:List zE) (sofar:List Int),ys=body.drop sofar.length->sofar.length≤body.length->ys.length<k->zCC k l (n:Int) body sofar=some (chS l n ys sofar):=by
 induction k with
 | zero=>grind
 | succ k ih =>
  intro ys sofar hys hle hk
  show zFN (zCC k) l n body sofar=_
  unfold zFN
  have hyl:ys.length=body.length-sofar.length:=by rw[hys,QO]
  cases ys with
  | nil =>
   have:(len sofar==len body)=true:=by simp[len] at hyl ⊢;omega
   simp only[this,Qe]
   grind [qT,chS]
  | cons y ys =>
   have hlt:sofar.length<body.length:=by simp at hyl;omega
   have:(len sofar==len body)=false:=by rw[Qr];simp[len];omega
   simp only[this,zbf,Qh]
   have hy:body[sofar.length]?=some y:=by
    have:=congrArg (·[0]?) hys
    simp only[Ub,UX,QU] at this
    exact this.symm
   have hys2:ys=body.drop (sofar.length+1):=by
    have:=congrArg List.tail hys
    simpa [U4] using this
   have hpow:n ^ ys.length≤1000000:=by
    have h1:ys.length≤3:=by simp at hyl;omega
    calc n ^ ys.length≤100 ^ ys.length:=Nat.pow_le_pow_left (by omega) _
     _≤100 ^ 3:=Q3 (by omega) h1
   refine(zLg (B:=zDE n l body sofar (zCC k)) (yP n) (fun i=>match zD l i with | some a=>if a.2.2.2==y then chS l n ys (sofar++[i]) else[] | none=>[]) (fun s=>s) 1000000 (fun i _=>by
    split
    ·split
     ·exact Qy (zVQ l n ys _) hpow
     ·simp
    ·simp) [] (fun q i s hi hs=>?_) (fun s=>?_))
   ·obtain⟨rfl,hq⟩:=zPv hi
    obtain⟨a,ha⟩:=zI9 (l:=l) (show(0:Int)≤q by omega) (by omega)
    have hd:decide ((q:Int)<(n:Int))=true:=by simp;omega
    have hw:zF ((q:Int)+1)=((q+1:Nat):Int):=wI q (by omega)
    unfold zDE
    simp only[hd,Qe,ha,zob,show zD body (len sofar)=some y from by rw[show len sofar=((sofar.length:Nat):Int) from rfl,tV];exact hy]
    cases hc:a.2.2.2==y with
    | false=>grind
    | true =>
     simp only[Qe]
     rw[zLY (by simp[len]) (by simp[len])]
     simp only[zob,len,Qw,Q7]
     rw[yC (by simp;omega)]
     simp only[zob]
     have hcl:=Qy (zVQ l n ys (sofar++[(q:Int)])) hpow
     rw[ih ys (sofar++[(q:Int)]) (by grind) (by simp;omega) (by grind)]
     simp only[zob]
     simp only[UA] at hs
     rw[yC (by omega)]
     grind
   ·unfold zDE
    have hd:decide (((yP n).length:Int)<(n:Int))=false:=by rw[zFa];simp
    grind
theorem zXp (hl:l.length≤100){n:Nat}(hn:n≤l.length)(body:List zE)(hb:body.length≤4): zHG l (n:Int) body []=some (chS l n body []) :=
 zKO 5 fun k hk=>zVO hl hn body hb body [] (by simp) (by simp) (by omega)
theorem z1l{n:Nat}(hn:n≤l.length): ∀(ys:List zE) (sofar:List Int),chS (l++m) n ys sofar=chS l n ys sofar
 | [],_=>rfl
 | y::ys,sofar=>by
  simp only[chS]
  have key:∀ is:List Int,(∀ i∈is,0≤i∧i<n)->is.flatMap (fun i=>match zD (l++m) i with | some a=>if a.2.2.2==y then chS (l++m) n ys (sofar++[i]) else[] | none=>[])=is.flatMap (fun i=>match zD l i with | some a=>if a.2.2.2==y then chS l n ys (sofar++[i]) else[] | none=>[]):=by
   intro is
   induction is with
   | nil=>grind
   | cons i is ih =>
    intro h
    have h1:=h i Qz
    rw[Um,Um,ih fun j hj=>h j (Qq _ hj),zII (by omega)]
    congr 1
    split
    ·split
     ·exact z1l hn ys _
     ·rfl
    ·rfl
  exact key _ fun i hi=>zHc.1 hi
theorem z0h (subs:List Int)(f:Int)(h:subs.length<4294967296): zJc subs f=some (subs.any fun k=>decide (f≤k)) :=
 zRI (B:=zFU subs f) subs (fun k=>decide (f≤k)) (fun i k hk=>by
  unfold zFU
  simp only[vY hk,Qe,wV hk,zob,vO hk h]
  grind) (by unfold zFU;grind)
end
section
variable {b:zX}{l m:List zU}
structure tD (b:zX)(l:List zU): Prop extends FormC b l where
 cut:∀(i:Nat) a r,l[i]?=some a->0≤a.2.1->zD b.2.1 a.2.1=some r->zDc b l a.2.1 r a.2.2.1=true
structure zPV (b:zX)(D:List zE)(c:Nat): Prop where
 valid:zHX b
 rule:∀ r∈b.2.1,r.2.2.2.2∈D∧r.2.2.2.1.length≤c
 sz:(c+1) ^ D.length<4294967296
theorem zOb{r:qW}(h:zJk r=0): r.2.2.2.1.length≤4:=by
 unfold zJk at h
 grind
theorem zPV.body{D:List zE}{c:Nat}(h:zPV b D c){q:Int}{r:qW}(hq:zD b.2.1 q=some r): r.2.2.2.1.length≤4:=by
 obtain⟨n,rfl,hn⟩:=zMh hq
 exact zOb (h.valid.rule r (zE3 hn))
theorem FormC.ruI (h:FormC b l){i:Int}{a:zU}(ha:zD l i=some a){r:qW}(h0:0≤a.2.1)(hr:zD b.2.1 a.2.1=some r): a.2.2.2=r.2.2.2.2∧a.2.2.1.length=r.2.2.2.1.length∧∀(j:Nat) k y,a.2.2.1[j]?=some k->r.2.2.2.1[j]?=some y->∃ a',zD l k=some a'∧a'.2.2.2=y:=by
 obtain⟨n,rfl,hn⟩:=zMh ha
 exact h.ru n a r hn h0 hr
theorem tD.cutI (h:tD b l){i:Int}{a:zU}(ha:zD l i=some a){r:qW}(h0:0≤a.2.1)(hr:zD b.2.1 a.2.1=some r): zDc b l a.2.1 r a.2.2.1=true:=by
 obtain⟨n,rfl,hn⟩:=zMh ha
 exact h.cut n a r hn h0 hr
theorem zYm{α:Type}{p q:α->Bool}: ∀(D:List α),(∀ x,p x=true->q x=true)->∀ x∈D,q x=true->p x=false->(D.filter p).length<(D.filter q).length
 | [],_,x,hx,_,_=>by cases hx
 | d::D,h,x,hx,h1,h2=>by
  have hle:(D.filter p).length≤(D.filter q).length:=by
   rw[←List.countP_eq_length_filter,←List.countP_eq_length_filter]
   exact List.countP_mono_left fun y _=>h y
  rcases QG.1 hx with rfl | hx
  ·grind
  ·have ih:=zYm D h x hx h1 h2
   grind
theorem zWA (f:Int->Nat)(c:Nat): ∀(l:List Int),(∀ k∈l,f k≤c)->(l.map f).sum≤l.length*c
 | [],_=>by simp
 | k::l,h=>by
  have h1:=h k Qz
  have h2:=zWA f c l fun j hj=>h j (Qq _ hj)
  simp only[QY,List.sum_cons,Qn,Q0,UM]
  omega
open Classical in
noncomputable def z6v (b:zX)(l:List zU)(D:List zE)(i:Int): Nat:=(D.filter fun y=>decide (zNj b l i y)).length
open Classical in
theorem runSz{D:List zE}{c:Nat}(hs:zPV b D c)(h:tD b l): z4p b l fun i=>(c+1) ^ z6v b l D i:=by
 refine⟨fun i=>Nat.pow_pos (by omega),fun i _ _=>?_,fun i a r ha h0 hr hst=>?_⟩
 ·refine Nat.lt_of_le_of_lt (Q3 (by omega) ?_) hs.sz
  exact Q4 _ _
 ·have hcut:=h.cutI ha h0 hr
  obtain⟨g1,g2,_⟩:=h.toFormC.ruI ha h0 hr
  obtain⟨n,hn1,hn2⟩:=zMh hr
  obtain⟨hD,hc⟩:=hs.rule r (zE3 hn2)
  have hlt:∀ k∈a.2.2.1,z6v b l D k<z6v b l D i:=fun k hk=>by
   refine zYm D (fun y hy=>?_) r.2.2.2.2 hD ?_ ?_
   ·exact Qs (zNj.step ha h0 hr hst hk (of_decide_eq_true hy))
   ·exact Qs (by have:=zNj.here (b:=b) ha;grind)
   grind [zDc,cutB]
  cases hv:a.2.2.1 with
  | nil =>
   grind
  | cons k ks =>
   rw[←hv]
   have hpos:0<z6v b l D i:=by have:=hlt k (by grind);omega
   obtain⟨u,hu⟩:∃ u,z6v b l D i=u+1:=⟨z6v b l D i-1,by omega⟩
   have hsum:=zWA (fun k=>(c+1) ^ z6v b l D k) ((c+1) ^ u) a.2.2.1 fun k hk=>Q3 (by omega) (by grind)
   have h3:a.2.2.1.length*(c+1) ^ u≤c*(c+1) ^ u:=QS _ (by grind)
   grind
theorem tD.runs{D:List zE}{c:Nat}(h:tD b l)(hs:zPV b D c): z6U b l:=runsB h.toFormB (runSz hs h)
theorem tD.app (h:tD b l)(hm:∀ a∈m,z3q b l a∧∀ r,zD b.2.1 a.2.1=some r->zDc b l a.2.1 r a.2.2.1=true)(hl:l.length+m.length≤41): tD b (l++m):=by
 have h':=h.toFormC.app (fun a ha=>(hm a ha).1) hl
 refine⟨h',fun i a r ha h0 hr=>?_⟩
 by_cases hi:i<l.length
 ·rw[Ux hi] at ha
  rw[zJy h.toFormC h' fun k hk=>by have:=h.sub i a ha k hk;omega]
  exact h.cut i a r ha h0 hr
 ·rw[List.getElem?_append_right (by omega)] at ha
  obtain⟨g1,g2⟩:=hm a (zE3 ha)
  rw[zJy h.toFormC h' g1.sub]
  grind
def zRd (f:Int)(first:Bool)(s:List Int): Bool:=s.any (fun k=>decide (f≤k))||(first&&s.isEmpty)
noncomputable def zS3 (b:zX)(l:List zU)(f:Int)(first:Bool)(q:Int): List zU :=
 match zD b.2.1 q with
 | some r=>((chS l l.length r.2.2.2.1 []).filter fun s=>zRd f first s&&zDc b l q r s).map fun s=>(-1,q,s,r.2.2.2.2)
 | none=>[]
noncomputable def zHf (b:zX)(l:List zU)(f:Int)(first:Bool): List zU:=(yP b.2.1.length).flatMap (zS3 b l f first)
noncomputable def zTl (b:zX): Nat->List zU->Int->Bool->Option (List zU)
 | 0,_,_,_=>none
 | k+1,l,f,first =>
  if 40<(l++zHf b l f first).length then none
  else if zHf b l f first=[] then some l
  else zTl b k (l++zHf b l f first) l.length false
def zT4 (b:zX): List zU:=b.1.mapIdx fun i p=>((i:Int),-1,[],p.1)
theorem z0Z{f:Int}{first:Bool}{a:zU}: a∈zHf b l f first↔a.1=-1∧∃ r,zD b.2.1 a.2.1=some r∧a.2.2.2=r.2.2.2.2∧zRd f first a.2.2.1=true∧zDc b l a.2.1 r a.2.2.1=true∧a.2.2.1.length=r.2.2.2.1.length∧∀(j:Nat) k y,a.2.2.1[j]?=some k->r.2.2.2.1[j]?=some y->∃ a',zD l k=some a'∧a'.2.2.2=y:=by
 unfold zHf zS3
 simp only[Ui,zHc]
 constructor
 ·rintro ⟨q,hq,ha⟩
  cases hr:zD b.2.1 q with
  | none=>grind
  | some r =>
   rw[hr] at ha
   obtain⟨s,hs,rfl⟩:=QB.1 ha
   obtain⟨hs1,hs2⟩:=QR.1 hs
   rw[Qb] at hs2
   obtain⟨t,rfl,ht1,ht2⟩:=(zPb l l.length r.2.2.2.1 [] s).1 hs1
   grind
 ·rintro ⟨h1,r,hr,h2,h3,h4,h5,h6⟩
  refine⟨a.2.1,by have:=z2O hr;omega,?_⟩
  rw[hr]
  refine QB.2 ⟨a.2.2.1,QR.2 ⟨(zPb l l.length r.2.2.2.1 [] _).2 ⟨a.2.2.1,rfl,h5,fun j k y hk hy=>?_⟩,by grind⟩,?_⟩
  ·grind [zD]
  grind
theorem zTm{D:List zE}{c:Nat}(hs:zPV b D c){f:Int}{first:Bool}: ∀ a∈zHf b l f first,z3q b l a∧∀ r,zD b.2.1 a.2.1=some r->zDc b l a.2.1 r a.2.2.1=true:=fun a ha=>by
 obtain⟨h1,r,hr,h2,h3,h4,h5,h6⟩:=z0Z.1 ha
 refine⟨⟨h1,r,hr,h2,h5,?_,h6⟩,fun r' hr'=>?_⟩
 ·have:=hs.body hr;omega
 grind
theorem tD.round{D:List zE}{c:Nat}(h:tD b l)(hs:zPV b D c){f:Int}{first:Bool}(hl:(l++zHf b l f first).length≤41): tD b (l++zHf b l f first) :=
 h.app (zTm hs) (by grind)
theorem zOU (b:zX): (zT4 b).length=b.1.length:=by simp[zT4]
theorem zKd{i:Nat}{a:zU}(h:(zT4 b)[i]?=some a): ∃ p,b.1[i]?=some p∧a=((i:Int),-1,[],p.1):=by
 unfold zT4 at h
 grind
theorem zUP (h:zHX b): tD b (zT4 b):=by
 have hl:=zOU b
 have hn:=h.np
 have hr:=h.nr
 refine⟨⟨⟨⟨by omega,fun a ha=>?_,fun i a ha=>?_⟩,by omega,by omega,fun i a ha=>?_⟩,by omega,fun i a p ha h0 hp=>?_,fun i a r ha h0 hr=>?_⟩,fun i a r ha h0 hr=>?_⟩
 ·obtain⟨i,hi⟩:=Qv.1 ha
  obtain⟨p,_,rfl⟩:=zKd hi
  simp
 ·obtain⟨p,_,rfl⟩:=zKd ha
  grind
 ·obtain⟨p,h1,rfl⟩:=zKd ha
  grind
 ·obtain⟨p',h1,rfl⟩:=zKd ha
  rw[tV,h1] at hp
  grind
 ·obtain⟨p',h1,rfl⟩:=zKd ha
  grind
 ·obtain⟨p',h1,rfl⟩:=zKd ha
  grind
theorem zSY{D:List zE}{c:Nat}(hs:zPV b D c): ∀(k:Nat) (l:List zU) (f:Int) (first:Bool) (x:List zU),tD b l->l.length≤40->zTl b k l f first=some x->tD b x∧x.length≤40
 | 0,_,_,_,_,_,_,h=>by cases h
 | k+1,l,f,first,x,h,hl,hx=>by
  unfold zTl at hx
  split at hx
  ·cases hx
  ·rename_i hlim
   split at hx
   ·grind
   ·exact zSY hs k _ _ _ x (h.round hs (by omega)) (by omega) hx
theorem zYp{α β σ ρ:Type}{B:σ->Option (σ⊕ρ)}(xs:List α)(h:α->List β)(st:List β->Int->σ)(e:ρ)(fin:List β->ρ)(N:Nat)(acc:List β)(h0:acc.length≤N)
  (hB:∀(q:Nat) x n,xs[q]?=some x->n=(xs.take q).flatMap h->(acc++n).length≤N->B (st (acc++n) q)=some (if N<(acc++(n++h x)).length then .inr e else .inl (st (acc++(n++h x)) ((q+1:Nat):Int))))
  (hE:(acc++xs.flatMap h).length≤N->B (st (acc++xs.flatMap h) (xs.length:Int))=some (.inr (fin (acc++xs.flatMap h)))) :
  zJ B (st acc 0)=some (if N<(acc++xs.flatMap h).length then e else fin (acc++xs.flatMap h)):=by
 have key:∀(n i:Nat),i+n=xs.length->(acc++(xs.take i).flatMap h).length≤N->zJ B (st (acc++(xs.take i).flatMap h) (i:Int))=some (if N<(acc++xs.flatMap h).length then e else fin (acc++xs.flatMap h)):=by
  intro n
  induction n with
  | zero =>
   intro i hi hn
   rw[QU] at hi
   subst hi
   rw[Q7] at hn ⊢
   rw[yS,hE hn,Qa (by omega)]
  | succ n ih =>
   intro i hi hn
   have hx:xs[i]?=some xs[i]:=Qi (by omega)
   have ht:(xs.take (i+1)).flatMap h=(xs.take i).flatMap h++h xs[i]:=by rw[zCp hx,UF,List.flatMap_singleton]
   rw[yS,hB i _ _ hx rfl hn,←ht]
   by_cases hN:N<(acc++(xs.take (i+1)).flatMap h).length
   ·rw[Qm hN]
    have:(acc++(xs.take (i+1)).flatMap h).length≤(acc++xs.flatMap h).length:=by
     conv=>rhs;rw[←QC (i+1) xs,UF]
     simp only[Qc]
     omega
    grind
   grind
 have:=key xs.length 0 (by omega) (by grind)
 grind
end
section
variable {b:zX}{l:List zU}{D:List zE}{c:Nat}
def ansB:Option (List zU)->List zU×Int
 | some x=>(x,0)
 | none=>([],2)
theorem zVw (h:zHX b): zJ (zEJ b) (([]:List zU),0)=some (zT4 b):=by
 have hn:=h.np
 have:=zLg (B:=zEJ b) (zT4 b) (fun a=>[a]) (fun s=>s) 1 (fun _ _=>by simp) [] (fun i a s hi hs=>by
  obtain⟨p,hp,rfl⟩:=zKd hi
  have hlt:=uS hp
  unfold zEJ
  simp only[vY hp,Qe,wV hp,zob]
  rw[yC (by grind)]
  simp only[zob,vO hp (by omega)]) (fun s=>by
  unfold zEJ
  rw[zOU]
  grind)
 rw[this]
 simp
theorem zVh (hs:zPV b D c)(h:tD b l)(hl:l.length≤40){f:Int}{r:Nat}{q:Nat}(hq:q<b.2.1.length)(n:List zU)(hn:(l++n).length≤40)(hf:tD b (l++n))
  {ru:qW} (hr:zD b.2.1 (q:Int)=some ru) :
  zJ (zEI (chS l l.length ru.2.2.2.1 []) (l,f,(r:Int)) b (l++n,(q:Int))) (l++n,0) =
   some (if 40<(l++(n++zS3 b l f (decide (r≤1)) q)).length then .inr (.inr (([]:List zU),2)) else .inl (l++(n++zS3 b l f (decide (r≤1)) q),((q+1:Nat):Int))):=by
 have hb:=hs.body hr
 have hcl:(chS l l.length ru.2.2.2.1 []).length<4294967296:=by
  have h1:=zVQ l l.length ru.2.2.2.1 []
  have h2:l.length ^ ru.2.2.2.1.length≤100 ^ 4:=Qy (Nat.pow_le_pow_left (by omega) _) (Q3 (by omega) hb)
  have h3:(100:Nat) ^ 4=100000000:=rfl
  omega
 have hnr:=hs.valid.nr
 have key:=zYp (B:=zEI (chS l l.length ru.2.2.2.1 []) (l,f,(r:Int)) b (l++n,(q:Int))) (chS l l.length ru.2.2.2.1 [])
  (fun s=>if zRd f (decide (r≤1)) s&&zDc b l q ru s then[((-1:Int),(q:Int),s,ru.2.2.2.2)] else[]) (fun s i=>(s,i))
  (.inr (.inr (([]:List zU),2))) (fun s=>.inl (s,((q+1:Nat):Int))) 40 (l++n) hn (fun i s acc hi hacc hlen=>?_) (fun _=>?_)
 ·rw[key]
  have:(chS l l.length ru.2.2.2.1 []).flatMap (fun s=>if zRd f (decide (r≤1)) s&&zDc b l q ru s then[((-1:Int),(q:Int),s,ru.2.2.2.2)] else[])=zS3 b l f (decide (r≤1)) q:=by
   unfold zS3
   rw[hr]
   rw[←zY1]
   rw[←List.map_eq_flatMap]
  grind
 ·have hs1:=(zPb l l.length ru.2.2.2.1 [] s).1 (zE3 hi)
  obtain⟨t,ht,htl,htm⟩:=hs1
  rw[QA] at ht
  subst ht
  have hsub:∀ k∈s,0≤k∧k<l.length:=fun k hk=>by
   obtain⟨j,hj⟩:=Qv.1 hk
   have:=uS hj
   have:=htm j k _ hj (Qi (by omega))
   omega
  have hnow:tD b (l++n++acc):=by
   refine hf.app (fun a ha=>?_) (by grind)
   rw[hacc] at ha
   obtain⟨s',hs',ha⟩:=Ui.1 ha
   split at ha
   ·rename_i hc
    rw[Qb] at hc
    simp only[Qf] at ha
    subst ha
    obtain⟨t,ht,htl,htm⟩:=(zPb l l.length ru.2.2.2.1 [] s').1 (Ur hs')
    rw[QA] at ht
    subst ht
    have hg:z3q b l ((-1:Int),(q:Int),s',ru.2.2.2.2):=⟨rfl,ru,hr,rfl,htl,by grind,fun j k y hk hy=>(htm j k y hk hy).2.2⟩
    refine⟨hg.more,fun r' hr'=>?_⟩
    rw[hr] at hr'
    cases hr'
    rw[zJy h.toFormC hf.toFormC hg.sub]
    exact hc.2
   ·cases ha
  have hw:zEM b (l++n++acc) q s=some (zDc b l q ru s):=by
   rw[z06 hnow.toFormC (hnow.runs hs) hr (fun k hk=>by grind) (by omega)]
   rw[Qo,zJy h.toFormC (by rw[←Qo];exact hnow.toFormC) hsub]
  unfold zEI
  simp only[vY hi,Qe,wV hi,zob,vO hi hcl]
  rw[z0h s f (by omega)]
  simp only[zob,hw,hr]
  have hdec:(if(!s.any fun k=>decide (f≤k))=true then(if decide (1<(r:Int))=true then some true else if decide (0<len s)=true then some true else some (!zDc b l q ru s)) else some (!zDc b l q ru s))=some (!(zRd f (decide (r≤1)) s&&zDc b l q ru s)):=by
   unfold zRd
   cases ha:s.any fun k=>decide (f≤k) with
   | true=>simp
   | false =>
    by_cases h1:r≤1
    ·have:¬ (1<(r:Int)):=by omega
     cases s with
     | nil=>grind
     | cons k s=>grind
    grind
  rw[hdec]
  simp only[zob]
  cases hc:zRd f (decide (r≤1)) s&&zDc b l q ru s with
  | false =>
   grind
  | true =>
   simp only[Qx,zbf,Qh,Qe]
   rw[yC (by grind)]
   grind
 ·unfold zEI
  simp only[zNS,zbf,Qh,wI q (by omega)]
theorem zWT (hs:zPV b D c)(h:tD b l)(hl:l.length≤40){f:Int}{r:Nat}(hr:r<1000):
  zJ (zDx b (l,f,(r:Int))) (l,0) =
   some (if 40<(l++zHf b l f (decide (r≤1))).length then .inr (([]:List zU),2) else .inl (l++zHf b l f (decide (r≤1)),(l.length:Int),((r+1:Nat):Int))):=by
 have hnr:=hs.valid.nr
 refine zYp (B:=zDx b (l,f,(r:Int))) (yP b.2.1.length) (zS3 b l f (decide (r≤1))) (fun s i=>(s,i)) (.inr (([]:List zU),2)) (fun s=>.inl (s,(l.length:Int),((r+1:Nat):Int))) 40 l hl (fun q x n hq hn hlen=>?_) (fun _=>?_)
 ·obtain⟨rfl,hqn⟩:=zPv hq
  obtain⟨ru,hru⟩:=zI9 (l:=b.2.1) (j:=(q:Int)) (by omega) (by omega)
  have hd:decide ((q:Int)<len b.2.1)=true:=by simp[len];omega
  have hf:tD b (l++n):=by
   refine h.app (fun a ha=>zTm hs a ?_ (f:=f) (first:=decide (r≤1))) (by grind)
   rw[hn] at ha
   obtain⟨q',hq',ha⟩:=Ui.1 ha
   exact Ui.2 ⟨q',Ur hq',ha⟩
  unfold zDx
  simp only[hd,Qe,hru,zob]
  have hch:=zXp (l:=l++n) (n:=l.length) (by omega) (by simp) ru.2.2.2.1 (hs.body hru)
  rw[show len l=((l.length:Nat):Int) from rfl,hch]
  simp only[zob]
  rw[z1l (Qt _),zVh hs h hl hqn n hlen hf hru]
 ·unfold zDx
  have hd:decide (((yP b.2.1.length).length:Int)<len b.2.1)=false:=by rw[zFa];simp[len]
  simp only[hd,zbf,Qh,wI r (by omega)]
theorem zWW (hs:zPV b D c): ∀(k:Nat) (l:List zU) (f:Int) (r:Nat),tD b l->l.length≤40->41≤l.length+k->r+k≤900->1≤r->(r=1∨f<l.length)->
  zJ (zCl b) (l,f,(r:Int))=some (ansB (zTl b k l f (decide (r≤1)))):=by
 intro k
 induction k with
 | zero=>grind
 | succ k ih =>
  intro l f r h hl hk hr h1 hgo
  have hc:(((r:Int)==1)||decide (f<len l))=true:=by
   rw[QI]
   rcases hgo with rfl | hgo
   ·grind
   ·grind
  have hstep:zCl b (l,f,(r:Int))=some (if 40<(l++zHf b l f (decide (r≤1))).length then .inr (([]:List zU),2) else .inl (l++zHf b l f (decide (r≤1)),(l.length:Int),((r+1:Nat):Int))):=by
   unfold zCl
   simp only[hc,Qe]
   exact zWT hs h hl (by omega)
  rw[yS,hstep]
  unfold zTl
  by_cases hlim:40<(l++zHf b l f (decide (r≤1))).length
  ·simp only[Qm hlim]
   rfl
  ·simp only[Qa hlim]
   by_cases hn:zHf b l f (decide (r≤1))=[]
   ·rw[Qm hn,hn,QJ]
    have hstep2:zCl b (l,(l.length:Int),((r+1:Nat):Int))=some (.inr (l,0)):=by
     unfold zCl
     have hc2:((((r+1:Nat):Int)==1)||decide ((l.length:Int)<len l))=false:=by
      rw[QT]
      exact⟨by grind,by simp[len]⟩
     simp only[hc2,zbf,Qh]
    rw[yS,hstep2]
    rfl
   ·rw[Qa hn]
    have hpos:0<(zHf b l f (decide (r≤1))).length:=QL.2 hn
    have:=ih (l++zHf b l f (decide (r≤1))) l.length (r+1) (h.round hs (by omega)) (by omega) (by grind) (by omega) (by omega) (.inr (by grind))
    grind [decide]
theorem zQD (h:zHX b): Cnt b:=by
 have h1:=h.np
 have h2:=h.nr
 have h3:=h.nm
 exact⟨by omega,by omega,by omega,fun r hr=>by have:=zOb (h.rule r hr);omega⟩
noncomputable def zUR (b:zX): Option (List zU):=zTl b 50 (zT4 b) 0 true
theorem z2d (hs:zPV b D c): zFV b=some (ansB (zUR b)):=by
 unfold zFV
 rw[zLz (zQD hs.valid),zIH.2 hs.valid]
 simp only[zob,bne_self_eq_false,zbf,Qh]
 rw[zVw hs.valid]
 have hn:=hs.valid.np
 exact zWW hs 50 (zT4 b) 0 1 (zUP hs.valid) (by rw[zOU];omega) (by omega) (by omega) (by omega) (.inl rfl)
theorem zTT (hc:Cnt3 b)(h:¬ zHX b): zFV b=some ([],zKm b):=by
 unfold zFV
 rw[zOS hc]
 have:(zKm b != 0)=true:=by
  rw[bne_iff_ne]
  exact fun h'=>h (zIH.1 h')
 grind
end
section
theorem z3F{s:vH}{m n:Int}(h:wX s)(h0:0≤m)(hm:m≤1000000)(h1:1≤n)(h2:n≤26): ∃(l:List zE) (k:Int),zDa s m n=some (l,k)∧(l.length:Int)≤m∧(∀ x∈l,∃ j:Nat,(j:Int)<n∧x.2=zKv j)∧wX (s.1,k):=by
 obtain⟨v,k,hr,hv0,hv1,hk⟩:=zHZ (n:=m+1) h (by omega) (by omega)
 unfold zDa
 rw[yL (x:=m+1) (by omega) (by omega),hr]
 simp only[zob]
 obtain⟨r,h3,h4⟩:=zOg (B:=zEZ s n) (fun t=>0≤t.2.1∧(t.1.length:Int)+t.2.1=v∧(∀ x∈t.1,∃ j:Nat,(j:Int)<n∧x.2=zKv j)∧wX (s.1,t.2.2)) (fun t=>t.2.1.toNat)
  (fun r=>(r.1.length:Int)≤m∧(∀ x∈r.1,∃ j:Nat,(j:Int)<n∧x.2=zKv j)∧wX (s.1,r.2)) (fun t ht=>by
   obtain⟨l,q,k⟩:=t
   obtain⟨t1,t2,t3,t4⟩:=ht
   dsimp only at t1 t2 t3 t4
   unfold zEZ
   by_cases hq:0<q
   ·obtain⟨g,j,k',h5,hj,hk'⟩:=zH0 t4 h1 h2
    refine .inl ⟨(l++[(g,zKv j)],q-1,k'),?_,⟨by grind,by simp;omega,fun x hx=>?_,hk'⟩,by grind⟩
    ·simp only[hq,decide_true,Qe,h5,zob]
     rw[yC (by simp;omega),yL (by omega) (by omega)]
     rfl
    grind
   ·refine .inr ⟨(l,k),by simp[hq],by grind,t3,t4⟩) (([]:List zE),v,k) ⟨hv0,by simp,by simp,hk⟩
 grind
theorem z3O (s:List zE)(hs:s.length<1000000)(x:zE)(n:Int): ∃ k:Nat,zJ (zED (s,n) x) 0=some (k:Int)∧k≤s.length∧(∀ j y,j<k->s[j]?=some y->vX y x=true)∧∀ y,s[k]?=some y->vX y x=false:=by
 obtain⟨r,h1,k,h2,h3⟩:=tK (B:=zED (s,n) x) (fun i (_:Unit)=>(i:Int)) s (fun i _=>∀ j y,j<i->s[j]?=some y->vX y x=true)
  (fun r=>∃ k:Nat,r=(k:Int)∧k≤s.length∧(∀ j y,j<k->s[j]?=some y->vX y x=true)∧∀ y,s[k]?=some y->vX y x=false) (fun i y _ hi hI=>by
  have hlt:=uS hi
  unfold zED
  simp only[vY hi,Qe,wV hi,zob,vO hi (show s.length<4294967296 by omega)]
  have hcond:(if yX y.2 x.2=true then some true else if(y.2==x.2)=true then if(!y.1)=true then some x.1 else some false else some false)=some (vX y x):=by
   unfold vX
   cases yX y.2 x.2 <;> cases y.2==x.2 <;> cases y.1 <;> cases x.1 <;> rfl
  rw[hcond]
  simp only[zob]
  cases hc:vX y x with
  | true =>
   simp only[Qe]
   exact .inl ⟨(),by trivial,fun j z hj hz=>by
    grind⟩
  | false =>
   grind) (fun _ hI=>⟨_,by
  unfold zED
  grind,s.length,rfl,Qt _,hI,fun y hy=>by grind⟩) () (fun j y hj=>by omega)
 grind
theorem z6O{s:List zE}(hs:yA vX s){k:Nat}{x:zE}(h1:∀ j y,j<k->s[j]?=some y->vX y x=true)(h2:∀ y,s[k]?=some y->vX x y=true): yA vX (s.take k++x::s.drop k):=by
 have hsplit:=QC k s
 rw[←hsplit] at hs
 obtain⟨p1,p2,p3⟩:=Uj.1 hs
 refine Uj.2 ⟨p1,QP.2 ⟨fun y hy=>?_,p2⟩,fun y hy z hz=>?_⟩
 ·cases hd:s.drop k with
  | nil=>grind
  | cons z r =>
   have hz:s[k]?=some z:=by
    have:=congrArg (fun l=>l[0]?) hd
    simpa using this
   rw[hd] at hy p2
   rcases QG.1 hy with rfl | hy
   ·grind
   grind [zNY,List.pairwise_cons]
 ·have hyx:vX y x=true:=by
   obtain⟨j,hj⟩:=Qv.1 hy
   rw[UI] at hj
   split at hj
   ·grind
   ·cases hj
  grind
theorem z5K{α:Type}(s:List α)(z x:α)(k:Nat)(hk:k≤s.length): (zIs (s++[z]) (((k+1:Nat)):Int) ((s++[z]).drop k)).set k x=s.take k++x::s.drop k:=by
 have h1:(s++[z]).drop k=s.drop k++[z]:=Up hk
 unfold zIs
 rw[h1,Qw]
 have h2:(s.drop k++[z]).take ((s++[z]).length-(k+1))=s.drop k:=by
  rw[show(s++[z]).length-(k+1)=(s.drop k).length by simp,List.take_left']
  rfl
 have h3:(s++[z]).drop (k+1+(s.drop k++[z]).length)=[]:=List.drop_eq_nil_of_le (by simp;omega)
 rw[h2,h3,QJ]
 cases hd:s.drop k with
 | nil =>
  grind
 | cons y r =>
  grind
theorem zTK (l:List zE)(hl:l.length≤1000): ∃ r,zHw l=some r∧r.length≤l.length∧yA vX r∧∀ y∈r,y∈l:=by
 unfold zHw
 refine tK (B:=zGJ l) (fun i s=>(s,(i:Int))) l (fun i s=>s.length≤i∧yA vX s∧∀ y∈s,y∈l) (fun r=>r.length≤l.length∧yA vX r∧∀ y∈r,y∈l) (fun i x s hi hs=>.inl ?_) (fun s hs=>⟨s,?_,hs⟩) [] ⟨by simp,List.Pairwise.nil,by simp⟩
 ·have hlt:=uS hi
  obtain⟨hs1,hs2,hs3⟩:=hs
  unfold zGJ
  obtain⟨k,h1,h2,h3,h4⟩:=z3O s (by omega) x i
  simp only[vY hi,Qe,wV hi,zob,h1,vO hi (show l.length<4294967296 by omega)]
  by_cases hex:s[k]?=some x
  ·simp only[vY hex,Qe,wV hex,zob,QQ]
   grind
  ·have hc:(if decide ((k:Int)<len s)=true then(zD s (k:Int)).bind fun x5=>some (x5==x) else some false)=some false:=by
    by_cases hk:k<s.length
    ·have hx:s[k]?=some s[k]:=Qi hk
     simp only[vY hx,Qe,wV hx,zob]
     simp_all
    ·grind
   rw[hc]
   simp only[zob,zbf,Qh]
   rw[yC (by simp;omega)]
   have hr1:zF ((k:Int)+1)=((k+1:Nat):Int):=wI k (by omega)
   have hc1:(decide (0≤((k+1:Nat):Int))&&decide (((k+1:Nat):Int)≤len (s++[((false,[]):zE)])))=true:=by simp[len];omega
   have hc2:(decide (0≤(k:Int))&&decide ((k:Int)≤len (s++[((false,[]):zE)])))=true:=by simp[len];omega
   obtain⟨z,hz⟩:=zI9 (l:=zIs (s++[((false,[]):zE)]) ((k+1:Nat):Int) (List.drop k (s++[((false,[]):zE)]))) (j:=(k:Int)) (by omega) (by rw[zKF];simp;omega)
   simp only[zob,hr1,chk,hc1,hc2,Qe,Qw,hz,z5K s _ x k h2]
   refine⟨_,rfl,?_,z6O hs2 h3 fun y hy=>?_,fun y hy=>?_⟩
   ·simp;omega
   ·grind [zRX]
   grind
 ·unfold zGJ
  grind
theorem z1j:∀ {l:List zE},yA vX l->z5k l=true
 | [],_=>rfl
 | [_],_=>rfl
 | x::y::r,h=>by
  obtain⟨h1,h2⟩:=QP.1 h
  unfold z5k
  rw[h1 y Qz,z1j h2]
  rfl
theorem zTq{s:vH}{l:List Int}(h:wX s)(h0:l≠[])(h1:l.length≤1000): ∃ x k,zDV s l=some (x,k)∧x∈l∧wX (s.1,k):=by
 have hp:=QL.2 h0
 obtain⟨v,k,hr,h2,h3,hk⟩:=zHZ (n:=len l) h (by grind) (by grind)
 obtain⟨x,hx,hx2⟩:=zRJ h2 h3
 grind [zDV]
theorem zMN{j:Nat}(h:j<26): vName (zKv j)=true:=by
 have:∀ j,j<26->vName (zKv j)=true:=by decide
 grind
def zRV (n:Nat): zA:=[114,UInt8.ofNat (97+n)]
theorem zSv{n:Nat}(h:n<26): vName (zRV n)=true:=by
 have:∀ n,n<26->vName (zRV n)=true:=by decide
 grind
theorem z1E{n m:Nat}(h:n<26)(h':m<26)(he:zRV n=zRV m): n=m:=by
 have:∀ n,n<26->∀ m,m<26->zRV n=zRV m->n=m:=by decide
 grind
theorem zK1{n:Nat}(h:n<26): zCP (n:Int)=some (zRV n):=by
 have:∀ n:Nat,n<26->zCP (n:Int)=some (zRV n):=by decide
 grind
theorem z7b{α β:Type}(g:α->β){l:List α}{y:α}(h:∀(i j:Nat) p q,l[i]?=some p->l[j]?=some q->g p=g q->i=j)(hy:∀ x∈l,g x≠g y): ∀(i j:Nat) p q,(l++[y])[i]?=some p->(l++[y])[j]?=some q->g p=g q->i=j:=by grind
structure z1A (n:Int)(l:List yD): Prop where
 ok:∀ p∈l,zKt p=0
 at_:∀ p∈l,∃ j:Nat,(j:Int)<n∧p.1.2=zKv j
 inj:∀(i j:Nat) p q,l[i]?=some p->l[j]?=some q->p.1=q.1->i=j
theorem z7D{s:vH}{n:Int}(h1:1≤n)(h2:n≤26){v k:Int}(hv0:0≤v)(hv1:v≤100)(hk:wX (s.1,k)): ∃ r,zJ (zEa s n) (v,k,[])=some r∧wX (s.1,r.1)∧(r.2.length:Int)≤v∧z1A n r.2:=by
 refine zOg (B:=zEa s n) (fun t=>0≤t.1∧(t.2.2.length:Int)+t.1≤v∧wX (s.1,t.2.1)∧z1A n t.2.2) (fun t=>t.1.toNat) (fun r=>wX (s.1,r.1)∧(r.2.length:Int)≤v∧z1A n r.2) (fun t ht=>?_) _ ⟨hv0,by simp,hk,by simp,by simp,by simp⟩
 obtain⟨q,k,l⟩:=t
 obtain⟨t1,t2,t3,t4⟩:=ht
 dsimp only at t1 t2 t3 t4
 unfold zEa
 by_cases hq:0<q
 ·obtain⟨g,j,k1,e1,hj,hk1⟩:=zH0 t3 h1 h2
  obtain⟨p,k2,e2,hp,hk2⟩:=zTq (l:=[1,2,2,2,3]) hk1 (by simp) (by simp)
  obtain⟨x,k3,e3,hx,hk3⟩:=zXC (l:=[[],[],[97,110,110],[98,111,98]]) hk2 (by simp) (by simp)
  obtain⟨u,k4,e4,hu0,hu1,hk4⟩:=zHZ (n:=4) hk3 (by omega) (by omega)
  have hr:zJ (zCw (q,k,l) ((g,zKv j),k1)) (false,0)=some (l.any fun p=>p.1==(g,zKv j)):=by
   obtain⟨r,hr,hr2⟩:=tK (B:=zCw (q,k,l) ((g,zKv j),k1)) (fun i s=>(s,(i:Int))) l (fun i s=>s=(l.take i).any fun p=>p.1==(g,zKv j)) (fun r=>r=l.any fun p=>p.1==(g,zKv j)) (fun i x s hi hs=>.inl (by
    unfold zCw
    simp only[vY hi,Qe,wV hi,zob,vO hi (show l.length<4294967296 by omega)]
    exact⟨_,rfl,by rw[zCp hi,List.any_append,←hs];simp⟩)) (fun s hs=>by
    unfold zCw
    grind) false (by simp)
   rw[←hr2]
   exact hr
  dsimp only at e2 e3 e4 hk2 hk3 hk4
  have hq1:zF (q-1)=q-1:=yL (by omega) (by omega)
  have hmid:∃ w z,(if(p==2)=true then(yN (s.1,k3) 4).bind fun r5=>some (r5.2,r5.1) else some (k3,0):Option (Int×Int))=some (w,z)∧wX (s.1,w)∧zHd z=true∧(p==2||z==0)=true:=by
   split
   ·grind
   ·grind
  obtain⟨w,z,hm,hw,hz1,hz2⟩:=hmid
  simp only[hq,decide_true,Qe,e1,zob,e2,e3,hm,hr,hq1]
  cases hany:l.any fun p=>p.1==(g,zKv j) with
  | true=>exact .inl ⟨_,rfl,⟨by grind,by grind,hw,t4⟩,by grind⟩
  | false =>
   simp only[QM,Qe]
   rw[yC (by simp;omega)]
   refine .inl ⟨_,rfl,⟨by grind,by grind,hw,fun p' hp'=>?_,fun p' hp'=>?_,z7b _ t4.inj fun p' hp' he=>?_⟩,by grind⟩
   ·rcases Qk.1 hp' with hp' | hp'
    ·exact t4.ok p' hp'
    ·simp only[Qf] at hp'
     subst hp'
     have hpk:(p==1||p==2||p==3)=true:=by
      simp only[QG,UH,or_false] at hp
      rcases hp with rfl | rfl | rfl | rfl | rfl <;> rfl
     have hsx:(x==([]:zA)||vName x)=true:=by
      simp only[QG,UH,or_false] at hx
      rcases hx with rfl | rfl | rfl | rfl <;> decide
     unfold zKt
     dsimp only
     rw[Qm hpk,zMN (by omega),hz1,hz2,hsx]
     rfl
   ·rcases Qk.1 hp' with hp' | hp'
    ·exact t4.at_ p' hp'
    grind
   grind
 ·simp only[hq,decide_false,zbf,Qh]
  grind
structure z1e (l:List qW): Prop where
 bd:∀ r∈l,r.2.2.2.1.length≤2
 ok:∀ r∈l,zJk r=0
 nm:∀(i:Nat) r,l[i]?=some r->r.1=zRV i
theorem z7M{s:vH}{n m:Int}(h1:1≤n)(h2:n≤26)(hm:1≤m)(hm2:m≤26){v k:Int}(hv0:0≤v)(hv1:v≤24)(hk:wX (s.1,k)): ∃ r,zJ (zE5 s n m) (v,k,[])=some r∧wX (s.1,r.1)∧(r.2.length:Int)≤v∧z1e r.2:=by
 refine zOg (B:=zE5 s n m) (fun t=>0≤t.1∧(t.2.2.length:Int)+t.1≤v∧wX (s.1,t.2.1)∧z1e t.2.2) (fun t=>t.1.toNat) (fun r=>wX (s.1,r.1)∧(r.2.length:Int)≤v∧z1e r.2) (fun t ht=>?_) _ ⟨hv0,by simp,hk,by simp,by simp,by simp⟩
 obtain⟨q,k,l⟩:=t
 obtain⟨t1,t2,t3,t4⟩:=ht
 dsimp only at t1 t2 t3 t4
 unfold zE5
 by_cases hq:0<q
 ·have e0:=zK1 (n:=l.length) (by omega)
  obtain⟨u,k1,e1,_,_,hk1⟩:=zHZ (n:=3) t3 (by omega) (by omega)
  obtain⟨bd,k2,e2,hb2,hbn,hk2⟩:=z3F (m:=2) hk1 (by omega) (by omega) h1 h2
  obtain⟨bs,e3,hb3,hb4,hb5⟩:=zTK bd (by omega)
  obtain⟨g,j,k3,e4,hj,hk3⟩:=zH0 hk2 h1 h2
  obtain⟨u5,k5,e5,hu5,hu5',hk5⟩:=zHZ (n:=4) hk3 (by omega) (by omega)
  dsimp only at e1 e2 e3 e4 e5 hk1 hk2 hk3 hk5
  have hmid:∃ w z,(if(!(u==0))=true then(yN (s.1,k3) 4).bind fun r12=>some (r12.2,r12.1) else some (k3,0):Option (Int×Int))=some (w,z)∧wX (s.1,w)∧zHd z=true∧(!(u==0)||z==0)=true:=by
   split
   ·grind
   ·grind
  obtain⟨w,z,hmm,hw,hz1,hz2⟩:=hmid
  obtain⟨u6,k6,e6,_,_,hk6⟩:=zHZ (n:=6) hw (by omega) (by omega)
  obtain⟨u7,k7,e7,_,_,hk7⟩:=zHZ (n:=4) hk6 (by omega) (by omega)
  obtain⟨u8,k8,e8,hu8,hu8',hk8⟩:=zHZ (n:=m) hk7 (by omega) (by omega)
  obtain⟨n8,rfl⟩:=Q1 hu8
  have e9:=zK1 (n:=n8) (by omega)
  dsimp only at e6 e7 e8 hk6 hk7 hk8
  have hend:∃ w2 z2 y2,((yN (s.1,w) 6).bind fun r13=>if(r13.1==5)=true then(yN (s.1,r13.2) 4).bind fun r14=>(yN (s.1,r14.2) m).bind fun r15=>(zCP r15.1).bind fun r16=>some (r15.2,decide (0<r14.1),r16) else some (r13.2,g,zKv j):Option (Int×Bool×zA))=some (w2,z2,y2)∧wX (s.1,w2)∧vName y2=true:=by
   rw[e6]
   simp only[zob]
   split
   ·exact⟨k8,decide (0<u7),zRV n8,by grind,hk8,zSv (by omega)⟩
   ·exact⟨k6,g,zKv j,rfl,hk6,zMN (by omega)⟩
  obtain⟨w2,z2,y2,he,hw2,hy2⟩:=hend
  have hq1:zF (q-1)=q-1:=yL (by omega) (by omega)
  rw[show len l=((l.length:Nat):Int) from rfl]
  simp only[hq,decide_true,Qe,e0,e1,zob,e2,e3,e4,hmm,he,hq1]
  rw[yC (by simp;omega)]
  refine .inl ⟨_,rfl,⟨by grind,by grind,hw2,fun r hr=>?_,fun r hr=>?_,fun i r hr=>?_⟩,by grind⟩
  ·rcases Qk.1 hr with hr | hr
   ·exact t4.bd r hr
   grind
  ·rcases Qk.1 hr with hr | hr
   ·exact t4.ok r hr
   ·simp only[Qf] at hr
    subst hr
    unfold zJk
    dsimp only
    have hall:(bs.all fun x=>vName x.2)=true:=QK.2 fun x hx=>by
     obtain⟨j,hj,hx2⟩:=hbn x (hb5 x hx)
     rw[hx2]
     exact zMN (by omega)
    rw[Qa (by omega),zSv (by omega),hy2,hz1,hz2,hall,z1j hb4]
    rfl
  ·by_cases hi:i<l.length
   ·rw[Ux hi] at hr
    exact t4.nm i r hr
   grind
 ·simp only[hq,decide_false,zbf,Qh]
  grind
theorem z6n{s:vH}{n:Int}(h1:1≤n)(h2:n≤26)(o:Int)(rs:List qW)(hrs:rs.length≤100){v k:Int}(hv0:0≤v)(hv1:v≤100)(hk:wX (s.1,k)): ∃ r,zJ (zEc (o,rs) s n) (v,k,[])=some r∧wX (s.1,r.1)∧(r.2.length:Int)≤v∧∀ p∈r.2,zHd p.2.1=true∧vName p.2.2.2=true∧∃ q∈rs,q.1=p.1∧q.2.1=false:=by
 refine zOg (B:=zEc (o,rs) s n) (fun t=>0≤t.1∧(t.2.2.length:Int)+t.1≤v∧wX (s.1,t.2.1)∧∀ p∈t.2.2,zHd p.2.1=true∧vName p.2.2.2=true∧∃ q∈rs,q.1=p.1∧q.2.1=false) (fun t=>t.1.toNat) (fun r=>wX (s.1,r.1)∧(r.2.length:Int)≤v∧∀ p∈r.2,zHd p.2.1=true∧vName p.2.2.2=true∧∃ q∈rs,q.1=p.1∧q.2.1=false) (fun t ht=>?_) _ ⟨hv0,by simp,hk,by simp⟩
 obtain⟨q,k,l⟩:=t
 obtain⟨t1,t2,t3,t4⟩:=ht
 dsimp only at t1 t2 t3 t4
 unfold zEc
 by_cases hq:0<q∧0<rs.length
 ·have hc:(decide (0<q)&&decide (0<len rs))=true:=by simp[len];omega
  obtain⟨u,k1,e1,hu0,hu1,hk1⟩:=zHZ (n:=len rs) t3 (by grind) (by grind)
  obtain⟨r,hr⟩:=zI9 (l:=rs) hu0 hu1
  obtain⟨u2,k2,e2,hu2,hu2',hk2⟩:=zHZ (n:=10) hk1 (by omega) (by omega)
  obtain⟨g,j,k3,e3,hj,hk3⟩:=zH0 hk2 h1 h2
  dsimp only at e1 e2 e3 hk1 hk2 hk3
  have hq1:zF (q-1)=q-1:=yL (by omega) (by omega)
  simp only[hc,Qe,e1,zob,hr,hq1]
  cases hst:r.2.1 with
  | true =>
   simp only[Qx,zbf,Qh]
   grind
  | false =>
   simp only[QM,Qe,e2,e3,zob]
   rw[yC (by simp;omega)]
   refine .inl ⟨_,rfl,⟨by grind,by grind,hk3,fun p hp=>?_⟩,by grind⟩
   rcases Qk.1 hp with hp | hp
   ·grind
   ·simp only[Qf] at hp
    subst hp
    obtain⟨i,_,hi⟩:=zMh hr
    exact⟨by simp;omega,zMN (by omega),r,zE3 hi,rfl,hst⟩
 ·have hc:(decide (0<q)&&decide (0<len rs))=false:=by
   rw[Bool.and_eq_false_iff]
   by_cases h:0<q
   ·grind
   ·grind
  simp only[hc,zbf,Qh]
  grind
structure z6w (b:zX)(n p q:Int): Prop where
 np:(b.1.length:Int)≤p
 nr:(b.2.1.length:Int)≤q
 nm:b.2.2.length≤2
 bd:∀ r∈b.2.1,r.2.2.2.1.length≤2
 valid:zHX b
 names:∀(i:Nat) r,b.2.1[i]?=some r->r.1=zRV i
 at_:∀ p∈b.1,∃ j:Nat,(j:Int)<n∧p.1.2=zKv j
theorem zWk{s:vH}(h:wX s){n p q:Int}(h1:1≤n)(h2:n≤26)(hp:0≤p)(hp2:p≤16)(hq:1≤q)(hq2:q≤24): ∃ b k,zFG s n p q=some (b,k)∧wX (s.1,k)∧z6w b n p q:=by
 unfold zFG
 obtain⟨u1,k1,e1,a1,b1,hk1⟩:=zHZ (n:=p+1) h (by omega) (by omega)
 obtain⟨⟨o1,ps⟩,e2,hk2,hl2,hp2'⟩:=z7D (s:=s) h1 h2 a1 (by omega) hk1
 obtain⟨u3,k3,e3,a3,b3,hk3⟩:=zHZ (n:=q+1) hk2 (by omega) (by omega)
 obtain⟨⟨o4,rs⟩,e4,hk4,hl4,hb4⟩:=z7M (s:=s) h1 h2 hq (by omega) a3 (by omega) hk3
 obtain⟨u5,k5,e5,a5,b5,hk5⟩:=zHZ (n:=3) hk4 (by omega) (by omega)
 dsimp only at hl2 hl4 hb4 hp2'
 obtain⟨⟨o6,ms⟩,e6,hk6,hl6,hm6⟩:=z6n (s:=s) h1 h2 o4 rs (by omega) a5 (by omega) hk5
 dsimp only at e3 e5 hl6 hm6
 rw[yL (x:=p+1) (by omega) (by omega),yL (x:=q+1) (by omega) (by omega)]
 have hinj:∀(i j:Nat) p q,rs[i]?=some p->rs[j]?=some q->p.1=q.1->i=j:=fun i j p q hp hq he=>by
  have:=uS hp
  have:=uS hq
  rw[hb4.nm i p hp,hb4.nm j q hq] at he
  exact z1E (by omega) (by omega) he
 refine⟨(ps,rs,ms),o6,?_,hk6,by grind,by grind,by grind,hb4.bd,⟨by grind,by grind,by grind,hp2'.ok,hb4.ok,hp2'.inj,hinj,fun m hm=>?_⟩,hb4.nm,hp2'.at_⟩
 ·grind
 ·obtain⟨g1,g2,r,g3,g4,g5⟩:=hm6 m hm
  obtain⟨i,hi⟩:=Qv.1 g3
  have hf:=zVG (q:=fun r:qW=>r.1==m.1) hi (by simp[g4])
  grind [zUp,zUZ,zN1,tV]
end
section
def Ok{α:Type}(x:Option α)(Q:α->Prop): Prop:=∃ a,x=some a∧Q a
section
variable {α β:Type}
theorem Ok.ret{a:α}{Q:α->Prop}(h:Q a): Ok (some a) Q:=⟨a,rfl,h⟩
theorem Ok.bind{x:Option α}{f:α->Option β}{I:α->Prop}{Q:β->Prop}(h:Ok x I)(k:∀ a,I a->Ok (f a) Q): Ok (x.bind f) Q:=by
 obtain⟨a,rfl,ha⟩:=h;grind
theorem Ok.ite{c:Bool}{x y:Option α}{Q:α->Prop}(hx:c=true->Ok x Q)(hy:c=false->Ok y Q): Ok (if c=true then x else y) Q:=by grind
theorem Ok.imp{x:Option α}{I Q:α->Prop}(h:Ok x I)(k:∀ a,I a->Q a): Ok x Q:=by grind [Ok]
theorem Ok.of{x:Option α}{a:α}(h:x=some a): Ok x fun b=>b=a:=⟨a,h,rfl⟩
theorem Ok.idx{l:List α}{i:Int}(h0:0≤i)(h1:i<l.length): Ok (zD l i) fun x=>x∈l∧l[i.toNat]?=some x:=by grind [Ok,zD]
theorem Ok.app{l m:List α}(h:l.length+m.length<4294967296): Ok (qT l m) fun z=>z=l++m:=⟨_,yC h,rfl⟩
theorem Ok.cat{l m:zA}(h:l.length+m.length<4294967296): Ok (qE l m) fun z=>z=l++m:=⟨_,qL h,rfl⟩
end
section
variable {s:vH}
theorem Ok.N{n:Int}(h:wX s)(h0:0≤n)(h1:n≤4611686018427387904): Ok (yN s n) fun r=>0≤r.1∧(1≤n->r.1<n)∧wX (s.1,r.2):=by
 by_cases hn:1≤n
 ·obtain⟨v,k,e,a,b,c⟩:=zHZ h hn h1
  exact⟨_,e,a,fun _=>b,c⟩
 ·obtain⟨v,k,hr,hk⟩:=zZm h
  have hn1:n<1:=by omega
  refine⟨(0,k),?_,Int.le_refl _,fun h=>absurd h hn,hk⟩
  simp[yN,hr,zHF,hn1]
theorem Ok.Text{l:List zA}(h:wX s)(h0:l≠[])(h1:l.length≤1000): Ok (zC9 s l) fun r=>r.1∈l∧wX (s.1,r.2):=by
 obtain⟨x,k,e,a,b⟩:=zXC h h0 h1;exact⟨_,e,a,b⟩
theorem Ok.Pick{l:List Int}(h:wX s)(h0:l≠[])(h1:l.length≤1000): Ok (zDV s l) fun r=>r.1∈l∧wX (s.1,r.2):=by grind [zTq,Ok]
theorem Ok.Literal{n:Int}(h:wX s)(h0:1≤n)(h1:n≤26): Ok (zAq s n) fun r=>(∃ j:Nat,(j:Int)<n∧r.1.2=zKv j)∧wX (s.1,r.2):=by
 obtain⟨g,j,k,e,a,b⟩:=zH0 h h0 h1;exact⟨_,e,⟨j,a,rfl⟩,b⟩
end
section
variable {α β σ τ ρ:Type}
def Nx (mk:Nat->σ->τ)(I:Nat->σ->Prop)(Q:ρ->Prop)(i:Nat): τ⊕ρ->Prop
 | .inl t=>∃ s,t=mk i s∧I i s
 | .inr r=>Q r
def Fin (Q:ρ->Prop): τ⊕ρ->Prop
 | .inl _=>False
 | .inr r=>Q r
theorem Ok.forI{B:τ->Option (τ⊕ρ)}(mk:Nat->σ->τ)(l:List α)(I:Nat->σ->Prop)(Q:ρ->Prop)(hB:∀ i x s,l[i]?=some x->I i s->Ok (B (mk i s)) (Nx mk I Q (i+1)))
  (he:∀ s,I l.length s->Ok (B (mk l.length s)) (Fin Q)) (s:σ) (h:I 0 s):Ok (zJ B (mk 0 s)) Q:=by
 refine tK mk l I Q (fun i x s hx hI=>?_) (fun s hI=>?_) s h
 ·obtain⟨o,h1,h2⟩:=hB i x s hx hI
  cases o with
  | inl t=>obtain⟨s',rfl,h3⟩:=h2;grind
  | inr r=>exact .inr ⟨r,h1,h2⟩
 ·obtain⟨o,h1,h2⟩:=he s hI
  cases o with
  | inl t=>exact h2.elim
  | inr r=>exact⟨r,h1,h2⟩
theorem Ok.seqE{x:Option (σ⊕α)}{f:σ->Option α}{I:σ⊕α->Prop}{Q:α->Prop}(h:Ok x I)(k:∀ a,I (.inl a)->Ok (f a) Q)(k2:∀ r,I (.inr r)->Q r): Ok (uQ x f) Q:=by
 obtain⟨a,rfl,ha⟩:=h
 cases a with
 | inl a=>exact k a ha
 | inr r=>exact⟨r,rfl,k2 r ha⟩
end
theorem z2z{α:Type}{l:List α}{i:Nat}{x:α}(h:l[i]?=some x): decide ((i:Int)<len l)=true:=by grind
theorem z7G{α:Type}{l:List α}: decide ((l.length:Int)<len l)=false:=by grind
theorem z47{α:Type}{l:List α}{i:Nat}{x:α}(h:l[i]?=some x): l.set i x=l:=by
 apply Uk
 grind
theorem zMS{α:Type}{l:List α}(h:l.length<4294967296): qT ([]:List α) l=some l:=by grind [qT]
theorem zUA{α:Type}: ∀(l m:List α),l.foldl (fun s x=>s++[x]) m=m++l
 | [],m=>by simp
 | x::l,m=>by rw[Uz,zUA l];simp
end
section
def ed (L:List wU)(a b:Int): Bool:=L.any fun p=>p.1==a&&p.2==b
theorem z1J{L:List wU}{a b:Int}: ed L a b=true↔(a,b)∈L:=by
 unfold ed
 grind
end
section
def att (R:Nat->Nat->Prop)(S:Nat->Prop)(j:Nat): Prop:=∃ m,S m∧R m j
def gr (D:Nat->Prop)(R:Nat->Nat->Prop): Nat->Nat->Prop
 | 0,_=>False
 | k+1,i=>D i∧∀ j,R j i->att R (gr D R k) j
section
variable {D:Nat->Prop}{R:Nat->Nat->Prop}
theorem z3A{k i:Nat}(h:gr D R k i): D i:=by
 cases k with
 | zero=>exact h.elim
 | succ k=>exact h.1
theorem zRs:∀ {k i:Nat},gr D R k i->gr D R (k+1) i
 | 0,_,h=>h.elim
 | k+1,i,h=>⟨h.1,fun j hj=>by obtain⟨m,h1,h2⟩:=h.2 j hj;exact⟨m,zRs h1,h2⟩⟩
theorem z7c{k m i:Nat}(h:k≤m)(hk:gr D R k i): gr D R m i:=by
 induction m with
 | zero=>grind
 | succ m ih =>
  grind [zRs]
theorem z2R:∀ {k i j:Nat},gr D R k i->gr D R k j->¬ R i j
 | 0,_,_,h,_,_=>h.elim
 | k+1,i,j,hi,hj,hr=>by
  obtain⟨m,hm,hmi⟩:=hj.2 i hr
  obtain⟨m',hm',hmm⟩:=hi.2 m hmi
  exact z2R hm' hm hmm
theorem z0w{k:Nat}(h:∀ i,gr D R (k+1) i->gr D R k i): ∀ m,k≤m->∀ i,gr D R m i->gr D R k i:=by
 intro m
 induction m with
 | zero=>grind
 | succ m ih =>
  intro hk i hi
  by_cases he:k=m+1
  ·grind
  ·exact h i ⟨hi.1,fun j hj=>by grind [att,gr]⟩
open Classical in
theorem z3n{N:Nat}(hD:∀ i,D i->i<N): ∃ k,k≤N∧∀ i,gr D R (k+1) i->gr D R k i:=by
 apply Classical.byContradiction
 intro hno
 have hstep:∀ k,k≤N->∃ i,gr D R (k+1) i∧¬ gr D R k i:=fun k hk=>by
  simp_all
 let c:Nat->Nat:=fun k=>((List.range N).filter fun i=>decide (gr D R k i)).length
 have hc:∀ k,k≤N->c k<c (k+1):=by
  intro k hk
  obtain⟨i,h1,h2⟩:=hstep k hk
  have hi:=hD i (z3A h1)
  have hsub:∀ l:List Nat,(l.filter fun i=>decide (gr D R k i)).length≤(l.filter fun i=>decide (gr D R (k+1) i)).length∧(i∈l->(l.filter fun i=>decide (gr D R k i)).length<(l.filter fun i=>decide (gr D R (k+1) i)).length):=by
   intro l
   induction l with
   | nil=>simp
   | cons x l ih =>
    obtain⟨ih1,ih2⟩:=ih
    by_cases hx:gr D R k x
    ·have hx':=zRs hx
     grind
    grind
  exact(hsub (List.range N)).2 (UG.2 hi)
 have hbig:∀ k,k≤N+1->k≤c k:=by
  intro k
  induction k with
  | zero=>grind
  | succ k ih=>grind
 have h1:=hbig (N+1) (Qt _)
 grind
theorem z6q{N:Nat}(hD:∀ i,D i->i<N){m i:Nat}(h:gr D R m i): gr D R N i:=by
 obtain⟨k,hk,hs⟩:=z3n (R:=R) hD
 by_cases hm:m≤k
 ·grind [z7c]
 ·exact z7c hk (z0w hs m (by omega) i h)
end
def wP (N:Nat)(f:Nat->Int): List Int:=(List.range N).map f
theorem zMO (N:Nat)(f:Nat->Int): (wP N f).length=N:=by simp[wP]
theorem zRM{N i:Nat}(f:Nat->Int)(h:i<N): zD (wP N f) (i:Int)=some (f i):=by
 rw[tV]
 simp[wP,h]
theorem zYw{N i:Nat}(f:Nat->Int)(v:Int): List.set (wP N f) i v=wP N fun j=>if j=i then v else f j:=by
 unfold wP
 apply Uk
 grind
theorem zC5{N:Nat}{f g:Nat->Int}(h:∀ i,i<N->f i=g i): wP N f=wP N g:=by grind [wP,List.map_congr_left]
theorem z0f{σ τ ρ:Type}{B:τ->Option (τ⊕ρ)}(mk:σ->Nat->τ)(M:Nat)(I:Nat->σ->Prop)(Q:ρ->Prop)
  (hB:∀ i s,i<M->I i s->(∃ s',B (mk s i)=some (.inl (mk s' (i+1)))∧I (i+1) s')∨∃ r,B (mk s i)=some (.inr r)∧Q r)
  (he:∀ s,I M s->∃ r,B (mk s M)=some (.inr r)∧Q r):∀ s,I 0 s->∃ r,zJ B (mk s 0)=some r∧Q r:=by
 have key:∀ n i s,i+n=M->I i s->∃ r,zJ B (mk s i)=some r∧Q r:=by
  intro n
  induction n with
  | zero =>
   intro i s h hi
   rw[QU] at h
   grind [yS]
  | succ n ih =>
   grind [yS]
 simp_all
section
variable (N:Nat)(L:List wU)
abbrev edN (i j:Nat): Prop:=ed L (i:Int) (j:Int)=true
abbrev tU (k i:Nat): Prop:=gr (· < N) (edN L) k i
open Classical in
noncomputable def uD (k i:Nat): Int:=if tU N L k i then 1 else if att (edN L) (tU N L k) i then 2 else 3
def yV (k i:Nat): Prop:=tU N L (k+1) i∧¬ tU N L k i
theorem z7p{k i:Nat}: uD N L k i=3↔¬ tU N L k i∧¬ att (edN L) (tU N L k) i:=by
 unfold uD
 grind
theorem lab2{k i:Nat}: uD N L k i=2↔¬ tU N L k i∧att (edN L) (tU N L k) i:=by
 unfold uD
 grind
theorem lab1{k i:Nat}: uD N L k i=1↔tU N L k i:=by
 unfold uD
 grind
theorem zP1{k i:Nat}(h:tU N L k i): ¬ att (edN L) (tU N L k) i:=fun⟨m,h1,h2⟩=>z2R h1 h h2
theorem z3C{k i:Nat}: uD N L k i=2↔att (edN L) (tU N L k) i:=by
 rw[lab2]
 exact⟨fun h=>h.2,fun h=>⟨fun hg=>zP1 N L hg h,h⟩⟩
theorem z73{k i:Nat}(hi:i<N)(hR:∀ a b:Int,ed L a b=true->∃ m,m<N∧a=(m:Int)): (uD N L k i=3∧∀ b,b<N->edN L b i->uD N L k b=2)↔yV N L k i:=by
 constructor
 ·rintro ⟨h1,h2⟩
  rw[z7p] at h1
  refine⟨⟨hi,fun j hj=>?_⟩,h1.1⟩
  obtain⟨m,hm,he⟩:=hR _ _ hj
  have:j=m:=by omega
  subst this
  exact(z3C N L).1 (h2 j hm hj)
 ·rintro ⟨h1,h2⟩
  refine⟨(z7p N L).2 ⟨h2,fun⟨m,h3,h4⟩=>?_⟩,fun b _ hb=>(z3C N L).2 (h1.2 b hb)⟩
  exact zP1 N L h3 (h1.2 m h4)
theorem zZo{k i:Nat}: uD N L (k+1) i=(open Classical in if yV N L k i then 1 else if uD N L k i=3∧att (edN L) (yV N L k) i then 2 else uD N L k i):=by
 by_cases hn:yV N L k i
 ·rw[Qm hn];exact(lab1 N L).2 hn.1
 ·rw[Qa hn]
  by_cases h1:tU N L k i
  ·have h2:tU N L (k+1) i:=zRs h1
   have h3:uD N L k i=1:=(lab1 N L).2 h1
   rw[(lab1 N L).2 h2,Qa (by grind),h3]
  ·have h2:¬ tU N L (k+1) i:=fun h=>hn ⟨h,h1⟩
   by_cases h3:att (edN L) (tU N L k) i
   ·have h4:uD N L k i=2:=(z3C N L).2 h3
    have h5:att (edN L) (tU N L (k+1)) i:=by obtain⟨m,h6,h7⟩:=h3;exact⟨m,zRs h6,h7⟩
    rw[(z3C N L).2 h5,Qa (by grind),h4]
   ·have h4:uD N L k i=3:=(z7p N L).2 ⟨h1,h3⟩
    by_cases h5:att (edN L) (yV N L k) i
    ·rw[Qm ⟨h4,h5⟩]
     obtain⟨m,h6,h7⟩:=h5
     exact(z3C N L).2 ⟨m,h6.1,h7⟩
    ·rw[Qa (fun h=>h5 h.2),h4]
     refine(z7p N L).2 ⟨h2,fun⟨m,h6,h7⟩=>?_⟩
     by_cases h8:tU N L k m
     ·exact h3 ⟨m,h8,h7⟩
     ·exact h5 ⟨m,⟨h6,h8⟩,h7⟩
variable {N L}(hN:N≤64)(hL:L.length<4294967296)(hR:∀ a b:Int,ed L a b=true->∃ m,m<N∧a=(m:Int))
include hN hL
end
end
section
def inN (N:Nat)(L:List wU): Prop:=∀ a b:Int,ed L a b=true->∃ i j:Nat,i<N∧j<N∧a=(i:Int)∧b=(j:Int)
section
variable {N:Nat}{L:List wU}(hV:inN N L){X:Nat}(hX:X<18446744073709551616)
include hV hX
end
section
variable {N:Nat}(hN:N≤40){L:List wU}(hV:inN N L)(hL:L.length<4294967296){gone:List Int}(hg:∀ x∈gone,0≤x∧x<N)(hgl:gone.length<4294967296)
include hV
include hN hg
end
end
section
theorem zZz{σ ρ:Type}{B B':σ->Option (σ⊕ρ)}(I:σ->Prop)(h:∀ s,I s->B s=B' s)(hs:∀ s s',I s->B s=some (.inl s')->I s'): ∀ n s,I s->tY B n s=tY B' n s:=by
 intro n
 induction n with
 | zero=>intro s _;rfl
 | succ n ih =>
  grind [tY]
theorem z0X{σ ρ:Type}{B B':σ->Option (σ⊕ρ)}(I:σ->Prop)(h:∀ s,I s->B s=B' s)(hs:∀ s s',I s->B s=some (.inl s')->I s')(s:σ)(hI:I s): zJ B s=zJ B' s:=by
 have hit:=zZz I h hs
 grind [zJ,zIp]
def zVa (n:Int)(p:wU): Bool:=decide (p.1<0)||decide (n≤p.1)||decide (p.2<0)||decide (n≤p.2)
theorem zVT (x y:wU): zIR x y=some (orF [z3j x.1 y.1,z3j x.2 y.2]):=by
 unfold zIR
 rw[z1G,z1G]
 simp only[zob]
 rw[or_int _ (by simp)]
 rfl
theorem zXT (x y:wU): decide (0≤orF [z3j x.1 y.1,z3j x.2 y.2])=!lt2 x y:=by
 have h:decide (orF [z3j x.1 y.1,z3j x.2 y.2] < 0)=lt2 x y:=z6H (by rw[z6H (r:=[]) (b:=false) (by simp[orF])];simp)
 grind
def zK7 (n:Int)(L:List wU)(i:Nat): Option Int:=match L[i]? with
 | none=>some 0
 | some p=>if zVa n p then some 1 else if i=0 then none else match L[i-1]? with
  | none=>none
  | some q=>if !lt2 q p then some 8 else none
theorem zIW (n:Int)(L:List wU)(hL:L.length<4294967296)(i:Nat)(hi:i≤L.length): zBd (n,L) (i:Int)=match zK7 n L i with
  | some e=>some (.inr e)
  | none=>some (.inl ((i+1:Nat):Int)):=by
 unfold zBd zK7
 by_cases he:i=L.length
 ·grind
 ·have hx:L[i]?=some L[i]:=Qi (by omega)
  generalize L[i]=x at hx
  simp only[vY hx,Qe,wV hx,zob,hx,vO hx hL]
  have hb:(decide ((if x.2<x.1 then x.2 else x.1)<0)||decide (n≤(if x.2 > x.1 then x.2 else x.1)))=zVa n x:=by
   rw[UJ]
   simp only[zVa,QI,Ql]
   split <;> split <;> omega
  rw[hb]
  cases zVa n x with
  | true=>simp
  | false =>
   simp only[zbf,Qh]
   by_cases h0:i=0
   ·grind
   ·obtain⟨j,rfl⟩:∃ j,i=j+1:=⟨i-1,by omega⟩
    have hy:L[j]?=some L[j]:=Qi (by omega)
    generalize L[j]=y at hy
    have hd:decide (0<((j+1:Nat):Int))=true:=by rw[Ql];omega
    have hw:zF (((j+1:Nat):Int)-1)=(j:Int):=by rw[yL (by omega) (by omega)];omega
    simp only[hd,Qe,hw,wV hy,zob,zVT,zXT,Nat.add_sub_cancel,hy,h0,Qh]
    grind
theorem zS2 (n:Int)(L:List wU)(hL:L.length<4294967296)(i:Nat)(hi:i≤L.length): zDg (n,L) (i:Int)=match zK7 n L i with
  | some e=>some (.inr e)
  | none=>some (.inl ((i+1:Nat):Int)):=by
 unfold zDg zK7
 by_cases he:i=L.length
 ·grind
 ·have hx:L[i]?=some L[i]:=Qi (by omega)
  generalize L[i]=x at hx
  simp only[vY hx,Qe,wV hx,zob,hx,vO hx hL]
  have hb:(decide (x.1<0)||(decide (n≤x.1)||(decide (x.2<0)||decide (n≤x.2))))=zVa n x:=by simp[zVa,UE]
  rw[hb]
  cases zVa n x with
  | true=>simp
  | false =>
   simp only[zbf,Qh]
   by_cases h0:i=0
   ·grind
   ·obtain⟨j,rfl⟩:∃ j,i=j+1:=⟨i-1,by omega⟩
    have hy:L[j]?=some L[j]:=Qi (by omega)
    generalize L[j]=y at hy
    have hd:decide (0<((j+1:Nat):Int))=true:=by rw[Ql];omega
    have hw:zF (((j+1:Nat):Int)-1)=(j:Int):=by rw[yL (by omega) (by omega)];omega
    simp only[hd,Qe,hw,wV hy,zob,Nat.add_sub_cancel,hy,h0,Qh]
    grind
def zZi (g:uF): Prop:=0≤g.1∧g.1≤40∧∀ p∈g.2,zVa g.1 p=false
theorem z2C (g:uF)(hL:g.2.length<4294967296): ∃ e,zCj g=some e∧zBt g=some e∧(e=0->zZi g):=by
 obtain⟨n,L⟩:=g
 unfold zCj zBt
 cases h0:(decide (n<0)||decide (40<n)) with
 | true=>grind
 | false =>
  simp only[QT,QN] at h0
  simp only[zbf,Qh]
  have hc:zJ (zDg (n,L)) 0=zJ (zBd (n,L)) 0:=by
   refine z0X (fun s=>∃ i:Nat,s=(i:Int)∧i≤L.length) ?_ ?_ 0 ⟨0,rfl,Q9 _⟩
   ·rintro s ⟨i,rfl,hi⟩
    rw[zIW n L hL i hi,zS2 n L hL i hi]
   ·rintro s s' ⟨i,rfl,hi⟩ hb
    rw[zS2 n L hL i hi] at hb
    cases hv:zK7 n L i with
    | some e=>grind
    | none =>
     rw[hv] at hb
     simp only[Qg,Sum.inl.injEq] at hb
     refine⟨i+1,hb.symm,?_⟩
     grind [zK7]
  have h:=tK (B:=zBd (n,L)) (fun i (_:Unit)=>(i:Int)) L (fun i _=>∀ p∈L.take i,zVa n p=false) (fun e=>e=0->∀ p∈L,zVa n p=false) ?_ ?_ () (by simp)
  ·grind [zZi]
  ·intro i x _ hx hI
   have hi:=uS hx
   rw[zIW n L hL i (by omega)]
   cases hv:zK7 n L i with
   | some e =>
    refine .inr ⟨e,rfl,fun he=>?_⟩
    grind [zK7]
   | none =>
    refine .inl ⟨(),rfl,fun p hp=>?_⟩
    rw[zCp hx,Qk,Qf] at hp
    rcases hp with hp | rfl
    ·grind
    grind [zK7]
  ·intro _ hI
   rw[zIW n L hL _ (Qt _)]
   refine⟨0,by simp[zK7],fun _=>?_⟩
   grind
theorem zZi.inN{N:Nat}{L:List wU}(h:zZi ((N:Int),L)): inN N L:=fun a b he=>by
 have:=h.2.2 _ (z1J.1 he)
 simp only[zVa,QT,QN] at this
 exact⟨a.toNat,b.toNat,by omega,by omega,by omega,by omega⟩
end
section
structure xM (N:Nat)(L:List wU): Prop where
 hN:N≤40
 inr:∀ p∈L,zVa (N:Int) p=false
 asc:yA lt2 L
theorem zVK{N:Nat}{p:wU}(h:zVa (N:Int) p=false): ∃ i j:Nat,i<N∧j<N∧p=((i:Int),(j:Int)):=by
 obtain⟨a,b⟩:=p
 simp only[zVa,QT,QN] at h
 exact⟨a.toNat,b.toNat,by omega,by omega,by grind⟩
section
variable {N:Nat}{L:List wU}
theorem xM.nodup (h:xM N L): L.Nodup:=h.asc.imp fun {x y} hh e=>by grind
theorem xM.inN (h:xM N L): inN N L:=fun a b he=>by
 obtain⟨i,j,h1,h2,h3⟩:=zVK (h.inr _ (z1J.1 he))
 simp only[Prod.mk.injEq] at h3
 exact⟨i,j,h1,h2,h3.1,h3.2⟩
theorem zWg{α:Type}[DecidableEq α]: ∀ {l m:List α},l.Nodup->(∀ x∈l,x∈m)->l.length≤m.length
 | [],_,_,_=>Q9 _
 | x::l,m,hn,hs=>by
  obtain⟨h1,h2⟩:=UU.1 hn
  have hx:x∈m:=hs x Qz
  have h3:=zWg (m:=m.erase x) h2 fun y hy=>(List.mem_erase_of_ne (fun e=>by grind)).2 (hs y (Qq _ hy))
  grind
theorem xM.len (h:xM N L): L.length≤1600:=by
 have h1:=zWg (m:=(yP N).flatMap fun i=>(yP N).map fun j=>(i,j)) h.nodup fun p hp=>by
  obtain⟨i,j,hi,hj,rfl⟩:=zVK (h.inr p hp)
  exact Ui.2 ⟨(i:Int),zHc.2 ⟨by omega,by omega⟩,QB.2 ⟨(j:Int),zHc.2 ⟨by omega,by omega⟩,rfl⟩⟩
 have h2:=zKG (fun i:Int=>(yP N).map fun j:Int=>(i,j)) N (yP N) fun x _=>by simp[zFa]
 rw[zFa] at h2
 have h3:N*N≤40*40:=UN h.hN h.hN
 omega
theorem xM.len' (h:xM N L): L.length<4294967296:=by have:=h.len;omega
theorem zUJ{n:Int}{i:Nat}{p:wU}(hp:L[i]?=some p): zK7 n L i=none↔zVa n p=false∧(i=0∨∃ q,L[i-1]?=some q∧lt2 q p=true):=by
 unfold zK7
 grind
theorem vLoop (n:Int)(hL:L.length<4294967296): ∃ e,zJ (zBd (n,L)) 0=some e∧(e=0↔∀ i,i<L.length->zK7 n L i=none):=by
 have h:=tK (B:=zBd (n,L)) (fun i (_:Unit)=>(i:Int)) L (fun i _=>∀ j,j<i->zK7 n L j=none) (fun e=>e=0↔∀ i,i<L.length->zK7 n L i=none) ?_ ?_ () (fun j hj=>absurd hj (Nat.not_lt_zero _))
 ·grind
 ·intro i x _ hx hI
  have hi:=uS hx
  rw[zIW n L hL i (by omega)]
  cases hv:zK7 n L i with
  | some e =>
   refine .inr ⟨e,rfl,?_⟩
   grind [zK7]
  | none =>
   refine .inl ⟨(),rfl,fun j hj=>?_⟩
   grind
 ·intro _ hI
  rw[zIW n L hL _ (Qt _)]
  exact⟨0,by simp[zK7],by grind⟩
theorem zZP{α:Type}{lt:α->α->Bool}(O:zWp lt): ∀ {l:List α},(∀ i x y,l[i]?=some x->l[i+1]?=some y->lt x y=true)->yA lt l
 | [],_=>List.Pairwise.nil
 | [x],_=>List.pairwise_singleton _ _
 | x::y::l,h=>by
  have h1:=zZP O (l:=y::l) fun i a b ha hb=>h (i+1) a b (by grind) (by grind)
  have h2:lt x y=true:=h 0 x y rfl rfl
  refine QP.2 ⟨fun z hz=>?_,h1⟩
  rcases QG.1 hz with rfl | hz
  ·exact h2
  ·exact O.trans _ _ _ h2 ((QP.1 h1).1 z hz)
theorem z5B{α:Type}{lt:α->α->Bool}{l:List α}(h:yA lt l){i:Nat}{x y:α}(hx:l[i]?=some x)(hy:l[i+1]?=some y): lt x y=true:=by
 obtain⟨h1,rfl⟩:=Qj.1 hx
 obtain⟨h2,rfl⟩:=Qj.1 hy
 exact Uw.1 h i (i+1) h1 h2 (Nat.lt_succ_self i)
theorem zTz{n:Int}: (∀ i,i<L.length->zK7 n L i=none)↔(∀ p∈L,zVa n p=false)∧yA lt2 L:=by
 constructor
 ·intro h
  have h1:∀(i:Nat) p,L[i]?=some p->zVa n p=false∧(i=0∨∃ q,L[i-1]?=some q∧lt2 q p=true):=fun i p hp=>(zUJ hp).1 (h i (uS hp))
  refine⟨fun p hp=>?_,zZP ord2 fun i x y hx hy=>?_⟩
  ·grind [List.getElem?_of_mem]
  grind
 ·rintro ⟨h1,h2⟩ i hi
  have hp:L[i]?=some L[i]:=Qi hi
  refine(zUJ hp).2 ⟨h1 _ (List.getElem_mem hi),?_⟩
  by_cases h0:i=0
  ·grind
  ·have hq:L[i-1]?=some L[i-1]:=Qi (by omega)
   exact .inr ⟨_,hq,z5B h2 hq (by grind)⟩
theorem zJM (n:Int)(hL:L.length<4294967296): ∃ e,zCj (n,L)=some e∧zBt (n,L)=some e∧(e=0↔∃ N:Nat,n=(N:Int)∧xM N L):=by
 obtain⟨e,h1,h2,h3⟩:=z2C (n,L) hL
 refine⟨e,h1,h2,?_⟩
 constructor
 ·intro he
  obtain⟨k1,k2,k3⟩:=h3 he
  obtain⟨N,rfl⟩:=Q1 k1
  refine⟨N,rfl,by grind,k3,?_⟩
  subst he
  unfold zCj at h1
  have hc:(decide ((N:Int)<0)||decide (40<(N:Int)))=false:=by
   have:(N:Int)≤40:=k2
   simp;omega
  simp only[hc,zbf,Qh] at h1
  obtain⟨e',h4,h5⟩:=vLoop (L:=L) (N:Int) hL
  rw[h4] at h1
  exact(zTz.1 (h5.1 (QE h1))).2
 ·rintro ⟨N,rfl,hG⟩
  unfold zCj at h1
  have hc:(decide ((N:Int)<0)||decide (40<(N:Int)))=false:=by
   have:=hG.hN
   simp;omega
  simp only[hc,zbf,Qh] at h1
  obtain⟨e',h4,h5⟩:=vLoop (L:=L) (N:Int) hL
  rw[h4] at h1
  rw[←QE h1]
  exact h5.2 (zTz.2 ⟨hG.inr,hG.asc⟩)
theorem xM.v1 (h:xM N L): zCj ((N:Int),L)=some 0:=by
 obtain⟨e,h1,_,h3⟩:=zJM (N:Int) h.len'
 grind
theorem xM.v2 (h:xM N L): zBt ((N:Int),L)=some 0:=by
 obtain⟨e,_,h1,h3⟩:=zJM (N:Int) h.len'
 grind
theorem xM.valid (h:xM N L): zIB ((N:Int),L)=some ((N:Int),L):=by
 unfold zIB;rw[h.v2];rfl
theorem zXs{n:Int}{l:List wN}{g:uF}(h:zSm n l=(g,0)): ∃ N:Nat,n=(N:Int)∧g.1=(N:Int)∧xM N g.2∧g.2=nrm lt2 (zPL l):=by
 unfold zSm at h
 cases h0:(decide (n<0)||decide (40<n)) with
 | true=>grind
 | false =>
  cases h1:l.any (zX0 n) with
  | true=>grind
  | false =>
   simp only[h0,h1,zbf,Qh,Prod.mk.injEq,and_true] at h
   subst h
   simp only[QT,QN] at h0
   refine⟨n.toNat,by omega,by grind,⟨by omega,fun p hp=>?_,(zOu ord2 _).1⟩,rfl⟩
   have hp:p∈zPL l:=((zOu ord2 _).2 p).1 hp
   obtain⟨a,ha,rfl⟩:=QB.1 hp
   have:=List.any_eq_false.1 h1 a ha
   simp only[zX0,QI,Ql,not_or] at this
   grind [zVa]
abbrev zU2 (N:Nat)(L:List wU)(i:Int): List Int:=(yP N).filter fun j=>ed L j i
theorem zL7 (h:xM N L)(i:Int): zDL ((N:Int),L) i=some (zU2 N L i):=by
 unfold zDL
 rw[h.valid]
 simp only[zob]
 have hl:=zFn (B:=zDF ((N:Int),L) i) L (fun s p=>if p.2==i then s++[p.1] else s) id (fun i s=>s.length≤i) ([]:List Int) (by simp) ?_ ?_
 ·rw[hl.1,zGE (fun p:wU=>p.2==i) (·.1)]
  simp only[id,QA,Qg]
  apply yA.ext zEV ?_ ((z7Z N).filter _)
  ·intro x
   rw[QB,QR,zHc,z1J]
   constructor
   ·rintro ⟨p,hp,rfl⟩
    obtain⟨h1,h2⟩:=QR.1 hp
    have h3:p.2=i:=by simpa using h2
    obtain⟨a,b,h4,h5,h6⟩:=zVK (h.inr p h1)
    grind
   simp_all
  ·have h1:=h.asc.filter fun p:wU=>p.2==i
   grind
 ·intro k p s hp hI
  have:=h.len
  have:=uS hp
  unfold zDF
  simp only[vY hp,Qe,wV hp,zob,vO hp h.len']
  by_cases hc:(p.2==i)=true
  ·simp only[hc,Qe]
   rw[yC (by simp;omega)]
   grind
  grind
 ·intro s _
  unfold zDF
  simp[len]
end
end
section
theorem z2b (N:Nat)(f:Nat->Int): wP (N+1) f=wP N f++[f N]:=by simp[wP,List.range_succ]
section
variable (N:Nat)(L:List wU)
noncomputable def rnk:Nat->Nat->Int
 | 0,_=>0
 | k+1,i=>if uD N L (k+1) i=uD N L k i then rnk k i else((k+1:Nat):Int)
theorem z6E:∀ k i,rnk N L k i≤(k:Int)
 | 0,_=>Int.le_refl _
 | k+1,i=>by
  unfold rnk
  have:=z6E k i
  split <;> omega
theorem now3{k i:Nat}(h:yV N L k i): uD N L k i=3:=(z7p N L).2 ⟨h.2,fun⟨m,h3,h4⟩=>zP1 N L h3 (h.1.2 m h4)⟩
theorem zVE{k:Nat}(h:∀ i,¬ yV N L k i): ∀ m,k≤m->∀ i,uD N L m i=uD N L k i:=by
 intro m hm i
 have hs:=z0w (D:=(· < N)) (R:=edN L) (k:=k) fun i hi=>Classical.byContradiction fun hn=>h i ⟨hi,hn⟩
 have he:∀ i,tU N L m i↔tU N L k i:=fun i=>⟨hs m hm i,z7c hm⟩
 unfold uD
 have ha:att (edN L) (tU N L m) i↔att (edN L) (tU N L k) i:=⟨fun⟨j,h1,h2⟩=>⟨j,(he j).1 h1,h2⟩,fun⟨j,h1,h2⟩=>⟨j,(he j).2 h1,h2⟩⟩
 by_cases h1:tU N L k i
 ·rw[Qm ((he i).2 h1),Qm h1]
 ·rw[Qa (fun h=>h1 ((he i).1 h)),Qa h1]
  by_cases h2:att (edN L) (tU N L k) i
  ·rw[Qm (ha.2 h2),Qm h2]
  ·rw[Qa (fun h=>h2 (ha.1 h)),Qa h2]
theorem z3d{k:Nat}(h:∀ i,¬ yV N L k i): ∀ m,k≤m->∀ i,rnk N L m i=rnk N L k i:=by
 intro m hm i
 induction m with
 | zero=>rw[show k=0 by omega]
 | succ m ih =>
  by_cases he:k=m+1
  ·rw[he]
  ·have h1:uD N L (m+1) i=uD N L m i:=by rw[zVE N L h (m+1) hm,zVE N L h m (by omega)]
   rw[rnk,Qm h1,ih (by omega)]
theorem z5J{i:Nat}: ¬ yV N L N i:=fun h=>h.2 (z6q (D:=(· < N)) (fun _ h=>h) h.1)
end
section
variable {N:Nat}{L:List wU}
noncomputable abbrev lb (N:Nat)(L:List wU)(k:Nat): List Int:=wP N (uD N L k)
noncomputable abbrev rn (N:Nat)(L:List wU)(k:Nat): List Int:=wP N (rnk N L k)
noncomputable def zQe (N:Nat)(L:List wU): List Int:=lb N L (N+1)
noncomputable def z6M (N:Nat)(L:List wU): List Int:=rn N L (N+1)
theorem z7Y:lb N L 0=wP N fun _=>3:=zC5 fun i _=>(z7p N L).2 ⟨fun h:tU N L 0 i=>h.elim,fun⟨m,(h:tU N L 0 m),_⟩=>h.elim⟩
theorem end_lb{k:Nat}(hk:k≤N)(h:∀ i,¬ yV N L k i): lb N L k=zQe N L∧rn N L k=z6M N L:=by
 refine⟨zC5 fun i _=>(zVE N L h (N+1) (by omega) i).symm,zC5 fun i _=>(z3d N L h (N+1) (by omega) i).symm⟩
theorem xM.hR (h:xM N L): ∀ a b:Int,ed L a b=true->∃ m,m<N∧a=(m:Int):=fun a b he=>by
 obtain⟨i,j,h1,_,h3,_⟩:=h.inN a b he
 exact⟨i,h1,h3⟩
theorem z1t{i:Int}{q:Nat}{x:Int}(h:(zU2 N L i)[q]?=some x): ∃ a:Nat,x=(a:Int)∧a<N∧ed L (a:Int) i=true:=by
 obtain⟨h1,h2⟩:=QR.1 (zE3 h)
 obtain⟨h3,h4⟩:=zHc.1 h1
 obtain⟨a,rfl⟩:=Q1 h3
 exact⟨a,rfl,by omega,h2⟩
theorem zZS (i:Int): (zU2 N L i).length≤N:=Qy (Q4 _ _) (by rw[zFa];exact Qt _)
theorem z63 (hN:N≤40): zJ (zEB ((N:Int),L)) (([]:List Int),([]:List Int),0)=some (lb N L 0,rn N L 0):=by
 have h:=tK (B:=zEB ((N:Int),L)) (fun i (s:List Int×List Int)=>(s.1,s.2,(i:Int))) (yP N) (fun i s=>s=(wP i (fun _=>3),wP i fun _=>0)) (fun r=>r=(wP N (fun _=>3),wP N fun _=>0)) ?_ ?_ ([],[]) rfl
 ·obtain⟨r,h1,rfl⟩:=h
  rw[z7Y];exact h1
 ·rintro i x s hx rfl
  obtain⟨rfl,hi⟩:=zPv hx
  refine .inl ⟨(wP (i+1) (fun _=>3),wP (i+1) fun _=>0),?_,rfl⟩
  have hd:decide ((i:Int)<(N:Int))=true:=by simp;omega
  unfold zEB
  simp only[hd,Qe]
  rw[yC (by simp[zMO];omega),yC (by simp[zMO];omega)]
  simp only[zob,z2b,wI i (by omega)]
 ·rintro s rfl
  rw[zFa]
  refine⟨_,?_,rfl⟩
  unfold zEB
  simp
theorem z6r (f:Nat->Int){l:List Int}(hl:∀(q:Nat) x,l[q]?=some x->∃ a:Nat,x=(a:Int)∧a<N)(hb:l.length<4294967296)(ok:Bool):
  zJ (zDy l (wP N f)) (ok,0)=some (ok&&l.all fun b=>f b.toNat==2):=by
 have h:=zFn (B:=zDy l (wP N f)) l (fun ok b=>ok&&f b.toNat==2) id (fun _ _=>True) ok trivial ?_ ?_
 ·rw[h.1]
  have:∀(l:List Int) (ok:Bool),l.foldl (fun ok b=>ok&&f b.toNat==2) ok=(ok&&l.all fun b=>f b.toNat==2):=by
   intro l
   induction l with
   | nil=>intro b;simp
   | cons x l ih=>intro b;rw[Uz,ih,UD,Bool.and_assoc]
  rw[this];rfl
 ·intro i x s hx _
  obtain⟨a,rfl,ha⟩:=hl i x hx
  unfold zDy
  simp only[vY hx,Qe,wV hx,zob,vO hx hb,zRM f ha,Qw]
  cases s <;> simp
 ·intro s _
  unfold zDy
  simp[len]
theorem z2K (h:xM N L){k i:Nat}(hi:i<N): (uD N L k i==3&&(zU2 N L (i:Int)).all fun b=>uD N L k b.toNat==2)=true↔yV N L k i:=by
 rw[←z73 N L hi h.hR,Qb,QH,QK]
 refine and_congr_right fun _=>⟨fun hh b hb he=>?_,fun hh x hx=>?_⟩
 ·have:=hh (b:Int) (QR.2 ⟨zHc.2 ⟨by omega,by omega⟩,he⟩)
  simpa using this
 ·obtain⟨h1,h2⟩:=QR.1 hx
  obtain⟨h3,h4⟩:=zHc.1 h1
  obtain⟨a,rfl⟩:=Q1 h3
  simpa using hh a (by omega) h2
open Classical in
noncomputable def zTR (N:Nat)(L:List wU)(k i:Nat): Int:=if yV N L k i then 1 else uD N L k i
open Classical in
noncomputable def zYj (N:Nat)(L:List wU)(k i:Nat): Int:=if yV N L k i then((k+1:Nat):Int) else rnk N L k i
open Classical in
theorem z7L (h:xM N L){k:Nat}(hk:k≤100): ∃ c:Bool,(c=true↔∃ i,yV N L k i) ∧
  zJ (zDo ((N:Int),L) (lb N L k) (lb N L k,rn N L k,((k+1:Nat):Int))) (lb N L k,rn N L k,false,0)=some (wP N (zTR N L k),wP N (zYj N L k),c):=by
 have hN:=h.hN
 have hl:=tK (B:=zDo ((N:Int),L) (lb N L k) (lb N L k,rn N L k,((k+1:Nat):Int))) (fun i (s:List Int×List Int×Bool)=>(s.1,s.2.1,s.2.2,(i:Int))) (yP N)
  (fun i s=>s.1=wP N (fun j=>if j<i∧yV N L k j then 1 else uD N L k j)∧s.2.1=wP N (fun j=>if j<i∧yV N L k j then((k+1:Nat):Int) else rnk N L k j)∧(s.2.2=true↔∃ j,j<i∧yV N L k j))
  (fun r=>r.1=wP N (zTR N L k)∧r.2.1=wP N (zYj N L k)∧(r.2.2=true↔∃ j,yV N L k j)) ?_ ?_ (lb N L k,rn N L k,false) ⟨by simp,by simp,by simp⟩
 ·obtain⟨⟨r1,r2,r3⟩,h1,rfl,rfl,h2⟩:=hl
  exact⟨r3,h2,h1⟩
 ·rintro i x ⟨s1,s2,s3⟩ hx ⟨rfl,rfl,h3⟩
  obtain⟨rfl,hi⟩:=zPv hx
  have hd:decide ((i:Int)<(N:Int))=true:=by simp;omega
  have hpl:=zZS (N:=N) (L:=L) (i:Int)
  unfold zDo
  simp only[hd,Qe,zRM _ hi,zob,zL7 h,wI i (by omega),Qw]
  rw[z6r _ (fun q x hx=>by obtain⟨a,h1,h2,_⟩:=z1t hx;exact⟨a,h1,h2⟩) (by omega)]
  simp only[zob]
  by_cases hn:yV N L k i
  ·have hc:=(z2K h hi).2 hn
   refine .inl ⟨(wP N (fun j=>if j<i+1∧yV N L k j then 1 else uD N L k j),wP N (fun j=>if j<i+1∧yV N L k j then((k+1:Nat):Int) else rnk N L k j),true),?_,rfl,rfl,by simp;exact⟨i,by omega,hn⟩⟩
   simp only[hc,Qe,zYw]
   have e1:(wP N fun j=>if j=i then 1 else if j<i∧yV N L k j then 1 else uD N L k j)=wP N (fun j=>if j<i+1∧yV N L k j then 1 else uD N L k j):=by
    apply zC5
    intro q _
    by_cases hq:q=i
    ·subst hq;simp[hn]
    ·have e:(q<i+1)=(q<i):=by rw[eq_iff_iff];omega
     simp[hq,e]
   have e2:(wP N fun j=>if j=i then((k+1:Nat):Int) else if j<i∧yV N L k j then((k+1:Nat):Int) else rnk N L k j)=wP N (fun j=>if j<i+1∧yV N L k j then((k+1:Nat):Int) else rnk N L k j):=by
    apply zC5
    intro q _
    by_cases hq:q=i
    ·subst hq;simp[hn]
    ·have e:(q<i+1)=(q<i):=by rw[eq_iff_iff];omega
     simp[hq,e]
   rw[e1,e2]
  ·have hc:(uD N L k i==3&&(zU2 N L (i:Int)).all fun b=>uD N L k b.toNat==2)=false:=by
    cases hb:(uD N L k i==3&&(zU2 N L (i:Int)).all fun b=>uD N L k b.toNat==2) with
    | false=>rfl
    | true=>exact absurd ((z2K h hi).1 hb) hn
   have e:∀ q,(q<i+1∧yV N L k q)↔(q<i∧yV N L k q):=fun q=>⟨fun⟨h1,h2⟩=>⟨by
    by_cases hq:q=i
    ·subst hq;exact absurd h2 hn
    ·omega,h2⟩,fun⟨h1,h2⟩=>⟨by omega,h2⟩⟩
   refine .inl ⟨(wP N (fun j=>if j<i+1∧yV N L k j then 1 else uD N L k j),wP N (fun j=>if j<i+1∧yV N L k j then((k+1:Nat):Int) else rnk N L k j),s3),?_,rfl,rfl,?_⟩
   ·simp only[hc,zbf,Qh,e]
   ·simp only[e];exact h3
 ·rintro ⟨s1,s2,s3⟩ ⟨rfl,rfl,h3⟩
  rw[zFa]
  refine⟨(wP N (zTR N L k),wP N (zYj N L k),s3),?_,rfl,rfl,?_⟩
  ·unfold zDo
   simp only[Int.lt_irrefl,decide_false,zbf,Qh]
   have e1:(wP N fun j=>if j<N∧yV N L k j then 1 else uD N L k j)=wP N (zTR N L k):=zC5 fun q hq=>by simp[zTR,hq]
   have e2:(wP N fun j=>if j<N∧yV N L k j then((k+1:Nat):Int) else rnk N L k j)=wP N (zYj N L k):=zC5 fun q hq=>by simp[zYj,hq]
   rw[e1,e2]
  ·rw[h3]
   exact⟨fun⟨j,_,h1⟩=>⟨j,h1⟩,fun⟨j,h1⟩=>⟨j,by rw[zFa];exact z3A (D:=(· < N)) h1.1,h1⟩⟩
theorem z7I{f g:Nat->Int}{i:Nat}(hi:i<N)(rd:Int)(l1 l2 s1 s2:List Int){l:List Int}(hl:∀(q:Nat) x,l[q]?=some x->∃ a:Nat,x=(a:Int)∧a<N)(hb:l.length<4294967296)(hii:i<1000):
  zJ (zDp l (s1,s2,(i:Int)) (l1,l2,rd)) (wP N f,wP N g,0) =
   some (.inl (wP N (fun j=>if j=i∧f i=3∧(l.any fun b=>f b.toNat==1&&g b.toNat==rd)=true then 2 else f j),wP N (fun j=>if j=i∧f i=3∧(l.any fun b=>f b.toNat==1&&g b.toNat==rd)=true then rd else g j),((i+1:Nat):Int))):=by
 have h:=tK (B:=zDp l (s1,s2,(i:Int)) (l1,l2,rd)) (fun q (s:List Int×List Int)=>(s.1,s.2,(q:Int))) l
  (fun q s=>s.1=wP N (fun j=>if j=i∧f i=3∧((l.take q).any fun b=>f b.toNat==1&&g b.toNat==rd)=true then 2 else f j)∧s.2=wP N (fun j=>if j=i∧f i=3∧((l.take q).any fun b=>f b.toNat==1&&g b.toNat==rd)=true then rd else g j))
  (fun r=>r=.inl (wP N (fun j=>if j=i∧f i=3∧(l.any fun b=>f b.toNat==1&&g b.toNat==rd)=true then 2 else f j),wP N (fun j=>if j=i∧f i=3∧(l.any fun b=>f b.toNat==1&&g b.toNat==rd)=true then rd else g j),((i+1:Nat):Int))) ?_ ?_ (wP N f,wP N g) ⟨by simp,by simp⟩
 ·obtain⟨r,h1,rfl⟩:=h
  exact h1
 ·rintro q x ⟨t1,t2⟩ hx ⟨rfl,rfl⟩
  obtain⟨a,rfl,ha⟩:=hl q x hx
  have hta:((l.take (q+1)).any fun b=>f b.toNat==1&&g b.toNat==rd)=(((l.take q).any fun b=>f b.toNat==1&&g b.toNat==rd)||(f a==1&&g a==rd)):=by
   rw[zKK _ hx];simp
  unfold zDp
  simp only[vY hx,Qe,wV hx,zob,vO hx hb,zRM _ hi,zRM _ ha,Qw,hta]
  cases hA:((l.take q).any fun b=>f b.toNat==1&&g b.toNat==rd) with
  | true =>
   refine .inl ⟨(wP N (fun j=>if j=i∧f i=3 then 2 else f j),wP N (fun j=>if j=i∧f i=3 then rd else g j)),?_,by simp,by simp⟩
   by_cases h3:f i=3
   ·simp[h3]
   ·have:(f i==3)=false:=by simpa using h3
    simp[h3,this]
  | false =>
   by_cases h3:f i=3
   ·have hai:a=i->(f a==1)=false:=fun e=>by subst e;rw[h3];rfl
    cases h1:(f a==1&&g a==rd) with
    | true =>
     refine .inl ⟨(wP N (fun j=>if j=i then 2 else f j),wP N (fun j=>if j=i then rd else g j)),?_,by simp[h3],by simp[h3]⟩
     rw[Qb] at h1
     simp[h3,h1.1,h1.2,zYw]
    | false =>
     refine .inl ⟨(wP N f,wP N g),?_,by simp,by simp⟩
     cases h4:f a==1 with
     | false=>simp[h3,h4]
     | true =>
      rw[h4,UK] at h1
      simp[h3,h4,h1]
   ·have h3':(f i==3)=false:=by simpa using h3
    refine .inl ⟨(wP N f,wP N g),by simp[h3',h3],by simp[h3],by simp[h3]⟩
 ·rintro ⟨t1,t2⟩ ⟨rfl,rfl⟩
  rw[Q7]
  refine⟨_,?_,rfl⟩
  unfold zDp
  simp only[zNS,zbf,Qh,wI i (by omega)]
theorem zZ6 (h:xM N L){k b:Nat}(hb:zTR N L k b=1): (zYj N L k b==((k+1:Nat):Int))=true↔yV N L k b:=by
 unfold zYj
 by_cases hn:yV N L k b
 ·simp[hn]
 ·have:=z6E N L k b
  simp only[hn,Qh,iff_false,QH]
  omega
theorem z61 (h:xM N L){k:Nat}{f g:Nat->Int}(hf:∀ b,f b=1↔zTR N L k b=1)(hg:∀ b,f b=1->g b=zYj N L k b)(i:Nat):
  ((zU2 N L (i:Int)).any fun b=>f b.toNat==1&&g b.toNat==((k+1:Nat):Int))=true↔att (edN L) (yV N L k) i:=by
 rw[US]
 constructor
 ·rintro ⟨x,hx,h1⟩
  obtain⟨h2,h3⟩:=QR.1 hx
  obtain⟨h4,h5⟩:=zHc.1 h2
  obtain⟨a,rfl⟩:=Q1 h4
  rw[Qb,Qw,QH] at h1
  rw[hg a h1.1] at h1
  exact⟨a,(zZ6 h ((hf a).1 h1.1)).1 h1.2,h3⟩
 ·rintro ⟨m,h1,h2⟩
  have hm:m<N:=z3A (D:=(· < N)) h1.1
  have h3:zTR N L k m=1:=by simp[zTR,h1]
  have h4:=(hf m).2 h3
  refine⟨(m:Int),QR.2 ⟨zHc.2 ⟨by omega,by omega⟩,h2⟩,?_⟩
  rw[Qb,Qw,QH]
  refine⟨h4,?_⟩
  rw[hg m h4]
  exact(zZ6 h h3).2 h1
theorem z5G (k i:Nat): uD N L (k+1) i=(open Classical in if zTR N L k i=3∧att (edN L) (yV N L k) i then 2 else zTR N L k i):=by
 rw[zZo]
 unfold zTR
 by_cases hn:yV N L k i
 ·simp[hn]
 ·rw[Qa hn,Qa hn]
theorem z4P (k i:Nat): rnk N L (k+1) i=(open Classical in if zTR N L k i=3∧att (edN L) (yV N L k) i then((k+1:Nat):Int) else zYj N L k i):=by
 rw[rnk,zZo]
 unfold zTR zYj
 by_cases hn:yV N L k i
 ·have:=now3 N L hn
  simp[hn,this]
 ·by_cases h1:uD N L k i=3∧att (edN L) (yV N L k) i
  ·simp[hn,h1]
  ·simp[hn,h1]
open Classical in
theorem z6k (h:xM N L){k:Nat}(hk:k≤100)(l1 l2:List Int):
  zJ (zDw ((N:Int),L) (l1,l2,((k+1:Nat):Int))) (wP N (zTR N L k),wP N (zYj N L k),0)=some (lb N L (k+1),rn N L (k+1)):=by
 have hN:=h.hN
 let c (j:Nat):Prop:=zTR N L k j=3∧att (edN L) (yV N L k) j
 let F (i j:Nat):Int:=if j<i∧c j then 2 else zTR N L k j
 let G (i j:Nat):Int:=if j<i∧c j then((k+1:Nat):Int) else zYj N L k j
 have hF:∀ i b,F i b=1↔zTR N L k b=1:=fun i b=>by
  show(if b<i∧c b then 2 else zTR N L k b)=1↔_
  by_cases hc:b<i∧c b
  ·rw[Qm hc,hc.2.1];simp
  ·rw[Qa hc]
 have hG:∀ i b,F i b=1->G i b=zYj N L k b:=fun i b hb=>by
  have h1:=(hF i b).1 hb
  show(if b<i∧c b then((k+1:Nat):Int) else zYj N L k b)=_
  rw[Qa (fun hc=>by have:=hc.2.1;omega)]
 have hl:=tK (B:=zDw ((N:Int),L) (l1,l2,((k+1:Nat):Int))) (fun i (s:List Int×List Int)=>(s.1,s.2,(i:Int))) (yP N)
  (fun i s=>s=(wP N (F i),wP N (G i))) (fun r=>r=(lb N L (k+1),rn N L (k+1))) ?_ ?_ (wP N (zTR N L k),wP N (zYj N L k)) (by simp[F,G])
 ·obtain⟨r,h1,rfl⟩:=hl
  exact h1
 ·rintro i x s hx rfl
  obtain⟨rfl,hi⟩:=zPv hx
  have hd:decide ((i:Int)<(N:Int))=true:=by simp;omega
  have hpl:=zZS (N:=N) (L:=L) (i:Int)
  refine .inl ⟨_,?_,rfl⟩
  unfold zDw
  simp only[hd,Qe,zL7 h,zob]
  rw[z7I hi _ _ _ _ _ (fun q x hx=>by obtain⟨a,h1,h2,_⟩:=z1t hx;exact⟨a,h1,h2⟩) (by omega) (by omega)]
  have hfi:F i i=zTR N L k i:=by simp[F]
  have e0:∀ j,(j=i∧F i i=3∧((zU2 N L (i:Int)).any fun b=>F i b.toNat==1&&G i b.toNat==((k+1:Nat):Int))=true)↔j=i∧c i:=fun j=>by
   rw[z61 h (hF i) (hG i) i,hfi]
  congr 3
  ·apply zC5
   intro q _
   by_cases hq:q=i
   ·subst hq
    by_cases hc:c q
    ·rw[Qm ((e0 q).2 ⟨rfl,hc⟩)];simp[F,hc]
    ·rw[Qa (fun hh=>hc ((e0 q).1 hh).2)];simp[F,hc]
   ·have e:(q<i+1)=(q<i):=by rw[eq_iff_iff];omega
    rw[Qa (fun hh=>hq hh.1)]
    simp[F,e]
  ·congr 1
   apply zC5
   intro q _
   by_cases hq:q=i
   ·subst hq
    by_cases hc:c q
    ·rw[Qm ((e0 q).2 ⟨rfl,hc⟩)];simp[G,hc]
    ·rw[Qa (fun hh=>hc ((e0 q).1 hh).2)];simp[G,hc]
   ·have e:(q<i+1)=(q<i):=by rw[eq_iff_iff];omega
    rw[Qa (fun hh=>hq hh.1)]
    simp[G,e]
 ·rintro s rfl
  rw[zFa]
  refine⟨_,?_,rfl⟩
  unfold zDw
  simp only[Int.lt_irrefl,decide_false,zbf,Qh]
  have e1:wP N (F N)=lb N L (k+1):=zC5 fun q hq=>by rw[z5G];simp[F,hq,c]
  have e2:wP N (G N)=rn N L (k+1):=zC5 fun q hq=>by rw[z4P];simp[G,hq,c]
  rw[e1,e2]
theorem zYX (h:xM N L): zHq ((N:Int),L)=some (zQe N L,z6M N L):=by
 have hN:=h.hN
 unfold zHq
 rw[z63 hN]
 simp only[zob]
 have hstep:∀ k,k≤N->∃ c:Bool,(c=true↔∃ i,yV N L k i)∧zGG ((N:Int),L) (lb N L k,rn N L k,((k+1:Nat):Int))=if !c then some (.inr (lb N L (k+1),rn N L (k+1))) else some (.inl (lb N L (k+1),rn N L (k+1),((k+2:Nat):Int))):=by
  intro k hk
  obtain⟨c,hc,h3⟩:=z7L h (k:=k) (by omega)
  refine⟨c,hc,?_⟩
  unfold zGG
  rw[yC (by rw[zMO];simp;omega)]
  simp only[QA,zob,h3,z6k h (show k≤100 by omega)]
  rw[wI (k+1) (by omega)]
 have hl:=z0f (B:=zGG ((N:Int),L)) (fun(_:Unit) k=>(lb N L k,rn N L k,((k+1:Nat):Int))) N (fun _ _=>True) (fun r=>r=(zQe N L,z6M N L)) ?_ ?_ () trivial
 ·obtain⟨r,h1,rfl⟩:=hl
  exact h1
 ·intro k _ hk _
  obtain⟨c,hc,h1⟩:=hstep k (by omega)
  rw[h1]
  cases c with
  | true=>exact .inl ⟨(),rfl,trivial⟩
  | false =>
   have hno:∀ i,¬ yV N L k i:=fun i hi=>by have:=hc.2 ⟨i,hi⟩;cases this
   obtain⟨e1,e2⟩:=end_lb (by omega) hno
   refine .inr ⟨_,rfl,?_⟩
   rw[←e1,←e2]
   exact Prod.ext (zC5 fun i _=>zVE N L hno (k+1) (by omega) i) (zC5 fun i _=>z3d N L hno (k+1) (by omega) i)
 ·intro _ _
  obtain⟨c,hc,h1⟩:=hstep N (Qt _)
  rw[h1]
  cases c with
  | true=>obtain⟨i,hi⟩:=hc.1 rfl;exact absurd hi (z5J N L)
  | false=>exact⟨_,rfl,rfl⟩
theorem zR8 (h:xM N L): zFR ((N:Int),L)=some (zQe N L):=by
 unfold zFR
 rw[zYX h]
 rfl
end
end
section
section
variable {N:Nat}{L:List wU}
def cnt (N:Nat)(L:List wU)(f:Nat->Int)(j:Nat): Nat:=((zU2 N L (j:Int)).filter fun b=>!(f b.toNat==2)).length
end
end
section
variable {b:zX}{l m:List zU}{D:List zE}{c:Nat}
theorem FormC.pre (h:FormC b (l++m)): FormC b l:=by
 have key:∀(i:Nat) a,l[i]?=some a->(l++m)[i]?=some a:=fun i a ha=>by grind
 have hl:=h.len
 have hl41:=h.l41
 rw[Qc] at hl hl41
 refine⟨⟨⟨by omega,fun a ha=>h.nsub a (List.mem_append_left _ ha),fun i a ha=>h.sub i a (key i a ha)⟩,h.np,h.nr,fun i a ha=>h.kind i a (key i a ha)⟩,by omega,fun i a p ha=>h.pr i a p (key i a ha),fun i a r ha h0 hr=>?_⟩
 obtain⟨g1,g2,g3⟩:=h.ru i a r (key i a ha) h0 hr
 refine⟨g1,g2,fun j k y hk hy=>?_⟩
 obtain⟨a',e1,e2⟩:=g3 j k y hk hy
 have:=h.sub i a (key i a ha) k (zE3 hk)
 grind [zII]
theorem tD.pre (h:tD b (l++m)): tD b l:=by
 refine⟨h.toFormC.pre,fun i a r ha h0 hr=>?_⟩
 have hi:=uS ha
 have hk:(l++m)[i]?=some a:=by rw[Ux hi];exact ha
 rw[←zJy h.toFormC.pre h.toFormC fun k hk2=>by have:=h.sub i a hk k hk2;omega]
 exact h.cut i a r hk h0 hr
theorem tD.take (h:tD b l)(n:Nat): tD b (l.take n):=by
 rw[←QC n l] at h
 exact h.pre
end
section
variable {b:zX}{l:List zU}
theorem z3S (h:zHX b)(hr:b.2.1.length≤12): zPV b (b.2.1.map fun r=>r.2.2.2.2) 4:=by
 refine⟨h,fun r hr=>⟨QB.2 ⟨r,hr,rfl⟩,zOb (h.rule r hr)⟩,?_⟩
 rw[UV]
 calc (4+1) ^ b.2.1.length≤5 ^ 12:=Q3 (by omega) hr
  _<4294967296:=by decide
theorem zRe (h:zHX b)(hr:b.2.1.length≤12){x:List zU}(hx:zUR b=some x): tD b x∧x.length≤40 :=
 zSY (z3S h hr) 50 (zT4 b) 0 true x (zUP h) (by rw[zOU];have:=h.np;omega) hx
theorem FormC.nil (hp:b.1.length≤100)(hr:b.2.1.length≤100): FormC b [] :=
 ⟨⟨⟨by simp,by simp,by simp⟩,hp,hr,by simp⟩,by simp,by simp,by simp⟩
theorem zZr (h:l.length≤100)(o:zAm): (zJR b l o).length≤3000000:=Qy (Q4 _ _) (zW5 h)
end
section
variable {b:zX}{l:List zU}
theorem z4Q (h:zHX b)(hr:b.2.1.length≤12): zPV b (b.2.1.map fun r=>r.2.2.2.2) 4:=by
 refine⟨h,fun r hr=>⟨QB.2 ⟨r,hr,rfl⟩,zOb (h.rule r hr)⟩,?_⟩
 rw[UV]
 calc (4+1) ^ b.2.1.length≤5 ^ 12:=Q3 (by omega) hr
  _<4294967296:=by decide
end
section
variable {b:zX}{l:List zU}
def zM9 (l:List zU)(i:Int): List zE:=match zD l i with | some a=>[a.2.2.2] | none=>[]
theorem z6f{α:Type}{l:List α}{i:Int}(h:¬ (0≤i∧i<l.length)): zD l i=none:=by grind [zD]
theorem zWP (is:List Int): (is.flatMap (zM9 l)).length≤is.length*1:=zKG (zM9 l) 1 is fun i _=>by
 grind [zM9]
theorem zLq (is:List Int)(h:is.length<1000000): zCA l is=some (nrm vX (is.flatMap (zM9 l))):=by
 unfold zCA
 obtain⟨r,h1,h2⟩:=tK (B:=zCh is l) (fun i s=>(s,(i:Int))) is (fun i s=>yA vX s∧s.length≤i∧∀ y,y∈s↔y∈(is.take i).flatMap (zM9 l)) (fun r=>r=nrm vX (is.flatMap (zM9 l))) (fun i x s hi hI=>.inl (by
  obtain⟨hI1,hI2,hI3⟩:=hI
  have hlt:=uS hi
  unfold zCh
  simp only[vY hi,Qe,wV hi,zob,vO hi (show is.length<4294967296 by omega)]
  have hnext:∀ y,y∈(is.take (i+1)).flatMap (zM9 l)↔y∈(is.take i).flatMap (zM9 l)∨y∈zM9 l x:=fun y=>by
   rw[zCp hi,UF,List.flatMap_singleton,Qk]
  by_cases hin:0≤x∧x<l.length
  ·obtain⟨a,ha⟩:=zI9 (l:=l) hin.1 hin.2
   have d1:decide (0≤x)=true:=by simpa using hin.1
   have d2:decide (x<len l)=true:=by simpa [len] using hin.2
   obtain⟨r,e1,e2,e3,e4⟩:=zUG (l:=s) a.2.2.2 (by omega) hI1
   simp only[d1,d2,Qe,zob,ha,e1]
   refine⟨r,rfl,e2,by omega,fun y=>?_⟩
   rw[e3,hnext,hI3]
   unfold zM9
   grind
  ·have hc:(if decide (0≤x)=true then some (decide (x<len l)) else some false)=some false:=by
    by_cases h0:0≤x
    ·grind
    ·grind
   rw[hc]
   simp only[zob,zbf,Qh]
   refine⟨s,rfl,hI1,by omega,fun y=>?_⟩
   grind [zM9,z6f])) (fun s hI=>⟨s,by
  unfold zCh
  grind,by
  obtain⟨hI1,hI2,hI3⟩:=hI
  rw[Q7] at hI3
  exact(zZb z7A hI1 hI3).symm⟩) [] ⟨List.Pairwise.nil,by simp,by simp⟩
 grind
end
section
def jn (l:List zA): zA:=[(32:UInt8)].intercalate l
theorem jn_nil:jn []=[]:=rfl
theorem z2D (w:zA): jn [w]=w:=by simp[jn,List.intercalate]
theorem zY8 (w x:zA)(l:List zA): jn (w::x::l)=w++32::jn (x::l):=by simp[jn,List.intercalate]
theorem zSZ:∀ l:List zA,(jn l).length≤(l.map List.length).sum+l.length
 | []=>by simp[jn_nil]
 | [w]=>by simp[z2D]
 | w::x::l=>by
  have:=zSZ (x::l)
  rw[zY8]
  grind
def dgt (n:Int): zA:=[UInt8.ofNat (48+n.toNat)]
end
section
def z0G (k:Int): zA:=if k=1 then[97,120,105,111,109] else if k=2 then[112,114,101,109,105,115,101] else[97,115,115,117,109,101]
def z0g:zA:=[102,114,111,109]
def zLM (p:yD): List zA:=[z0G p.2.1,qH p.1]++(if p.2.1=2 then[dgt p.2.2.1] else[])++(if p.2.2.2=[] then[] else[z0g,p.2.2.2])
def zLh:List zE->List zA
 | []=>[]
 | [x]=>[qH x]
 | x::y::r=>(qH x++[44])::zLh (y::r)
def zSO:zA:=[115,116,114,105,99,116]
def zWX:zA:=[114,117,108,101]
def zNv (s:Bool): zA:=if s then[45,62] else[61,62]
def zLC (r:qW): List zA:=(if r.2.1 then[zSO,r.1++[58]] else[zWX,r.1,dgt r.2.2.1++[58]])++zLh r.2.2.2.1++[zNv r.2.1,qH r.2.2.2.2]
def zRT:zA:=[112,114,111,109,111,116,101]
def ifW:zA:=[105,102]
def zN0 (p:yF): List zA:=[zRT,p.1,dgt p.2.1,ifW,qH p.2.2]
theorem zXN (k:Int): (z0G k).length≤7:=by
 unfold z0G
 split
 ·decide
 ·split <;> decide
theorem zSn:∀ l:List zE,(zLh l).length=l.length
 | []=>rfl
 | [_]=>rfl
 | _::y::r=>by simp only[zLh,Qn,zSn (y::r)]
theorem zSk:∀ l:List zE,((zLh l).map List.length).sum≤14*l.length
 | []=>by simp[zLh]
 | [x]=>by grind [yK,zLh]
 | x::y::r=>by
  have:=yK x
  have:=zSk (y::r)
  grind [zLh]
end
section
def okP (p:yD): Prop:=(p.2.1=1∨p.2.1=2∨p.2.1=3)∧vName p.1.2=true∧0≤p.2.2.1∧p.2.2.1≤9∧(p.2.1=2∨p.2.2.1=0)∧(p.2.2.2=[]∨vName p.2.2.2=true)
def okR (r:qW): Prop:=vName r.1=true∧vName r.2.2.2.2.2=true∧0≤r.2.2.1∧r.2.2.1≤9∧(r.2.1=true->r.2.2.1=0)∧∀ x∈r.2.2.2.1,vName x.2=true
def okT (p:yF): Prop:=vName p.1=true∧0≤p.2.1∧p.2.1≤9∧vName p.2.2.2=true
theorem okP_of{p:yD}(h:zKt p=0): okP p:=by
 unfold zKt at h
 split at h
 ·rename_i hk
  split at h
  ·rename_i h2
   simp only[QI,QH,Qb,zHd,Ql] at hk h2
   grind [okP]
  grind
 grind
theorem okR_of{r:qW}(h:zJk r=0): okR r∧r.2.2.2.1.length≤4:=by
 unfold zJk at h
 split at h
 ·simp at h
 ·rename_i hl
  split at h
  ·rename_i h2
   simp only[QI,QH,Qb,zHd,Ql,Bool.not_eq_true',QK] at h2
   obtain⟨⟨⟨⟨h1,h3⟩,h4,h5⟩,h6⟩,h7⟩:=h2
   refine⟨⟨h1,h3,h4,h5,fun hs=>?_,h7⟩,by omega⟩
   grind
  grind
theorem okT_of{b:zX}{p:yF}(h:zUZ b p=0)(hf:0≤zN1 b p.1->vName p.1=true): okT p:=by
 unfold zUZ at h
 split at h
 ·rename_i h2
  simp only[Qb,zHd,Ql] at h2
  grind [okT]
 grind
def fmtT (b:zX): zA:=(b.1.flatMap fun p=>jn (zLM p)++[10])++((b.2.1.flatMap fun r=>jn (zLC r)++[10])++(b.2.2.flatMap fun p=>jn (zN0 p)++[10]))
theorem zQL{p:yD}(h:okP p): (jn (zLM p)).length≤200:=by
 have h1:=zSZ (zLM p)
 have hl:=yK p.1
 have hk:=zXN p.2.1
 have hs:p.2.2.2.length≤12:=by
  rcases h.2.2.2.2.2 with h | h
  ·simp[h]
  ·exact(zEF h).2
 have:((zLM p).map List.length).sum+(zLM p).length≤100:=by
  unfold zLM
  split <;> split <;> simp[dgt,z0g] <;> omega
 omega
theorem zQ1{r:qW}(h:okR r)(hb:r.2.2.2.1.length≤4): (jn (zLC r)).length≤400:=by
 have h1:=zSZ (zLC r)
 have hl:=yK r.2.2.2.2
 have hn:=(zEF h.1).2
 have hs:=zSk r.2.2.2.1
 have hbl:=zSn r.2.2.2.1
 have:((zLC r).map List.length).sum+(zLC r).length≤200:=by
  unfold zLC
  cases r.2.1 <;> simp[zSO,zWX,zNv,dgt,hbl] <;> omega
 omega
theorem zQU{p:yF}(h:okT p): (jn (zN0 p)).length≤200:=by
 have h1:=zSZ (zN0 p)
 have hl:=yK p.2.2
 have hn:=(zEF h.1).2
 have:((zN0 p).map List.length).sum+(zN0 p).length≤100:=by
  unfold zN0
  simp[zRT,ifW,dgt];omega
 omega
end
section
theorem zSD{α:Type}(g:α->zA)(c:Nat): ∀ l:List α,(∀ x∈l,(g x).length≤c)->(l.flatMap fun x=>g x++[10]).length≤(c+1)*l.length
 | [],_=>by simp
 | x::l,h=>by
  have h1:=h x (by simp)
  have h2:=zSD g c l fun y hy=>h y (by simp[hy])
  simp only[Um,Qc,Qn,UA,Nat.mul_add] at h2 ⊢
  omega
theorem zW1{b:zX}(hV:zHX b): (∀ p∈b.1,okP p)∧(∀ r∈b.2.1,okR r∧r.2.2.2.1.length≤4)∧∀ p∈b.2.2,okT p:=by
 have hR:∀ r∈b.2.1,okR r∧r.2.2.2.1.length≤4:=fun r hr=>okR_of (hV.rule r hr)
 exact⟨fun p hp=>okP_of (hV.prem p hp),hR,fun p hp=>okT_of (hV.prom p hp) (fun hf=>by
  obtain⟨k,r,_,h2,h3,_⟩:=zUp hf
  have:r.1=p.1:=by simpa using h3
  rw[←this]
  exact(hR r (Uc h2)).1.1)⟩
theorem zXI{b:zX}(hV:zHX b): (fmtT b).length≤4000:=by
 obtain⟨hP,hR,hT⟩:=zW1 hV
 have h1:=zSD (fun p=>jn (zLM p)) 42 b.1 (fun p hp=>by
  have h:=hP p hp
  have h1:=zSZ (zLM p)
  have hl:=yK p.1
  have hk:=zXN p.2.1
  have hs:p.2.2.2.length≤12:=by
   rcases h.2.2.2.2.2 with h | h
   ·simp[h]
   ·exact(zEF h).2
  have:((zLM p).map List.length).sum+(zLM p).length≤42:=by
   unfold zLM
   split <;> split <;> simp[dgt,z0g] <;> omega
  grind)
 have h2:=zSD (fun r=>jn (zLC r)) 100 b.2.1 (fun r hr=>by
  obtain⟨h,hb⟩:=hR r hr
  have h1:=zSZ (zLC r)
  have hl:=yK r.2.2.2.2
  have hn:=(zEF h.1).2
  have hs:=zSk r.2.2.2.1
  have hbl:=zSn r.2.2.2.1
  have:((zLC r).map List.length).sum+(zLC r).length≤100:=by
   unfold zLC
   cases r.2.1 <;> simp[zSO,zWX,zNv,dgt,hbl] <;> omega
  grind)
 have h3:=zSD (fun p=>jn (zN0 p)) 50 b.2.2 (fun p hp=>by
  have h:=hT p hp
  have h1:=zSZ (zN0 p)
  have hl:=yK p.2.2
  have hn:=(zEF h.1).2
  have:((zN0 p).map List.length).sum+(zN0 p).length≤50:=by
   unfold zN0
   simp[zRT,ifW,dgt];omega
  grind)
 have:=hV.np
 have:=hV.nr
 have:=hV.nm
 grind [fmtT]
end
section
theorem zR6 (w:zA): ∀ l:List zA,jn (w::l)=w++l.flatMap fun x=>32::x
 | []=>by rw[z2D];simp
 | x::l=>by rw[zY8,zR6 x l];simp
theorem zRt{n:Int}(h0:0≤n)(h9:n≤9): zG5 n=some (dgt n):=by
 obtain⟨k,rfl⟩:∃ k:Nat,n=k:=⟨n.toNat,by omega⟩
 have hk:k<10:=by omega
 match k,hk with
 | 0,_ | 1,_ | 2,_ | 3,_ | 4,_ | 5,_ | 6,_ | 7,_ | 8,_ | 9,_=>rfl
theorem z0l{p:yD}(hs:p.2.2.2.length≤1000000): zEQ p=some (if p.2.2.2=[] then[] else 32::z0g++32::p.2.2.2):=by
 unfold zEQ
 by_cases h:p.2.2.2=[]
 ·simp[h]
 ·have:(p.2.2.2==[])=false:=beq_false_of_ne h
  simp only[this,zbf,Qh,Qa h]
  rw[qL (by simp;omega)]
  rfl
theorem zXV{p:yD}(h:okP p): zD9 p=some (jn (zLM p)):=by
 obtain⟨x,k,n,s⟩:=p
 obtain⟨hk,hx,h0,h9,hkn,hs⟩:=h
 simp only at hk hx h0 h9 hkn hs
 have hl:=yK x
 have hsl:s.length≤12:=by
  rcases hs with h | h
  ·simp[h]
  ·exact(zEF h).2
 have hsrc:=z0l (p:=(x,k,n,s)) (by simp;omega)
 have hsr:(if s=[] then([]:zA) else 32::z0g++32::s).length≤20:=by split <;> simp[z0g];omega
 unfold zD9
 rw[zDK]
 simp only[zob,hsrc]
 rcases hk with rfl | rfl | rfl
 ·simp only[QQ,Qe]
  rw[qL (by simp;omega)]
  simp only[zob]
  rw[qL (by grind)]
  simp only[zob,zLM,Q5,QA]
  rw[zR6]
  by_cases hs0:s=[] <;> simp[hs0,z0G]
 ·have e1:((2:Int)==1)=false:=rfl
  simp only[e1,zbf,Qh,QQ,Qe,zRt h0 h9]
  rw[qL (by simp;omega)]
  simp only[zob]
  rw[qL (by simp;omega)]
  simp only[zob]
  rw[qL (by simp[dgt];omega)]
  simp only[zob]
  rw[qL (by simp only[Qc,Qn,UA,dgt];omega)]
  simp only[zob,zLM,Q5,QA]
  rw[zR6]
  by_cases hs0:s=[] <;> simp[hs0,z0G]
 ·have e1:((3:Int)==1)=false:=rfl
  have e2:((3:Int)==2)=false:=rfl
  simp only[e1,e2,zbf,Qh]
  rw[qL (by simp;omega)]
  simp only[zob]
  rw[qL (by grind)]
  simp only[zob,zLM,Q5,QA]
  rw[zR6]
  by_cases hs0:s=[] <;> simp[hs0,z0G]
theorem zXD{p:yF}(h0:0≤p.2.1)(h9:p.2.1≤9)(hn:p.1.length≤1000000): zCo p=some (jn (zN0 p)):=by
 have hl:=yK p.2.2
 unfold zCo zN0
 rw[qL (by simp;omega)]
 simp only[zob]
 rw[qL (by simp;omega)]
 simp only[zob,zRt h0 h9]
 rw[qL (by simp[dgt];omega)]
 simp only[zob]
 rw[qL (by simp[dgt];omega)]
 simp only[zob,zDK]
 rw[qL (by simp[dgt];omega)]
 simp[zY8,z2D,zRT,ifW]
def zRa (l:List zE)(i:Nat): zA:=(l.take i).zipIdx.flatMap fun x=>if 0<x.2 then 44::32::qH x.1 else 32::qH x.1
theorem z2r:∀ l:List zE,zRa l l.length=(zLh l).flatMap fun w=>32::w:=by
 have key:∀(l:List zE) (k:Nat),0<k->((l.zipIdx k).flatMap fun x=>if 0<x.2 then 44::32::qH x.1 else 32::qH x.1)=match l with
   | []=>[]
   | _::_=>44::((zLh l).flatMap fun w=>32::w):=by
  intro l
  induction l with
  | nil=>intro k _;rfl
  | cons x l ih =>
   intro k hk
   rw[List.zipIdx_cons,Um,ih (k+1) (by omega),Qm hk]
   cases l with
   | nil=>simp[zLh]
   | cons y l=>simp[zLh]
 intro l
 unfold zRa
 rw[Q7]
 cases l with
 | nil=>rfl
 | cons x l =>
  rw[List.zipIdx_cons,Um,key l 1 (by omega)]
  cases l with
  | nil=>simp[zLh]
  | cons y l=>simp[zLh]
theorem zTx{l:List zE}{i:Nat}{x:zE}(hx:l[i]?=some x): zRa l (i+1)=zRa l i++if 0<i then 44::32::qH x else 32::qH x:=by
 have hi:=(Qj.1 hx).1
 unfold zRa
 rw[Ue,hx,Option.toList_some,List.zipIdx_append,UF]
 grind
theorem zWL (l:List zE)(i:Nat)(hi:i≤l.length): (zRa l i).length≤15*i:=by
 induction i with
 | zero=>simp[zRa]
 | succ i ih =>
  have hx:l[i]?=some l[i]:=Qi (by omega)
  have:=yK l[i]
  grind [zTx]
theorem zWS{r:qW}(h0:0≤r.2.2.1)(h9:r.2.2.1≤9)(hn:r.1.length≤1000000)(hb:r.2.2.2.1.length≤10000): zGI r=some (jn (zLC r)):=by
 have hl:=yK r.2.2.2.2
 have hbl:=zWL r.2.2.2.1 r.2.2.2.1.length (Qt _)
 have hloop:zJ (zC6 r) ([],0)=some (zRa r.2.2.2.1 r.2.2.2.1.length):=by
  have h:=tK (B:=zC6 r) (fun i (s:zA)=>(s,(i:Int))) r.2.2.2.1 (fun i s=>s=zRa r.2.2.2.1 i) (fun o=>o=zRa r.2.2.2.1 r.2.2.2.1.length) ?_ ?_ [] rfl
  ·grind
  ·intro i x s hx hs
   subst hs
   have hi:=(Qj.1 hx).1
   have hli:=zWL r.2.2.2.1 i (by omega)
   have hlx:=yK x
   refine .inl ⟨_,?_,rfl⟩
   unfold zC6
   have h1:decide ((i:Int)<len r.2.2.2.1)=true:=Qs (show(i:Int)<(r.2.2.2.1.length:Int) by omega)
   simp only[h1,Qe,zTx hx]
   by_cases hi0:0<i
   ·have h2:decide ((0:Int)<i)=true:=Qs (by omega)
    simp only[h2,Qe,Qm hi0]
    rw[qL (by grind)]
    simp only[zob]
    grind [qL,tV,zDK,wI]
   ·have h2:decide ((0:Int)<i)=false:=QF (by omega)
    simp only[h2,zbf,Qh,Qa hi0,zob]
    grind [qL,tV,zDK,wI]
  ·intro s hs
   subst hs
   refine⟨_,?_,rfl⟩
   unfold zC6
   grind
 unfold zGI
 rw[hloop]
 have hj:∀ w:zA,∀ a:List zA,jn (w::(a++zLh r.2.2.2.1++[zNv r.2.1,qH r.2.2.2.2]))=w++((a.flatMap fun x=>32::x)++(zRa r.2.2.2.1 r.2.2.2.1.length++(32::zNv r.2.1++32::qH r.2.2.2.2))):=by
  intro w a
  rw[zR6,z2r]
  simp
 simp only[zob]
 cases hst:r.2.1 with
 | true =>
  simp only[Qe]
  rw[qL (by simp;omega)]
  simp only[zob]
  rw[qL (by simp;omega)]
  simp only[zob]
  rw[qL (by simp;omega)]
  simp only[zob]
  rw[qL (by simp;omega)]
  simp only[zob,zDK]
  rw[qL (by simp;omega)]
  have e1:zLC r=zSO::([r.1++[58]]++zLh r.2.2.2.1++[zNv r.2.1,qH r.2.2.2.2]):=by unfold zLC;rw[hst];rfl
  rw[e1,hj,hst]
  simp[zSO,zNv]
 | false =>
  simp only[zbf,Qh]
  rw[qL (by simp;omega)]
  simp only[zob]
  rw[qL (by simp;omega)]
  simp only[zob,zRt h0 h9]
  rw[qL (by simp[dgt];omega)]
  simp only[zob]
  rw[qL (by simp[dgt];omega)]
  simp only[zob]
  rw[qL (by simp[dgt];omega)]
  simp only[zob]
  rw[qL (by simp[dgt];omega)]
  simp only[zob,zDK]
  rw[qL (by simp[dgt];omega)]
  have e1:zLC r=zWX::([r.1,dgt r.2.2.1++[58]]++zLh r.2.2.2.1++[zNv r.2.1,qH r.2.2.2.2]):=by unfold zLC;rw[hst];rfl
  rw[e1,hj,hst]
  simp[zWX,zNv]
end
section
def z2N (y:List zE)(r:qW)(k:Int)(p:yF): Int:=if(!r.2.1&&p.1==r.1&&decide (p.2.2∈y))=true then p.2.1 else k
def rankS (ps:List yF)(y:List zE)(r:qW): Int:=ps.foldl (z2N y r) r.2.2.1
def z3L (ps:List yF)(y:List zE)(r:qW): qW:=(r.1,r.2.1,rankS ps y r,r.2.2.2.1,r.2.2.2.2)
def zPB (b:zX)(y:List zE): zX:=(b.1,b.2.1.map (z3L b.2.2 y),b.2.2)
def upto (b:zX)(y:List zE)(i:Nat): List qW:=(b.2.1.take i).map (z3L b.2.2 y)++b.2.1.drop i
theorem zZV (b:zX)(y:List zE)(i:Nat): (upto b y i).length=b.2.1.length:=by simp[upto];omega
theorem z6S{b:zX}{y:List zE}{i:Nat}{r:qW}(hr:b.2.1[i]?=some r): (upto b y i)[i]?=some r:=by grind [upto]
theorem z4i{b:zX}{y:List zE}{i:Nat}{r:qW}(hr:b.2.1[i]?=some r): (upto b y i).set i (z3L b.2.2 y r)=upto b y (i+1):=by
 have hi:=(Qj.1 hr).1
 have h1:((b.2.1.take i).map (z3L b.2.2 y)).length=i:=by simp;omega
 unfold upto
 rw[List.set_append_right _ _ (by omega),h1,Nat.sub_self,Ue,hr]
 grind [List.drop_eq_getElem_cons]
theorem z4l (b:zX)(y:List zE): upto b y b.2.1.length=b.2.1.map (z3L b.2.2 y):=by simp[upto]
def mid (b:zX)(y:List zE)(i:Nat)(r:qW)(k:Nat): List qW:=(upto b y i).set i (r.1,r.2.1,(b.2.2.take k).foldl (z2N y r) r.2.2.1,r.2.2.2.1,r.2.2.2.2)
theorem z6W{b:zX}{y:List zE}{i:Nat}{r:qW}(hr:b.2.1[i]?=some r): mid b y i r b.2.2.length=upto b y (i+1):=by
 unfold mid
 rw[QX (Qt _)]
 exact z4i hr
theorem z4f{b:zX}{y:List zE}{i:Nat}{r:qW}: mid b y i r 0=(upto b y i).set i r:=by simp[mid]
theorem mid_at{b:zX}{y:List zE}{i:Nat}{r:qW}(hr:b.2.1[i]?=some r)(k:Nat): (mid b y i r k)[i]?=some (r.1,r.2.1,(b.2.2.take k).foldl (z2N y r) r.2.2.1,r.2.2.2.1,r.2.2.2.2):=by
 have hi:=(Qj.1 hr).1
 unfold mid
 rw[List.getElem?_set_self (by rw[zZV];exact hi)]
theorem z7X{b:zX}{y:List zE}{i:Nat}{r:qW}{k:Nat}{p:yF}(hp:b.2.2[k]?=some p):
  (if(!r.2.1&&p.1==r.1&&decide (p.2.2∈y))=true then(mid b y i r k).set i (r.1,r.2.1,p.2.1,r.2.2.2.1,r.2.2.2.2) else mid b y i r k)=mid b y i r (k+1):=by
 unfold mid
 rw[Ue,hp]
 simp only[Option.toList,List.foldl_append,Uz,List.foldl_nil]
 show _=List.set _ i (r.1,r.2.1,z2N y r _ p,r.2.2.2.1,r.2.2.2.2)
 unfold z2N
 by_cases hc:(!r.2.1&&p.1==r.1&&decide (p.2.2∈y))=true
 ·simp_all
 grind
theorem z3z{b:zX}(h:Cnt b): zIz b=some b:=by
 unfold zIz
 simp only[zMS h.p,zMS h.m,zob]
 have hl:=z0e (B:=zG4 b) b.2.1 (fun s x=>s++[x]) (fun s=>s) (fun i s=>s.length=i) [] rfl (fun i x s hx hI=>?_) (fun s _=>?_)
 ·rw[hl.1,zUA,QA]
  rfl
 ·have hlt:=(Qj.1 hx).1
  have hbr:=h.r
  refine⟨?_,by simp[hI]⟩
  unfold zG4
  simp only[z2z hx,Qe,tV,hx,zob]
  rw[zMS (h.q x (Uc hx))]
  simp only[zob]
  rw[yC (by simp;omega),wI i (by omega)]
  rfl
 ·unfold zG4
  grind
theorem zYP{b:zX}{y:List zE}(h:Cnt b)(hy:y.length<4294967296): zGe b y=some (zPB b y):=by
 unfold zGe
 rw[z3z h]
 simp only[zob]
 suffices hh:Ok (zJ (zE6 b y) (0,b.2.1)) fun r=>r=upto b y b.2.1.length by
  obtain⟨r,e,rfl⟩:=hh
  rw[e,z4l]
  rfl
 refine Ok.forI (fun i (s:List qW)=>((i:Int),s)) b.2.1 (fun i s=>s=upto b y i) _ (fun i r s hr hs=>?_) (fun s hs=>?_) b.2.1 (by simp[upto])
 ·have hi:=(Qj.1 hr).1
  have hbr:=h.r
  subst hs
  unfold zE6
  have hx:=z6S (y:=y) hr
  simp only[z2z hx,Qe]
  refine Ok.forI (fun k (s:List qW)=>((k:Int),s)) b.2.2 (fun k s=>s=mid b y i r k) _ (fun k p s hp hs=>?_) (fun s hs=>?_) _ (by rw[z4f,z47 hx])
  ·have hk:=(Qj.1 hp).1
   have hbm:=h.m
   subst hs
   unfold zG1
   simp only[z2z hp,Qe,tV,hp,zob,zXa _ (show y.length<9223372036854775807 by omega),Qw,mid_at hr k]
   have hif:(if(p.1==r.1)=true then(if(!r.2.1)=true then some (decide (p.2.2∈y)) else some false) else some false)=some (!r.2.1&&p.1==r.1&&decide (p.2.2∈y)):=by
    cases hg:(!r.2.1) <;> cases hh:(p.1==r.1) <;> simp
   rw[hif,zob]
   have hm:=z7X (b:=b) (y:=y) (i:=i) (r:=r) hp
   refine .ite (fun hc=>?_) fun hc=>?_
   ·rw[Qm hc] at hm
    exact .ret ⟨_,by rw[wI k (by omega)],hm⟩
   ·rw[hc] at hm
    simp only[zbf,Qh] at hm
    exact .ret ⟨_,by rw[wI k (by omega)],hm⟩
  ·subst hs
   unfold zG1
   simp only[z7G,zbf,Qh]
   exact .ret ⟨_,by simp only[wI i (by omega)],z6W hr⟩
 ·subst hs
  have hl:decide ((b.2.1.length:Int)<len (upto b y b.2.1.length))=false:=QF (show ¬ (b.2.1.length:Int)<((upto b y b.2.1.length).length:Int) by rw[zZV];omega)
  unfold zE6
  simp only[hl,zbf,Qh]
  exact .ret rfl
end
section
theorem zSj{α:Type}{B:zA×Int->Option ((zA×Int)⊕zA)}(l:List α)(ln:α->zA)(hB:∀(i:Nat) x (t:zA),l[i]?=some x->t.length≤1000000->B (t,(i:Int))=some (.inl (t++(ln x++[10]),((i+1:Nat):Int))))
  (he:∀ t,B (t,(l.length:Int))=some (.inr t)) (c:Nat) (hc:c≤400) (hl:∀ x∈l,(ln x).length≤c) (hn:l.length≤100) (t0:zA) (h0:t0.length≤500000):zJ B (t0,0)=some (t0++l.flatMap fun x=>ln x++[10]):=by
 have h:=tK (B:=B) (fun i (t:zA)=>(t,(i:Int))) l (fun i t=>t=t0++(l.take i).flatMap fun x=>ln x++[10]) (fun o=>o=t0++l.flatMap fun x=>ln x++[10]) ?_ ?_ t0 (by simp)
 ·grind
 ·intro i x t hx ht
  have hi:=(Qj.1 hx).1
  have hs:=zSD ln c (l.take i) fun y hy=>hl y (Ur hy)
  refine .inl ⟨t++(ln x++[10]),hB i x t hx ?_,?_⟩
  ·subst ht
   rw[Qc]
   have h1:(l.take i).length≤100:=by rw[Uo];omega
   have h2:(c+1)*(l.take i).length≤401*100:=UN (by omega) h1
   omega
  grind [List.take_add_one]
 grind
theorem z3c{b:zX}(h:Cnt b)(hV:zHX b): zEK b=some (fmtT b,0):=by
 obtain⟨hP,hR,hT⟩:=zW1 hV
 have hs:=zXI hV
 have hf:(b.1.flatMap fun p=>jn (zLM p)++[10])++(b.2.1.flatMap fun r=>jn (zLC r)++[10])++(b.2.2.flatMap fun p=>jn (zN0 p)++[10])=fmtT b:=by unfold fmtT;rw[Qo]
 have hs':=hs
 rw[←hf,Qc,Qc] at hs'
 unfold zEK
 rw[zLz h,zIH.2 hV]
 simp only[zob,bne_self_eq_false,zbf,Qh]
 rw[zSj (B:=zFL b) b.1 (fun p=>jn (zLM p)) (fun i p t hx ht=>by
  have ho:=hP p (Uc hx)
  have hlen:=zQL ho
  have hi:=(Qj.1 hx).1
  have:=hV.np
  unfold zFL
  have h1:decide ((i:Int)<len b.1)=true:=Qs (show(i:Int)<(b.1.length:Int) by omega)
  simp only[h1,Qe,tV,hx,zob,zXV ho]
  rw[qL (by omega)]
  simp only[zob]
  rw[qL (by grind),wI i (by omega)]
  simp) (fun t=>by unfold zFL;simp) 200 (by omega) (fun p hp=>zQL (hP p hp)) (by have:=hV.np;omega) [] (by simp)]
 simp only[zob,QA]
 rw[zSj (B:=zFO b) b.2.1 (fun p=>jn (zLC p)) (fun i p t hx ht=>by
  obtain⟨ho,hb⟩:=hR p (Uc hx)
  have hlen:=zQ1 ho hb
  have hnl:=(zEF ho.1).2
  have hi:=(Qj.1 hx).1
  have:=hV.nr
  unfold zFO
  have h1:decide ((i:Int)<len b.2.1)=true:=Qs (show(i:Int)<(b.2.1.length:Int) by omega)
  simp only[h1,Qe,tV,hx,zob,zWS ho.2.2.1 ho.2.2.2.1 (by omega) (by omega)]
  rw[qL (by omega)]
  simp only[zob]
  rw[qL (by grind),wI i (by omega)]
  simp) (fun t=>by unfold zFO;simp) 400 (by omega) (fun p hp=>zQ1 (hR p hp).1 (hR p hp).2) (by have:=hV.nr;omega) _ (by omega)]
 simp only[zob]
 rw[zSj (B:=zFP b) b.2.2 (fun p=>jn (zN0 p)) (fun i p t hx ht=>by
  have ho:=hT p (Uc hx)
  have hlen:=zQU ho
  have hnl:=(zEF ho.1).2
  have hi:=(Qj.1 hx).1
  have:=hV.nm
  unfold zFP
  have h1:decide ((i:Int)<len b.2.2)=true:=Qs (show(i:Int)<(b.2.2.length:Int) by omega)
  simp only[h1,Qe,tV,hx,zob,zXD ho.2.1 ho.2.2.1 (by omega)]
  rw[qL (by omega)]
  simp only[zob]
  rw[qL (by grind),wI i (by omega)]
  simp) (fun t=>by unfold zFP;simp) 200 (by omega) (fun p hp=>zQU (hT p hp)) (by have:=hV.nm;omega) _ (by grind)]
 grind
theorem rf_ok{b:zX}(h:Cnt b): ∃ t e,zEK b=some (t,e)∧t.length≤4096:=by
 by_cases hv:zKm b=0
 ·have hV:=zIH.1 hv
  have hs:=zXI hV
  exact⟨_,_,z3c h hV,by omega⟩
 ·refine⟨[],zKm b,?_,by simp⟩
  unfold zEK
  have hb:(zKm b != 0)=true:=by simpa using hv
  rw[zLz h]
  grind
end
section
inductive Fo
 | tr
 | fa
 | atm (s:zA)
 | neg (s:zA)
 | two (o:Bool) (f g:Fo)
def Fo.fm:Fo->zC
 | .tr=>Go.GD.fm (1,[],[])
 | .fa=>Go.GD.fm (2,[],[])
 | .atm s=>Go.GD.fm (3,s,[])
 | .neg s=>Go.GD.fm (4,[],[Go.GD.fm (3,s,[])])
 | .two true f g=>Go.GD.fm (6,[],[f.fm,g.fm])
 | .two false f g=>Go.GD.fm (5,[],[f.fm,g.fm])
def Fo.ok:Fo->Prop
 | .tr=>True
 | .fa=>True
 | .atm s=>vName s=true
 | .neg s=>vName s=true
 | .two _ f g=>f.ok∧g.ok
def Fo.str:Fo->Int
 | .two true _ _=>3
 | .two false _ _=>4
 | _=>5
def Fo.par (b:Bool)(t:zA): zA:=if b then[40]++t++[41] else t
def Fo.text:Fo->zA
 | .tr=>[49]
 | .fa=>[48]
 | .atm s=>s
 | .neg s=>[126]++s
 | .two true f g=>Fo.par (decide (f.str<4)) f.text++[32,124,32]++Fo.par (decide (g.str<4)) g.text
 | .two false f g=>Fo.par (decide (f.str<5)) f.text++[32,38,32]++Fo.par (decide (g.str<5)) g.text
section
variable {σ ρ:Type}{B:σ->Option (σ⊕ρ)}{s t:σ}{r:ρ}
theorem uE (h:B s=some (.inl t)): zJ B s=zJ B t:=by rw[yS,h]
theorem vM (h:B s=some (.inr r)): zJ B s=some r:=by rw[yS,h]
end
end
section
theorem zNx{l:zA}(b:Nat)(hb:b<256)(h:l.length≤1000000): zAJ l (b:Int)=some ((),l++[UInt8.ofNat b]):=by
 unfold zAJ
 have e:(decide (0≤(b:Int))&&decide ((b:Int)<256)&&decide (len l+1<4294967296))=true:=by
  simp only[Qb,Ql]
  exact⟨⟨by omega,by omega⟩,show(l.length:Int)+1<4294967296 by omega⟩
 rw[e]
 rfl
theorem z1M{l s:zA}(h:l.length+s.length≤1000000): zA2 l s=some (len s,(),l++s):=by
 unfold zA2 z3y
 grind
theorem zPn (b:Bool)(t:zA): t.length≤(Fo.par b t).length∧(Fo.par b t).length≤t.length+2:=by
 unfold Fo.par
 grind
end
end Go.GD
