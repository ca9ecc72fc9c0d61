/- A part. Conditions: none. -/
import Derived.Test.YtkmalbjjjappgaaGreatDoorBase
import Derived.Test.YtkmalbjjjappgaaGreatDoorModels
import Derived.Lib.TrailingZeros
import Derived.Shelf.Strings.FieldsAny
import Derived.Test.YtkmalbjjjappgaaGreatDoorAu
import Derived.Test.YtkmalbjjjappgaaGreatDoorJoin
namespace Go.GD
open Option renaming some->Ah
open Bool renaming true->Aj,false->Ak
open Go renaming IntKind->Au
set_option autoImplicit false
set_option linter.unusedVariables false
section
noncomputable def zLF (rec_ref30_digits:Int->Option zA)(y0:Int): Option zA:=
 if decide (y0<10) then
  Ah (xV ([Au.u8.wrap (zE (48+y0))]:List Int))
 else
  (
   (z6u .i64 y0 10).bind λx1=>
   (z08 y0 10).bind λx2=>
   (rec_ref30_digits x1).bind λr1=>
   (qA r1 (xV ([Au.u8.wrap (zE (48+x2))]:List Int))).bind λx3=>
   Ah x3:Option zA).bind λs1=>
  Ah s1
noncomputable def zEL:Nat->Int->Option zA
 | 0=>λ_=>none
 | k+1=>λy0=>zLF (zEL k) y0
noncomputable def zVj (y0:Int): Option zA:=uC λk=>zEL k y0
noncomputable def zCo (y0:zA)(s2:Int×Int): Option ((Int×Int)⊕Int):=
 if decide (s2.2<(len y0)) then
  (
   (vR y0 s2.2).bind λx2=>
   if decide (x2<48) then
    Ah Aj
   else
    (vR y0 s2.2).bind λx3=>
    Ah (decide (57<x3)):Option Bool).bind λs3=>
  if s3 then
   Ah (.inr (-1))
  else
   (vR y0 s2.2).bind λx4=>
   Ah (.inl (zE ((zE (s2.1*10))+(zE (Au.u8.wrap (x4-48)))),zE (s2.2+1)))
 else
  Ah (.inr s2.1)
noncomputable def zOp (y0:zA): Option Int:=
 (
  if decide ((len y0)<1) then
   Ah Aj
  else
   if decide (4<(len y0)) then
    Ah Aj
   else
    if decide (1<(len y0)) then
     (vR y0 0).bind λx1=>
     Ah (x1==48)
    else
     Ah Ak:Option Bool).bind λs1=>
 if s1 then
  Ah (-1)
 else
  zN (zCo y0) (0,0)
noncomputable def zCE (y0:zA)(s2:(List zA)×zA×Int): Option (((List zA)×zA×Int)⊕((List zA)×zA)):=
 if decide (s2.2.2<(len y0)) then
  (vR y0 s2.2.2).bind λx1=>
  if x1==32 then
   (qG s2.1 ([s2.2.1]:List zA)).bind λx2=>
   Ah (.inl (x2,[],zE (s2.2.2+1)))
  else
   (sub y0 s2.2.2 (zE (s2.2.2+1))).bind λx3=>
   (qA s2.2.1 x3).bind λx4=>
   Ah (.inl (s2.1,x4,zE (s2.2.2+1)))
 else
  Ah (.inr (s2.1,s2.2.1))
noncomputable def zQd (y0:zA): Option (List zA):=
 (zN (zCE y0) (([]:List zA),[],0):Option ((List zA)×zA)).bind λs1=>
 (qG s1.1 ([s1.2]:List zA)).bind λx5=>
 Ah x5
noncomputable def zFA (y0:zA): Option (qB×Int):=
 (uV y0).bind λr1=>
 (zCF r1).bind λr2=>
 if(r2.2 != 0)||(!(r2.1==y0)) then
  Ah ((0,0,0,0,[],(0,0,0,(Ak,[]),([]:List zH)),(Ak,[]),(0,0),(0,0,0,0),fm (0,[],([]:List zC))),3)
 else
  Ah (r1,0)
noncomputable def zKw (y0:List Int)(s2:Int×Int×Int): Option ((Int×Int×Int)⊕(Int×Int)):=
 if decide (s2.2.2<(len y0)) then
  (zD y0 s2.2.2).bind λx1=>
  (z08 (zE (s2.1+(zE (x1)))) 65521).bind λx2=>
  (z08 (zE (s2.2.1+x2)) 65521).bind λx3=>
  Ah (.inl (x2,x3,zE (s2.2.2+1)))
 else
  Ah (.inr (s2.1,s2.2.1))
end
section
theorem qN{x:Int}(h1:-9223372036854775808<=x)(h2:x<9223372036854775808): zE x=x:=by
 simp only[zE,Au.wrap,Au.signed,Au.bits];simp;omega
theorem z0J (n:Nat)(h:n<9223372036854775808): zE (n:Int)=n:=qN (by omega) (by omega)
theorem wE (n:Nat)(h:n+1<9223372036854775808): zE ((n:Int)+1)=((n+1:Nat):Int):=by rw[qN (by omega) (by omega)];omega
theorem uB{α:Type}(l:List α)(i:Nat): zD l (i:Int)=l[i]?:=by simp[zD]
theorem zDQ (l:zA)(i:Nat): vR l (i:Int)=(l[i]?).map (λb=>(b.toNat:Int)):=by simp[vR]
theorem zWT{α:Type}{l:List α}{i:Int}(h0:0<=i)(h1:i<l.length): ∃ x,zD l i=Ah x/\l[i.toNat]?=Ah x:=by
 have:l[i.toNat]?=Ah l[i.toNat]:=Qs (by omega);grind [zD]
theorem yI{α:Type}{l m:List α}(h:l.length+m.length<4294967296): qG l m=Ah (l++m):=by simp[qG,h]
theorem wQ{l m:zA}(h:l.length+m.length<4294967296): qA l m=Ah (l++m):=by simp[qA,h]
theorem zL2{α:Type}{l:List α}{i j:Int}(h0:0<=i)(h1:i<=j)(h2:j<=l.length): sub l i j=Ah ((l.take j.toNat).drop i.toNat):=by grind [sub]
theorem zLn{α:Type}{l:List α}{j:Int}(h1:0<=j)(h2:j<=l.length): sub l 0 j=Ah (l.take j.toNat):=by simp[sub,h1,h2]
theorem zLz{α:Type}{l:List α}{i:Int}(h1:0<=i)(h2:i<=l.length): sub l i (len l)=Ah (l.drop i.toNat):=by simp[sub,h1,h2]
def z17{σ ρ α:Type}(step:Nat->σ->α->Option (σ⊕ρ))(fin:σ->Option ρ): Nat->List α->σ->Option ρ
 | _,[],s=>fin s
 | i,x::l,s=>match step i s x with
  | none=>none
  | some (.inl s')=>z17 step fin (i+1) l s'
  | some (.inr r)=>Ah r
theorem z5V{σ ρ α τ:Type}{B:τ->Option (τ⊕ρ)}(mk:Nat->σ->τ)(l:List α)(step:Nat->σ->α->Option (σ⊕ρ))(fin:σ->Option ρ)
  (hB:∀ i x s,l[i]?=Ah x->B (mk i s)=(step i s x).map λo=>match o with | .inl s'=>.inl (mk (i+1) s') | .inr r=>.inr r)
  (he:∀ s,B (mk l.length s)=(fin s).map .inr):∀(n i:Nat) (s:σ),i+n=l.length->zN B (mk i s)=z17 step fin i (l.drop i) s:=by
 intro n;induction n with
 | zero=>
  intro i s h;subst h;rw[zDp,he,UE];cases hf:fin s <;> simp[z17,hf]
 | succ n ih=>
  grind [zDp,List.drop_eq_getElem_cons,z17]
theorem zWK{σ ρ α τ:Type}{B:τ->Option (τ⊕ρ)}(mk:Nat->σ->τ)(l:List α)(step:Nat->σ->α->Option (σ⊕ρ))(fin:σ->Option ρ)
  (hB:∀ i x s,l[i]?=Ah x->B (mk i s)=(step i s x).map λo=>match o with | .inl s'=>.inl (mk (i+1) s') | .inr r=>.inr r)
  (he:∀ s,B (mk l.length s)=(fin s).map .inr) (s:σ):zN B (mk 0 s)=z17 step fin 0 l s:=by
 have:=z5V mk l step fin hB he l.length 0 s (by omega);grind
theorem zHw{ρ α σ τ:Type}{B:τ->Option (τ⊕ρ)}(mk:Nat->σ->τ)(l:List α)(I:Nat->σ->Prop)(Q:ρ->Prop)
  (hB:∀ i x s,l[i]?=Ah x->I i s->(∃ s',B (mk i s)=Ah (.inl (mk (i+1) s'))/\I (i+1) s')\/∃ r,B (mk i s)=Ah (.inr r)/\Q r)
  (he:∀ s,I l.length s->∃ r,B (mk l.length s)=Ah (.inr r)/\Q r):∀ s,I 0 s->∃ r,zN B (mk 0 s)=Ah r/\Q r:=by
 have key:∀ n i s,i+n=l.length->I i s->∃ r,zN B (mk i s)=Ah r/\Q r:=by
  intro n;induction n with
  | zero=>
   intro i s h hI;grind [zDp]
  | succ n ih=>
   intro i s h hI;have hx:l[i]?=Ah l[i]:=Qs (by omega);grind [zDp]
 simp_all
end
section
structure vC (s:vN): Prop where
 lo:0<=s.2
 hi:s.2<=s.1.length
 small:s.1.length<=2000
theorem z8B (l:List Int): zOL l=Ah (l.take 2000,0):=by
 unfold zOL;by_cases h:2000<len l
 ·rw[Qi h,zLn (by omega) (by grind)];rfl
 ·rw[Qa h,zLn (by simp) (by simp)];simp only[zob];rw[QQ (by simp),QQ (by grind)]
theorem z4I (l:List Int): vC (l.take 2000,0):=⟨Ql _,by simp,by simp;omega⟩
theorem z1z{s:vN}(h:vC s): ∃ v k,zHi s=Ah (v,k)/\vC (s.1,k):=by
 obtain⟨h1,h2,h3⟩:=h;unfold zHi;by_cases hk:len s.1<=s.2
 ·exact⟨0,s.2,by simp[hk],h1,h2,h3⟩
 ·have hk':s.2<s.1.length:=by simpa [len] using hk
  obtain⟨x,hx,_⟩:=zWT h1 hk';refine⟨x,s.2+1,?_,by grind,by grind,h3⟩;simp[hk];rw[qN (x:=s.2+1) (by omega) (by omega),show s.2+1-1=s.2 by omega,qN (by omega) (by omega),hx];rfl
theorem z73{x n:Int}(h0:1<=n)(h1:n<=4611686018427387904): ∃ v,zJG x n=Ah v/\0<=v/\v<n:=by
 unfold zJG;simp[z08];have ha:=Int.tmod_lt_of_pos x (show 0<n by omega);have hb:-n<x.tmod n:=by
  have:=Int.lt_tmod_of_pos x (show 0<n by omega);exact this
 by_cases hx:x.tmod n<0
 ·grind [qN]
 grind
theorem zWB{s:vN}{n:Int}(h:vC s)(h0:1<=n)(h1:n<=4611686018427387904): ∃ v k,uI s n=Ah (v,k)/\0<=v/\v<n/\vC (s.1,k):=by
 obtain⟨v,k,hr,hk⟩:=z1z h;obtain⟨u,hu,h2,h3⟩:=z73 (x:=v) h0 h1;grind [uI]
theorem z3q{s:vN}{l:List zA}(h:vC s)(h0:l≠[])(h1:l.length<=1000): ∃ x k,zCv s l=Ah (x,k)/\x∈l/\vC (s.1,k):=by
 have hp:=QF.2 h0;obtain⟨v,k,hr,h2,h3,hk⟩:=zWB (n:=len l) h (by grind) (by grind);obtain⟨x,hx,hx2⟩:=zWT h2 h3;exact⟨x,k,by simp[zCv,hr,hx],UD hx2,hk⟩
theorem band1 (k:Int)(h0:0<=k)(h1:k<4611686018427387904): zZy .i64 k 1=k % 2:=by
 obtain⟨n,rfl⟩:=Qv h0;unfold zZy;have h2:(BitVec.ofInt Au.i64.bits (n:Int) &&& BitVec.ofInt Au.i64.bits 1).toNat=n % 2:=by
  show(BitVec.ofInt 64 (n:Int) &&& 1#64).toNat=n % 2;rw[BitVec.toNat_and,BitVec.ofInt_natCast,BitVec.toNat_ofNat];show n % 2 ^ 64 &&& 1=n % 2;rw[Nat.and_one_is_mod];omega
 show zE _=_;rw[qN (by omega) (by omega)];omega
def z0o (k:Nat): zA:=[UInt8.ofNat (97+k)]
theorem zRl{s:vN}{n:Int}(h:vC s)(h0:1<=n)(h1:n<=26): ∃(g:Bool) (j:Nat) (k:Int),zAw s n=Ah ((g,z0o j),k)/\(j:Int)<n/\vC (s.1,k):=by
 obtain⟨v,k,hr,h2,h3,hk⟩:=zWB (n:=2*n) h (by omega) (by omega);obtain⟨m,rfl⟩:=Qv h2;refine⟨zZy .i64 m 1==1,m / 2,k,?_,by omega,hk⟩;unfold zAw;rw[qN (x:=2*n) (by omega) (by omega),hr];have hq:z6u .i64 (m:Int) 2=Ah ((m / 2:Nat):Int):=by
  simp only[z6u];rw[Qa (by omega)];show Ah (zE _)=_;have:(m:Int).tdiv 2=((m / 2:Nat):Int):=by
   rw[Int.tdiv_eq_ediv_of_nonneg (by omega)];omega
  rw[this,qN (by omega) (by omega)]
 simp only[zob,hq];have hw:Au.u8.wrap (zE (97+((m / 2:Nat):Int)))=((97+m / 2:Nat):Int):=by
  rw[qN (by omega) (by omega)];simp only[Au.wrap,Au.signed,Au.bits];simp;omega
 rw[hw];rfl
end
section
section
variable {α:Type}{l:List α}{i:Nat}{x:α}
theorem yK (h:l[i]?=Ah x): i<l.length:=by grind
theorem zLZ (h:l[i]?=Ah x): decide ((i:Int)<len l)=true:=by grind
theorem z8x (l:List α): decide (((l.length:Nat):Int)<len l)=false:=by simp
theorem xO (h:l[i]?=Ah x): zD l (i:Int)=Ah x:=by exact h
theorem zHx (h:l[i]?=Ah x)(hl:l.length<4294967296): zE ((i:Int)+1)=((i+1:Nat):Int):=wE i (by grind)
theorem zH8 (h:l[i]?=Ah x): l.take (i+1)=l.take i++[x]:=by rw[Un,h];rfl
theorem zHM (h:l[i]?=Ah x): x∈l:=by grind
end
section
variable {α σ ρ:Type}
theorem z5J{B:σ×Int->Option ((σ×Int)⊕ρ)}(l:List α)(f:σ->α->σ)(fin:σ->ρ)(I:Nat->σ->Prop)(s:σ)(h0:I 0 s)
  (hB:∀(i:Nat) x s,l[i]?=Ah x->I i s->B (s,(i:Int))=Ah (.inl (f s x,((i+1:Nat):Int)))/\I (i+1) (f s x))
  (he:∀ s,I l.length s->B (s,(l.length:Int))=Ah (.inr (fin s))):zN B (s,0)=Ah (fin (l.foldl f s))/\I l.length (l.foldl f s):=by
 have key:∀(n i:Nat) (s:σ),i+n=l.length->I i s->zN B (s,(i:Int))=Ah (fin ((l.drop i).foldl f s))/\I l.length ((l.drop i).foldl f s):=by
  intro n;induction n with
  | zero=>
   intro i s h hI;subst h;rw[zDp,he s hI,UE];grind
  | succ n ih=>
   grind [zDp,List.drop_eq_getElem_cons]
 have:=key l.length 0 s (by omega) h0;grind
theorem zYQ{B:Int->Option (Int⊕ρ)}(l:List α)(p:α->Bool)(yes no:ρ)
  (hB:∀(i:Nat) x,l[i]?=Ah x->B (i:Int)=Ah (if p x then .inr yes else .inl ((i+1:Nat):Int))) (he:B (l.length:Int)=Ah (.inr no)) :
  zN B 0=Ah (if l.any p then yes else no):=by
 have key:∀(n i:Nat),i+n=l.length->zN B (i:Int)=Ah (if(l.drop i).any p then yes else no):=by
  intro n;induction n with
  | zero=>
   intro i h;grind [zDp]
  | succ n ih=>
   intro i h;have hx:l[i]?=Ah l[i]:=Qs (by omega);rw[zDp,hB i _ hx,QB (by omega)];cases hp:p l[i] with
   | true=>grind
   | false=>
    grind
 have:=key l.length 0 (by omega);grind
theorem zW9{B:Int->Option (Int⊕Bool)}(l:List α)(p:α->Bool)(hB:∀(i:Nat) x,l[i]?=Ah x->B (i:Int)=Ah (if p x then .inr Aj else .inl ((i+1:Nat):Int)))(he:B (l.length:Int)=Ah (.inr Ak)):
  zN B 0=Ah (l.any p):=by
 rw[zYQ l p Aj Ak hB he];grind
end
end
section
def rng (n:Nat): List Int:=(List.range n).map Int.ofNat
theorem z9C (n:Nat): (rng n).length=n:=by simp[rng]
theorem rng_at{n i:Nat}{x:Int}(h:(rng n)[i]?=Ah x): x=(i:Int)/\i<n:=by grind [rng]
theorem z4l{n:Nat}{x:Int}: x∈rng n↔0<=x/\x<n:=by
 simp[rng];exact⟨λ⟨a,h1,h2⟩=>by grind,λh=>⟨x.toNat,by omega,by simp;omega⟩⟩
end
section
theorem zGR:∀ a:zA,uH a a=Ak
 | []=>rfl
 | a::x=>by simp[uH,zGR x,UInt8.lt_irrefl]
theorem zPL:∀ {a b c:zA},uH a b=Aj->uH b c=Aj->uH a c=Aj
 | _,_,[],_,h=>by simp[uH] at h
 | _,[],_::_,h,_=>by simp[uH] at h
 | [],_::_,_::_,_,_=>rfl
 | a::x,b::y,c::z,h1,h2=>by
  simp[uH] at *;rcases h1 with h1 | ⟨rfl,h1⟩ <;> rcases h2 with h2 | ⟨rfl,h2⟩
  ·grind
  ·grind
  ·grind
  ·exact .inr ⟨rfl,zPL h1 h2⟩
theorem zYa:∀ a b:zA,uH a b=Aj\/a=b\/uH b a=Aj
 | [],[]=>.inr (.inl rfl)
 | [],_::_=>.inl rfl
 | _::_,[]=>.inr (.inr rfl)
 | a::x,b::y=>by
  simp[uH];rcases UInt8.lt_or_lt_of_ne (a:=a) (b:=b) |> λf=>(Classical.em (a=b)).imp id f with rfl | h | h
  ·rcases zYa x y with h | rfl | h
   ·grind
   ·grind
   grind
  ·grind
  grind
theorem zT9{a b:zA}(h:uH a b=Aj): uH b a=false:=by
 grind [zPL,zGR]
def loB (b:UInt8): Bool:=decide (97<=(b.toNat:Int))&&decide ((b.toNat:Int)<=122)
def uX (b:UInt8): Bool:=loB b||(if decide (48<=(b.toNat:Int)) then decide ((b.toNat:Int)<=57)||(b.toNat:Int)==95 else(b.toNat:Int)==95)
def vName:zA->Bool
 | []=>Ak
 | c::r=>decide (r.length+1<=12)&&loB c&&r.all uX
theorem zTP (s:zA): zBj s=Ah (vName s):=by
 unfold zBj;cases s with
 | nil=>rfl
 | cons c r=>
  have h0:((len (c::r))==0)=false:=by rw[Qu];simp[len];omega
  by_cases hl:r.length+1<=12
  ·have h1:decide (12<len (c::r))=false:=by simp[len];omega
   rw[h0,h1];simp only[Bool.or_self,zbf,Qy];have h:=zWK (B:=zCw (c::r)) (λi (_:Unit)=>(i:Int)) (c::r)
    (λi _ b=>Ah (if loB b then .inl () else if decide (0<(i:Int))&&uX b then .inl () else .inr Ak)) (λ_=>Ah Aj) ?_ ?_ ()
   ·rw[show((0:Nat):Int)=0 from rfl] at h;rw[h];have key:∀(l:List UInt8) (i:Nat),0<i->z17 (λ(i:Nat) (_:Unit) (b:UInt8)=>Ah (if loB b then .inl () else if decide (0<(i:Int))&&uX b then .inl () else .inr Ak)) (λ_=>Ah Aj) i l ()=Ah (l.all uX):=by
     intro l;induction l with
     | nil=>intro i _;rfl
     | cons b l ih=>
      intro i hi;by_cases hb:uX b=Aj
      ·by_cases hlo:loB b=Aj
       ·simp only[z17,hlo,Qx];grind
       ·simp[z17,hb];grind
      grind [uX,z17]
    by_cases hlo:loB c=Aj
    ·simp[z17];grind [vName]
    ·simp[z17,hlo,vName]
   ·intro i x s hx;have hi:=(Qk.1 hx).1;unfold zCw;rw[zDQ,hx,wE i (by grind)];simp;by_cases hlo:loB x=Aj
    ·have hlo':=hlo;unfold loB at hlo';grind
    ·have hlo':=hlo;unfold loB at hlo';by_cases hc:(decide (0<(i:Int))&&uX x)=Aj
     ·have hc':=hc;unfold uX at hc';grind
     ·have hc':=hc;unfold uX at hc';grind
   ·unfold zCw;simp[len]
  ·have h1:decide (12<len (c::r))=true:=by simp[len];omega
   rw[h1];simp[vName,hl]
theorem zDF (s:zA): zAm s=Ah (vName s):=by
 unfold zAm;cases s with
 | nil=>rfl
 | cons c r=>
  have h0:decide ((len (c::r))<1)=false:=by simp[len];omega
  have hs0:vR (c::r) 0=Ah (c.toNat:Int):=rfl;rw[h0];by_cases hl:r.length+1<=12
  ·have h1:decide (12<len (c::r))=false:=by simp[len];omega
   rw[h1];simp only[zbf,Qy,hs0,zob];by_cases hlo:loB c=Aj
   ·have ha:decide ((c.toNat:Int)<97)=false:=by simp[loB] at hlo ⊢;omega
    have hb:decide (122<(c.toNat:Int))=false:=by simp[loB] at hlo ⊢;omega
    simp only[ha,hb,zbf,Qy,zob];have h:=zWK (B:=zDP (c::r)) (λi (_:Unit)=>(i:Int)) (c::r)
     (λ_ _ b=>Ah (if uX b then .inl () else .inr Ak)) (λ_=>Ah Aj) ?_ ?_ ()
    ·rw[show((0:Nat):Int)=0 from rfl] at h;have key:∀(l:List UInt8) (i:Nat),z17 (λ(_:Nat) (_:Unit) (b:UInt8)=>Ah (if uX b then .inl () else .inr Ak)) (λ_=>Ah Aj) i l ()=Ah (l.all uX):=by
      intro l;induction l with
      | nil=>intro i;rfl
      | cons b l ih=>
       by_cases hb:uX b=Aj
       ·simp[z17];grind
       ·simp[z17,hb]
     grind [vName,uX]
    ·intro i x s hx;have hi:=(Qk.1 hx).1;unfold zDP;rw[zDQ,hx,wE i (by grind)];simp;have hok:uX x=!(if decide ((x.toNat:Int)<97) then(if decide ((x.toNat:Int)<48) then((x.toNat:Int) != 95) else if decide (57<(x.toNat:Int)) then((x.toNat:Int) != 95) else Ak)
       else if decide (122<(x.toNat:Int)) then(if decide ((x.toNat:Int)<48) then((x.toNat:Int) != 95) else if decide (57<(x.toNat:Int)) then((x.toNat:Int) != 95) else Ak) else Ak):=by
      unfold uX loB;generalize (x.toNat:Int)=n;rw[UK];simp;constructor
      ·grind
      ·grind
     grind
    ·unfold zDP;simp[len]
   ·have hor:(decide ((c.toNat:Int)<97)||decide (122<(c.toNat:Int)))=true:=by simp[loB] at hlo ⊢;omega
    have hv:vName (c::r)=false:=by simp[vName,hlo]
    grind
  ·have h1:decide (12<len (c::r))=true:=by simp[len];omega
   rw[h1];simp[vName,hl]
theorem zPt (x:zH): zEz x=Ah (vName x.2):=by simp[zEz,zTP]
theorem zBw (x:zH): zAg x=Ah (vName x.2):=by simp[zAg,zDF]
theorem zJp{s:zA}(h:vName s=Aj): 1<=s.length/\s.length<=12:=by
 cases s with
 | nil=>simp[vName] at h
 | cons c r=>grind [vName]
def qT (x:zH): zA:=if vName x.2 then(if x.1 then 126::x.2 else x.2) else[]
theorem zHZ (x:zH): zC8 x=Ah (qT x):=by
 unfold zC8 qT;rw[zPt];cases h:vName x.2 with
 | false=>rfl
 | true=>
  have:=zJp h;cases hx:x.1 <;> simp[wQ (l:=[126]) (m:=x.2) (by simp;omega)]
theorem zL9 (x:zH): zBD x=Ah (qT x):=by
 unfold zBD qT;rw[zBw];cases h:vName x.2 with
 | false=>rfl
 | true=>
  have:=zJp h;cases hx:x.1 <;> simp[wQ (l:=[126]) (m:=x.2) (by simp;omega)]
theorem tD (x:zH): (qT x).length<=13:=by grind [qT,zJp]
def zE3 (s:zA): zH×Int:=
 let x:zH:=match s with
  | 126::r=>(Aj,r)
  | _=>(Ak,s)
 if vName x.2 then(x,0) else((Ak,[]),3)
theorem zKm (r:zA): zE3 (126::r)=if vName r then((Aj,r),0) else((Ak,[]),3):=rfl
theorem zFd{s:zA}(h:∀ r,s≠126::r): zE3 s=if vName s then((Ak,s),0) else((Ak,[]),3):=by
 unfold zE3;grind
theorem z3b (s:zA): zGz s=Ah (zE3 s):=by
 unfold zGz;cases s with
 | nil=>simp[len,zPt,zFd,vName]
 | cons c r=>
  have hs0:vR (c::r) 0=Ah (c.toNat:Int):=rfl;by_cases hc:c=126
  ·subst hc;have hs:=zLz (l:=(126::r:zA)) (i:=1) (by omega) (by simp;omega);simp[zPt];rw[zKm];grind
  ·have h1:((c.toNat:Int)==126)=false:=by
    rw[Qu];intro h;exact hc (UInt8.toNat_inj.1 (by grind))
   simp[zPt];rw[zFd (λr' h=>hc (by grind))];grind
theorem zUT (s:zA): zBN s=Ah (zE3 s):=by
 unfold zBN;cases s with
 | nil=>simp[len,zBw,zFd,vName]
 | cons c r=>
  have hs0:vR (c::r) 0=Ah (c.toNat:Int):=rfl;by_cases hc:c=126
  ·subst hc;have hs:=zLz (l:=(126::r:zA)) (i:=1) (by omega) (by simp;omega);simp[zBw];rw[zKm];grind
  ·have h1:((c.toNat:Int)==126)=false:=by
    rw[Qu];intro h;exact hc (UInt8.toNat_inj.1 (by grind))
   simp[zBw];rw[zFd (λr' h=>hc (by grind))];grind
def litLt (a b:zH): Bool:=uH a.2 b.2||(a.2==b.2&&(!a.1&&b.1))
def z8X (a b:zH): Int:=if litLt a b then -1 else if a=b then 0 else 1
theorem zJd (a b:zH): zCX a b=Ah (z8X a b):=by grind [zCX,z8X,litLt,zGR]
end
section
theorem z0V{l:List zH}(x:zH)(h:l.length<9223372036854775807): zJL l x=Ah (decide (x∈l)):=by
 have hh:=zHw (B:=zHb l x) (λi (_:Unit)=>(i:Int)) l (λi _=>∀ j,j<i->l[j]?≠Ah x) (λr=>r=decide (x∈l)) ?_ ?_ () (by simp)
 ·obtain⟨r,h1,rfl⟩:=hh;exact h1
 ·intro i y s hy hI;have hi:=(Qk.1 hy).1;have hlt:decide ((i:Int)<len l)=true:=by simp[len];omega
  unfold zHb;simp only[hlt,Qx,uB,hy,zob];by_cases hxy:y=x
  ·grind
  ·refine .inl ⟨(),by simp[hxy,wE i (by omega)],λj hj=>?_⟩;grind
 ·intro s hI;refine⟨Ak,by unfold zHb;simp,?_⟩;grind [List.mem_iff_getElem?]
end
section
section
variable {α ρ:Type}
def z33 (e:Nat->α->Int): Nat->List α->Int
 | _,[]=>0
 | i,x::r=>if e i x != 0 then e i x else z33 e (i+1) r
theorem z4v{B:Int->Option (Int⊕ρ)}(l:List α)(e:Nat->α->Int)(yes:Int->ρ)(no:ρ)(hB:∀(i:Nat) x,l[i]?=Ah x->B (i:Int)=Ah (if e i x != 0 then .inr (yes (e i x)) else .inl ((i+1:Nat):Int)))(he:B (l.length:Int)=Ah (.inr no)):
  zN B 0=Ah (if z33 e 0 l != 0 then yes (z33 e 0 l) else no):=by
 have key:∀(n i:Nat),i+n=l.length->zN B (i:Int)=Ah (if z33 e i (l.drop i) != 0 then yes (z33 e i (l.drop i)) else no):=by
  intro n;induction n with
  | zero=>
   intro i h;grind [zDp,z33]
  | succ n ih=>
   intro i h;have hx:l[i]?=Ah l[i]:=Qs (by omega);rw[zDp,hB i _ hx,QB (by omega)];simp[z33];grind
 have h:=key l.length 0 (by omega);grind
theorem z0B{e:Nat->α->Int}: ∀ {l:List α} {k:Nat},z33 e k l=0↔∀(i:Nat) x,l[i]?=Ah x->e (k+i) x=0
 | [],k=>by simp[z33]
 | x::r,k=>by
  simp only[z33];constructor
  ·intro h;cases hx:e k x != 0 with
   | true=>grind
   | false=>
    rw[hx] at h;intro i y hy;cases i with
    | zero=>grind
    | succ i=>rw[show k+(i+1)=k+1+i by omega];exact z0B.1 h i y (by grind)
  ·intro h;have h0:=h 0 x rfl;rw[Ul] at h0;rw[h0];exact z0B.2 λi y hy=>by rw[show k+1+i=k+(i+1) by omega];simp_all
end
end
section
theorem z5S{s:vN}{m n:Int}(h:vC s)(h0:0<=m)(hm:m<=1000000)(h1:1<=n)(h2:n<=26): ∃(l:List zH) (k:Int),zCt s m n=Ah (l,k)/\(l.length:Int)<=m/\(∀ x∈l,∃ j:Nat,(j:Int)<n/\x.2=z0o j)/\vC (s.1,k):=by
 obtain⟨v,k,hr,hv0,hv1,hk⟩:=zWB (n:=m+1) h (by omega) (by omega);unfold zCt;rw[qN (x:=m+1) (by omega) (by omega),hr];obtain⟨r,h3,h4⟩:=z5B (B:=zE2 s n) (λt=>0<=t.2.1/\(t.1.length:Int)+t.2.1=v/\(∀ x∈t.1,∃ j:Nat,(j:Int)<n/\x.2=z0o j)/\vC (s.1,t.2.2)) (λt=>t.2.1.toNat)
  (λr=>(r.1.length:Int)<=m/\(∀ x∈r.1,∃ j:Nat,(j:Int)<n/\x.2=z0o j)/\vC (s.1,r.2)) (λt ht=>by
   obtain⟨l,q,k⟩:=t;obtain⟨t1,t2,t3,t4⟩:=ht;dsimp only at t1 t2 t3 t4;unfold zE2;by_cases hq:0<q
   ·obtain⟨g,j,k',h5,hj,hk'⟩:=zRl t4 h1 h2;refine .inl ⟨(l++[(g,z0o j)],q-1,k'),?_,⟨by grind,by simp;omega,λx hx=>?_,hk'⟩,by grind⟩
    ·simp[hq,h5];rw[yI (by simp;omega),qN (by omega) (by omega)];rfl
    grind
   ·refine .inr ⟨(l,k),by simp[hq],by grind,t3,t4⟩) (([]:List zH),v,k) ⟨hv0,by simp,by simp,hk⟩
 grind
theorem z3J{s:vN}{l:List Int}(h:vC s)(h0:l≠[])(h1:l.length<=1000): ∃ x k,zD7 s l=Ah (x,k)/\x∈l/\vC (s.1,k):=by
 have hp:=QF.2 h0;obtain⟨v,k,hr,h2,h3,hk⟩:=zWB (n:=len l) h (by grind) (by grind);obtain⟨x,hx,hx2⟩:=zWT h2 h3;grind [zD7]
def ruleN (n:Nat): zA:=[114,UInt8.ofNat (97+n)]
theorem zQJ{n:Nat}(h:n<26): zCY (n:Int)=Ah (ruleN n):=by
 have:∀ n:Nat,n<26->zCY (n:Int)=Ah (ruleN n):=by decide
 grind
end
section
def Ok{α:Type}(x:Option α)(Q:α->Prop): Prop:=∃ a,x=Ah a/\Q a
section
variable {α β:Type}
theorem Ok.ret{a:α}{Q:α->Prop}(h:Q a): Ok (Ah a) Q:=⟨a,rfl,h⟩
theorem Ok.bind{x:Option α}{f:α->Option β}{I:α->Prop}{Q:β->Prop}(h:Ok x I)(k:∀ a,I a->Ok (f a) Q): Ok (x.bind f) Q:=by
 obtain⟨a,rfl,ha⟩:=h;grind
theorem Ok.ite{c:Bool}{x y:Option α}{Q:α->Prop}(hx:c=Aj->Ok x Q)(hy:c=Ak->Ok y Q): Ok (if c=Aj then x else y) Q:=by grind
theorem Ok.imp{x:Option α}{I Q:α->Prop}(h:Ok x I)(k:∀ a,I a->Q a): Ok x Q:=by grind [Ok]
theorem Ok.idx{l:List α}{i:Int}(h0:0<=i)(h1:i<l.length): Ok (zD l i) λx=>x∈l/\l[i.toNat]?=Ah x:=by grind [Ok,zD]
theorem Ok.app{l m:List α}(h:l.length+m.length<4294967296): Ok (qG l m) λz=>z=l++m:=⟨_,yI h,rfl⟩
end
section
variable {s:vN}
theorem Ok.N{n:Int}(h:vC s)(h0:0<=n)(h1:n<=4611686018427387904): Ok (uI s n) λr=>0<=r.1/\(1<=n->r.1<n)/\vC (s.1,r.2):=by
 by_cases hn:1<=n
 ·obtain⟨v,k,e,a,b,c⟩:=zWB h hn h1;exact⟨_,e,a,λ_=>b,c⟩
 ·obtain⟨v,k,hr,hk⟩:=z1z h;have hn1:n<1:=by omega
  refine⟨(0,k),?_,Ql _,λh=>absurd h hn,hk⟩;simp[uI,hr,zJG,hn1]
theorem Ok.Text{l:List zA}(h:vC s)(h0:l≠[])(h1:l.length<=1000): Ok (zCv s l) λr=>r.1∈l/\vC (s.1,r.2):=by
 obtain⟨x,k,e,a,b⟩:=z3q h h0 h1;exact⟨_,e,a,b⟩
theorem Ok.Pick{l:List Int}(h:vC s)(h0:l≠[])(h1:l.length<=1000): Ok (zD7 s l) λr=>r.1∈l/\vC (s.1,r.2):=by grind [z3J,Ok]
theorem Ok.Literal{n:Int}(h:vC s)(h0:1<=n)(h1:n<=26): Ok (zAw s n) λr=>(∃ j:Nat,(j:Int)<n/\r.1.2=z0o j)/\vC (s.1,r.2):=by
 obtain⟨g,j,k,e,a,b⟩:=zRl h h0 h1;exact⟨_,e,⟨j,a,rfl⟩,b⟩
theorem Ok.Literals{m n:Int}(h:vC s)(h0:0<=m)(hm:m<=1000000)(h1:1<=n)(h2:n<=26): Ok (zCt s m n) λr=>(r.1.length:Int)<=m/\(∀ x∈r.1,∃ j:Nat,(j:Int)<n/\x.2=z0o j)/\vC (s.1,r.2):=by
 obtain⟨l,k,e,a,b,c⟩:=z5S h h0 hm h1 h2;exact⟨_,e,a,b,c⟩
end
section
variable {α β σ τ ρ:Type}
def Nx (mk:Nat->σ->τ)(I:Nat->σ->Prop)(Q:ρ->Prop)(i:Nat): τ⊕ρ->Prop
 | .inl t=>∃ s,t=mk i s/\I i s
 | .inr r=>Q r
def Fin (Q:ρ->Prop): τ⊕ρ->Prop
 | .inl _=>False
 | .inr r=>Q r
theorem Ok.forI{B:τ->Option (τ⊕ρ)}(mk:Nat->σ->τ)(l:List α)(I:Nat->σ->Prop)(Q:ρ->Prop)(hB:∀ i x s,l[i]?=Ah x->I i s->Ok (B (mk i s)) (Nx mk I Q (i+1)))
  (he:∀ s,I l.length s->Ok (B (mk l.length s)) (Fin Q)) (s:σ) (h:I 0 s):Ok (zN B (mk 0 s)) Q:=by
 refine zHw mk l I Q (λi x s hx hI=>?_) (λs hI=>?_) s h
 ·obtain⟨o,h1,h2⟩:=hB i x s hx hI;cases o with
  | inl t=>obtain⟨s',rfl,h3⟩:=h2;grind
  | inr r=>exact .inr ⟨r,h1,h2⟩
 ·obtain⟨o,h1,h2⟩:=he s hI;cases o with
  | inl t=>exact h2.elim
  | inr r=>exact⟨r,h1,h2⟩
theorem Ok.seqE{x:Option (σ⊕α)}{f:σ->Option α}{I:σ⊕α->Prop}{Q:α->Prop}(h:Ok x I)(k:∀ a,I (.inl a)->Ok (f a) Q)(k2:∀ r,I (.inr r)->Q r): Ok (yG x f) Q:=by
 obtain⟨a,rfl,ha⟩:=h;cases a with
 | inl a=>exact k a ha
 | inr r=>exact⟨r,rfl,k2 r ha⟩
end
theorem yY{α:Type}{l:List α}{i:Nat}{x:α}(h:l[i]?=Ah x): decide ((i:Int)<len l)=true:=by grind
theorem uW{α:Type}{l:List α}: decide ((l.length:Int)<len l)=false:=by grind
theorem z3Q{α:Type}{l:List α}{i:Nat}{y x:α}(h:x∈l.set i y): x=y\/x∈l:=by
 rcases List.mem_or_eq_of_mem_set h with h | h
 ·exact .inr h
 ·exact .inl h
theorem zCP{α:Type}{l:List α}(h:l.length<4294967296): qG ([]:List α) l=Ah l:=by grind [qG]
end
section
theorem wrapU{x:Int}(h0:0<=x)(h1:x<18446744073709551616): Au.u64.wrap x=x:=by
 unfold Au.wrap;simp[Au.bits,Au.signed];omega
theorem zJk{n:Nat}(h:n<18446744073709551616): Au.u64.wrap (n:Int)=(n:Int):=wrapU (by omega) (by omega)
theorem and_lt{a b:Nat}(ha:a<18446744073709551616): a &&& b<18446744073709551616:=Nat.lt_of_le_of_lt Nat.and_le_left ha
theorem or_lt{a b:Nat}(ha:a<18446744073709551616)(hb:b<18446744073709551616): a ||| b<18446744073709551616:=Nat.or_lt_two_pow (n:=64) ha hb
theorem z6l{a b:Nat}(ha:a<18446744073709551616)(hb:b<18446744073709551616): zZy .u64 (a:Int) (b:Int)=((a &&& b:Nat):Int):=by
 unfold zZy;have h:(BitVec.ofNat 64 a &&& BitVec.ofNat 64 b).toNat=a &&& b:=by
  rw[BitVec.toNat_and,BitVec.toNat_ofNat,BitVec.toNat_ofNat,Ui ha,Ui hb]
 exact(congrArg (λz:Nat=>Au.u64.wrap (z:Int)) h).trans (zJk (and_lt ha))
theorem z4W{a b:Nat}(ha:a<18446744073709551616)(hb:b<18446744073709551616): bor .u64 (a:Int) (b:Int)=((a ||| b:Nat):Int):=by
 unfold bor;have h:(BitVec.ofNat 64 a ||| BitVec.ofNat 64 b).toNat=a ||| b:=by
  rw[BitVec.toNat_or,BitVec.toNat_ofNat,BitVec.toNat_ofNat,Ui ha,Ui hb]
 exact(congrArg (λz:Nat=>Au.u64.wrap (z:Int)) h).trans (zJk (or_lt ha hb))
theorem z1l{i:Nat}(h:i<64): z04 .u64 1 (Au.u64.wrap (i:Int))=Ah ((2 ^ i:Nat):Int):=by
 rw[zJk (by omega)];unfold z04 shl;have h2:(2:Nat) ^ i<18446744073709551616:=Nat.pow_lt_pow_right (a:=2) (by decide) (show i<64 from h);have h3:min ((i:Int).toNat) Au.u64.bits=i:=by simp[Au.bits];omega
 have h4:(1:Int)*2 ^ i=((2 ^ i:Nat):Int):=by rw[Int.one_mul];norm_cast
 rw[Qa (by omega),h3,h4,zJk h2]
theorem shrK_u{m i:Nat}(h:i<64): zZw .u64 (m:Int) (Au.u64.wrap (i:Int))=Ah ((m / 2 ^ i:Nat):Int):=by
 rw[zJk (by omega)];unfold zZw shr;have h3:min ((i:Int).toNat) Au.u64.bits=i:=by simp[Au.bits];omega
 rw[Qa (by omega),h3];rw[Int.fdiv_eq_ediv_of_nonneg _ (by exact Int.le_of_lt (Int.pow_pos (by decide)))];norm_cast
theorem zWx{i:Nat}(h:i<64): 2 ^ i<18446744073709551616:=Nat.pow_lt_pow_right (a:=2) (by decide) (show i<64 from h)
end
section
def ed (L:List uO)(a b:Int): Bool:=L.any λp=>p.1==a&&p.2==b
theorem z9j (n:Int)(L:List uO)(hb:L.length<4294967296)(a b:Int): zUB (n,L) a b=Ah (ed L a b):=by
 apply zW9
 ·intro i x hx;unfold zNp;simp only[zLZ hx,Qx,xO hx,zob,zHx hx hb];cases h1:x.1==a <;> cases h2:x.2==b <;> simp
 ·unfold zNp;simp
theorem net_In (l:List Int)(hb:l.length<4294967296)(x:Int): zQ3 l x=Ah (decide (x∈l)):=by
 have h:zQ3 l x=Ah (l.any (·==x)):=by
  unfold zQ3;apply zW9
  ·intro i y hy;unfold zPB;simp only[zLZ hy,Qx,xO hy,zob,zHx hy hb];cases y==x <;> rfl
  ·unfold zPB;simp
 rw[h];congr 1;rw[UK,List.any_eq_true,Qb];constructor
 ·rintro ⟨y,h1,h2⟩;rw[<-eq_of_beq h2];exact h1
 ·intro h;exact⟨x,h,by simp⟩
end
section
def inN (N:Nat)(L:List uO): Prop:=∀ a b:Int,ed L a b=Aj->∃ i j:Nat,i<N/\j<N/\a=(i:Int)/\b=(j:Int)
section
variable {N:Nat}{L:List uO}(hV:inN N L){X:Nat}(hX:X<18446744073709551616)
include hV hX
end
abbrev left (N:Nat)(gone:List Int)(i:Nat): Prop:=i<N/\(i:Int)∉gone
section
variable {N:Nat}(hN:N<=40){L:List uO}(hV:inN N L)(hL:L.length<4294967296){gone:List Int}(hg:∀ x∈gone,0<=x/\x<N)(hgl:gone.length<4294967296)
include hV
include hN hg
end
end
section
def vD:zA->zA×zA×Bool
 | []=>([],[],Ak)
 | c::r=>if c=10 then([],r,Aj) else(c::(vD r).1,(vD r).2.1,(vD r).2.2)
theorem z0G:∀ s:zA,s=(vD s).1++(if(vD s).2.2 then 10::(vD s).2.1 else[])
 | []=>rfl
 | c::r=>by
  have ih:=z0G r;unfold vD;split
  ·rename_i h;subst h;rfl
  ·simp;rw[<-ih]
theorem zXG:∀ s:zA,(vD s).2.2=Ak->(vD s).2.1=[]
 | [],_=>rfl
 | c::r,h=>by
  unfold vD at h ⊢;split
  ·rename_i hc;simp[hc] at h
  ·rename_i hc;rw[Qa hc] at h;exact zXG r h
theorem z6W{s:zA}(h:s≠[]): (vD s).2.1.length<s.length:=by
 have h1:=congrArg List.length (z0G s);cases he:(vD s).2.2 with
 | false=>rw[zXG s he];exact QF.2 h
 | true=>rw[he] at h1;simp at h1;omega
theorem z8I{a:zA}(ha:(10:UInt8)∉a)(r:zA): vD (a++10::r)=(a,r,Aj):=by
 induction a with
 | nil=>rfl
 | cons c a ih=>
  have hc:c≠10:=λe=>ha (by simp[e]);rw[Q1,vD,Qa hc,ih λh=>ha (by simp[h])]
theorem z1n:∀ s:zA,Lib.indexByte s 10=if(vD s).2.2 then((vD s).1.length:Int) else -1
 | []=>rfl
 | c::r=>by
  have ih:=z1n r;unfold vD Lib.indexByte;by_cases hc:c=10
  ·subst hc;rfl
  ·have hb:(c==10)=false:=beq_false_of_ne hc;simp only[hb,zbf,Qy,Qa hc,ih];cases (vD r).2.2 with
   | false=>rfl
   | true=>
    have:(((vD r).1.length:Int)==-1)=false:=beq_false_of_ne (by omega);simp only[Qx,this,zbf,Qy,Qr];omega
theorem cut_ok{s:zA}(h:s.length<1000000): zDn s [10]=Ah (vD s):=by
 unfold zDn zCI zBo zYT;have hs:=z0G s;have hl:=congrArg List.length hs;rw[Qg] at hl;simp only[zob];rw[z1n];cases he:(vD s).2.2 with
 | false=>
  have h2:=zXG s he;rw[he] at hs;simp at hs;have:decide ((0:Int)<=-1)=false:=rfl;simp;have:vD s=((vD s).1,(vD s).2.1,(vD s).2.2):=rfl;rw[this,he,h2,<-hs]
 | true=>
  rw[he] at hs hl;simp at hs hl;have:decide ((0:Int)<=((vD s).1.length:Int))=true:=by simp
  simp;rw[zLn (by omega) (by omega)];have h1:len ([10]:zA)=1:=rfl;have hw:zE (((vD s).1.length:Int)+len ([10]:zA))=(((vD s).1.length+1:Nat):Int):=by rw[h1,qN (x:=((vD s).1.length:Int)+1) (by omega) (by omega)];omega
  rw[hw,zLz (by omega) (by omega)];simp only[zob,QY];have e0:vD s=((vD s).1,(vD s).2.1,(vD s).2.2):=rfl;have e1:s.take (vD s).1.length=(vD s).1:=by
   have:s.take (vD s).1.length=((vD s).1++10::(vD s).2.1).take (vD s).1.length:=by rw[<-hs]
   rw[this,Ur]
  have e2:s.drop ((vD s).1.length+1)=(vD s).2.1:=by
   have:s.drop ((vD s).1.length+1)=((vD s).1++10::(vD s).2.1).drop ((vD s).1.length+1):=by rw[<-hs]
   rw[this,<-Q0,List.drop_left];rfl
  rw[e0,he,e1,e2]
end
section
inductive Fo
 | tr
 | fa
 | atm (s:zA)
 | neg (s:zA)
 | two (o:Bool) (f g:Fo)
def Fo.fm:Fo->zC
 | .tr=>Go.GD.fm (1,[],[])
 | .fa=>Go.GD.fm (2,[],[])
 | .atm s=>Go.GD.fm (3,s,[])
 | .neg s=>Go.GD.fm (4,[],[Go.GD.fm (3,s,[])])
 | .two Aj f g=>Go.GD.fm (6,[],[f.fm,g.fm])
 | .two Ak f g=>Go.GD.fm (5,[],[f.fm,g.fm])
def Fo.ok:Fo->Prop
 | .tr=>True
 | .fa=>True
 | .atm s=>vName s=Aj
 | .neg s=>vName s=Aj
 | .two _ f g=>f.ok/\g.ok
def Fo.str:Fo->Int
 | .two Aj _ _=>3
 | .two Ak _ _=>4
 | _=>5
def Fo.par (b:Bool)(t:zA): zA:=if b then[40]++t++[41] else t
def Fo.text:Fo->zA
 | .tr=>[49]
 | .fa=>[48]
 | .atm s=>s
 | .neg s=>[126]++s
 | .two Aj f g=>Fo.par (decide (f.str<4)) f.text++[32,124,32]++Fo.par (decide (g.str<4)) g.text
 | .two Ak f g=>Fo.par (decide (f.str<5)) f.text++[32,38,32]++Fo.par (decide (g.str<5)) g.text
section
variable {σ ρ:Type}{B:σ->Option (σ⊕ρ)}{s t:σ}{r:ρ}
theorem yZ (h:B s=Ah (.inl t)): zN B s=zN B t:=by rw[zDp,h]
theorem vW (h:B s=Ah (.inr r)): zN B s=Ah r:=by rw[zDp,h]
end
end
section
theorem zQY{l:zA}(b:Nat)(hb:b<256)(h:l.length<=1000000): zAJ l (b:Int)=Ah ((),l++[UInt8.ofNat b]):=by
 unfold zAJ;have e:(decide (0<=(b:Int))&&decide ((b:Int)<256)&&decide (len l+1<4294967296))=true:=by
  simp only[Qc,Qb];exact⟨⟨by omega,by omega⟩,show(l.length:Int)+1<4294967296 by omega⟩
 rw[e];rfl
theorem z0k{l s:zA}(h:l.length+s.length<=1000000): zAV l s=Ah (len s,(),l++s):=by
 unfold zAV z7A;grind
theorem zRI (b:Bool)(t:zA): t.length<=(Fo.par b t).length/\(Fo.par b t).length<=t.length+2:=by
 unfold Fo.par;grind
end
section
def ofF (p:Nat->Bool): Nat->Nat
 | 0=>0
 | k+1=>ofF p k ||| (if p k then 2 ^ k else 0)
theorem z4b (p:Nat->Bool): ∀ k i:Nat,(ofF p k).testBit i=(decide (i<k)&&p i)
 | 0,i=>by simp[ofF]
 | k+1,i=>by
  rw[ofF,Nat.testBit_or,z4b p k i];by_cases h:i=k
  ·subst h;cases hp:p i <;> simp
  ·have h1:(if p k then 2 ^ k else 0).testBit i=false:=by
    split
    ·rw[Nat.testBit_two_pow];exact Qp (λe=>h e.symm)
    ·simp
   rw[h1,UI];congr 1;exact decide_eq_decide.2 (by omega)
theorem z2u{m k:Nat}(h:∀ i,k<=i->m.testBit i=Ak): m<2 ^ k:=Nat.lt_pow_two_of_testBit m h
end
section
def z9w (voc:List zA)(i:Nat)(x:zA): Int:=if vName x&&(i==0||match voc[i-1]? with | some y=>uH y x | none=>Ak) then 0 else 1
def zZz (voc:List zA): Bool:=decide (voc.length<=6)&&(z33 (z9w voc) 0 voc==0)
theorem z3e{voc:List zA}{j:Nat}{x y:zA}(hy:voc[j]?=Ah y): z9w voc (j+1) x=if vName x&&uH y x then 0 else 1:=by
 unfold z9w;grind
theorem zEl (voc:List zA)(h:voc.length<=1000): zBt voc=Ah (zZz voc):=by
 unfold zBt zZz;rw[z4v (B:=zFn voc) voc (z9w voc) (λ_=>(.inr Ak:Unit⊕Bool)) (.inl ()) (λi x hx=>by
  have hi:=yK hx;unfold zFn;simp only[zLZ hx,Qx,xO hx,zob,zDF];cases i with
  | zero=>
   unfold z9w;cases vName x <;> simp <;> rfl
  | succ j=>
   have hy:voc[j]?=Ah voc[j]:=Qs (by omega);have e0:decide ((0:Int)<((j+1:Nat):Int))=true:=Qq (by omega);have e1:zE (((j+1:Nat):Int)-1)=(j:Int):=by rw[qN (by omega) (by omega)];omega
   rw[z3e hy];simp only[e0,e1,Qx,xO hy,zob,zHx hx (show voc.length<4294967296 by omega)];have hs:(uH x voc[j]||x==voc[j])=!uH voc[j] x:=by
    rcases zYa voc[j] x with h | h | h
    ·rw[h,zT9 h];have:(x==voc[j])=false:=by
      simp only[Qu];intro e;rw[e,zGR] at h;cases h
     grind
    ·rw[<-h,zGR];simp
    ·rw[h,zT9 h];rfl
   grind) (by
  unfold zFn;grind)]
 have e:decide (len voc<=6)=decide (voc.length<=6):=decide_eq_decide.2 (show(voc.length:Int)<=6↔_ by omega);rw[e];cases hq:z33 (z9w voc) 0 voc==0 <;> simp[bne,hq,yG]
structure Voc (voc:List zA): Prop where
 n:voc.length<=6
 v:∀ x∈voc,vName x=Aj
 nd:voc.Nodup
theorem z6O{voc:List zA}: zZz voc=Aj↔voc.length<=6/\∀(i:Nat) x,voc[i]?=Ah x->vName x=Aj/\(i=0\/∃ y,voc[i-1]?=Ah y/\uH y x=Aj):=by
 unfold zZz;rw[Qc,Qb,QJ,z0B];refine and_congr_right λ_=>forall_congr' λi=>forall_congr' λx=>forall_congr' λ_=>?_;unfold z9w;grind
theorem zIv{voc:List zA}(h:zZz voc=Aj): Voc voc:=by
 obtain⟨h6,hz⟩:=z6O.1 h;have hlt:∀(d i:Nat) x y,voc[i]?=Ah x->voc[i+d+1]?=Ah y->uH x y=true:=by
  intro d;induction d with
  | zero=>
   grind
  | succ d ih=>
   grind [zPL]
 refine⟨h6,λx hx=>?_,?_⟩
 ·grind [List.mem_iff_getElem?]
 ·refine List.pairwise_iff_getElem.2 λi j hi hj hij e=>?_;have:=hlt (j-i-1) i voc[i] voc[j] (Qs hi) (by rw[show i+(j-i-1)+1=j by omega];grind);grind [zGR]
theorem ofF_lt{p:Nat->Bool}{k:Nat}(h:k<=64): ofF p k<18446744073709551616:=by
 have:ofF p k<2 ^ k:=z2u λi hi=>by rw[z4b,Qp (by omega)];rfl
 exact QP this (QZ (by omega:0<2) (by omega:k<=64))
end
section
theorem zU6{n:Nat}(h:n<=6): z04 .i64 1 (Au.u64.wrap (n:Int))=Ah ((2 ^ n:Nat):Int):=by
 rcases(by omega:n=0\/n=1\/n=2\/n=3\/n=4\/n=5\/n=6) with rfl | rfl | rfl | rfl | rfl | rfl | rfl <;> rfl
theorem zKP{n:Nat}(h:n<=6): 2 ^ n<=64:=QZ (n:=2) (by omega) h
theorem zLw{voc:List zA}(h:voc.length<=6): zGu voc=Ah ((2 ^ voc.length:Nat):Int):=by
 unfold zGu;rw[show len voc=(voc.length:Int) from rfl,zU6 h];rfl
end
section
def tM (l:List Int): Int:=l.foldl (λm x=>if x > m then x else m) 0
theorem z7j (l:List Int)(x:Int): tM (l++[x])=if x > tM l then x else tM l:=by unfold tM;rw[List.foldl_append];rfl
theorem z8g:∀(l:List Int) (m:Int),m<=l.foldl (λm x=>if x > m then x else m) m/\∀ x∈l,x<=l.foldl (λm x=>if x > m then x else m) m
 | [],m=>⟨Ql _,by simp⟩
 | y::l,m=>by
  have h:=z8g l (if y > m then y else m);refine⟨Int.le_trans (by split <;> omega) h.1,λx hx=>?_⟩;rcases QO.1 hx with rfl | hx
  ·exact Int.le_trans (by split <;> omega) h.1
  ·exact h.2 x hx
theorem z5M (l:List Int): 0<=tM l:=(z8g l 0).1
theorem z8c:∀(l:List Int) (m:Int),l.foldl (λm x=>if x > m then x else m) m=m\/l.foldl (λm x=>if x > m then x else m) m∈l
 | [],m=>.inl rfl
 | y::l,m=>by
  rw[List.foldl_cons];rcases z8c l (if y > m then y else m) with h | h
  ·rw[h];split
   ·exact .inr Qt
   ·exact .inl rfl
  ·exact .inr (Qm _ h)
theorem z2O{l:List Int}{N:Int}(h:∀ x∈l,x<N)(h0:0<N): tM l<N:=by
 rcases z8c l 0 with e | e
 ·unfold tM;rw[e];exact h0
 ·exact h _ e
structure zX7 (y:vQ): Prop where
 voc:zZz y.1=Aj
 n:y.2.length=2 ^ y.1.length
 rg:∀ x∈y.2,0<=x/\x<y.2.length
 all:∀ k:Nat,(k:Int)<tM y.2->(k:Int)∈y.2
end
section
theorem z62{l:List Int}(x:Int)(h:l.length<=1000): zNS l x=Ah (decide (x∈l)):=by
 unfold zNS;rw[zW9 (B:=zKB l x) l (λy=>y==x) (λi y hy=>by
  unfold zKB;simp[xO hy,zHx hy (show l.length<4294967296 by omega)];grind) (by unfold zKB;grind)]
 grind
theorem zRc{y:vQ}(h1:y.1.length<=1000)(h2:y.2.length<=1000): ∃ e,zBV y=Ah e/\(e=0↔zX7 y):=by
 unfold zBV;rw[zEl y.1 h1,zob];cases hv:zZz y.1 with
 | false=>exact⟨1,rfl,⟨nofun,λq=>by have:=q.voc;rw[hv] at this;cases this⟩⟩
 | true=>
  have h6:=(zIv hv).n;simp;rw[show len y.1=(y.1.length:Int) from rfl,zU6 h6];simp only[zob];by_cases hn:y.2.length=2 ^ y.1.length
  ·have hp:=U3 y.1.length;have e1:(len y.2 != ((2 ^ y.1.length:Nat):Int))=false:=by
    show(((y.2.length:Nat):Int) != ((2 ^ y.1.length:Nat):Int))=Ak;rw[hn];simp
   rw[e1];have hl:=zHw (B:=zDq y) (λi (s:Int)=>(s,(i:Int))) y.2
    (λi s=>(∀ x∈y.2.take i,0<=x/\x<y.2.length)/\s=tM (y.2.take i))
    (λr=>(r=.inr 8/\¬ ∀ x∈y.2,0<=x/\x<y.2.length)\/(r=.inl (tM y.2)/\∀ x∈y.2,0<=x/\x<y.2.length))
    (λi x s hx hI=>?_) (λs hI=>?_) 0 ⟨by simp,rfl⟩
   ·obtain⟨r,hr,hq⟩:=hl;rw[show((0:Nat):Int)=0 from rfl] at hr;rw[hr];rcases hq with⟨rfl,hbad⟩ | ⟨rfl,hok⟩
    ·exact⟨8,rfl,⟨nofun,λq=>absurd q.rg hbad⟩⟩
    ·have hm1:=z2O (l:=y.2) (N:=y.2.length) (λx hx=>(hok x hx).2) (by omega);simp[yG];have h2':=zYQ (B:=zDm (tM y.2) y) (rng (tM y.2).toNat) (λk=>!decide (k∈y.2)) (8:Int) 0 (λi x hx=>by
      obtain⟨rfl,hi⟩:=rng_at hx;unfold zDm;simp[Qq (show(i:Int)<tM y.2 by omega),z62 _ h2,wE i (by omega)];split <;> rfl) (by
      rw[z9C];unfold zDm;simp only[Qp (show ¬ (((tM y.2).toNat:Nat):Int)<tM y.2 by omega),zbf,Qy])
     rw[h2'];cases hc:(rng (tM y.2).toNat).any λk=>!decide (k∈y.2) with
     | true=>
      refine⟨8,rfl,⟨nofun,λq=>?_⟩⟩;obtain⟨k,hk,hk2⟩:=List.any_eq_true.1 hc;obtain⟨k0,k1⟩:=z4l.1 hk;have:=q.all k.toNat (by omega);rw[show((k.toNat:Nat):Int)=k by omega] at this;rw[Qq this] at hk2;cases hk2
     | false=>
      refine⟨0,rfl,⟨λ_=>⟨hv,hn,hok,λk hk=>?_⟩,λ_=>rfl⟩⟩;have:=List.any_eq_false.1 hc (k:Int) (z4l.2 ⟨by omega,by omega⟩);simpa using this
   ·obtain⟨i1,i2⟩:=hI;unfold zDq;have hlen:len y.2=(y.2.length:Int):=rfl;simp only[zLZ hx,Qx,xO hx,zob];by_cases hr:0<=x/\x<y.2.length
    ·rw[Qp (show ¬ x<0 by omega),Qp (show ¬ (y.2.length:Int)<=x by omega)];simp only[zbf,Qy,zob,zHx hx (show y.2.length<4294967296 by omega)];refine .inl ⟨if x > s then x else s,rfl,λw hw=>?_,by rw[zH8 hx,z7j,i2]⟩;rw[zH8 hx] at hw;rcases Qj.1 hw with hw | hw
     ·exact i1 w hw
     ·simp at hw;subst hw;exact hr
    ·refine .inr ⟨.inr 8,?_,.inl ⟨rfl,λq=>hr (q x (zHM hx))⟩⟩;by_cases h0:x<0
     ·rw[Qq h0];rfl
     ·rw[Qp h0,Qq (show(y.2.length:Int)<=x by omega)];rfl
   ·obtain⟨i1,i2⟩:=hI;rw[Us] at i1 i2;refine⟨.inl (tM y.2),?_,.inr ⟨rfl,i1⟩⟩;unfold zDq;simp[i2]
  ·have e1:(len y.2 != ((2 ^ y.1.length:Nat):Int))=true:=by
    show(((y.2.length:Nat):Int) != ((2 ^ y.1.length:Nat):Int))=Aj;rw[bne_iff_ne];omega
   rw[e1];exact⟨1,rfl,⟨nofun,λq=>absurd q.n hn⟩⟩
def lv (r:List Int)(k i:Nat): Nat:=ofF (λw=>r[w]?==Ah (k:Int)) i
def lvls (y:vQ): List Int:=(List.range ((tM y.2).toNat+1)).map λk=>((lv y.2 k y.2.length:Nat):Int)
theorem lv_lt{r:List Int}{k i:Nat}(h:i<=64): lv r k i<18446744073709551616:=ofF_lt h
theorem lv_suc{r:List Int}{k i:Nat}{x:Int}(hx:r[i]?=Ah x): lv r k (i+1)=lv r k i ||| (if x=(k:Int) then 2 ^ i else 0):=by
 unfold lv;rw[ofF,hx];by_cases e:x=(k:Int)
 ·rw[Qi e,Qi (by simp[e])]
 ·rw[Qa e,Qa (by simpa using e)]
theorem zSv{y:vQ}(h2:y.2.length<=1000): zKj y=Ah (tM y.2):=by
 exact(z5J (B:=zGv y) y.2 (λm x=>if x > m then x else m) (λm=>m) (λ_ _=>True) 0 trivial (λi x s hx _=>⟨by
  unfold zGv;simp only[zLZ hx,Qx,xO hx,zob,zHx hx (show y.2.length<4294967296 by omega)],trivial⟩) (λs _=>by
  unfold zGv;simp)).1
theorem zY4{y:vQ}(h64:y.2.length<=64)(k:Nat): zIh y (k:Int) (k:Int)=Ah ((lv y.2 k y.2.length:Nat):Int):=by
 have hl:=zHw (B:=zFr y (k:Int) (k:Int)) (λi (s:Nat)=>((s:Int),(i:Int))) y.2 (λi s=>s=lv y.2 k i) (λr=>r=((lv y.2 k y.2.length:Nat):Int)) (λi x s hx hs=>?_) (λs hs=>?_) 0 rfl
 ·obtain⟨r,h3,rfl⟩:=hl;exact h3
 ·left;subst hs;have hi:=yK hx;refine⟨_,?_,rfl⟩;unfold zFr;simp only[zLZ hx,Qx,xO hx,zob,zHx hx (show y.2.length<4294967296 by omega)];rw[lv_suc hx];by_cases e:x=(k:Int)
  ·rw[Qq (show(k:Int)<=x by omega)];simp[Qq (show x<=(k:Int) by omega),Qi e];rw[z1l (by omega),zob,z4W (lv_lt (by omega)) (zWx (by omega))]
  ·have hc:(if decide ((k:Int)<=x)=Aj then Ah (decide (x<=(k:Int))) else Ah Ak:Option Bool)=Ah false:=by
    by_cases h:(k:Int)<=x
    ·rw[Qq h,Qi rfl,Qp (by omega)]
    ·rw[Qp h];rfl
   rw[hc,Qa e,Nat.or_zero];rfl
 ·subst hs;refine⟨_,?_,rfl⟩;unfold zFr;simp
theorem zVs{y:vQ}(h1:y.1.length<=1000)(h2:y.2.length<=1000): (zX7 y->zEU y=Ah (lvls y))/\(¬ zX7 y->zEU y=Ah []):=by
 obtain⟨e,he,hi⟩:=zRc h1 h2;unfold zEU;rw[he,zob];constructor
 ·intro hok;rw[hi.2 hok];have h64:y.2.length<=64:=by rw[hok.n];exact zKP (zIv hok.voc).n
  have hpos:0<y.2.length:=by rw[hok.n];exact U3 _
  have hm0:=z5M y.2;have hm1:=z2O (l:=y.2) (N:=y.2.length) (λx hx=>(hok.rg x hx).2) (by omega);have hl:=zHw (B:=zFP y) (λi (s:List Int)=>(s,(i:Int))) (List.range ((tM y.2).toNat+1)) (λi s=>s=(List.range i).map λk=>((lv y.2 k y.2.length:Nat):Int)) (λr=>r=lvls y) (λi x s hx hs=>?_) (λs hs=>?_) [] rfl
  ·obtain⟨r,h3,rfl⟩:=hl;exact h3
  ·left;subst hs;have hi:i<(tM y.2).toNat+1:=by simpa using (Qk.1 hx).1
   refine⟨_,?_,rfl⟩;unfold zFP;rw[zSv h2,zob];simp[Qq (show(i:Int)<=tM y.2 by omega),zY4 h64 i];rw[yI (by simp;omega),zob,wE i (by omega),List.range_succ,Uk];rfl
  ·subst hs;refine⟨_,?_,rfl⟩;unfold zFP;rw[zSv h2,zob];simp only[UA,Qp (show ¬ (((tM y.2).toNat+1:Nat):Int)<=tM y.2 by omega),zbf,Qy];rfl
 ·intro hbad;have:(e != 0)=true:=by
   rw[bne_iff_ne];exact λq=>hbad (hi.1 q)
  simp[this]
end
section
theorem ins_ok{l:List zA}(x:zA)(h:l.length<=100000): Ok (zER l x) λr=>(∀ y∈r,y=x\/y∈l)/\r.length<=l.length+1:=by
 have hk:∃ k,zN (zD8 l x) 0=Ah k/\∃ n:Nat,k=(n:Int)/\n<=l.length:=by
  refine zHw (B:=zD8 l x) (λi (_:Unit)=>(i:Int)) l (λ_ _=>True) _ (λi y s hy _=>?_) (λs _=>?_) () trivial
  ·have hi:=yK hy;unfold zD8;simp only[zLZ hy,Qx,xO hy,zob,zHx hy (show l.length<4294967296 by omega)];cases uH y x with
   | true=>exact .inl ⟨(),rfl,trivial⟩
   | false=>exact .inr ⟨(i:Int),rfl,i,rfl,by omega⟩
  ·refine⟨(l.length:Int),?_,l.length,rfl,Qd _⟩;unfold zD8;simp
 obtain⟨_,h1,n,rfl,hn⟩:=hk;unfold zER;rw[h1,zob];refine .bind (I:=λ_=>True) (.ite (λhc=>?_) λ_=>.ret trivial) λb _=>.ite (λ_=>.ret ⟨λy hy=>.inr hy,by omega⟩) λ_=>?_
 ·have hc:(n:Int)<(l.length:Int):=of_decide_eq_true hc;exact .bind (.idx (by omega) hc) λ_ _=>.ret trivial
 ·rw[zLn (by omega) (by omega),zob,zCP (by rw[Q5];omega),zob,zLz (by omega) (by omega),zob,yI (by simp;omega),zob,yI (by simp;omega),zob];refine .ret ⟨λy hy=>?_,by simp;omega⟩;simp only[Qj,Qh] at hy;rcases hy with(hy | hy) | hy
  ·exact .inr (Q7 hy)
  ·exact .inl hy
  ·exact .inr (UC hy)
theorem z92{w i:Nat}(_hw:w<1000)(hi:i<64): zZw .i64 (w:Int) (Au.u64.wrap (i:Int))=Ah ((w / 2 ^ i:Nat):Int):=by
 rw[zJk (by omega)];unfold zZw shr;have h3:min ((i:Int).toNat) Au.i64.bits=i:=by simp[Au.bits];omega
 rw[Qa (by omega),h3];rw[Int.fdiv_eq_ediv_of_nonneg _ (by exact Int.le_of_lt (Int.pow_pos (by decide)))];norm_cast
theorem r3_Yes{voc:List zA}(h:voc.length<=6){w:Nat}(hw:w<64): ∃ r,zP3 voc (w:Int)=Ah r/\r.length<=6/\∀ x,x∈r↔∃ i,voc[i]?=Ah x/\w.testBit i=true:=by
 have hl:=zHw (B:=zHj voc (w:Int)) (λi (s:List zA)=>(s,(i:Int))) voc (λi s=>s.length<=i/\∀ x,x∈s↔∃ j,j<i/\voc[j]?=Ah x/\w.testBit j=Aj) (λr=>r.length<=6/\∀ x,x∈r↔∃ i,voc[i]?=Ah x/\w.testBit i=Aj) (λi y s hy hI=>?_) (λs hI=>?_) [] ⟨by simp,by simp⟩
 ·exact hl
 ·have hi:=yK hy;obtain⟨i1,i2⟩:=hI;unfold zHj;simp only[zLZ hy,Qx,z92 (show w<1000 by omega) (show i<64 by omega),zob,xO hy];have hb:(zZy .i64 ((w / 2 ^ i:Nat):Int) 1==1)=w.testBit i:=by
   have:w / 2 ^ i<=w:=Nat.div_le_self _ _;rw[Nat.testBit_eq_decide_div_mod_eq];generalize w / 2 ^ i=q at this ⊢;rw[band1 _ (by omega) (by omega),UK,QJ,Qb];omega
  rw[hb];have hstep:∀ x,(∃ j,j<i+1/\voc[j]?=Ah x/\w.testBit j=Aj)↔(∃ j,j<i/\voc[j]?=Ah x/\w.testBit j=Aj)\/(x=y/\w.testBit i=Aj):=λx=>by
   constructor
   ·rintro ⟨j,h1,h2,h3⟩;by_cases e:j=i
    ·subst e;rw[hy] at h2;cases h2;exact .inr ⟨rfl,h3⟩
    ·exact .inl ⟨j,by omega,h2,h3⟩
   ·rintro (⟨j,h1,h2,h3⟩ | ⟨rfl,h3⟩)
    ·exact⟨j,by omega,h2,h3⟩
    ·exact⟨i,by omega,hy,h3⟩
  cases hw2:w.testBit i with
  | true=>
   rw[yI (show s.length+([y]:List zA).length<4294967296 by simp;omega),zob,zHx hy (by omega)];refine .inl ⟨s++[y],rfl,by simp;omega,λx=>?_⟩;rw[hstep,Qj,Qh,i2,hw2];simp
  | false=>
   rw[zHx hy (by omega)];refine .inl ⟨s,rfl,by omega,λx=>?_⟩;rw[hstep,i2,hw2];simp
 ·obtain⟨i1,i2⟩:=hI;refine⟨s,?_,by omega,λx=>?_⟩
  ·unfold zHj;simp
  ·rw[i2];constructor
   ·rintro ⟨j,_,h2,h3⟩;exact⟨j,h2,h3⟩
   ·rintro ⟨j,h2,h3⟩;exact⟨j,yK h2,h2,h3⟩
end
section
theorem zQy (b:UInt8): zIF (b.toNat:Int)=Ah (uX b):=by grind [zIF,uX,loB]
def wB (b:UInt8): Bool:=uX b||(decide (65<=(b.toNat:Int))&&decide ((b.toNat:Int)<=90))
theorem iteT (a b:Bool): (if a=Aj then Ah b else Ah Ak:Option Bool)=Ah (a&&b):=by grind
section
variable {S:zA}{i:Nat}{bad:Int}(hl:S.length<=5000)
theorem zTg{R:zA}{j:Nat}(h:S.drop i=R): S[i+j]?=R[j]?:=by grind
theorem zOK{R:zA}(h:S.drop i=R)(hi:i<=S.length): S.length=i+R.length:=by grind
include hl
theorem tk_L2:∀(s R:zA) (i:Nat),S.drop i=s++R->i<=S.length->(∀ c∈s,wB c=Aj)->(∀ c r,R=c::r->wB c=Ak)->∀ k:Int,zN (zCe (S,k,bad)) (i:Int)=Ah ((i+s.length:Nat):Int)
 | [],R,i,h,hi,_,hR,k=>by
  refine vW ?_;unfold zCe;cases R with
  | nil=>
   grind
  | cons c r=>
   have hc:=hR c r rfl;have hx:S[i]?=Ah c:=by have:=zTg (j:=0) h;simpa using this
   unfold wB at hc;simp[zDQ,hx,zQy];grind
 | c::s,R,i,h,hi,hs,hR,k=>by
  have hc:=hs c Qt;have hx:S[i]?=Ah c:=by have:=zTg (j:=0) h;simpa using this
  have hi':=yK hx;have hd:S.drop (i+1)=s++R:=by
   have:=congrArg List.tail h;rw[List.tail_drop] at this;simpa using this
  have ih:=tk_L2 s R (i+1) hd (by omega) (λd hd=>hs d (Qm _ hd)) hR k;refine(yZ (t:=((i+1:Nat):Int)) ?_).trans (ih.trans ?_)
  ·unfold zCe;have:decide ((i:Int)<len S)=true:=Qq (show(i:Int)<(S.length:Int) by omega);unfold wB at hc;simp only[this,Qx,zDQ,hx,Uh,zob,zQy];cases ho:uX c with
   | true=>simp[wE i (by omega)]
   | false=>
    rw[ho,Bool.false_or] at hc;simp only[zbf,Qy];rw[iteT,hc];simp[wE i (by omega)]
  grind
end
end
section
def wdB (s:zA): Bool:=s==[48]||(s==[49]||vName s)
theorem z9N{s:zA}(h:wdB s=Aj): (∀ c∈s,wB c=Aj)/\s≠[]/\∃ c r,s=c::r/\uX c=Aj/\c≠32/\c≠126/\c≠40:=by
 have hne:∀ c:UInt8,uX c=Aj->c≠32/\c≠126/\c≠40:=λc hc=>by
  refine⟨?_,?_,?_⟩ <;> (rintro rfl;revert hc;decide)
 unfold wdB at h;rw[Ub,Ub,QJ,QJ] at h;rcases h with rfl | rfl | h
 ·exact⟨by decide,by simp,48,[],rfl,by decide,by decide,by decide,by decide⟩
 ·exact⟨by decide,by simp,49,[],rfl,by decide,by decide,by decide,by decide⟩
 ·cases s with
  | nil=>cases h
  | cons c r=>
   unfold vName at h;rw[Qc,Qc,QR] at h;obtain⟨⟨_,h2⟩,h3⟩:=h;have hc:uX c=true:=by unfold uX;rw[h2];rfl
   unfold wB;grind
section
variable {S:zA}{i:Nat}{bad:Int}(hl:S.length<=5000)
include hl
end
end
section
noncomputable abbrev tkn (S:zA)(i:Nat): Option (zA×Int):=zAX (S,(i:Int),-1)
def Fol (R:zA): Prop:=∀ c r,R=c::r->wB c=Ak
structure Pl (S:zA)(i:Nat)(sp X:zA): Prop where
 l:S.length<=5000
 b:sp=[]\/sp=[32]
 d:S.drop i=sp++X
 i:i<=S.length
def A (f:Fo)(k0:Nat): Prop:=∀(S sp R:zA) (i k:Nat) (t:zA) (j:Int),k0<=k->Pl S i sp (Fo.par (decide (f.str<4)) f.text++R)->Fol R->
 tkn S (i+sp.length+(Fo.par (decide (f.str<4)) f.text).length)=Ah (t,j)->(t==[38])=Ak->
 zAY k (S,(i:Int),-1)=Ah (f.fm,((i+sp.length+(Fo.par (decide (f.str<4)) f.text).length:Nat):Int),-1)
def I (f:Fo)(k0:Nat): Prop:=∀(S sp R:zA) (i k:Nat) (t:zA) (j:Int),k0<=k->Pl S i sp (f.text++R)->Fol R->
 tkn S (i+sp.length+f.text.length)=Ah (t,j)->(t==[38])=Ak->(t==[124])=Ak->(t==[45,62])=Ak->(t==[60,45,62])=Ak->
 zA3 k (S,(i:Int),-1)=Ah (f.fm,((i+sp.length+f.text.length:Nat):Int),-1)
end
section
theorem Ok.Rng{s:vN}{lo hi:Int}(h:vC s)(h0:-1000<=lo)(h1:lo<=hi)(h2:hi<=1000): Ok (zAp s lo hi) λr=>lo<=r.1/\r.1<=hi/\vC (s.1,r.2):=by
 obtain⟨v,k,h3,h4,h5,h6⟩:=zWB h (n:=hi-lo+1) (by omega) (by omega);exact⟨(lo+v,k),by grind [zAp,qN],by grind,by grind,h6⟩
theorem Ok.Voc{n:Int}(h0:0<=n)(h1:n<=4): Ok (zRV n) λr=>r.length<=10:=by
 refine Ok.forI (λi (o:List zA)=>(o,(i:Int))) (List.range n.toNat) (λi o=>o.length<=i) _ (λi x o hx ho=>?_) (λo ho=>?_) [] (by simp)
 ·have hi:i<n.toNat:=by simpa using (Qk.1 hx).1
  unfold zLf;simp[Qq (show(i:Int)<n by omega)];refine .bind (Ok.app (by simp;omega)) λz hz=>.ret ⟨z,by rw[wE i (by omega)],by grind⟩
 ·unfold zLf;simp only[UA,Qp (show ¬ ((n.toNat:Nat):Int)<n by omega),zbf,Qy];rw[UA] at ho;exact .ret (show o.length<=10 by omega)
theorem Ok.Normal31{voc:List zA}{r:List Int}(hv:voc.length<=10)(hr:r.length<=100): Ok (zDM voc r) λz=>z.1.1.length<=10/\z.1.2.length<=100:=by
 unfold zDM;rw[zEl voc (by omega),zob];refine .bind (I:=λ_=>True) (.ite (λ_=>.ret trivial) λhb=>?_) λb _=>.ite (λ_=>.ret ⟨by simp,by simp⟩) λ_=>?_
 ·have hb:zZz voc=true:=by simpa using hb
  exact .ret trivial
 ·rw[zCP (by omega),zob];have hmk:tI (len r) (len r) (0:Int)=Ah (List.replicate r.length 0):=by
   unfold tI;rw[Qi ⟨by grind,Ql _,by grind⟩];rfl
  rw[hmk];simp;refine .bind (I:=λz=>z.length<=100) ?_ λz hz=>.ret ⟨hv,hz⟩;refine Ok.forI (λi (o:List Int)=>((i:Int),o)) r (λ_ o=>o.length=r.length) _ (λi x o hx ho=>?_) (λo ho=>?_) (List.replicate r.length 0) (by simp)
  ·have hi:=yK hx;unfold zHS;simp only[zLZ hx,Qx];refine .bind (I:=λ_=>True) ?_ λb _=>?_
   ·refine Ok.forI (λj (q:List Int)=>(q,(j:Int))) r (λj q=>q.length<=j) _ (λj y q hy hq=>?_) (λq hq=>?_) [] (by simp)
    ·have hj:=yK hy;unfold zH6;simp only[zLZ hy,Qx,xO hy,xO hx,zob,z62 y (show q.length<=1000 by omega)];refine .bind (I:=λ_=>True) (.ite (λ_=>.ret trivial) λ_=>.ret trivial) λb _=>.ite (λ_=>.bind (Ok.app (by simp;omega)) λz hz=>.ret ⟨z,by grind [zHx],by grind⟩) λ_=>.ret ⟨q,by grind [zHx],by omega⟩
    ·unfold zH6;simp;exact .ret trivial
   ·exact .bind (.idx (by omega) (by omega)) λ_ _=>.ret ⟨_,by rw[zHx hx (by omega)],by grind⟩
  ·unfold zHS;simp;exact .ret (show o.length<=100 by omega)
end
section
def vH (c:UInt8): zA->zA×zA×Bool
 | []=>([],[],Ak)
 | x::r=>if x=c then([],r,Aj) else(x::(vH c r).1,(vH c r).2.1,(vH c r).2.2)
theorem zR4 (c:UInt8): ∀ s:zA,s=(vH c s).1++(if(vH c s).2.2=Aj then c::(vH c s).2.1 else[])
 | []=>rfl
 | x::r=>by
  unfold vH;by_cases h:x=c
  ·grind
  ·have:=zR4 c r;grind
theorem zSn (c:UInt8): ∀ s:zA,(vH c s).2.2=Ak->(vH c s).2.1=[]
 | [],_=>rfl
 | x::r,h=>by
  unfold vH at h ⊢;by_cases hx:x=c
  ·grind
  ·rw[Qa hx] at h ⊢;exact zSn c r h
theorem z1k (c:UInt8): ∀ s:zA,Lib.indexByte s c=if(vH c s).2.2=Aj then((vH c s).1.length:Int) else -1
 | []=>rfl
 | x::r=>by
  have ih:=z1k c r;unfold vH Lib.indexByte;grind
theorem z6M (c:UInt8){s:zA}(h:(vH c s).2.2=Aj): (vH c s).2.1.length<s.length:=by
 have h1:=congrArg List.length (zR4 c s);grind
theorem z9d (c:UInt8){s:zA}(h:s.length<1000000): zDn s [c]=Ah (vH c s):=by
 unfold zDn zCI zBo zYT;have hs:=zR4 c s;have hl:=congrArg List.length hs;rw[Qg] at hl;simp only[zob];rw[z1k];cases he:(vH c s).2.2 with
 | false=>
  have h2:=zSn c s he;grind
 | true=>
  rw[he] at hs hl;simp at hs hl;have:decide ((0:Int)<=((vH c s).1.length:Int))=true:=by simp
  simp;rw[zLn (by omega) (by omega)];have hw:zE (((vH c s).1.length:Int)+len [c])=(((vH c s).1.length+1:Nat):Int):=by
   rw[show len [c]=1 from rfl];exact wE _ (by omega)
  rw[hw,zob,zLz (by omega) (by omega),zob,zob];have e1:s.take (Int.toNat ((vH c s).1.length:Int))=(vH c s).1:=by
   rw[QY];have:=Ur (l₁:=(vH c s).1) (l₂:=c::(vH c s).2.1);rwa [<-hs] at this
  have e2:s.drop (Int.toNat (((vH c s).1.length+1:Nat):Int))=(vH c s).2.1:=by
   rw[QY,<-Q0];have:=List.drop_left (l₁:=(vH c s).1) (l₂:=c::(vH c s).2.1);rw[<-hs] at this;rw[this];rfl
  grind
def z5Z (x:UInt8): List zA->List zA
 | []=>[[x]]
 | w::ws=>(x::w)::ws
def xQ (c:UInt8): zA->List zA
 | []=>[[]]
 | x::r=>if x=c then[]::xQ c r else z5Z x (xQ c r)
theorem z4w (x:UInt8){l:List zA}(h:l≠[]): (z5Z x l).length=l.length:=by cases l with | nil=>grind | cons w ws=>rfl
theorem zNz (c:UInt8): ∀ s:zA,(xQ c s).length=s.count c+1
 | []=>rfl
 | x::r=>by
  have ih:=zNz c r;unfold xQ;by_cases h:x=c
  ·grind
  ·rw[Qa h,z4w x (λe=>by grind),ih,List.count_cons_of_ne h]
theorem zPF (c x:UInt8)(r:zA): xQ c (x::r)=if x=c then[]::xQ c r else z5Z x (xQ c r):=rfl
theorem zLX (c:UInt8): ∀ s:zA,xQ c s=if(vH c s).2.2=Aj then(vH c s).1::xQ c (vH c s).2.1 else[s]
 | []=>rfl
 | x::r=>by
  have ih:=zLX c r;rw[zPF];unfold vH;by_cases h:x=c
  ·grind
  ·rw[Qa h,Qa h,ih];cases (vH c r).2.2 with
   | true=>rfl
   | false=>rfl
theorem zEx{n:Nat}(h:n<10): Lib.decDigits n=[UInt8.ofNat (48+n)]:=by rw[Lib.decDigits,dif_pos h]
theorem zQx{n:Nat}(h:¬ n<10): Lib.decDigits n=Lib.decDigits (n / 10)++[UInt8.ofNat (48+n % 10)]:=by rw[Lib.decDigits,dif_neg h]
theorem z0D{n:Nat}(h:n<10): (UInt8.ofNat (48+n)).toNat=48+n:=by
 rw[UInt8.toNat_ofNat'];omega
def zKo (c:UInt8): Bool:=decide (48<=c.toNat)&&decide (c.toNat<=57)
theorem z7K{n:Nat}(h:n<10): zKo (UInt8.ofNat (48+n))=true:=by grind [zKo,z0D]
theorem z7O{c:UInt8}(h:zKo c=Aj): UInt8.ofNat (48+(c.toNat-48))=c:=by
 unfold zKo at h;simp_all
theorem z2Q (n:Nat): ∀ c∈Lib.decDigits n,zKo c=true:=by
 induction n using Nat.strongRecOn with
 | ind n ih=>
  grind [zEx,z7K,zQx]
theorem z8d (n:Nat): Lib.decDigits n≠[]:=by
 by_cases h:n<10
 ·rw[zEx h];simp
 ·rw[zQx h];simp
theorem z8D (n:Nat)(h0:0<n): (Lib.decDigits n).head?≠Ah 48:=by
 induction n using Nat.strongRecOn with
 | ind n ih=>
  by_cases h:n<10
  ·rw[zEx h];intro he;have he:UInt8.ofNat (48+n)=48:=by simpa using he
   have:=congrArg UInt8.toNat he;rw[z0D h] at this;grind
  grind [Lib.decDigits]
def stepD (a:Nat)(c:UInt8): Nat:=a*10+(c.toNat-48)
def zUw (acc:Nat)(l:zA): Nat:=l.foldl stepD acc
theorem zOD (acc:Nat): zUw acc []=acc:=rfl
theorem zJT (acc:Nat)(c:UInt8)(r:zA): zUw acc (c::r)=zUw (acc*10+(c.toNat-48)) r:=by grind [zUw,stepD]
theorem zQi:∀(l:zA) (acc:Nat) (c:UInt8),zUw acc (l++[c])=zUw acc l*10+(c.toNat-48)
 | [],acc,c=>by rw[QI,zJT,zOD,zOD]
 | x::l,acc,c=>by rw[Q1,zJT,zJT,zQi l]
theorem z7d (n:Nat): zUw 0 (Lib.decDigits n)=n:=by
 induction n using Nat.strongRecOn with
 | ind n ih=>
  grind [zEx,zOD,z0D,zQx,zQi]
theorem z3k:∀(l:zA) (acc:Nat),acc<=zUw acc l
 | [],acc=>Qd _
 | c::r,acc=>by
  rw[zJT];exact Qw (by omega) (z3k r _)
theorem zXu:∀(l:zA) (acc:Nat),(∀ c∈l,zKo c=Aj)->zUw acc l<(acc+1)*10 ^ l.length
 | [],acc,_=>by simp[zOD]
 | c::r,acc,h=>by
  have h1:=h c (by simp);unfold zKo at h1;simp at h1;rw[zJT];refine QP (zXu r _ λc hc=>h c (by simp[hc])) ?_;rw[Qr,Nat.pow_succ,Nat.mul_comm (10 ^ r.length) 10,<-Nat.mul_assoc];exact QK _ (by omega)
def zPX (w:zA): Bool:=!w.isEmpty&&w.all zKo&&(decide (w.length=1)||!(w.head?==Ah 48))
theorem z3m (n:Nat): zPX (Lib.decDigits n)=true:=by
 unfold zPX;grind [z8d,z2Q,zEx,z8D]
theorem z39:∀(k:Nat) (w:zA),w.length=k->zPX w=Aj->Lib.decDigits (zUw 0 w)=w:=by
 intro k;induction k with
 | zero=>grind [zPX]
 | succ k ih=>
  intro w hk h;obtain⟨a,c,rfl⟩:∃ a c,w=a++[c]:=⟨w.dropLast,w.getLast (by grind),(List.dropLast_concat_getLast _).symm⟩;unfold zPX at h;simp only[Qc,Ub,Bool.not_eq_true',QR,Qb] at h;obtain⟨⟨_,h2⟩,h3⟩:=h;have hc:=h2 c (by simp);have hc2:=hc;unfold zKo at hc2;simp at hc2;rw[zQi];cases a with
  | nil=>
   rw[zOD,zEx (by omega)];simp_all
  | cons x r=>
   have hx0:x≠48:=by
    rcases h3 with h3 | h3
    ·simp at h3
    ·grind
   have hx:=h2 x (by simp);have hx2:=hx;unfold zKo at hx2;simp at hx2;have hxn:x.toNat≠48:=λe=>hx0 (UInt8.toNat_inj.1 (by rw[e];rfl));have hge:1<=zUw 0 (x::r):=by
    rw[zJT];exact Qw (by omega) (z3k r _)
   have hcan:zPX (x::r)=true:=by
    unfold zPX;simp only[Qc,Ub,Bool.not_eq_true',QR,Qb];exact⟨⟨rfl,λc hc=>h2 c (by grind)⟩,.inr (by grind)⟩
   have hih:=ih (x::r) (by grind) hcan;rw[zQx (by omega)];rw[show(zUw 0 (x::r)*10+(c.toNat-48)) / 10=zUw 0 (x::r) by omega,show(zUw 0 (x::r)*10+(c.toNat-48)) % 10=c.toNat-48 by omega,hih,z7O hc]
def zYG (w:zA): Option Int:=if zPX w=Aj/\w.length<=4 then Ah (zUw 0 w:Int) else none
theorem zWM:∀(l:zA) (acc:Nat),(∀ c∈l,zKo c=Aj)->acc*10 ^ l.length+10 ^ l.length<=1000000->Lib.parseUint10 acc l=.ok (zUw acc l)
 | [],acc,_,_=>rfl
 | c::r,acc,h,hb=>by
  have h1:=h c (by simp);unfold zKo at h1;simp at h1;have hp:1<=10 ^ r.length:=Nat.pow_pos (by omega);rw[Qr,Nat.pow_succ] at hb;have hacc:acc<=1000000:=by
   have:acc*1<=acc*(10 ^ r.length*10):=Nat.mul_le_mul_left _ (by omega);omega
  rw[Lib.parseUint10,Qi h1,Qa (by omega),Qa (by omega),zJT];refine zWM r _ (λc hc=>h c (by simp[hc])) ?_;have e1:(acc*10+(c.toNat-48))*10 ^ r.length+10 ^ r.length=(acc*10+(c.toNat-48)+1)*10 ^ r.length:=by rw[QV _ 1,U1]
  rw[e1];refine Qw (QK _ (show acc*10+(c.toNat-48)+1<=acc*10+10 by omega)) ?_;grind
theorem z3X{w:zA}(h:zPX w=Aj)(hl:w.length<=4): Lib.atoiAll w=.ok (zUw 0 w:Int):=by
 unfold zPX at h;simp at h;obtain⟨⟨h1,h2⟩,_⟩:=h;cases w with
 | nil=>simp at h1
 | cons c r=>
  have hc:=h2 c (by simp);unfold zKo at hc;simp at hc;have hpow:10 ^ (c::r).length<=10 ^ 4:=QZ (by omega) hl;have hv:=zXu (c::r) 0 h2;unfold Lib.atoiAll;dsimp only;rw[Qa (by omega)];unfold Lib.parseMag;rw[Qa (by simp),zWM (c::r) 0 h2 (by omega)];grind
end
section
theorem z49:∀ n:Nat,n<10->xV ([Au.u8.wrap (zE (48+(n:Int)))]:List Int)=[UInt8.ofNat (48+n)]:=by decide
theorem z0e:∀(n:Nat),n<=100000->∀ fuel,n<fuel->zEL fuel (n:Int)=Ah (Lib.decDigits n)/\(Lib.decDigits n).length<=n+1:=by
 intro n;induction n using Nat.strongRecOn with
 | ind n ih=>
  intro hn fuel hf;cases fuel with
  | zero=>omega
  | succ fuel=>
   rw[zEL];unfold zLF;by_cases h:n<10
   ·have hd:decide ((n:Int)<10)=true:=by rw[Qb];omega
    simp only[hd,Qx];rw[z49 n h,zEx h];grind
   ·have hd:decide ((n:Int)<10)=false:=by rw[QM];omega
    have hq:z6u .i64 (n:Int) 10=Ah ((n / 10:Nat):Int):=by
     simp only[z6u];rw[Qa (by omega)];show Ah (zE _)=_;have:(n:Int).tdiv 10=((n / 10:Nat):Int):=by rw[Int.tdiv_eq_ediv_of_nonneg (by omega)];omega
     rw[this,qN (by omega) (by omega)]
    have hr:z08 (n:Int) 10=Ah ((n % 10:Nat):Int):=by
     simp only[z08];rw[Qa (by omega)];have:(n:Int).tmod 10=((n % 10:Nat):Int):=by rw[Int.tmod_eq_emod_of_nonneg (by omega)];omega
     rw[this]
    obtain⟨h1,h2⟩:=ih (n / 10) (by omega) (by omega) fuel (by omega);simp only[hd,zbf,Qy,hq,hr,zob,h1,z49 (n % 10) (by omega)];rw[wQ (by simp;omega),zQx h];grind
theorem z5k{n:Int}(h0:0<=n)(h1:n<=100000): zVj n=Ah (Lib.itoa n):=by
 obtain⟨k,rfl⟩:=Qv h0;refine z0U (k+1) λm hm=>?_;rw[(z0e k (by omega) m (by omega)).1];unfold Lib.itoa;grind
theorem z4G:∀(k n:Nat),1<=k->n<10 ^ k->(Lib.decDigits n).length<=k:=by
 intro k;induction k with
 | zero=>grind
 | succ k ih=>
  grind [zEx,zQx]
def uN:List zA->zA
 | []=>[]
 | [w]=>w
 | w::v::r=>w++32::uN (v::r)
theorem zX2{n:Int}(h0:-9223372036854775808<=n)(h1:n<=9223372036854775807): zEP n=Ah (Lib.itoa n):=by
 unfold zEP zDs zCf z78;grind
end
section
def spl:zA->zA->List zA×zA
 | w,[]=>([],w)
 | w,x::r=>if x=32 then(w::(spl [] r).1,(spl [] r).2) else spl (w++[x]) r
def z9Y (w:zA): List zA->List zA
 | []=>[w]
 | v::vs=>(w++v)::vs
theorem zNW (c:UInt8)(s:zA): xQ c s≠[]:=λe=>by grind [zNz]
theorem z5z (w:zA)(x:UInt8){l:List zA}(h:l≠[]): z9Y w (z5Z x l)=z9Y (w++[x]) l:=by
 cases l with
 | nil=>grind
 | cons v vs=>simp[z9Y,z5Z]
theorem z3y:∀(r w:zA),(spl w r).1++[(spl w r).2]=z9Y w (xQ 32 r)
 | [],w=>by simp[spl,xQ,z9Y]
 | x::r,w=>by
  rw[spl,zPF];by_cases h:x=32
  ·have:=z3y r [];have hne:=zNW 32 r;cases hs:xQ 32 r with
   | nil=>grind
   | cons v vs=>
    simp[z9Y] at this ⊢;grind
  ·rw[Qa h,Qa h,z3y r (w++[x]),z5z w x (zNW 32 r)]
theorem z6j (s:zA): (spl [] s).1++[(spl [] s).2]=xQ 32 s:=by
 rw[z3y];have hne:=zNW 32 s;cases hs:xQ 32 s with
 | nil=>grind
 | cons v vs=>simp[z9Y]
theorem zRH (s:zA)(hs:s.length<=5000): ∀(r w:zA) (i:Nat) (out:List zA),s.drop i=r->i<=s.length->w.length<=i->out.length<=i->
  zN (zCE s) (out,w,(i:Int))=Ah (out++(spl w r).1,(spl w r).2)
 | [],w,i,out,hr,hi,hw,ho=>by
  have hil:i=s.length:=by have:=congrArg List.length hr;simp at this;omega
  have hd:decide ((i:Int)<len s)=false:=by rw[hil];exact z8x s
  have hstep:zCE s (out,w,(i:Int))=Ah (.inr (out,w)):=by
   unfold zCE;simp only[hd,zbf,Qy]
  rw[zDp,hstep];simp[spl]
 | x::r,w,i,out,hr,hi,hw,ho=>by
  have hx:s[i]?=Ah x:=by have:=congrArg (λl=>l[0]?) hr;simpa using this
  have hlt:=yK hx;have hr2:s.drop (i+1)=r:=by rw[<-Q0,hr];rfl
  have hsx:vR s (i:Int)=Ah ((x.toNat:Nat):Int):=by rw[zDQ,hx];rfl
  by_cases h:x=32
  ·have hb:(((x.toNat:Nat):Int)==32)=true:=by rw[h];rfl
   have hstep:zCE s (out,w,(i:Int))=Ah (.inl (out++[w],[],((i+1:Nat):Int))):=by
    unfold zCE;simp only[zLZ hx,Qx,hsx,zob,hb];rw[yI (by simp;omega),zob,zHx hx (by omega)]
   rw[zDp,hstep];dsimp only;rw[zRH s hs r [] (i+1) (out++[w]) hr2 (by omega) (by simp) (by simp;omega)];rw[spl,Qi h];simp
  ·have hb:(((x.toNat:Nat):Int)==32)=false:=by
    rw[Qu];intro e;apply h;apply UInt8.toNat_inj.1;have h32:(32:UInt8).toNat=32:=rfl;omega
   have hsub:sub s (i:Int) (zE ((i:Int)+1))=Ah [x]:=by
    rw[zHx hx (by omega),zL2 (by omega) (by omega) (by omega)];have:(s.take (i+1)).drop i=[x]:=by
     rw[zH8 hx,Ut (by grind),List.drop_eq_nil_of_le (by grind)];rfl
    simpa using this
   have hstep:zCE s (out,w,(i:Int))=Ah (.inl (out,w++[x],((i+1:Nat):Int))):=by
    unfold zCE;simp only[zLZ hx,Qx,hsx,zob,hb,zbf,Qy,hsub];rw[wQ (by simp;omega),zob,zHx hx (by omega)]
   rw[zDp,hstep];dsimp only;rw[zRH s hs r (w++[x]) (i+1) out hr2 (by omega) (by simp;omega) (by omega)];rw[spl,Qa h]
theorem z7C{s:zA}(hs:s.length<=5000): zQd s=Ah (xQ 32 s):=by
 unfold zQd;have h:=zRH s hs s [] 0 [] rfl (by omega) (by simp) (by simp);grind [zNz,z6j,yI]
theorem zUF (c:UInt8): ∀(s:zA),∀ w∈xQ c s,w.length<=s.length
 | [],w,h=>by grind [xQ]
 | x::r,w,h=>by
  have ih:=zUF c r;rw[zPF] at h;split at h
  ·grind
  ·have hne:=zNW c r;cases hs:xQ c r with
   | nil=>grind
   | cons v vs=>
    rw[hs] at h ih;rcases QO.1 h with rfl | h
    ·grind
    grind
theorem z4J{w:zA}(hw:w.length<=5000): zOp w=Ah ((zYG w).getD (-1)):=by
 unfold zOp;cases w with
 | nil=>
  have:zYG []=none:=by unfold zYG zPX;simp
  grind
 | cons c r=>
  have d1:decide (len (c::r)<1)=false:=by simp[len];omega
  simp only[d1,zbf,Qy];by_cases hl:(c::r).length<=4
  ·have d2:decide (4<len (c::r))=false:=by simp[len] at hl ⊢;omega
   simp only[d2,zbf,Qy];have hs0:vR (c::r) 0=Ah ((c.toNat:Nat):Int):=rfl;have hif:(if decide (1<len (c::r))=Aj then(vR (c::r) 0).bind λx1=>Ah (x1==48) else Ah Ak)=Ah (decide (1<(c::r).length)&&c==48):=by
    have h48:(((c.toNat:Nat):Int)==48)=(c==48):=by
     rw[UK,QJ,QJ];constructor
     ·intro h;apply UInt8.toNat_inj.1;grind
     ·simp_all
    by_cases h1:1<(c::r).length
    ·grind
    ·grind
   rw[hif,zob];by_cases hz:(decide (1<(c::r).length)&&c==48)=Aj
   ·rw[Qi hz];have hz':=hz;simp only[Qc,Qb,QJ] at hz';have:zYG (c::r)=none:=by
     unfold zYG zPX;rw[Qa];intro h;simp only[Qc,Ub,Qb,List.head?_cons] at h;rcases h.1.2 with h2 | h2
     ·omega
     ·grind
    grind
   ·rw[Qa hz];have hlp:=zHw (B:=zCo (c::r)) (λi (v:Nat)=>((v:Int),(i:Int))) (c::r) (λi v=>v=zUw 0 ((c::r).take i)/\∀ x∈(c::r).take i,zKo x=Aj)
     (λo=>o=(if(c::r).all zKo=Aj then((zUw 0 (c::r):Nat):Int) else -1)) ?_ ?_ 0 (by simp[zOD])
    ·obtain⟨o,h1,rfl⟩:=hlp;rw[show zN (zCo (c::r)) (0,0)=_ from h1];congr 1;unfold zYG;have hcan:zPX (c::r)=(c::r).all zKo:=by
      unfold zPX;have h2:(decide ((c::r).length=1)||!((c::r).head?==Ah 48))=true:=by
       rw[Ub,Qb];by_cases h3:(c::r).length=1
       ·grind
       ·grind
      rw[h2];simp
     grind
    ·rintro i x v hx ⟨rfl,hI⟩;have hi:=yK hx;have hsx:vR (c::r) (i:Int)=Ah ((x.toNat:Nat):Int):=by rw[zDQ,hx];rfl
     have hv:=zXu ((c::r).take i) 0 hI;have hpow:10 ^ ((c::r).take i).length<=10 ^ 4:=QZ (by omega) (by grind);by_cases hd:zKo x=Aj
     ·have hd2:=hd;unfold zKo at hd2;simp only[Qc,Qb] at hd2;refine .inl ⟨zUw 0 ((c::r).take (i+1)),?_,rfl,λy hy=>?_⟩
      ·have e1:decide (((x.toNat:Nat):Int)<48)=false:=by rw[QM];omega
       have e2:decide ((57:Int)<((x.toNat:Nat):Int))=false:=by rw[QM];omega
       have hwr:Au.u8.wrap (((x.toNat:Nat):Int)-48)=((x.toNat-48:Nat):Int):=by
        simp only[Au.wrap,Au.signed,Au.bits];simp;omega
       unfold zCo;simp only[zLZ hx,Qx,hsx,zob,e1,zbf,Qy,e2,zHx hx (show(c::r).length<4294967296 by omega)];rw[hwr,qN (x:=((zUw 0 ((c::r).take i):Nat):Int)*10) (by omega) (by omega),z0J _ (by omega),qN (by omega) (by omega)];rw[zH8 hx,zQi];grind
      ·rw[zH8 hx,Qj,Qh] at hy;grind
     ·refine .inr ⟨-1,?_,?_⟩
      ·have hb:(if decide (((x.toNat:Nat):Int)<48)=Aj then Ah Aj else(vR (c::r) (i:Int)).bind λx3=>Ah (decide (57<x3)))=Ah true:=by
        by_cases h48:x.toNat<48
        ·grind
        ·have:¬ decide (((x.toNat:Nat):Int)<48)=true:=by rw[Qb];omega
         rw[Qa this,hsx,zob];congr 1;rw[Qb];unfold zKo at hd;grind
       unfold zCo;grind
      grind
    ·rintro v ⟨rfl,hI⟩;rw[Us] at hI ⊢;refine⟨_,?_,rfl⟩;rw[Qi (QR.2 hI)];unfold zCo;grind
  ·have d2:decide (4<len (c::r))=true:=by simp[len] at hl ⊢;omega
   have:zYG (c::r)=none:=by
    unfold zYG;rw[Qa λh=>hl h.2]
   grind
theorem z9P{l:zA}{v:Int}(h:Lib.atoiAll l=.ok v): -9223372036854775808<=v/\v<=9223372036854775807:=by
 unfold Lib.atoiAll at h;grind
end
section
def Wd (w:zA): Prop:=∀ c∈w,c≠32/\c≠10
theorem Wd.itoa{n:Int}(h:0<=n): Wd (Lib.itoa n):=λc hc=>by
 unfold Lib.itoa at hc;rw[Qa (by omega)] at hc;have h1:=z2Q _ c hc;unfold zKo at h1;simp only[Qc,Qb] at h1;refine⟨?_,?_⟩ <;> rintro rfl
 ·grind
 grind
theorem zRG (c:UInt8): ∀(a r:zA),c∉a->vH c (a++c::r)=(a,r,Aj)
 | [],r,_=>by simp[vH]
 | x::a,r,h=>by
  have h1:x≠c:=λe=>h (by simp[e]);have h2:c∉a:=λe=>h (by simp[e]);rw[Q1,vH,Qa h1,zRG c a r h2]
theorem z55 (c:UInt8): ∀(a:zA),c∉a->(vH c a).2.2=Ak
 | [],_=>rfl
 | x::a,h=>by
  have h1:x≠c:=λe=>h (by simp[e]);have h2:c∉a:=λe=>h (by simp[e]);rw[vH,Qa h1];exact z55 c a h2
theorem z16:∀ ws:List zA,ws≠[]->(∀ w∈ws,Wd w)->xQ 32 (uN ws)=ws
 | [],h,_=>absurd rfl h
 | [w],_,hw=>by
  have:(32:UInt8)∉w:=λe=>(hw w (by simp) 32 e).1 rfl;rw[uN,zLX,Qa (by rw[z55 32 w this];simp)]
 | w::v::r,_,hw=>by
  have:(32:UInt8)∉w:=λe=>(hw w (by simp) 32 e).1 rfl;rw[uN,zLX,zRG 32 w _ this,Qi rfl,z16 (v::r) (by simp) λu hu=>hw u (by grind)]
end
section
def xY:zA->Nat
 | []=>0
 | c::r=>if c=32 then xY r+1 else 0
theorem z1c:∀ R:zA,xY R<=R.length
 | []=>Qd _
 | c::r=>by
  unfold xY;split
  ·have:=z1c r;simp;omega
  ·simp
theorem z2B:∀ R:zA,xY (R.drop (xY R))=0
 | []=>rfl
 | c::r=>by
  by_cases hc:c=32
  ·have:xY (c::r)=xY r+1:=by rw[xY,Qi hc]
   rw[this,List.drop_succ_cons];exact z2B r
  ·have:xY (c::r)=0:=by rw[xY,Qa hc]
   grind
def xG:List zA:=[[60,45,62],[45,62],[126],[38],[124],[40],[41]]
inductive Tk
 | fin
 | nm (s:zA)
 | bit (s:zA)
 | sg (s:zA)
 | bad (s:zA)
def z8y (R:zA): Tk:=match xG.find? λs=>decide (s <+: R) with
 | some s=>.sg s
 | none=>.bad []
def zTK (R:zA): Tk:=
 if R=[] then .fin
 else if R.takeWhile wB≠[] then
  if R.takeWhile wB=[48]\/R.takeWhile wB=[49] then .bit (R.takeWhile wB) else if vName (R.takeWhile wB)=Aj then .nm (R.takeWhile wB) else .bad (R.takeWhile wB)
 else z8y R
theorem z4k{R:zA}(h:R≠[]): zTK R=if R.takeWhile wB≠[] then if R.takeWhile wB=[48]\/R.takeWhile wB=[49] then .bit (R.takeWhile wB) else if vName (R.takeWhile wB)=Aj then .nm (R.takeWhile wB) else .bad (R.takeWhile wB) else z8y R:=by
 unfold zTK;grind
def Tk.kind:Tk->zA
 | .fin=>[]
 | .nm _=>[110,97,109,101]
 | .bit s=>s
 | .sg s=>s
 | .bad _=>[63]
def Tk.text:Tk->zA
 | .fin=>[]
 | .nm s=>s
 | .bit s=>s
 | .sg s=>s
 | .bad s=>s
def Tk.word:Tk->zA
 | .fin=>[]
 | .nm s=>s
 | .bit s=>s
 | .sg s=>s
 | .bad _=>[63]
theorem z1t (b:UInt8): zHu (b.toNat:Int)=Ah (wB b):=by grind [zHu,wB,uX,loB]
section
variable {S:zA}
theorem z0Z (hl:S.length<=5000){B:Int->Option (Int⊕Int)}(hB:∀ s2:Int,B s2=((if decide (s2<(len S)) then(vR S s2).bind λx1=>Ah (x1==32) else Ah Ak:Option Bool).bind λs3=>if s3 then Ah (.inl (zE (s2+1))) else Ah (.inr s2))):
  ∀(R:zA) (i:Nat),S.drop i=R->i<=S.length->zN B (i:Int)=Ah ((i+xY R:Nat):Int)
 | [],i,h,hi=>by
  have hn:=zOK h hi;refine vW ?_;rw[hB];have:decide ((i:Int)<len S)=false:=Qp (by grind);simp only[this,zbf,Qy,zob];rfl
 | c::r,i,h,hi=>by
  have hn:=zOK h hi;simp at hn;have:decide ((i:Int)<len S)=true:=Qq (by grind);have hx:S[i]?=Ah c:=by have:=zTg (j:=0) h;simpa using this
  by_cases hc:c=32
  ·subst hc;have hd:S.drop (i+1)=r:=by
    have:=congrArg List.tail h;rw[List.tail_drop] at this;simpa using this
   refine(yZ (t:=((i+1:Nat):Int)) ?_).trans ((z0Z hl hB r (i+1) hd (by omega)).trans ?_)
   ·rw[hB];simp only[this,Qx,zDQ,hx,Uh,zob];rw[wE i (by omega)];rfl
   ·rw[xY,Qi rfl];grind
  ·refine vW ?_;rw[hB];have e32:((c.toNat:Int)==32)=false:=by
    simp only[Qu];intro e;exact hc (UInt8.toNat_inj.1 (by grind))
   simp[zDQ,hx,e32];rw[xY,Qa hc];rfl
end
theorem z5h{R:zA}(hl:R.length<=5000): ∀(n i:Nat),n+i=R.length->zN (zBP R) (i:Int)=Ah ((i+((R.drop i).takeWhile wB).length:Nat):Int)
 | 0,i,h=>by
  refine vW ?_;unfold zBP;simp_all
 | n+1,i,h=>by
  have hi:i<R.length:=by omega
  have hx:R[i]?=Ah R[i]:=Qs hi;have hd:R.drop i=R[i]::R.drop (i+1):=QB hi;have:decide ((i:Int)<len R)=true:=Qq (by grind);cases hb:wB R[i] with
  | true=>
   refine(yZ (t:=((i+1:Nat):Int)) ?_).trans ((z5h hl n (i+1) (by omega)).trans ?_)
   ·unfold zBP;simp only[this,Qx,zDQ,hx,Uh,zob,z1t,hb];rw[wE i (by omega)]
   grind [List.takeWhile_cons_of_pos]
  | false=>
   refine vW ?_;unfold zBP;simp[zDQ,hx,z1t];grind [List.takeWhile_cons_of_neg]
theorem zSp{s R:zA}: s <+: R↔(s.length<=R.length/\R.take s.length=s):=by
 rw[UR];grind
theorem z2N{R:zA}(j:Int)(hl:R.length<=5000): ∀(n i:Nat),n+i=7->zN (zBk R j) (i:Int)=Ah (match (xG.drop i).find? λs=>decide (s <+: R) with | some s=>.inr ((s,s,j),j) | none=>.inl ())
 | 0,i,h=>by
  have:i=7:=by omega
  subst this;refine vW ?_;rfl
 | n+1,i,h=>by
  have hi:i<xG.length:=by show i<7;omega
  have hx:xG[i]?=Ah xG[i]:=Qs hi;have hd:xG.drop i=xG[i]::xG.drop (i+1):=QB hi;have hlt:decide ((i:Int)<len ([[60,45,62],[45,62],[126],[38],[124],[40],[41]]:List zA))=true:=Qq (by show(i:Int)<7;omega);have hix:zD ([[60,45,62],[45,62],[126],[38],[124],[40],[41]]:List zA) (i:Int)=Ah xG[i]:=xO hx;by_cases hp:xG[i] <+: R
  ·obtain⟨p1,p2⟩:=zSp.1 hp;refine vW ?_;unfold zBk;have e2:sub R 0 (len xG[i])=Ah xG[i]:=by
    rw[zL2 (by omega) (by simp) (by grind)];simp[len,p2]
   grind
  ·refine(yZ (t:=((i+1:Nat):Int)) ?_).trans ((z2N j hl n (i+1) (by omega)).trans ?_)
   ·unfold zBk;simp only[hlt,Qx,hix,zob];by_cases hle:xG[i].length<=R.length
    ·have e1:decide (len xG[i]<=len R)=true:=Qq (by grind);have e2:sub R 0 (len xG[i])=Ah (R.take xG[i].length):=by
      rw[zL2 (by omega) (by simp) (by grind)];simp[len]
     have e3:(R.take xG[i].length==xG[i])=false:=by
      rw[Qu];exact λe=>hp (zSp.2 ⟨hle,e⟩)
     simp only[e1,Qx,e2,zob,e3,zbf,Qy];rw[wE i (by omega)]
    ·have e1:decide (len xG[i]<=len R)=false:=Qp (by grind);simp only[e1,zbf,Qy,zob];rw[wE i (by omega)]
   grind
section
variable {S:zA}{i:Nat}(hl:S.length<=5000)(hi:i<=S.length)
include hl hi
theorem zPI (bad:Int)(big:Bool): zAQ (S,(i:Int),bad,big) =
  Ah ((((zTK (S.drop (i+xY (S.drop i)))).kind,(zTK (S.drop (i+xY (S.drop i)))).text,((i+xY (S.drop i):Nat):Int)):zBB),((i+xY (S.drop i):Nat):Int)):=by
 have h1:zN (zGN (S,(i:Int),bad,big)) (i:Int)=Ah ((i+xY (S.drop i):Nat):Int):=z0Z hl (λ_=>rfl) _ i rfl hi;have hj:i+xY (S.drop i)<=S.length:=by
  have:=z1c (S.drop i);rw[QL] at this;omega
 unfold zAQ;rw[h1,zob];generalize i+xY (S.drop i)=j at hj;have h2:sub S (j:Int) (len S)=Ah (S.drop j):=by
  rw[zL2 (by omega) (by grind) (by simp)];simp[len]
 rw[h2,zob];have hRl:(S.drop j).length<=5000:=by rw[QL];omega
 by_cases hR:S.drop j=[]
 ·have e1:(S.drop j==[])=true:=by simpa using hR
  simp only[e1,Qx];have ht:zTK (S.drop j)=.fin:=by unfold zTK;rw[Qi hR]
  rw[ht];show Ah ((([],[],len S):zBB),(j:Int))=Ah ((([],[],(j:Int)):zBB),(j:Int));grind
 ·have e1:(S.drop j==[])=false:=by simpa using hR
  simp only[e1,zbf,Qy];generalize S.drop j=R at hR hRl;have h3:=z5h hRl R.length 0 (by omega);rw[Uf,Uv] at h3;have h3':zN (zBP R) 0=Ah ((R.takeWhile wB).length:Int):=h3;have hw:=(List.takeWhile_prefix (l:=R) wB);have hwl:=hw.length_le;have h4:sub R 0 ((R.takeWhile wB).length:Int)=Ah (R.takeWhile wB):=by
   rw[zL2 (by omega) (by omega) (by omega)];simp only[QY,Int.toNat_zero,Uf];exact congrArg Ah (UR.1 hw).symm
  rw[h3',zob,h4,zob];have ht:=z4k hR;by_cases hw0:R.takeWhile wB=[]
  ·rw[ht,Qa (by simp[hw0]),hw0];have hs:=z2N (R:=R) (j:Int) hRl 7 0 rfl;have hs':zN (zBk R (j:Int)) 0=_:=hs;rw[hs',Uf];unfold z8y;cases xG.find? λs=>decide (s <+: R) with
   | none=>rfl
   | some s=>rfl
  ·rw[ht,Qi hw0];have hpos:0<(R.takeWhile wB).length:=QF.2 hw0;by_cases hb:R.takeWhile wB=[48]\/R.takeWhile wB=[49]
   ·rw[Qi hb];have:((R.takeWhile wB==[48])||(R.takeWhile wB==[49]))=true:=by simpa using hb
    simp only[this,Qx];rfl
   ·rw[Qa hb];have:((R.takeWhile wB==[48])||(R.takeWhile wB==[49]))=false:=by
     rw[Uo,Qu,Qu];exact⟨λe=>hb (.inl e),λe=>hb (.inr e)⟩
    simp only[this,zbf,Qy,zTP,zob];cases hv:vName (R.takeWhile wB) with
    | true=>
     rfl
    | false=>
     have e5:decide ((0:Int)<((R.takeWhile wB).length:Int))=true:=Qq (by omega);simp only[zbf,Qy,e5,Qx];rfl
end
end
section
def zUc:List zA:=[[126],[38],[124],[45,62],[60,45,62],[40],[41]]
theorem z3r (R:zA): (zUc.find? λs=>decide (s <+: R))=xG.find? λs=>decide (s <+: R):=by
 cases R with
 | nil=>rfl
 | cons c r=>
  simp[xG,zUc,List.find?_cons];by_cases h1:c=60
  ·subst h1;simp
  by_cases h2:c=45
  ·subst h2;simp
  by_cases h3:c=126
  ·grind
  by_cases h4:c=38
  ·grind
  by_cases h5:c=124
  ·grind
  grind
theorem z10{S:zA}{bad k:Int}{j:Nat}(hl:S.length<=5000)(hj:j<=S.length): ∀(n i:Nat),n+i=7->zN (zBr (S,k,bad) (j:Int)) (i:Int)=Ah (match (zUc.drop i).find? λs=>decide (s <+: S.drop j) with | some s=>(s,(j:Int)) | none=>([63],(j:Int)))
 | 0,i,h=>by
  have:i=7:=by omega
  subst this;refine vW ?_;rfl
 | n+1,i,h=>by
  have hi:i<zUc.length:=by show i<7;omega
  have hx:zUc[i]?=Ah zUc[i]:=Qs hi;have hd:zUc.drop i=zUc[i]::zUc.drop (i+1):=QB hi;have hlt:decide ((i:Int)<len ([[126],[38],[124],[45,62],[60,45,62],[40],[41]]:List zA))=true:=Qq (by show(i:Int)<7;omega);have hix:zD ([[126],[38],[124],[45,62],[60,45,62],[40],[41]]:List zA) (i:Int)=Ah zUc[i]:=xO hx;have hlen:zUc[i].length<=3:=by
   have:∀ x∈zUc,x.length<=3:=by decide
   exact this _ (List.getElem_mem hi)
  have hRl:(S.drop j).length=S.length-j:=QL;have hw1:zE (len S-(j:Int))=((S.length-j:Nat):Int):=by rw[qN (by grind) (by grind)];simp only[len];omega
  have hw2:zE ((j:Int)+len zUc[i])=((j+zUc[i].length:Nat):Int):=by rw[qN (by grind) (by grind)];simp only[len];omega
  have hsub:zUc[i].length<=S.length-j->sub S (j:Int) ((j+zUc[i].length:Nat):Int)=Ah ((S.drop j).take zUc[i].length):=λhle=>by
   rw[zL2 (by omega) (by omega) (by omega),QY,QY,Ud,Q2]
  by_cases hp:zUc[i] <+: S.drop j
  ·obtain⟨p1,p2⟩:=zSp.1 hp;refine vW ?_;unfold zBr;grind
  ·refine(yZ (t:=((i+1:Nat):Int)) ?_).trans ((z10 hl hj n (i+1) (by omega)).trans ?_)
   ·unfold zBr;simp only[hlt,Qx,hix,zob,hw1,hw2];by_cases hle:zUc[i].length<=S.length-j
    ·have e1:decide (len zUc[i]<=((S.length-j:Nat):Int))=true:=Qq (by grind);have e3:((S.drop j).take zUc[i].length==zUc[i])=false:=by
      rw[Qu];exact λe=>hp (zSp.2 ⟨by omega,e⟩)
     simp only[e1,Qx,hsub hle,zob,e3,zbf,Qy];rw[wE i (by omega)]
    ·have e1:decide (len zUc[i]<=((S.length-j:Nat):Int))=false:=Qp (by grind);simp only[e1,zbf,Qy,zob];rw[wE i (by omega)]
   grind
section
variable {S:zA}{i:Nat}(hl:S.length<=5000)(hi:i<=S.length)
include hl hi
theorem skj:i+xY (S.drop i)<=S.length:=by
 have _:=hl;have:=z1c (S.drop i);rw[QL] at this;omega
theorem zQm (bad:Int): zAX (S,(i:Int),bad)=Ah ((zTK (S.drop (i+xY (S.drop i)))).word,((i+xY (S.drop i):Nat):Int)):=by
 have h1:zN (zGw (S,(i:Int),bad)) (i:Int)=Ah ((i+xY (S.drop i):Nat):Int):=z0Z hl (λ_=>rfl) _ i rfl hi;have hj:=skj hl hi;unfold zAX;rw[h1,zob];generalize i+xY (S.drop i)=j at hj;have hRl:(S.drop j).length=S.length-j:=QL;by_cases hR:S.drop j=[]
 ·have hjl:j=S.length:=by
   have:=congrArg List.length hR;rw[QL] at this;simp at this;omega
  have e1:((j:Int)==len S)=true:=by rw[QJ];simp only[len];omega
  simp[e1];have ht:zTK (S.drop j)=.fin:=by unfold zTK;rw[Qi hR]
  rw[ht];rfl
 ·have hlt:j<S.length:=by
   rcases Nat.lt_or_ge j S.length with h | h
   ·exact h
   ·grind
  have e1:((j:Int)==len S)=false:=by rw[Qu];simp only[len];omega
  simp only[e1,zbf,Qy];have hsp:S.drop j=(S.drop j).takeWhile wB++(S.drop j).dropWhile wB:=List.takeWhile_append_dropWhile.symm;have h3:=tk_L2 (bad:=bad) hl ((S.drop j).takeWhile wB) ((S.drop j).dropWhile wB) j hsp hj (λc hc=>List.all_takeWhile |> λh=>by
   have:=QR.1 h c hc;grind) (λc r e=>by
   grind [List.head?_dropWhile_not]) (i:Int)
  rw[h3,zob];have hw:=(List.takeWhile_prefix (l:=S.drop j) wB);have hwl:=hw.length_le;have hsub:sub S (j:Int) ((j+((S.drop j).takeWhile wB).length:Nat):Int)=Ah ((S.drop j).takeWhile wB):=by
   rw[zL2 (by omega) (by omega) (by omega),QY,QY,Ud,Q2];exact congrArg Ah (UR.1 hw).symm
  have hs:=z10 (k:=(i:Int)) (bad:=bad) hl hj 7 0 rfl;rw[Uf,z3r] at hs;have hs':zN (zBr (S,(i:Int),bad) (j:Int)) 0=_:=hs;rw[hs',hsub];generalize S.drop j=R at hR hRl hw hwl;have ht:=z4k hR;rw[ht];by_cases hw0:R.takeWhile wB=[]
  ·rw[hw0];have e5:¬ decide ((j:Int)<((j+([]:List UInt8).length:Nat):Int))=true:=by simp
   rw[Qa e5,Qa (show ¬ (([]:List UInt8)≠[]) by simp)];unfold z8y;cases xG.find? λs=>decide (s <+: R) with
   | none=>rfl
   | some s=>rfl
  ·rw[Qi hw0];have hpos:0<(R.takeWhile wB).length:=QF.2 hw0;have e5:decide ((j:Int)<((j+(R.takeWhile wB).length:Nat):Int))=true:=Qq (by omega);simp only[e5,Qx,zob,zDF];by_cases hb:R.takeWhile wB=[48]\/R.takeWhile wB=[49]
   ·rcases hb with hb | hb <;> rw[hb] <;> rfl
   ·rw[Qa hb];have e6:(R.takeWhile wB==[48])=false:=by rw[Qu];exact λe=>hb (.inl e)
    have e7:(R.takeWhile wB==[49])=false:=by rw[Qu];exact λe=>hb (.inr e)
    simp[e6,e7];cases vName (R.takeWhile wB) <;> rfl
theorem zMI (bad:Int)(big:Bool)(k:zA): tL (S,(i:Int),bad,big) k =
  if(decide (0<=bad)||!((zTK (S.drop (i+xY (S.drop i)))).kind==k))=Aj then Ah (Ak,((i+xY (S.drop i):Nat):Int)) else Ah (Aj,zE (((i+xY (S.drop i):Nat):Int)+len (zTK (S.drop (i+xY (S.drop i)))).text)):=by
 unfold tL;rw[zPI hl hi,zob]
theorem zSm (bad:Int)(k:zA): zAE (S,(i:Int),bad) k =
  if(!((zTK (S.drop (i+xY (S.drop i)))).word==k)||decide (0<=bad))=Aj then Ah (Ak,(i:Int)) else Ah (Aj,zE (((i+xY (S.drop i):Nat):Int)+len k)):=by
 unfold zAE;rw[zQm hl hi,zob]
end
theorem z1X (R:zA): (∃ s∈xG,z8y R=.sg s/\s <+: R)\/z8y R=.bad []:=by
 unfold z8y;grind
theorem tk_pre (R:zA): (zTK R).text <+: R:=by
 grind [zTK,z1X,Tk.text]
theorem zXp (R:zA): zTK R=.fin\/(∃ s,zTK R=.nm s/\vName s=Aj/\s≠[48]/\s≠[49])\/zTK R=.bit [48]\/zTK R=.bit [49]\/(∃ s∈xG,zTK R=.sg s)\/∃ s,zTK R=.bad s:=by
 unfold zTK;split
 ·grind
 ·split
  ·grind
  ·rcases z1X R with⟨s,hs,h,_⟩ | h
   ·grind
   grind
end
section
def Ev (P:Nat->Prop): Prop:=∃ K,∀ k,K<=k->P k
theorem Ev.of{P:Nat->Prop}(h:∀ k,P k): Ev P:=⟨0,λk _=>h k⟩
theorem Ev.suc{P:Nat->Prop}(h:Ev λk=>P (k+1)): Ev P:=by
 obtain⟨K,hK⟩:=h;refine⟨K+1,λk hk=>?_⟩;cases k with
 | zero=>omega
 | succ k=>grind
theorem Ev.imp{P R:Nat->Prop}(h:Ev P)(k:∀ n,P n->R n): Ev R:=by
 obtain⟨K,hK⟩:=h;exact⟨K,λn hn=>k n (hK n hn)⟩
theorem Ev.imp2{P Q R:Nat->Prop}(h:Ev P)(h2:Ev Q)(k:∀ n,P n->Q n->R n): Ev R:=by
 obtain⟨K,hK⟩:=h;obtain⟨L,hL⟩:=h2;exact⟨max K L,λn hn=>k n (hK n (by omega)) (hL n (by omega))⟩
mutual
def vG:zC->Bool
 | .mk op _ l=>(if op=1\/op=2\/op=3 then l.length==0 else if op=4 then l.length==1 else if op=5\/op=6 then decide (2<=l.length)&&decide (l.length<=6) else if op=7\/op=8 then l.length==2 else Ak)&&tW l
def tW:List zC->Bool
 | []=>Aj
 | x::l=>vG x&&tW l
end
mutual
def sml:zC->Bool
 | .mk _ _ l=>decide (l.length<=5000)&&zWD l
def zWD:List zC->Bool
 | []=>Aj
 | x::l=>sml x&&zWD l
end
mutual
def wO:zC->Nat
 | .mk _ _ l=>yC l+1
def yC:List zC->Nat
 | []=>0
 | x::l=>wO x+yC l
end
theorem zMH:∀ l:List zC,l.length<=yC l
 | []=>Qd _
 | .mk _ _ a::l=>by
  have:=zMH l;rw[yC,wO,Qr];omega
mutual
theorem zTt:∀ f,wO f<=5001->sml f=Aj
 | .mk op s l,h=>by
  rw[wO] at h;have h1:=zMH l;rw[sml,z4u l (by omega),Qq (by omega)];rfl
theorem z4u:∀ l,yC l<=5001->zWD l=Aj
 | [],_=>rfl
 | x::l,h=>by
  rw[yC] at h;rw[zWD,zTt x (by omega),z4u l (by omega)];rfl
end
def sk (S:zA)(i:Nat): Nat:=i+xY (S.drop i)
theorem zOO{S:zA}{i:Nat}(hi:i<=S.length): sk S i<=S.length:=by
 grind [z1c,sk]
theorem zYw (S:zA)(i:Nat): i<=sk S i:=Nat.le_add_right _ _
theorem zMz (S:zA)(i:Nat): sk S (sk S i)=sk S i:=by
 unfold sk;rw[<-Q0,z2B,Ul]
def wL (S:zA)(i:Nat): Tk:=zTK (S.drop (sk S i))
theorem zZq:∀ s∈xG,s≠[]/\vName s=Ak/\s≠[48]/\s≠[49]/\s≠[63]/\s≠[110,97,109,101]/\s.length<=3/\0<s.length:=by decide
theorem z1e{S:zA}{i:Nat}{s:zA}(hs:s∈xG): ((wL S i).kind==s)=((wL S i).word==s)/\(((wL S i).word==s)=Aj->(wL S i).text=s):=by
 obtain⟨s1,s2,s3,s4,s5,s6,_⟩:=zZq s hs;unfold wL;rcases zXp (S.drop (sk S i)) with h | ⟨v,h,hv,_⟩ | h | h | ⟨t,ht,h⟩ | ⟨v,h⟩ <;> rw[h]
 ·exact⟨rfl,λe=>absurd (QJ.1 e).symm s1⟩
 ·have:v≠s:=by rintro rfl;rw[hv] at s2;cases s2
  refine⟨?_,λe=>absurd (QJ.1 e) this⟩;show(([110,97,109,101]:zA)==s)=(v==s);grind
 ·exact⟨rfl,λe=>absurd (QJ.1 e).symm s3⟩
 ·exact⟨rfl,λe=>absurd (QJ.1 e).symm s4⟩
 ·exact⟨rfl,λe=>QJ.1 e⟩
 ·exact⟨rfl,λe=>absurd (QJ.1 e).symm s5⟩
theorem z5m{S:zA}{i:Nat}(hi:i<=S.length): sk S i+(wL S i).text.length<=S.length:=by
 grind [tk_pre,zOO,wL]
section
variable {S:zA}(hl:S.length<=5000)
include hl
theorem zQ6{s:zA}(hs:s∈xG){i i':Nat}(hi:i<=S.length)(hi':i'<=S.length)(he:sk S i=sk S i'):
  (∃ q:Nat,(∀ g:Bool,tL (S,(i:Int),-1,g) s=Ah (Aj,(q:Int)))/\zAE (S,(i':Int),-1) s=Ah (Aj,(q:Int))/\sk S i<q/\q<=S.length) \/
  ((∀ g:Bool,tL (S,(i:Int),-1,g) s=Ah (Ak,(sk S i:Int)))/\zAE (S,(i':Int),-1) s=Ah (Ak,(i':Int))):=by
 obtain⟨h1,h2⟩:=z1e (S:=S) (i:=i) hs;obtain⟨_,_,_,_,_,_,s7,s8⟩:=zZq s hs;have hti:=z5m (S:=S) hi;have ht':wL S i'=wL S i:=by unfold wL;rw[he]
 have hP:∀ g:Bool,tL (S,(i:Int),-1,g) s=if(decide ((0:Int)<=-1)||!((wL S i).kind==s))=Aj then Ah (Ak,(sk S i:Int)) else Ah (Aj,zE ((sk S i:Int)+len (wL S i).text)):=λg=>zMI hl hi (-1) g s
 have hR:zAE (S,(i':Int),-1) s=if(!((wL S i').word==s)||decide ((0:Int)<=-1))=Aj then Ah (Ak,(i':Int)) else Ah (Aj,zE ((sk S i':Int)+len s)):=zSm hl hi' (-1) s
 rw[ht',<-he] at hR;cases hw:(wL S i).word==s with
 | true=>
  have ht:=h2 hw;rw[hw] at h1;refine .inl ⟨sk S i+s.length,λg=>?_,?_,by omega,by grind⟩
  ·rw[hP,h1,ht];rw[Qa (by decide),qN (by grind) (by grind)];grind
  ·rw[hR,hw,Qa (by decide),qN (by grind) (by grind)];grind
 | false=>
  grind
theorem zNH{i:Nat}(hi:i<=S.length){b:Int}(hb:0<=b)(g:Bool)(s:zA): tL (S,(i:Int),b,g) s=Ah (Ak,(sk S i:Int)):=by
 have h:tL (S,(i:Int),b,g) s=_:=zMI hl hi b g s;rw[h,Qi (by grind)];rfl
theorem zUR{i:Nat}(hi:i<=S.length){b:Int}(hb:0<=b)(s:zA): zAE (S,(i:Int),b) s=Ah (Ak,(i:Int)):=by
 have h:zAE (S,(i:Int),b) s=_:=zSm hl hi b s;grind
end
def ResF (S:zA)(i:Nat)(g:Bool)(rP:zC×Int×Int×Bool)(rR:zC×Int×Int): Prop:=
 (∃ f,∃ p p':Nat,rP=(f,(p:Int),-1,g||!vG f)/\rR=(f,(p':Int),-1)/\p<=S.length/\p'<=S.length/\sk S p=sk S p'/\sk S i<sk S p/\sk S i+wO f<=sk S p) \/
 (∃ f f',∃ p p':Nat,∃ b b':Int,∃ g',rP=(f,(p:Int),b,g')/\rR=(f',(p':Int),b')/\p<=S.length/\p'<=S.length/\0<=b/\0<=b')
def uR (S:zA)(n:Nat)(kP:Nat->wA->Option (zC×Int×Int×Bool))(kR:Nat->wU->Option (zC×Int×Int)): Prop:=
 ∀(i i':Nat) (g:Bool),i<=S.length->i'<=S.length->sk S i=sk S i'->S.length-sk S i<=n->
  ∃ rP rR,(Ev λk=>kP k (S,(i:Int),-1,g)=Ah rP/\kR k (S,(i':Int),-1)=Ah rR)/\ResF S i g rP rR
noncomputable def LPg (S k:zA)(nx:wA->Option (zC×Int×Int×Bool))(s2:Int×Int×Bool×List zC): Option ((Int×Int×Bool×List zC)⊕(Int×Int×Bool×List zC)):=
 (tL (S,s2.1,s2.2.1,s2.2.2.1) k).bind λr3=>
 if r3.1 then
  (nx (S,r3.2,s2.2.1,s2.2.2.1)).bind λr4=>
  (qG s2.2.2.2 ([r4.1]:List zC)).bind λx1=>
  Ah (.inl (r4.2.1,r4.2.2.1,r4.2.2.2,x1))
 else
  Ah (.inr (r3.2,s2.2.1,s2.2.2.1,s2.2.2.2))
noncomputable def LRg (S k:zA)(nx:wU->Option (zC×Int×Int))(s2:List zC×Int×Int): Option ((List zC×Int×Int)⊕(List zC×Int×Int)):=
 (zAE (S,s2.2.1,s2.2.2) k).bind λr2=>
 if r2.1 then
  (nx (S,r2.2,s2.2.2)).bind λr3=>
  (qG s2.1 ([r3.1]:List zC)).bind λx1=>
  Ah (.inl (x1,r3.2.1,r3.2.2))
 else
  Ah (.inr (s2.1,r2.2,s2.2.2))
def ResFL (S:zA)(q:Nat)(g:Bool)(acc:List zC)(rP:Int×Int×Bool×List zC)(rR:List zC×Int×Int): Prop:=
 (∃ ts,∃ p p':Nat,rP=((p:Int),-1,g||!tW ts,acc++ts)/\rR=(acc++ts,(p':Int),-1)/\p<=S.length/\p'<=S.length/\sk S p=sk S p'/\sk S q<=sk S p/\(acc++ts).length<=sk S p/\sk S q+yC ts+ts.length<=sk S p) \/
 (∃ l l',∃ p p':Nat,∃ b b':Int,∃ g',rP=((p:Int),b,g',l)/\rR=(l',(p':Int),b')/\p<=S.length/\p'<=S.length/\0<=b/\0<=b'/\l'≠[]/\l.length<=6000)
section
variable {S:zA}(hl:S.length<=5000){s:zA}(hs:s∈xG){kP:Nat->wA->Option (zC×Int×Int×Bool)}{kR:Nat->wU->Option (zC×Int×Int)}
include hl hs
theorem z7t:∀(n:Nat),(∀ m,m<n->uR S m kP kR)->∀(q q':Nat) (g:Bool) (acc:List zC),q<=S.length->q'<=S.length->sk S q=sk S q'->S.length-sk S q<=n->acc≠[]->acc.length<=sk S q->
  ∃ rP rR,(Ev λk=>zN (LPg S s (kP k)) ((q:Int),-1,g,acc)=Ah rP/\zN (LRg S s (kR k)) (acc,(q':Int),-1)=Ah rR)/\ResFL S q g acc rP rR:=by
 intro n;induction n using Nat.strongRecOn with
 | _ n ih=>
  intro hsim q q' g acc hq hq' he hn hne hal;have hsq:=zOO hq;rcases zQ6 hl hs hq hq' he with⟨p,tP,tR,hp1,hp2⟩ | ⟨tP,tR⟩
  ·
   have hle:=zYw S p;have hsp:=zOO hp2;obtain⟨rP,rR,hev,hres⟩:=hsim (S.length-sk S p) (by omega) p p g hp2 hp2 rfl (Qd _);rcases hres with⟨f,x,x',rfl,rfl,hx,hx',hxe,hlt,hsm⟩ | ⟨f,f',x,x',b,b',g',rfl,rfl,hx,hx',hb,hb'⟩
   ·have hsx:=zOO hx;obtain⟨r2P,r2R,hev2,hres2⟩:=ih (S.length-sk S x) (by omega) (λm hm=>hsim m (by omega)) x x' (g||!vG f) (acc++[f]) hx hx' hxe (Qd _) (by simp) (by simp;omega);refine⟨r2P,r2R,hev.imp2 hev2 λk ⟨e1,e2⟩ ⟨e3,e4⟩=>⟨?_,?_⟩,?_⟩
    ·rw[<-e3];refine yZ ?_;unfold LPg;rw[tP,zob];simp[e1];rw[yI (by simp;omega),zob]
    ·rw[<-e4];refine yZ ?_;unfold LRg;rw[tR,zob];simp[e2];rw[yI (by simp;omega),zob]
    ·rcases hres2 with⟨ts,y,y',rfl,rfl,h1,h2,h3,h4,h5,h6⟩ | ⟨l,l',y,y',b,b',g',rfl,rfl,h1⟩
     ·refine .inl ⟨f::ts,y,y',?_,?_,h1,h2,h3,by omega,?_,by rw[yC,Qr];omega⟩
      ·grind [tW]
      ·grind
      grind
     ·exact .inr ⟨l,l',y,y',b,b',g',rfl,rfl,h1⟩
   ·refine⟨((sk S x:Int),b,g',acc++[f]),(acc++[f'],(x':Int),b'),hev.imp λk ⟨e1,e2⟩=>⟨?_,?_⟩,.inr ⟨_,_,sk S x,x',b,b',g',rfl,rfl,zOO hx,hx',hb,hb',by simp,by simp;omega⟩⟩
    ·refine(yZ (t:=((x:Int),b,g',acc++[f])) ?_).trans (vW ?_)
     ·unfold LPg;rw[tP,zob];simp[e1];rw[yI (by simp;omega),zob]
     grind [LPg,zNH]
    ·refine(yZ (t:=(acc++[f'],(x':Int),b')) ?_).trans (vW ?_)
     ·unfold LRg;rw[tR,zob];simp[e2];rw[yI (by simp;omega),zob]
     grind [LRg,zUR]
  ·refine⟨((sk S q:Int),-1,g,acc),(acc,(q':Int),-1),Ev.of λk=>⟨vW ?_,vW ?_⟩,.inl ⟨[],sk S q,q',?_,by simp,zOO hq,hq',by rw[zMz];exact he,by rw[zMz];grind,by rw[zMz];grind,by simp[yC,zMz]⟩⟩
   ·grind [LPg]
   ·grind [LRg]
   ·simp[tW]
end
end
section
variable {S:zA}(hl:S.length<=5000)
noncomputable def MPg (S k:zA)(op:Int)(nx:wA->Option (zC×Int×Int×Bool))(y0:wA): Option (zC×Int×Int×Bool):=
 (nx y0).bind λr1=>
 (zAQ (S,r1.2.1,r1.2.2.1,r1.2.2.2)).bind λr2=>
 if !(r2.1.1==k) then
  Ah (r1.1,r2.2,r1.2.2.1,r1.2.2.2)
 else
  (zN (LPg S k nx) (r2.2,r1.2.2.1,r1.2.2.2,([r1.1]:List zC)):Option (Int×Int×Bool×(List zC))).bind λs1=>
  (
   if s1.2.2.1 then
    Ah Aj
   else
    Ah (decide (6<(len s1.2.2.2))):Option Bool).bind λs3=>
  Ah (fm (op,[],s1.2.2.2),s1.1,s1.2.1,s3)
noncomputable def MRg (S k:zA)(op:Int)(nx:wU->Option (zC×Int×Int))(y0:wU): Option (zC×Int×Int):=
 (nx y0).bind λr1=>
 (zN (LRg S k nx) (([r1.1]:List zC),r1.2.1,r1.2.2):Option ((List zC)×Int×Int)).bind λs1=>
 if(len s1.1)==1 then
  (zD s1.1 0).bind λx2=>
  Ah (x2,s1.2.1,s1.2.2)
 else
  Ah (fm (op,[],s1.1),s1.2.1,s1.2.2)
section
include hl
theorem z5Q{s:zA}(hs:s∈xG){op:Int}(hop:op=5\/op=6){kP:Nat->wA->Option (zC×Int×Int×Bool)}{kR:Nat->wU->Option (zC×Int×Int)}{n:Nat}(hsim:∀ m,m<=n->uR S m kP kR):
  uR S n (λk=>MPg S s op (kP k)) (λk=>MRg S s op (kR k)):=by
 intro i i' g hi hi' he hn;obtain⟨rP,rR,hev,hres⟩:=hsim n (Qd _) i i' g hi hi' he hn;rcases hres with⟨f,x,x',rfl,rfl,hx,hx',hxe,hlt,hsm⟩ | ⟨f,f',x,x',b,b',g',rfl,rfl,hx,hx',hb,hb'⟩
 ·have hsx:=zOO hx;have hpk:∀ g2,zAQ (S,(x:Int),-1,g2)=Ah ((((wL S x).kind,(wL S x).text,(sk S x:Int)):zBB),(sk S x:Int)):=λg2=>zPI hl hx (-1) g2;cases hk:(wL S x).kind==s with
  | false=>
   have hkw:=(z1e (S:=S) (i:=x) hs).1;rw[hk] at hkw;have ht':wL S x'=wL S x:=by unfold wL;rw[hxe]
   have hR:zAE (S,(x':Int),-1) s=Ah (Ak,(x':Int)):=by
    have h:zAE (S,(x':Int),-1) s=if(!((wL S x').word==s)||decide ((0:Int)<=-1))=Aj then Ah (Ak,(x':Int)) else Ah (Aj,zE ((sk S x':Int)+len s)):=zSm hl hx' (-1) s
    rw[h,ht',<-hkw,Qi (by decide)]
   refine⟨(f,(sk S x:Int),-1,g||!vG f),(f,(x':Int),-1),hev.imp λk ⟨e1,e2⟩=>⟨?_,?_⟩,.inl ⟨f,sk S x,x',rfl,rfl,hsx,hx',by rw[zMz];exact hxe,by rw[zMz];exact hlt,by rw[zMz];exact hsm⟩⟩
   ·grind [MPg]
   ·have hlp:zN (LRg S s (kR k)) ([f],(x':Int),-1)=Ah ([f],(x':Int),-1):=by
     refine vW ?_;unfold LRg;dsimp only;rw[hR,zob];rfl
    unfold MRg;simp[e2,hlp];rfl
  | true=>
   obtain⟨r2P,r2R,hev2,hres2⟩:=z7t hl hs (S.length-sk S x) (λm hm=>hsim m (by omega)) x x' (g||!vG f) [f] hx hx' hxe (Qd _) (by simp) (by simp;omega);have hloopP:∀(k:Nat) o,zN (LPg S s (kP k)) ((x:Int),-1,g||!vG f,[f])=Ah o->zN (LPg S s (kP k)) ((sk S x:Int),-1,g||!vG f,[f])=Ah o:=by
    intro k o ho;have hb:LPg S s (kP k) ((sk S x:Int),-1,g||!vG f,[f])=LPg S s (kP k) ((x:Int),-1,g||!vG f,[f]):=by
     unfold LPg;dsimp only;have e1:tL (S,(sk S x:Int),-1,g||!vG f) s=if(decide ((0:Int)<=-1)||!((wL S (sk S x)).kind==s))=Aj then Ah (Ak,(sk S (sk S x):Int)) else Ah (Aj,zE ((sk S (sk S x):Int)+len (wL S (sk S x)).text)):=zMI hl hsx (-1) _ s
     have e2:tL (S,(x:Int),-1,g||!vG f) s=if(decide ((0:Int)<=-1)||!((wL S x).kind==s))=Aj then Ah (Ak,(sk S x:Int)) else Ah (Aj,zE ((sk S x:Int)+len (wL S x).text)):=zMI hl hx (-1) _ s
     have et:wL S (sk S x)=wL S x:=by unfold wL;rw[zMz]
     rw[e1,e2,et,zMz]
    rw[zDp] at ho ⊢;rw[hb];exact ho
   have htk:(∃ q:Nat,(∀ g:Bool,tL (S,(x:Int),-1,g) s=Ah (Aj,(q:Int)))/\zAE (S,(x':Int),-1) s=Ah (Aj,(q:Int))/\sk S x<q/\q<=S.length):=by
    rcases zQ6 hl hs hx hx' hxe with h | ⟨h,_⟩
    ·exact h
    ·have e2:tL (S,(x:Int),-1,g) s=if(decide ((0:Int)<=-1)||!((wL S x).kind==s))=Aj then Ah (Ak,(sk S x:Int)) else Ah (Aj,zE ((sk S x:Int)+len (wL S x).text)):=zMI hl hx (-1) _ s
     grind
   rcases hres2 with⟨ts,y,y',rfl,rfl,h1,h2,h3,h4,h5,h6⟩ | ⟨l,l',y,y',b,b',g',rfl,rfl,h1,h2,hb,hb',hne,hlen⟩
   ·
    have hts:ts≠[]:=by
     rintro rfl;obtain⟨q,tP,tR,hq1,hq2⟩:=htk;obtain⟨K,hK⟩:=hev2;obtain⟨_,e4⟩:=hK K (Qd _);rw[zDp] at e4;unfold LRg at e4;dsimp only at e4;rw[tR,zob] at e4;simp only[Qx] at e4;cases hz:kR K (S,(q:Int),-1) with
     | none=>grind
     | some z=>
      rw[hz,zob,yI (by simp),zob] at e4;have e5:zN (LRg S s (kR K)) ([f]++[z.1],z.2.1,z.2.2)=Ah ([f]++[],(y':Int),-1):=e4;have hgrow:∀(l:List zC) (a b:Int) (r:List zC×Int×Int),zN (LRg S s (kR K)) (l,a,b)=Ah r->l.length<=r.1.length:=by
       intro l a b r hr;obtain⟨m,hm⟩:=zK2 hr;clear hr;induction m generalizing l a b with
       | zero=>simp[zVg] at hm
       | succ m ihm=>
        rw[zVg] at hm;unfold LRg at hm;dsimp only at hm;cases ht:zAE (S,a,b) s with
        | none=>grind
        | some t=>
         rw[ht,zob] at hm;obtain⟨t1,t2⟩:=t;cases t1 with
         | false=>
          grind
         | true=>
          simp only[Qx] at hm;cases hz:kR K (S,t2,b) with
          | none=>grind
          | some z=>
           rw[hz,zob] at hm;cases ha:qG l [z.1] with
           | none=>grind
           | some l2=>
            rw[ha,zob] at hm;have h2:=ihm l2 z.2.1 z.2.2 hm;grind [qG]
      grind
    have hlen2:2<=([f]++ts).length:=by
     have:=QF.2 hts;simp;omega
    have hsml:sk S i+wO (fm (op,[],[f]++ts))<=sk S y:=by
     show sk S i+wO (.mk op [] (f::ts))<=sk S y;have:=QF.2 hts;rw[wO,yC];omega
    refine⟨(fm (op,[],[f]++ts),(y:Int),-1,g||!vG (fm (op,[],[f]++ts))),(fm (op,[],[f]++ts),(y':Int),-1),hev.imp2 hev2 λk ⟨e1,e2⟩ ⟨e3,e4⟩=>⟨?_,?_⟩,.inl ⟨_,y,y',rfl,rfl,h1,h2,h3,by omega,hsml⟩⟩
    ·unfold MPg;simp[e1,hpk];have hkd:vG (fm (op,[],[f]++ts))=(decide (([f]++ts).length<=6)&&(vG f&&tW ts)):=by
      show vG (.mk op [] ([f]++ts))=_;rw[vG];have hL:tW ([f]++ts)=(vG f&&tW ts):=rfl;rw[hL];rcases hop with rfl | rfl <;> rw[Qa (by decide),Qa (by decide),Qi (by decide),Qq hlen2,Bool.true_and]
     grind
    ·unfold MRg;grind
   ·refine⟨(fm (op,[],l),(y:Int),b,g'||decide ((6:Int)<len l)),((if l'.length=1 then l'.head hne else fm (op,[],l')),(y':Int),b'),hev.imp2 hev2 λk ⟨e1,e2⟩ ⟨e3,e4⟩=>⟨?_,?_⟩,.inr ⟨_,_,y,y',b,b',_,rfl,rfl,h1,h2,hb,hb'⟩⟩
    ·unfold MPg;grind
    ·unfold MRg;simp only[e2,zob,e4];by_cases h1:l'.length=1
     ·have:(len l'==1)=true:=by rw[QJ];simp only[len];omega
      simp[this];cases l' with
      | nil=>grind
      | cons z zs=>
       rw[Qi h1];rfl
     grind
 ·
  have hpk:zAQ (S,(x:Int),b,g')=Ah ((((wL S x).kind,(wL S x).text,(sk S x:Int)):zBB),(sk S x:Int)):=zPI hl hx b g';have hsx:=zOO hx;have hlR:∀ k:Nat,zN (LRg S s (kR k)) ([f'],(x':Int),b')=Ah ([f'],(x':Int),b'):=λk=>by
   grind [vW,LRg,zUR]
  have hlP:∀ k:Nat,zN (LPg S s (kP k)) ((sk S x:Int),b,g',[f])=Ah ((sk S x:Int),b,g',[f]):=λk=>by
   grind [vW,LPg,zNH,zMz]
  cases hk:(wL S x).kind==s with
  | false=>
   refine⟨(f,(sk S x:Int),b,g'),(f',(x':Int),b'),hev.imp λk ⟨e1,e2⟩=>⟨?_,?_⟩,.inr ⟨f,f',sk S x,x',b,b',g',rfl,rfl,hsx,hx',hb,hb'⟩⟩
   ·grind [MPg]
   ·unfold MRg;simp[e2,hlR];rfl
  | true=>
   refine⟨(fm (op,[],[f]),(sk S x:Int),b,g'),(f',(x':Int),b'),hev.imp λk ⟨e1,e2⟩=>⟨?_,?_⟩,.inr ⟨_,f',sk S x,x',b,b',g',rfl,rfl,hsx,hx',hb,hb'⟩⟩
   ·unfold MPg;simp only[e1,zob,hpk,hk,QG,zbf,Qy,hlP];cases g' <;> rfl
   ·unfold MRg;simp[e2,hlR];rfl
end
end
section
variable {S:zA}(hl:S.length<=5000)
theorem uR.mono{S:zA}{n m:Nat}{kP kR}(h:uR S n kP kR)(hm:m<=n): uR S m kP kR:=λi i' g a b c d=>h i i' g a b c (by omega)
theorem uR.suc{S:zA}{n:Nat}{kP kR}(h:uR S n (λk=>kP (k+1)) (λk=>kR (k+1))): uR S n kP kR:=λi i' g a b c d=>by
 obtain⟨rP,rR,hev,hres⟩:=h i i' g a b c d;grind [Ev.suc]
theorem uR.sucP{S:zA}{n:Nat}{kP kR}(h:uR S n (λk=>kP (k+1)) kR): uR S n kP kR:=λi i' g a b c d=>by
 obtain⟨rP,rR,hev,hres⟩:=h i i' g a b c d;exact⟨rP,rR,Ev.imp2 (Ev.suc (P:=λk=>kP k (S,(i:Int),-1,g)=Ah rP) (hev.imp λ_ e=>e.1)) (hev.imp λ_ e=>e.2) λ_ e1 e2=>⟨e1,e2⟩,hres⟩
section
include hl
theorem z7e{n:Nat}{kU kE a1 a2 a3 a4 a5:Nat->_}{kU' kE' b1 b2 b3:Nat->_}(hU:∀ m,m<n->uR S m kU kU')(hE:∀ m,m<n->uR S m kE kE'):
  uR S n (λk=>zAZ (a1 k) (kE k) (a2 k) (a3 k) (a4 k) (a5 k) (kU k)) (λk=>zAa (b1 k) (kE' k) (b2 k) (b3 k) (kU' k)):=by
 intro i i' g hi hi' he hn;have hsi:=zOO hi;have hpk:zAQ (S,(i:Int),-1,g)=Ah ((((wL S i).kind,(wL S i).text,(sk S i:Int)):zBB),(sk S i:Int)):=zPI hl hi (-1) g;have et:wL S (sk S i)=wL S i:=by unfold wL;rw[zMz]
 have hT:∀ k,tL (S,(sk S i:Int),-1,g) k=if(!((wL S i).kind==k))=Aj then Ah (Ak,(sk S i:Int)) else Ah (Aj,zE ((sk S i:Int)+len (wL S i).text)):=λk=>by
  have h:tL (S,(sk S i:Int),-1,g) k=if(decide ((0:Int)<=-1)||!((wL S (sk S i)).kind==k))=Aj then Ah (Ak,(sk S (sk S i):Int)) else Ah (Aj,zE ((sk S (sk S i):Int)+len (wL S (sk S i)).text)):=zMI hl hsi (-1) g k
  rw[h,et,zMz];rfl
 have ht':wL S i'=wL S i:=by unfold wL;rw[he]
 have hR:∀ k,zAE (S,(i':Int),-1) k=if(!((wL S i).word==k))=Aj then Ah (Ak,(i':Int)) else Ah (Aj,zE ((sk S i:Int)+len k)):=λk=>by
  have h:zAE (S,(i':Int),-1) k=if(!((wL S i').word==k)||decide ((0:Int)<=-1))=Aj then Ah (Ak,(i':Int)) else Ah (Aj,zE ((sk S i':Int)+len k)):=zSm hl hi' (-1) k
  grind
 have hTok:zAX (S,(i':Int),-1)=Ah ((wL S i).word,(sk S i:Int)):=by
  have h:zAX (S,(i':Int),-1)=Ah ((wL S i').word,(sk S i':Int)):=zQm hl hi' (-1);rw[h,ht',<-he]
 have hfP:zAc (S,(sk S i:Int),-1,g)=Ah (fm (0,[],[]),(sk S i:Int),(sk S i:Int)):=by
  unfold zAc;have h:zAQ (S,(sk S i:Int),-1,g)=Ah ((((wL S (sk S i)).kind,(wL S (sk S i)).text,(sk S (sk S i):Int)):zBB),(sk S (sk S i):Int)):=zPI hl hsi (-1) g;dsimp only;rw[h,et,zMz];rfl
 have hfR:zAx (S,(i':Int),-1)=Ah (fm (0,[],[]),(sk S i:Int)):=by
  unfold zAx;dsimp only;rw[hTok];rfl
 have hlen:sk S i+(wL S i).text.length<=S.length:=z5m hi;have hw:∀ n:Nat,sk S i+n<=S.length->zE ((sk S i:Int)+(n:Int))=((sk S i+n:Nat):Int):=λn h=>by rw[qN (by omega) (by omega)];omega
 have fault:(wL S i).kind≠[110,97,109,101]->(wL S i).kind≠[48]->(wL S i).kind≠[49]->(wL S i).kind≠[126]->(wL S i).kind≠[40]->(wL S i).word≠[126]->(wL S i).word≠[40]->((wL S i).word=[]\/∃ c r,(wL S i).word=c::r/\uX c=Ak)->
   ∃ rP rR,(Ev λk=>zAZ (a1 k) (kE k) (a2 k) (a3 k) (a4 k) (a5 k) (kU k) (S,(i:Int),-1,g)=Ah rP/\zAa (b1 k) (kE' k) (b2 k) (b3 k) (kU' k) (S,(i':Int),-1)=Ah rR)/\ResF S i g rP rR:=by
  intro k1 k2 k3 k4 k5 w1 w2 w3;refine⟨(fm (0,[],[]),(sk S i:Int),(sk S i:Int),g),(fm (0,[],[]),(i':Int),(sk S i:Int)),Ev.of λk=>⟨?_,?_⟩,.inr ⟨_,_,sk S i,i',_,_,_,rfl,rfl,hsi,hi',by omega,by omega⟩⟩
  ·unfold zAZ;grind
  ·unfold zAa;have e0:decide ((0:Int)<=-1)=false:=by decide
   simp only[hR,Qu.2 w1,Qu.2 w2,Q3,Qx,zob,zbf,Qy,hTok];rcases w3 with w3 | ⟨c,r,w3,hc⟩
   ·grind
   ·rw[w3];have e1:((c::r)==([]:zA))=false:=rfl;have e2:vR (c::r) 0=Ah (c.toNat:Int):=rfl;simp only[e1,zbf,Qy,e2,zob,zQy,hc,Q3,Qx,hfR]
 have hkk:wL S i=zTK (S.drop (sk S i)):=rfl;rcases zXp (S.drop (sk S i)) with h | ⟨v,h,hv,hv0,hv1⟩ | h | h | ⟨s,hs,h⟩ | ⟨v,h⟩ <;> rw[<-hkk] at h
 ·rw[h] at fault;exact fault (by decide) (by decide) (by decide) (by decide) (by decide) (by decide) (by decide) (.inl rfl)
 ·
  have hvw:v≠[]/\(∃ c r,v=c::r/\uX c=Aj/\c≠126/\c≠40):=by
   have hwd:wdB v=true:=by unfold wdB;rw[hv];simp
   obtain⟨_,n0,c,r,e,hc,_,h1,h2⟩:=z9N hwd;exact⟨n0,c,r,e,hc,h1,h2⟩
  obtain⟨n0,c,r,ev,hc,hc1,hc2⟩:=hvw;have ht:(wL S i).text=v:=by rw[h];rfl
  have hk:(wL S i).kind=[110,97,109,101]:=by rw[h];rfl
  have hwd:(wL S i).word=v:=by rw[h];rfl
  rw[ht] at hlen;have hpos:=QF.2 n0;have hle:=zYw S (sk S i+v.length);refine⟨(fm (3,v,[]),((sk S i+v.length:Nat):Int),-1,g||!vG (fm (3,v,[]))),(fm (3,v,[]),((sk S i+v.length:Nat):Int),-1),Ev.of λk=>⟨?_,?_⟩,.inl ⟨_,_,_,rfl,rfl,hlen,hlen,rfl,by omega,by show sk S i+1<=_;omega⟩⟩
  ·unfold zAZ;have e0:decide ((0:Int)<=-1)=false:=by decide
   simp only[hpk,zob,e0,zbf,Qy,hT,hk,UF,QG,Qx,ht];rw[show len v=(v.length:Int) from rfl,hw _ hlen,show vG (fm (3,v,[]))=Aj from rfl,QG,UI]
  ·unfold zAa;have e0:decide ((0:Int)<=-1)=false:=by decide
   have e1:(v==[126])=false:=by rw[Qu,ev];intro e;exact hc1 (List.head_eq_of_cons_eq e)
   have e2:(v==[40])=false:=by rw[Qu,ev];intro e;exact hc2 (List.head_eq_of_cons_eq e)
   have e3:(v==[])=false:=by rw[Qu];exact n0
   have e4:vR v 0=Ah (c.toNat:Int):=by rw[ev];rfl
   simp only[hR,hwd,e1,e2,Q3,Qx,zob,zbf,Qy,hTok,e3,e4,zQy,hc,QG,e0,Qu.2 hv0,Qu.2 hv1];grind
 ·
  have ht:(wL S i).text=[48]:=by rw[h];rfl
  have hk:(wL S i).kind=[48]:=by rw[h];rfl
  have hwd:(wL S i).word=[48]:=by rw[h];rfl
  rw[ht] at hlen;have hle:=zYw S (sk S i+1);refine⟨(fm (2,[],[]),((sk S i+1:Nat):Int),-1,g||!vG (fm (2,[],[]))),(fm (2,[],[]),((sk S i+1:Nat):Int),-1),Ev.of λk=>⟨?_,?_⟩,.inl ⟨_,_,_,rfl,rfl,hlen,hlen,rfl,by omega,by show sk S i+1<=_;omega⟩⟩
  ·unfold zAZ;have e0:decide ((0:Int)<=-1)=false:=by decide
   have e1:(([48]:zA)==[110,97,109,101])=false:=by decide
   simp only[hpk,zob,e0,zbf,Qy,hT,hk,e1,UF,QG,Q3,Qx,ht];rw[show len ([48]:zA)=((1:Nat):Int) from rfl,hw 1 hlen,show vG (fm (2,[],[]))=Aj from rfl,QG,UI]
  ·unfold zAa;have e0:decide ((0:Int)<=-1)=false:=by decide
   have e1:(([48]:zA)==[126])=false:=by decide
   have e2:(([48]:zA)==[40])=false:=by decide
   have e3:(([48]:zA)==[])=false:=by decide
   have e4:vR ([48]:zA) 0=Ah ((48:UInt8).toNat:Int):=rfl;have e5:uX 48=true:=by decide
   have e6:(([48]:zA)==[49])=false:=by decide
   simp only[hR,hwd,e1,e2,Q3,Qx,zob,zbf,Qy,hTok,e3,e4,zQy,e5,QG,e0,e6,UF];grind
 ·
  have ht:(wL S i).text=[49]:=by rw[h];rfl
  have hk:(wL S i).kind=[49]:=by rw[h];rfl
  have hwd:(wL S i).word=[49]:=by rw[h];rfl
  rw[ht] at hlen;have hle:=zYw S (sk S i+1);refine⟨(fm (1,[],[]),((sk S i+1:Nat):Int),-1,g||!vG (fm (1,[],[]))),(fm (1,[],[]),((sk S i+1:Nat):Int),-1),Ev.of λk=>⟨?_,?_⟩,.inl ⟨_,_,_,rfl,rfl,hlen,hlen,rfl,by omega,by show sk S i+1<=_;omega⟩⟩
  ·unfold zAZ;have e0:decide ((0:Int)<=-1)=false:=by decide
   have e1:(([49]:zA)==[110,97,109,101])=false:=by decide
   have e2:(([49]:zA)==[48])=false:=by decide
   simp only[hpk,zob,e0,zbf,Qy,hT,hk,e1,e2,UF,QG,Q3,Qx,ht];rw[show len ([49]:zA)=((1:Nat):Int) from rfl,hw 1 hlen,show vG (fm (1,[],[]))=Aj from rfl,QG,UI]
  ·unfold zAa;have e0:decide ((0:Int)<=-1)=false:=by decide
   have e1:(([49]:zA)==[126])=false:=by decide
   have e2:(([49]:zA)==[40])=false:=by decide
   have e3:(([49]:zA)==[])=false:=by decide
   have e4:vR ([49]:zA) 0=Ah ((49:UInt8).toNat:Int):=rfl;have e5:uX 49=true:=by decide
   simp only[hR,hwd,e1,e2,Q3,Qx,zob,zbf,Qy,hTok,e3,e4,zQy,e5,QG,e0,UF];grind
 ·
  have ht:(wL S i).text=s:=by rw[h];rfl
  have hk:(wL S i).kind=s:=by rw[h];rfl
  have hwd:(wL S i).word=s:=by rw[h];rfl
  rw[ht] at hlen;by_cases h1:s=[126]
  ·subst h1;have hle:=zYw S (sk S i+1);have hsq:=zOO (S:=S) (i:=sk S i+1) hlen;obtain⟨rP,rR,hev,hres⟩:=hU (S.length-sk S (sk S i+1)) (by omega) (sk S i+1) (sk S i+1) g hlen hlen rfl (Qd _);have hP:∀ k rP,kU k (S,((sk S i+1:Nat):Int),-1,g)=Ah rP->zAZ (a1 k) (kE k) (a2 k) (a3 k) (a4 k) (a5 k) (kU k) (S,(i:Int),-1,g)=Ah (fm (4,[],[rP.1]),rP.2.1,rP.2.2.1,rP.2.2.2):=λk rP e=>by
    unfold zAZ;grind
   have hRR:∀ k rR,kU' k (S,((sk S i+1:Nat):Int),-1)=Ah rR->zAa (b1 k) (kE' k) (b2 k) (b3 k) (kU' k) (S,(i':Int),-1)=Ah (fm (4,[],[rR.1]),rR.2.1,rR.2.2):=λk rR e=>by
    unfold zAa;grind
   refine⟨_,_,hev.imp λk ⟨e1,e2⟩=>⟨hP k _ e1,hRR k _ e2⟩,?_⟩;rcases hres with⟨f,x,x',rfl,rfl,hx,hx',hxe,hlt,hsm⟩ | ⟨f,f',x,x',b,b',g',rfl,rfl,hx,hx',hb,hb'⟩
   ·refine .inl ⟨fm (4,[],[f]),x,x',?_,rfl,hx,hx',hxe,by omega,?_⟩
    ·grind [vG,fm,tW]
    ·show sk S i+wO (.mk 4 [] [f])<=_;grind [wO,yC]
   ·exact .inr ⟨_,_,x,x',b,b',g',rfl,rfl,hx,hx',hb,hb'⟩
  by_cases h2:s=[40]
  ·subst h2;have hle:=zYw S (sk S i+1);have hsq:=zOO (S:=S) (i:=sk S i+1) hlen;obtain⟨rP,rR,hev,hres⟩:=hE (S.length-sk S (sk S i+1)) (by omega) (sk S i+1) (sk S i+1) g hlen hlen rfl (Qd _);have hP:∀ k rP o,kE k (S,((sk S i+1:Nat):Int),-1,g)=Ah rP->((tL (S,rP.2.1,rP.2.2.1,rP.2.2.2) [41]).bind λr9=>if !r9.1 then(zAc (S,r9.2,rP.2.2.1,rP.2.2.2)).bind λr10=>Ah (r10.1,r10.2.1,r10.2.2,rP.2.2.2) else Ah (rP.1,r9.2,rP.2.2.1,rP.2.2.2))=Ah o->zAZ (a1 k) (kE k) (a2 k) (a3 k) (a4 k) (a5 k) (kU k) (S,(i:Int),-1,g)=Ah o:=λk rP o e eo=>by
    unfold zAZ;grind
   have hRR:∀ k rR o,kE' k (S,((sk S i+1:Nat):Int),-1)=Ah rR->((if decide (rR.2.2<0) then(zAE (S,rR.2.1,rR.2.2) [41]).bind λr5=>Ah (!r5.1,r5.2) else Ah (Ak,rR.2.1):Option (Bool×Int)).bind λs1=>if s1.1 then(zAx (S,s1.2,rR.2.2)).bind λr6=>Ah (r6.1,s1.2,r6.2) else Ah (rR.1,s1.2,rR.2.2))=Ah o->zAa (b1 k) (kE' k) (b2 k) (b3 k) (kU' k) (S,(i':Int),-1)=Ah o:=λk rR o e eo=>by
    unfold zAa;grind
   rcases hres with⟨f,x,x',rfl,rfl,hx,hx',hxe,hlt,hsm⟩ | ⟨f,f',x,x',b,b',g',rfl,rfl,hx,hx',hb,hb'⟩
   ·have hin:([41]:zA)∈xG:=by decide
    rcases zQ6 hl hin hx hx' hxe with⟨q,tP,tR,hq1,hq2⟩ | ⟨tP,tR⟩
    ·have hle2:=zYw S q;refine⟨(f,(q:Int),-1,g||!vG f),(f,(q:Int),-1),hev.imp λk ⟨e1,e2⟩=>⟨hP k _ _ e1 ?_,hRR k _ _ e2 ?_⟩,.inl ⟨f,q,q,rfl,rfl,hq2,hq2,rfl,by omega,by omega⟩⟩
     ·grind
     grind
    ·have hsx:=zOO hx;refine⟨(fm (0,[],[]),(sk S x:Int),(sk S x:Int),g||!vG f),(fm (0,[],[]),(x':Int),(sk S x:Int)),hev.imp λk ⟨e1,e2⟩=>⟨hP k _ _ e1 ?_,hRR k _ _ e2 ?_⟩,.inr ⟨_,_,sk S x,x',_,_,_,rfl,rfl,hsx,hx',by omega,by omega⟩⟩
     ·dsimp only;rw[tP];have h:zAQ (S,(sk S x:Int),-1,g||!vG f)=Ah ((((wL S (sk S x)).kind,(wL S (sk S x)).text,(sk S (sk S x):Int)):zBB),(sk S (sk S x):Int)):=zPI hl hsx (-1) _;unfold zAc;simp only[zob,Q3,Qx,h,zMz];rfl
     ·dsimp only;rw[tR];have h:zAX (S,(x':Int),-1)=Ah ((wL S x').word,(sk S x':Int)):=zQm hl hx' (-1);unfold zAx;grind
   ·have hsx:=zOO hx;refine⟨(fm (0,[],[]),(sk S x:Int),b,g'),(f',(x':Int),b'),hev.imp λk ⟨e1,e2⟩=>⟨hP k _ _ e1 ?_,hRR k _ _ e2 ?_⟩,.inr ⟨_,_,sk S x,x',_,_,_,rfl,rfl,hsx,hx',hb,hb'⟩⟩
    ·dsimp only;rw[zNH hl hx hb];unfold zAc;grind
    grind
  ·have hf:∀ s∈xG,s≠[126]->s≠[40]->s≠[110,97,109,101]/\s≠[48]/\s≠[49]/\∃ c r,s=c::r/\uX c=false:=by
    have:∀ s∈xG,s≠[126]->s≠[40]->s≠[110,97,109,101]/\s≠[48]/\s≠[49]/\s≠[]/\uX (s.headD 0)=false:=by decide
    intro s hs a b;obtain⟨q1,q2,q3,q4,q5⟩:=this s hs a b;refine⟨q1,q2,q3,?_⟩;cases s with
    | nil=>grind
    | cons c r=>grind
   obtain⟨q1,q2,q3,q4⟩:=hf s hs h1 h2;rw[hk,hwd] at fault;grind
 ·rw[h] at fault;exact fault (by show([63]:zA)≠_;decide) (by show([63]:zA)≠_;decide) (by show([63]:zA)≠_;decide) (by show([63]:zA)≠_;decide) (by show([63]:zA)≠_;decide) (by show([63]:zA)≠_;decide) (by show([63]:zA)≠_;decide) (.inr ⟨63,[],rfl,by decide⟩)
end
end
section
theorem uR.cong{S:zA}{n:Nat}{kP kP':Nat->wA->Option (zC×Int×Int×Bool)}{kR kR':Nat->wU->Option (zC×Int×Int)}(h:uR S n kP' kR')(h1:∀ k i b g,kP k (S,i,b,g)=kP' k (S,i,b,g))(h2:∀ k i b,kR k (S,i,b)=kR' k (S,i,b)): uR S n kP kR:=λi i' g a b c d=>by
 obtain⟨rP,rR,hev,hres⟩:=h i i' g a b c d;grind
noncomputable def BPg (S k:zA)(op:Int)(nx rx:wA->Option (zC×Int×Int×Bool))(y0:wA): Option (zC×Int×Int×Bool):=
 (nx y0).bind λr1=>
 (tL (S,r1.2.1,r1.2.2.1,r1.2.2.2) k).bind λr2=>
 if !r2.1 then
  Ah (r1.1,r2.2,r1.2.2.1,r1.2.2.2)
 else
  (rx (S,r2.2,r1.2.2.1,r1.2.2.2)).bind λr3=>
  Ah (fm (op,[],([r1.1,r3.1]:List zC)),r3.2.1,r3.2.2.1,r3.2.2.2)
noncomputable def BRg (S k:zA)(op:Int)(nx rx:wU->Option (zC×Int×Int))(y0:wU): Option (zC×Int×Int):=
 (nx y0).bind λr1=>
 (zAE (S,r1.2.1,r1.2.2) k).bind λr2=>
 if r2.1 then
  (rx (S,r2.2,r1.2.2)).bind λr3=>
  Ah (fm (op,[],([r1.1,r3.1]:List zC)),r3.2.1,r3.2.2)
 else
  Ah (r1.1,r2.2,r1.2.2)
section
variable {S:zA}(hl:S.length<=5000)
include hl
theorem z8h{s:zA}(hs:s∈xG){op:Int}(hop:op=7\/op=8){nP xP:Nat->wA->Option (zC×Int×Int×Bool)}{nR xR:Nat->wU->Option (zC×Int×Int)}{n:Nat}(h1:uR S n nP nR)(h2:∀ m,m<n->uR S m xP xR):
  uR S n (λk=>BPg S s op (nP k) (xP k)) (λk=>BRg S s op (nR k) (xR k)):=by
 intro i i' g hi hi' he hn;obtain⟨rP,rR,hev,hres⟩:=h1 i i' g hi hi' he hn;rcases hres with⟨f,x,x',rfl,rfl,hx,hx',hxe,hlt,hsm⟩ | ⟨f,f',x,x',b,b',g',rfl,rfl,hx,hx',hb,hb'⟩
 ·have hsx:=zOO hx;rcases zQ6 hl hs hx hx' hxe with⟨q,tP,tR,hq1,hq2⟩ | ⟨tP,tR⟩
  ·have hle:=zYw S q;obtain⟨r2P,r2R,hev2,hres2⟩:=h2 (S.length-sk S q) (by omega) q q (g||!vG f) hq2 hq2 rfl (Qd _);refine⟨(fm (op,[],[f,r2P.1]),r2P.2.1,r2P.2.2.1,r2P.2.2.2),(fm (op,[],[f,r2R.1]),r2R.2.1,r2R.2.2),hev.imp2 hev2 λk ⟨e1,e2⟩ ⟨e3,e4⟩=>⟨?_,?_⟩,?_⟩
   ·unfold BPg;grind
   ·unfold BRg;grind
   ·rcases hres2 with⟨f2,y,y',rfl,rfl,hy,hy',hye,hlt2,hsm2⟩ | ⟨f2,f2',y,y',b,b',g',rfl,rfl,hy,hy',hb,hb'⟩
    ·refine .inl ⟨fm (op,[],[f,f2]),y,y',?_,rfl,hy,hy',hye,by omega,?_⟩
     ·have:vG (fm (op,[],[f,f2]))=(vG f&&vG f2):=by
       show vG (.mk op [] [f,f2])=_;rw[vG];rcases hop with rfl | rfl <;> simp[tW]
      grind
     ·show sk S i+wO (.mk op [] [f,f2])<=_;grind [wO,yC]
    ·exact .inr ⟨_,_,y,y',b,b',g',rfl,rfl,hy,hy',hb,hb'⟩
  ·refine⟨(f,(sk S x:Int),-1,g||!vG f),(f,(x':Int),-1),hev.imp λk ⟨e1,e2⟩=>⟨?_,?_⟩,.inl ⟨f,sk S x,x',rfl,rfl,hsx,hx',by rw[zMz];exact hxe,by rw[zMz];exact hlt,by rw[zMz];exact hsm⟩⟩
   ·unfold BPg;grind
   ·unfold BRg;grind
 ·refine⟨(f,(sk S x:Int),b,g'),(f',(x':Int),b'),hev.imp λk ⟨e1,e2⟩=>⟨?_,?_⟩,.inr ⟨_,_,sk S x,x',b,b',g',rfl,rfl,zOO hx,hx',hb,hb'⟩⟩
  ·unfold BPg;simp[e1,zNH hl hx hb]
  ·unfold BRg;simp[e2,zUR hl hx' hb']
theorem z9H:∀ n,uR S n zAF zAW/\uR S n zAH zAY/\uR S n zAM zA8/\uR S n zAD zAO/\uR S n zAL zA3:=by
 intro n;induction n using Nat.strongRecOn with
 | _ n ih=>
  have hU:uR S n zAF zAW:=uR.suc (z7e hl (a1:=zAH) (a2:=zAD) (a3:=zAB) (a4:=zAA) (a5:=zAM) (b1:=zAY) (b2:=zAO) (b3:=zA8) (λm hm=>(ih m hm).1) (λm hm=>(ih m hm).2.2.2.2));have hA:uR S n zAH zAY:=by
   refine uR.suc (uR.sucP ((z5Q hl (s:=[38]) (by decide) (op:=5) (.inl rfl) (λm hm=>hU.mono hm)).cong (λk i b g=>?_) (λk i b=>?_)))
   ·show(MPg S [38] 5 (zAF k) (S,i,b,g)).bind (λr1=>Ah (r1.1,r1.2.1,r1.2.2.1,r1.2.2.2))=_;cases MPg S [38] 5 (zAF k) (S,i,b,g) <;> rfl
   ·rfl
  have hO:uR S n zAM zA8:=by
   refine uR.suc (uR.sucP ((z5Q hl (s:=[124]) (by decide) (op:=6) (.inr rfl) (λm hm=>hA.mono hm)).cong (λk i b g=>?_) (λk i b=>?_)))
   ·show(MPg S [124] 6 (zAH k) (S,i,b,g)).bind (λr1=>Ah (r1.1,r1.2.1,r1.2.2.1,r1.2.2.2))=_;cases MPg S [124] 6 (zAH k) (S,i,b,g) <;> rfl
   ·rfl
  have hI:uR S n zAD zAO:=
   uR.suc ((z8h hl (s:=[45,62]) (by decide) (op:=7) (.inl rfl) hO (λm hm=>(ih m hm).2.2.2.1)).cong (λ_ _ _ _=>rfl) (λ_ _ _=>rfl))
  have hE:uR S n zAL zA3:=
   uR.suc ((z8h hl (s:=[60,45,62]) (by decide) (op:=8) (.inr rfl) hI (λm hm=>(ih m hm).2.2.2.1)).cong (λ_ _ _ _=>rfl) (λ_ _ _=>rfl))
  grind
end
mutual
def szF:zC->Int
 | .mk _ _ l=>szL l 1
def szL:List zC->Int->Int
 | [],a=>a
 | x::l,a=>szL l (zE (a+szF x))
end
mutual
def dpF:zC->Int
 | .mk _ _ l=>dpL l 0
def dpL:List zC->Int->Int
 | [],a=>a
 | x::l,a=>dpL l (if zE (1+dpF x) > a then zE (1+dpF x) else a)
end
section
variable {op:Int}{s:zA}{pre:List zC}
theorem zSB (h:pre.length<=5000): decide ((pre.length:Int)<len ((fv (fm (op,s,pre++[]))).2.2))=false:=by
 have _:=h;show decide ((pre.length:Int)<len (pre++[]))=Ak;grind
theorem zLS{x:zC}{l:List zC}: decide ((pre.length:Int)<len ((fv (fm (op,s,pre++x::l))).2.2))=Aj/\zD ((fv (fm (op,s,pre++x::l))).2.2) (pre.length:Int)=Ah x:=by
 refine⟨Qq ?_,?_⟩
 ·show(pre.length:Int)<len (pre++x::l);grind
 ·show zD (pre++x::l) (pre.length:Int)=Ah x;exact xO (by simp)
end
mutual
theorem z9B:∀ f,sml f=Aj->Ev λk=>zDj k f=Ah (szF f)
 | .mk op s l,h=>by
  rw[sml,Qc,Qb] at h;exact Ev.suc ((z8m op s l [] 1 h.2 (by grind)).imp λk e=>e)
theorem z8m:∀(op:Int) (s:zA) (l pre:List zC) (a:Int),zWD l=Aj->(pre++l).length<=5000->Ev λk=>zN (zGV (fm (op,s,pre++l)) (zDj k)) (a,(pre.length:Int))=Ah (szL l a)
 | op,s,[],pre,a,_,hp=>Ev.of λk=>vW (by
  unfold zGV;simp only[zSB (op:=op) (s:=s) (pre:=pre) (by grind),zbf,Qy];rfl)
 | op,s,x::l,pre,a,h,hp=>by
  rw[zWD,Qc] at h;have hp':pre.length+l.length+1<=5000:=by simp at hp;omega
  refine(z9B x h.1).imp2 (z8m op s l (pre++[x]) (zE (a+szF x)) h.2 (by simp;omega)) λk e1 e2=>?_;rw[Qo] at e2;refine(yZ (t:=(zE (a+szF x),((pre++[x]).length:Int))) ?_).trans e2;unfold zGV;simp only[(zLS (op:=op) (s:=s) (pre:=pre) (x:=x) (l:=l)).1,(zLS (op:=op) (s:=s) (pre:=pre) (x:=x) (l:=l)).2,Qx,zob,e1];rw[wE pre.length (by omega)];simp
end
mutual
theorem z9i:∀ f,sml f=Aj->Ev λk=>zDE k f=Ah (dpF f)
 | .mk op s l,h=>by
  rw[sml,Qc,Qb] at h;exact Ev.suc ((z83 op s l [] 0 h.2 (by grind)).imp λk e=>e)
theorem z83:∀(op:Int) (s:zA) (l pre:List zC) (a:Int),zWD l=Aj->(pre++l).length<=5000->Ev λk=>zN (zFo (fm (op,s,pre++l)) (zDE k)) (a,(pre.length:Int))=Ah (dpL l a)
 | op,s,[],pre,a,_,hp=>Ev.of λk=>vW (by
  unfold zFo;simp only[zSB (op:=op) (s:=s) (pre:=pre) (by grind),zbf,Qy];rfl)
 | op,s,x::l,pre,a,h,hp=>by
  rw[zWD,Qc] at h;have hp':pre.length+l.length+1<=5000:=by simp at hp;omega
  refine(z9i x h.1).imp2 (z83 op s l (pre++[x]) (if zE (1+dpF x) > a then zE (1+dpF x) else a) h.2 (by simp;omega)) λk e1 e2=>?_;rw[Qo] at e2;refine(yZ (t:=((if zE (1+dpF x) > a then zE (1+dpF x) else a),((pre++[x]).length:Int))) ?_).trans e2;unfold zFo;simp only[(zLS (op:=op) (s:=s) (pre:=pre) (x:=x) (l:=l)).1,(zLS (op:=op) (s:=s) (pre:=pre) (x:=x) (l:=l)).2,Qx,zob,e1];rw[wE pre.length (by omega)];simp
end
mutual
theorem kd_ok:∀ f,sml f=Aj->Ev λk=>zDC k f=Ah (vG f)
 | .mk op s l,h=>by
  rw[sml,Qc,Qb] at h;refine Ev.suc ((z8l op s l [] (if op=1\/op=2\/op=3 then l.length==0 else if op=4 then l.length==1 else if op=5\/op=6 then decide (2<=l.length)&&decide (l.length<=6) else if op=7\/op=8 then l.length==2 else Ak) h.2 (by grind)).imp λk e=>?_);rw[vG,<-e];show zIj (zDC k) (.mk op s l)=_;unfold zIj;have hl:∀ n:Nat,(len l==(n:Int))=(l.length==n):=λn=>by
   grind
  have h0:(len l==0)=(l.length==0):=hl 0;have h1:(len l==1)=(l.length==1):=hl 1;have h2:(len l==2)=(l.length==2):=hl 2;have h3:decide (2<=len l)=decide (2<=l.length):=by
   by_cases h:2<=l.length
   ·grind
   ·grind
  have h4:decide (len l<=6)=decide (l.length<=6):=by
   by_cases h:l.length<=6
   ·grind
   ·grind
  show((((if(op==1)=Aj then Ah (op==1) else if(op==2)=Aj then Ah (op==2) else Ah (op==3):Option Bool).bind λs2=>if s2 then Ah (len l==0) else if(op==4)=Aj then Ah (len l==1) else(if(op==5)=Aj then Ah (op==5) else Ah (op==6):Option Bool).bind λs3=>if s3 then Ah (decide (2<=len l)&&decide (len l<=6)) else(if(op==7)=Aj then Ah (op==7) else Ah (op==8):Option Bool).bind λs4=>if s4 then Ah (len l==2) else Ah Ak:Option Bool)).bind λs1=>zN (zDy (fm (op,s,l)) (zDC k)) (s1,0))=_;rw[h0,h1,h2,h3,h4];have key:((((if(op==1)=Aj then Ah (op==1) else if(op==2)=Aj then Ah (op==2) else Ah (op==3):Option Bool).bind λs2=>if s2 then Ah (l.length==0) else if(op==4)=Aj then Ah (l.length==1) else(if(op==5)=Aj then Ah (op==5) else Ah (op==6):Option Bool).bind λs3=>if s3 then Ah (decide (2<=l.length)&&decide (l.length<=6)) else(if(op==7)=Aj then Ah (op==7) else Ah (op==8):Option Bool).bind λs4=>if s4 then Ah (l.length==2) else Ah Ak:Option Bool)))=Ah (if op=1\/op=2\/op=3 then l.length==0 else if op=4 then l.length==1 else if op=5\/op=6 then decide (2<=l.length)&&decide (l.length<=6) else if op=7\/op=8 then l.length==2 else Ak):=by
   by_cases o1:op=1
   ·grind
   by_cases o2:op=2
   ·grind
   by_cases o3:op=3
   ·grind
   by_cases o4:op=4
   ·grind
   by_cases o5:op=5
   ·grind
   by_cases o6:op=6
   ·grind
   by_cases o7:op=7
   ·grind
   by_cases o8:op=8
   ·grind
   simp[o1,o2,o3,o4,o5,o6,o7,o8]
  grind
theorem z8l:∀(op:Int) (s:zA) (l pre:List zC) (a:Bool),zWD l=Aj->(pre++l).length<=5000->Ev λk=>zN (zDy (fm (op,s,pre++l)) (zDC k)) (a,(pre.length:Int))=Ah (a&&tW l)
 | op,s,[],pre,a,_,hp=>Ev.of λk=>vW (by
  unfold zDy;simp only[zSB (op:=op) (s:=s) (pre:=pre) (by grind),zbf,Qy];rw[tW,Bool.and_true])
 | op,s,x::l,pre,a,h,hp=>by
  rw[zWD,Qc] at h;have hp':pre.length+l.length+1<=5000:=by simp at hp;omega
  refine(kd_ok x h.1).imp2 (z8l op s l (pre++[x]) (a&&vG x) h.2 (by simp;omega)) λk e1 e2=>?_;rw[Qo] at e2;refine(yZ (t:=(a&&vG x,((pre++[x]).length:Int))) ?_).trans (e2.trans (by rw[tW,Bool.and_assoc]));unfold zDy;simp only[(zLS (op:=op) (s:=s) (pre:=pre) (x:=x) (l:=l)).1,(zLS (op:=op) (s:=s) (pre:=pre) (x:=x) (l:=l)).2,Qx,zob,e1];rw[wE pre.length (by omega)];grind
end
theorem z6N:zEO=zDj:=by
 funext k;induction k with
 | zero=>rfl
 | succ k ih=>
  show(λy0=>zLB (zEO k) y0)=λy0=>zNJ (zDj k) y0;rw[ih];rfl
theorem z3O:zDX=zDE:=by
 funext k;induction k with
 | zero=>rfl
 | succ k ih=>
  show(λy0=>zJ5 (zDX k) y0)=λy0=>zLt (zDE k) y0;rw[ih];rfl
theorem Ev.lim{α:Type}{f:Nat->Option α}{r:α}(h:Ev λk=>f k=Ah r): uC f=Ah r:=by
 obtain⟨K,hK⟩:=h;exact z0U K hK
theorem z0P{f:zC}(h:sml f=Aj): zFh f=Ah (szF f)/\zKd f=Ah (szF f)/\zEg f=Ah (dpF f)/\zIt f=Ah (dpF f)/\zHA f=Ah (vG f):=
 ⟨by unfold zFh;rw[z6N];exact(z9B f h).lim,(z9B f h).lim,by unfold zEg;rw[z3O];exact(z9i f h).lim,(z9i f h).lim,(kd_ok f h).lim⟩
end
section
def okF (f:zC): Bool:=vG f&&(decide (szF f<=600)&&decide (dpF f<=20))
theorem tk_fin (S:zA)(i:Nat): ((wL S i).kind==[])=((wL S i).word==[])/\((wL S i).word=[]->(wL S i).text=[]):=by
 unfold wL;rcases zXp (S.drop (sk S i)) with h | ⟨v,h,hv,_⟩ | h | h | ⟨t,ht,h⟩ | ⟨v,h⟩ <;> rw[h]
 ·exact⟨rfl,λ_=>rfl⟩
 ·have:v≠[]:=by rintro rfl;cases hv
  refine⟨?_,λe=>absurd e this⟩;show(([110,97,109,101]:zA)==[])=(v==[]);grind
 ·exact⟨rfl,λe=>by cases e⟩
 ·exact⟨rfl,λe=>by cases e⟩
 ·exact⟨rfl,λe=>e⟩
 ·exact⟨rfl,λe=>by cases e⟩
theorem zMN (S:zA): ∃ f o o' c,zBd S=Ah (f,o,c)/\zCh S=Ah (f,o',c)/\(c=0->okF f=Aj/\wO f<=5000/\o=0/\o'=0/\S.length<=4096)/\(c≠0->f=fm (0,[],[])/\(c=2\/c=3)):=by
 by_cases hl4:4096<S.length
 ·refine⟨fm (0,[],[]),0,0,2,?_,?_,λe=>by simp at e,λ_=>⟨rfl,.inl rfl⟩⟩
  ·unfold zBd;grind
  ·unfold zCh;grind
 have hl:S.length<=5000:=by omega
 have h4:¬ decide (4096<len S)=true:=by rw[Qb];simp only[len];omega
 obtain⟨rP,rR,hev,hres⟩:=(z9H hl S.length).2.2.2.2 0 0 Ak (by omega) (by omega) rfl (by omega);have hP:zF3 (S,0,-1,Ak)=Ah rP:=(hev.imp λk e=>e.1).lim;have hR:zHG (S,0,-1)=Ah rR:=(hev.imp λk e=>e.2).lim;rcases hres with⟨f,x,x',rfl,rfl,hx,hx',hxe,hlt,hsm⟩ | ⟨f,f',x,x',b,b',g',rfl,rfl,hx,hx',hb,hb'⟩
 ·have hsx:=zOO hx;have htk:zAX (S,(x':Int),-1)=Ah ((wL S x).word,(sk S x:Int)):=by
   have h:zAX (S,(x':Int),-1)=Ah ((wL S x').word,(sk S x':Int)):=zQm hl hx' (-1);rw[h,show wL S x'=wL S x by unfold wL;rw[hxe],hxe]
  have hta:∀ g,tL (S,(x:Int),-1,g) []=if(decide ((0:Int)<=-1)||!((wL S x).kind==[]))=Aj then Ah (Ak,(sk S x:Int)) else Ah (Aj,zE ((sk S x:Int)+len (wL S x).text)):=λg=>zMI hl hx (-1) g []
  obtain⟨k1,k2⟩:=tk_fin S x;cases hw:(wL S x).word==[] with
  | false=>
   rw[hw] at k1;refine⟨fm (0,[],[]),(sk S x:Int),(sk S x:Int),3,?_,?_,λe=>by simp at e,λ_=>⟨rfl,.inr rfl⟩⟩
   ·unfold zBd;rw[Qa h4,hP];have e0:decide ((-1:Int)<0)=true:=by decide
    have h:zAQ (S,(sk S x:Int),-1,Ak||!vG f)=Ah ((((wL S (sk S x)).kind,(wL S (sk S x)).text,(sk S (sk S x):Int)):zBB),(sk S (sk S x):Int)):=zPI hl hsx (-1) _;have e1:decide ((0:Int)<=(sk S x:Int))=true:=Qq (by omega);unfold zAc;simp only[zob,hta,k1,Q3,Bool.or_true,Qx,e0,h,zMz,e1]
   ·unfold zCh;have e1:decide ((0:Int)<=(sk S x:Int))=true:=Qq (by omega);unfold zAx;grind
  | true=>
   rw[hw] at k1;have ht:=k2 (QJ.1 hw);have e2:decide ((0:Int)<=-1)=false:=by decide
   obtain⟨m1,m2,m3,m4,m5⟩:=z0P (zTt f (by omega));have hPp:zBd S=Ah (if okF f then(f,0,0) else(fm (0,[],[]),0,2)):=by
    unfold zBd;rw[Qa h4,hP];simp only[zob,hta,k1,e2,QG,UI,zbf,Qy,Bool.false_or];unfold okF;cases hk:vG f with
    | false=>simp
    | true=>
     grind
   have hRr:zCh S=Ah (if okF f then(f,0,0) else(fm (0,[],[]),0,2)):=by
    unfold zCh;rw[Qa h4,hR];simp only[zob,htk,hw,e2,QG,zbf,Qy];unfold okF;simp only[m2,m4,m5,zob];by_cases h1:szF f<=600
    ·grind
    ·grind
   grind
 ·have htk:zAX (S,(x':Int),b')=Ah ((wL S x').word,(sk S x':Int)):=zQm hl hx' b';refine⟨fm (0,[],[]),b,b',3,?_,?_,λe=>by simp at e,λ_=>⟨rfl,.inr rfl⟩⟩
  ·unfold zBd;rw[Qa h4,hP];have e0:decide (b<0)=false:=Qp (by omega);have e1:decide (0<=b)=true:=Qq hb;unfold zAc;simp only[zob,zNH hl hx hb,Q3,Qx,e0,zbf,Qy,e1]
  ·unfold zCh;unfold zAx;grind
end
section
def kd0 (op:Int)(n:Nat): Bool:=if op=1\/op=2\/op=3 then n==0 else if op=4 then n==1 else if op=5\/op=6 then decide (2<=n)&&decide (n<=6) else if op=7\/op=8 then n==2 else Ak
theorem zMX (op:Int)(s:zA)(l:List zC): vG (.mk op s l)=(kd0 op l.length&&tW l):=by rfl
theorem z1J{α:Type}(l:List α)(n:Nat): (len l==(n:Int))=(l.length==n):=by grind
theorem z2e (op:Int)(s:zA)(l:List zC): zFF (.mk op s l)=Ah (kd0 op l.length):=by
 have h0:(len l==0)=(l.length==0):=z1J l 0;have h1:(len l==1)=(l.length==1):=z1J l 1;have h2:(len l==2)=(l.length==2):=z1J l 2;have h3:decide (2<=len l)=decide (2<=l.length):=by
  by_cases h:2<=l.length
  ·grind
  ·grind
 have h4:decide (len l<=6)=decide (l.length<=6):=by
  by_cases h:l.length<=6
  ·grind
  ·grind
 show(((if(op==1)=Aj then Ah (op==1) else if(op==2)=Aj then Ah (op==2) else Ah (op==3):Option Bool).bind λs2=>if s2 then Ah (len l==0) else if(op==4)=Aj then Ah (len l==1) else(if(op==5)=Aj then Ah (op==5) else Ah (op==6):Option Bool).bind λs3=>if s3 then Ah (decide (2<=len l)&&decide (len l<=6)) else(if(op==7)=Aj then Ah (op==7) else Ah (op==8):Option Bool).bind λs4=>if s4 then Ah (len l==2) else Ah Ak:Option Bool))=_;unfold kd0;grind
mutual
def tO:zC->Bool
 | .mk op s l=>(if op=3 then vName s else s==[])&&z2y l
def z2y:List zC->Bool
 | []=>Aj
 | x::l=>tO x&&z2y l
end
mutual
theorem z8U:∀ f,sml f=Aj->Ev λk=>zAd k f=Ah (vG f)
 | .mk op s l,h=>by
  rw[sml,Qc,Qb] at h;refine Ev.suc ((z5o op s l [] h.2 (by grind)).imp λk e=>?_);show((zFF (.mk op s l)).bind λr1=>if !r1 then Ah Ak else zN (zAf (fm (op,s,l)) (zAd k)) 0)=_;rw[z2e,zob,zMX];grind
theorem z5o:∀(op:Int) (s:zA) (l pre:List zC),zWD l=Aj->(pre++l).length<=5000->Ev λk=>zN (zAf (fm (op,s,pre++l)) (zAd k)) (pre.length:Int)=Ah (tW l)
 | op,s,[],pre,_,hp=>Ev.of λk=>vW (by
  unfold zAf;simp only[zSB (op:=op) (s:=s) (pre:=pre) (by grind),zbf,Qy];rfl)
 | op,s,x::l,pre,h,hp=>by
  rw[zWD,Qc] at h;have hp':pre.length+l.length+1<=5000:=by simp at hp;omega
  refine(z8U x h.1).imp2 (z5o op s l (pre++[x]) h.2 (by simp;omega)) λk e1 e2=>?_;rw[Qo] at e2;rw[tW];cases hx:vG x with
  | false=>
   refine vW ?_;unfold zAf;simp only[(zLS (op:=op) (s:=s) (pre:=pre) (x:=x) (l:=l)).1,(zLS (op:=op) (s:=s) (pre:=pre) (x:=x) (l:=l)).2,Qx,zob,e1,hx,Q3];rfl
  | true=>
   refine(yZ (t:=((pre++[x]).length:Int)) ?_).trans e2;unfold zAf;simp only[(zLS (op:=op) (s:=s) (pre:=pre) (x:=x) (l:=l)).1,(zLS (op:=op) (s:=s) (pre:=pre) (x:=x) (l:=l)).2,Qx,zob,e1,hx,QG,zbf,Qy];rw[wE pre.length (by omega)];simp
end
mutual
theorem z8f:∀ f,sml f=Aj->Ev λk=>zAk k f=Ah (tO f)
 | .mk op s l,h=>by
  rw[sml,Qc,Qb] at h;refine Ev.suc ((z68 op s l [] h.2 (by grind)).imp λk e=>?_);show((if(op==3)=Aj then(zBj s).bind λr1=>Ah r1 else Ah (s==[])).bind λr1=>if !r1 then Ah Ak else zN (zAn (fm (op,s,l)) (zAk k)) 0)=_;rw[zTP,zob,tO];grind
theorem z68:∀(op:Int) (s:zA) (l pre:List zC),zWD l=Aj->(pre++l).length<=5000->Ev λk=>zN (zAn (fm (op,s,pre++l)) (zAk k)) (pre.length:Int)=Ah (z2y l)
 | op,s,[],pre,_,hp=>Ev.of λk=>vW (by
  unfold zAn;simp only[zSB (op:=op) (s:=s) (pre:=pre) (by grind),zbf,Qy];rfl)
 | op,s,x::l,pre,h,hp=>by
  rw[zWD,Qc] at h;have hp':pre.length+l.length+1<=5000:=by simp at hp;omega
  refine(z8f x h.1).imp2 (z68 op s l (pre++[x]) h.2 (by simp;omega)) λk e1 e2=>?_;rw[Qo] at e2;rw[z2y];cases hx:tO x with
  | false=>
   refine vW ?_;unfold zAn;simp only[(zLS (op:=op) (s:=s) (pre:=pre) (x:=x) (l:=l)).1,(zLS (op:=op) (s:=s) (pre:=pre) (x:=x) (l:=l)).2,Qx,zob,e1,hx,Q3];rfl
  | true=>
   refine(yZ (t:=((pre++[x]).length:Int)) ?_).trans e2;unfold zAn;simp only[(zLS (op:=op) (s:=s) (pre:=pre) (x:=x) (l:=l)).1,(zLS (op:=op) (s:=s) (pre:=pre) (x:=x) (l:=l)).2,Qx,zob,e1,hx,QG,zbf,Qy];rw[wE pre.length (by omega)];simp
end
mutual
theorem z5A:∀ f,sml f=Aj->Ev λk=>zDl k f=Ah (tO f)
 | .mk op s l,h=>by
  rw[sml,Qc,Qb] at h;refine Ev.suc ((z5l op s l [] (if op=3 then vName s else s==[]) h.2 (by grind)).imp λk e=>?_);show((if(op==3)=Aj then(zAm s).bind λr1=>Ah r1 else Ah (s==[])).bind λs1=>zN (zEK (fm (op,s,l)) (zDl k)) (s1,0))=_;rw[zDF,zob,tO,<-e];grind
theorem z5l:∀(op:Int) (s:zA) (l pre:List zC) (a:Bool),zWD l=Aj->(pre++l).length<=5000->Ev λk=>zN (zEK (fm (op,s,pre++l)) (zDl k)) (a,(pre.length:Int))=Ah (a&&z2y l)
 | op,s,[],pre,a,_,hp=>Ev.of λk=>vW (by
  unfold zEK;simp only[zSB (op:=op) (s:=s) (pre:=pre) (by grind),zbf,Qy];rw[z2y,Bool.and_true])
 | op,s,x::l,pre,a,h,hp=>by
  rw[zWD,Qc] at h;have hp':pre.length+l.length+1<=5000:=by simp at hp;omega
  refine(z5A x h.1).imp2 (z5l op s l (pre++[x]) (a&&tO x) h.2 (by simp;omega)) λk e1 e2=>?_;rw[Qo] at e2;refine(yZ (t:=(a&&tO x,((pre++[x]).length:Int))) ?_).trans (e2.trans (by rw[z2y,Bool.and_assoc]));unfold zEK;simp only[(zLS (op:=op) (s:=s) (pre:=pre) (x:=x) (l:=l)).1,(zLS (op:=op) (s:=s) (pre:=pre) (x:=x) (l:=l)).2,Qx,zob,e1];rw[wE pre.length (by omega)];grind
end
def z2D (f:zC): Int:=if szF f<=600/\dpF f<=20 then(if vG f then(if tO f then 0 else 3) else 4) else 2
theorem zQb{f:zC}(h:sml f=Aj): zE5 f=Ah (z2D f)/\zEE f=Ah (z2D f):=by
 obtain⟨m1,m2,m3,m4,m5⟩:=z0P h;have c1:zCZ f=Ah (vG f):=(z8U f h).lim;have c2:zCd f=Ah (tO f):=(z8f f h).lim;have c3:zGm f=Ah (tO f):=(z5A f h).lim;grind [zE5,zEE,z2D]
end
section
def tV:zC->Int
 | .mk op _ _=>if op=8 then 1 else if op=7 then 2 else if op=6 then 3 else if op=5 then 4 else 5
def zNy (op:Int)(i:Nat): Int:=if op=4\/op=5 then 5 else if op=6 then 4 else if op=7 then 3-(i:Int) else 2
def zX8 (op:Int): zA:=if op=5 then[32,38,32] else if op=6 then[32,124,32] else if op=7 then[32,45,62,32] else[32,60,45,62,32]
def z2d (op:Int)(s:zA): zA:=if op=1 then[49] else if op=2 then[48] else if op=3 then s else if op=4 then[126] else[]
mutual
def vE:zC->zA
 | .mk op s l=>z2d op s++txL op 0 l
def txL:Int->Nat->List zC->zA
 | _,_,[]=>[]
 | op,i,x::l=>(if i=0 then[] else zX8 op)++(Fo.par (decide (tV x<zNy op i)) (vE x)++txL op (i+1) l)
end
theorem zYc (f:zC): zG3 f=Ah (tV f):=by
 obtain⟨op,s,l⟩:=f;show(if(op==8)=Aj then Ah 1 else if(op==7)=Aj then Ah 2 else if(op==6)=Aj then Ah 3 else if(op==5)=Aj then Ah 4 else Ah 5:Option Int)=_;grind [tV]
theorem z7L (f:zC): zFu f=Ah (tV f):=zYc f
theorem z3B (op:Int)(s:zA)(l:List zC)(i:Nat)(hi:i<=5000): zIV (fm (op,s,l)) (i:Int)=Ah (zNy op i):=by
 show((if(op==4)=Aj then Ah (op==4) else Ah (op==5):Option Bool).bind λs1=>if s1 then Ah 5 else if(op==6)=Aj then Ah 4 else if(op==7)=Aj then Ah (zE (3-(i:Int))) else Ah 2:Option Int)=_;rw[qN (by omega) (by omega)];grind [zNy]
theorem z74 (b:Bool)(t:zA): (Fo.par b t).length<=t.length+2:=(zRI b t).2
theorem zNo{op:Int}{n:Nat}(h:kd0 op n=Aj): (op=1\/op=2\/op=3)/\n=0\/op=4/\n=1\/(op=5\/op=6)/\2<=n\/(op=7\/op=8)/\n=2:=by grind [kd0]
mutual
theorem zZf:∀ f,tO f=Aj->(vE f).length+8<=24*wO f
 | .mk op s l,h=>by
  rw[tO,Qc] at h;have h1:=z54 op 0 l h.2;rw[vE,wO,Qg];have:(z2d op s).length<=12:=by
   unfold z2d;split
   ·decide
   ·split
    ·decide
    ·split
     ·rename_i h3;have hv:=h.1;rw[Qi h3] at hv;cases s with
      | nil=>cases hv
      | cons c r=>
       have:decide (r.length+1<=12)=true:=by
        have:(decide (r.length+1<=12)&&loB c&&r.all uX)=true:=hv;rw[Qc,Qc] at this;exact this.1.1
       grind
     grind
  omega
theorem z54:∀(op:Int) (i:Nat) (l:List zC),z2y l=Aj->(txL op i l).length<=24*yC l
 | _,_,[],_=>by rw[txL,yC];grind
 | op,i,x::l,h=>by
  rw[z2y,Qc] at h;have h1:=zZf x h.1;have h2:=z54 op (i+1) l h.2;have h3:=z74 (decide (tV x<zNy op i)) (vE x);have h4:(if i=0 then[] else zX8 op:zA).length<=5:=by
   split
   ·decide
   ·unfold zX8;split
    ·decide
    ·split
     ·decide
     ·split <;> decide
  grind [txL,yC]
end
theorem z9G{op:Int}(h:op=5\/op=6\/op=7\/op=8): zD zAP op=Ah (zX8 op):=by
 rcases h with rfl | rfl | rfl | rfl <;> rfl
theorem z9R{rec:zA->zC->Option zA}{f:zC}{z:zA}(hr:∀ z:zA,z.length+(vE f).length<=900000->rec z f=Ah (z++vE f))(c:Bool)(hz:z.length+(Fo.par c (vE f)).length<=900000)(i:Int):
  (if c=Aj then
   (zAJ z 40).bind λr8=>
   (rec r8.2 f).bind λr9=>
   (zAJ r9 41).bind λr10=>
   Ah (.inl (i,r10.2))
  else
   (rec z f).bind λr11=>
   Ah (.inl (i,r11)):Option ((Int×zA)⊕zA))=Ah (.inl (i,z++Fo.par c (vE f))):=by
 cases c with
 | true=>
  have hl:(Fo.par Aj (vE f)).length=(vE f).length+2:=by simp[Fo.par]
  rw[show(40:Int)=((40:Nat):Int) from rfl,zQY 40 (by omega) (by omega),zob,hr _ (by simp;omega),zob,show(41:Int)=((41:Nat):Int) from rfl,zQY 41 (by omega) (by simp;omega),zob];simp[Fo.par]
 | false=>
  rw[hr _ (by simpa [Fo.par] using hz),zob];rfl
mutual
theorem z60:∀ f,vG f=Aj->wO f<=5000->Ev λk=>∀ y:zA,y.length+(vE f).length<=900000->zCs k y f=Ah (y++vE f)
 | .mk op s l,h,hn=>by
  rw[zMX,Qc] at h;rw[wO] at hn;have hll:=zMH l;have hk:=zNo h.1;refine Ev.suc ((z89 op s l [] (by
   grind) h.2 (by omega) (by simp;omega)).imp λk e y hy=>?_)
  rw[vE,Qg] at hy;have hs1:(if(op==1)=Aj then(zAJ y 49).bind λr1=>Ah r1.2 else if(op==2)=Aj then(zAJ y 48).bind λr2=>Ah r2.2 else if(op==3)=Aj then(zAV y s).bind λr3=>Ah r3.2.2 else if(op==4)=Aj then(zAJ y 126).bind λr4=>Ah r4.2 else Ah y:Option zA)=Ah (y++z2d op s):=by
   by_cases o1:op=1
   ·subst o1;exact(congrArg (λo:Option (Unit×zA)=>o.bind λr1=>Ah r1.2) (zQY 49 (l:=y) (by omega) (by omega))).trans rfl
   by_cases o2:op=2
   ·subst o2;exact(congrArg (λo:Option (Unit×zA)=>o.bind λr1=>Ah r1.2) (zQY 48 (l:=y) (by omega) (by omega))).trans rfl
   by_cases o3:op=3
   ·subst o3;have hy':y.length+s.length<=900000:=by
     have:z2d 3 s=s:=rfl;rw[this] at hy;omega
    exact(congrArg (λo:Option (Int×Unit×zA)=>o.bind λr1=>Ah r1.2.2) (z0k (l:=y) (s:=s) (by omega))).trans rfl
   by_cases o4:op=4
   ·subst o4;exact(congrArg (λo:Option (Unit×zA)=>o.bind λr1=>Ah r1.2) (zQY 126 (l:=y) (by omega) (by omega))).trans rfl
   simp[z2d,o1,o2,o3,o4]
  have key:(Ah (y++z2d op s):Option zA).bind (λs1=>zN (zDJ (fm (op,s,l)) (zCs k)) (0,s1))=Ah (y++vE (.mk op s l)):=by
   rw[zob,vE,<-Qo];exact e (y++z2d op s) (by grind)
  rw[<-hs1] at key;exact key
theorem z89:∀(op:Int) (s:zA) (l pre:List zC),((pre++l).length<=1\/(op=5\/op=6\/op=7\/op=8))->tW l=Aj->yC l<=5000->(pre++l).length<=5000->Ev λk=>∀ y:zA,y.length+(txL op pre.length l).length<=900000->zN (zDJ (fm (op,s,pre++l)) (zCs k)) ((pre.length:Int),y)=Ah (y++txL op pre.length l)
 | op,s,[],pre,_,_,_,hp=>Ev.of λk y hy=>vW (by
  unfold zDJ;simp only[zSB (op:=op) (s:=s) (pre:=pre) (by grind),zbf,Qy];rw[txL,QE])
 | op,s,x::l,pre,ho,h,hn,hp=>by
  rw[tW,Qc] at h;rw[yC] at hn;have hp':pre.length+l.length+1<=5000:=by simp at hp;omega
  refine(z60 x h.1 (by omega)).imp2 (z89 op s l (pre++[x]) (by grind) h.2 (by omega) (by simp;omega)) λk e1 e2 y hy=>?_;rw[txL,Qg,Qg] at hy;rw[txL];have e3:=e2 (y++(if pre.length=0 then[] else zX8 op)++Fo.par (decide (tV x<zNy op pre.length)) (vE x)) (by grind);rw[Qo] at e3;refine(yZ (t:=(((pre++[x]).length:Int),y++(if pre.length=0 then[] else zX8 op)++Fo.par (decide (tV x<zNy op pre.length)) (vE x))) ?_).trans (e3.trans ?_)
  ·unfold zDJ;simp only[(zLS (op:=op) (s:=s) (pre:=pre) (x:=x) (l:=l)).1,(zLS (op:=op) (s:=s) (pre:=pre) (x:=x) (l:=l)).2,Qx,zob];have hw:(if decide (0<(pre.length:Int))=Aj then(zD zAP ((fv (fm (op,s,pre++x::l))).1)).bind λx2=>(zAV y x2).bind λr5=>Ah r5.2.2 else Ah y:Option zA)=Ah (y++(if pre.length=0 then[] else zX8 op)):=by
    by_cases h0:pre.length=0
    ·grind
    ·have hop:op=5\/op=6\/op=7\/op=8:=by
      rcases ho with ho | ho
      ·grind
      ·exact ho
     rw[Qa h0] at hy;rw[Qi (Qq (by omega)),Qa h0];show((zD zAP op).bind λx2=>(zAV y x2).bind λr5=>Ah r5.2.2:Option zA)=_;rw[z9G hop,zob,z0k (by omega)];rfl
   rw[hw,zob,zYc,zob,z3B op s (pre++x::l) pre.length (by omega),zob,wE pre.length (by omega),z9R e1 _ (by grind)];simp
  grind
end
theorem argF{x:zC}{k:Nat}{c:Int}(hr:zBm k x=Ah (vE x))(hl:(vE x).length<=900000): zA5 (k+1) x c=Ah (Fo.par (decide (tV x<c)) (vE x)):=by
 show((zFu x).bind λr1=>if decide (r1<c)=Aj then(zBm k x).bind λr2=>(qA [40] r2).bind λx1=>(qA x1 [41]).bind λx2=>Ah x2 else(zBm k x).bind λr3=>Ah r3)=_;rw[z7L,zob,hr];cases decide (tV x<c) with
 | true=>
  simp only[Qx,zob];rw[wQ (by simp;omega),zob,wQ (by simp;omega),zob];rfl
 | false=>rfl
theorem zMK (op:Int)(i:Nat)(x:zC)(l:List zC): txL op i (x::l)=(if i=0 then[] else zX8 op)++(Fo.par (decide (tV x<zNy op i)) (vE x)++txL op (i+1) l):=by rw[txL]
mutual
theorem zVw:∀ f,vG f=Aj->wO f<=5000->(vE f).length<=900000->Ev λk=>zBm k f=Ah (vE f)
 | .mk op s [],h,hn,hl=>by
  rw[zMX,Qc] at h;have hk:=zNo h.1;refine Ev.suc (Ev.of λk=>?_);rw[vE,txL,QE];have:op=1\/op=2\/op=3:=by simp at hk;exact hk
  rcases this with rfl | rfl | rfl <;> rfl
 | .mk op s [x],h,hn,hl=>by
  rw[zMX,Qc] at h;have hk:=zNo h.1;have:op=4:=by simp at hk;exact hk
  subst this;rw[tW,Qc] at h;rw[wO,yC] at hn;have hp:=(zRI (decide (tV x<5)) (vE x)).1;have e:vE (.mk 4 s [x])=[126]++Fo.par (decide (tV x<5)) (vE x):=by
   rw[vE,txL,txL,QE,Qi rfl];rfl
  rw[e] at hl ⊢;simp at hl;refine Ev.suc (Ev.suc ((zVw x h.2.1 (by omega) (by omega)).imp λk hr=>?_));show((zA5 (k+1) x 5).bind λr1=>(qA [126] r1).bind λx2=>Ah x2)=_;rw[argF hr (by omega),zob,wQ (by simp;omega),zob]
 | .mk op s (x::z::l),h,hn,hl=>by
  rw[zMX,Qc] at h;have hk:=zNo h.1;rw[tW,Qc] at h;have hn':=hn;rw[wO,yC] at hn;have hp:=(zRI (decide (tV x<zNy op 0)) (vE x)).1;rw[vE,zMK,Qi rfl,QI] at hl ⊢;simp only[Qg] at hl;have hll:=zMH (z::l);have hkk:(op=5\/op=6\/op=8)\/op=7/\l=[]:=by
   rcases hk with⟨_,e⟩ | ⟨_,e⟩ | ⟨a,_⟩ | ⟨a,e⟩
   ·simp at e
   ·simp at e
   ·omega
   ·grind
  have hpre:z2d op s=[]:=by
   unfold z2d;rcases hkk with(e | e | e) | ⟨e,_⟩ <;> subst e <;> rfl
  rw[hpre,QI];rcases hkk with ho | ⟨rfl,rfl⟩
  ·
   obtain⟨c,hc,hw⟩:∃ c,(∀ i,zNy op i=c)/\∀ k,zBm (k+1) (.mk op s (x::z::l))=(zBp k (x::z::l) (zX8 op) c).bind λr2=>Ah r2:=by
    rcases ho with rfl | rfl | rfl
    ·exact⟨5,λ_=>rfl,λ_=>rfl⟩
    ·exact⟨4,λ_=>rfl,λ_=>rfl⟩
    ·exact⟨2,λ_=>rfl,λ_=>rfl⟩
   refine Ev.suc (Ev.suc (((Ev.suc (P:=λk=>zA5 k x c=Ah (Fo.par (decide (tV x<c)) (vE x))) ((zVw x h.2.1 (by omega) (by omega)).imp λk hr=>argF (c:=c) hr (by omega))).imp2 (z6L op c hc (z::l) [x] (by simp) h.2.2 (by omega) (by grind)) λk e1 e2=>?_)));have:zBp (k+1) (x::z::l) (zX8 op) c=(zA5 k x c).bind λr1=>zN (zDY (x::z::l) (zX8 op) (zA5 k) c) (r1,1):=rfl;simp_all
  ·
   rw[tW,Qc] at h;rw[yC] at hn;rw[zMK,txL,QE,Qa (by decide)] at hl ⊢;simp only[Qg] at hl;have hp2:=(zRI (decide (tV z<zNy 7 (0+1))) (vE z)).1;refine Ev.suc (Ev.suc ((zVw x h.2.1 (by omega) (by omega)).imp2 (zVw z h.2.2.1 (by omega) (by omega)) λk e1 e2=>?_));show((zA5 (k+1) x 3).bind λr4=>(qA r4 [32,45,62,32]).bind λx5=>(zA5 (k+1) z 2).bind λr5=>(qA x5 r5).bind λx6=>Ah x6)=_;have hl':(Fo.par (decide (tV x<3)) (vE x)).length+(4+(Fo.par (decide (tV z<2)) (vE z)).length)<=900000:=by
    have hq:(z2d 7 s).length+((Fo.par (decide (tV x<3)) (vE x)).length+(4+(Fo.par (decide (tV z<2)) (vE z)).length))<=900000:=hl;omega
   rw[argF e1 (by omega),zob,wQ (by grind),zob,argF e2 (by omega),zob,wQ (by grind),zob,Qo];rfl
theorem z6L:∀(op c:Int),(∀ i,zNy op i=c)->∀(l pre:List zC),pre≠[]->tW l=Aj->yC l<=5000->(pre++l).length<=6000->Ev λk=>∀ a:zA,a.length+(txL op pre.length l).length<=900000->zN (zDY (pre++l) (zX8 op) (zA5 k) c) (a,(pre.length:Int))=Ah (a++txL op pre.length l)
 | op,c,hc,[],pre,hne,_,_,_=>Ev.of λk a ha=>vW (by
  unfold zDY;have:decide ((pre.length:Int)<len (pre++[]))=false:=Qp (by simp);simp only[this,zbf,Qy];rw[txL,QE])
 | op,c,hc,x::l,pre,hne,h,hn,hlen=>by
  rw[tW,Qc] at h;rw[yC] at hn;have hpl:=QF.2 hne;have hlen':pre.length+l.length+1<=6000:=by simp at hlen;omega
  by_cases hbig:(vE x).length<=900000
  ·refine(Ev.suc (P:=λk=>zA5 k x c=Ah (Fo.par (decide (tV x<c)) (vE x))) ((zVw x h.1 (by omega) hbig).imp λk hr=>argF (c:=c) hr hbig)).imp2 (z6L op c hc l (pre++[x]) (by simp) h.2 (by omega) (by simp;omega)) λk e1 e2 a ha=>?_;rw[zMK,Qa (by omega),hc] at ha ⊢;simp at ha;have e3:=e2 (a++zX8 op++Fo.par (decide (tV x<c)) (vE x)) (by grind);rw[Qo pre] at e3;refine(yZ (t:=(a++zX8 op++Fo.par (decide (tV x<c)) (vE x),((pre++[x]).length:Int))) ?_).trans (e3.trans ?_)
   ·unfold zDY;have h2:zD (pre++x::l) (pre.length:Int)=Ah x:=xO (by simp);simp[h2,wQ (show a.length+(zX8 op).length<4294967296 by omega),e1];rw[wQ (by grind),zob,wE pre.length (by omega)];simp
   grind
  grind [Ev.of,zMK,zRI]
end
theorem z23{f:zC}(hn:wO f<=5000): ∃ t c,zAt f=Ah (t,c)/\zAR f=Ah (t,c)/\t.length<=4096/\(c≠0->t=[]):=by
 obtain⟨v1,v2⟩:=zQb (zTt f (by omega));by_cases hv:z2D f=0
 ·have hv':vG f=Aj/\tO f=true:=by
   unfold z2D at hv;split at hv
   ·grind
   ·cases hv
  have hlen:=zZf f hv'.2;have w:zD0 [] f=Ah (vE f):=((z60 f hv'.1 hn).imp λk e=>(e [] (by simp;omega)).trans (by grind)).lim;have r:zNX f=Ah (vE f):=(zVw f hv'.1 hn (by omega)).lim;by_cases h4:4096<(vE f).length
  ·refine⟨[],2,?_,?_,by simp,λ_=>rfl⟩
   ·unfold zAt zBU;grind
   ·unfold zAR;grind
  ·refine⟨vE f,0,?_,?_,by omega,λe=>absurd rfl e⟩
   ·unfold zAt zBU zAr;grind
   ·unfold zAR;grind
 ·refine⟨[],z2D f,?_,?_,by simp,λ_=>rfl⟩
  ·unfold zAt;grind
  ·unfold zAR;grind
end
section
mutual
def eqF:zC->zC->Bool
 | .mk a s l,.mk b t m=>a==b&&(s==t&&eqL l m)
def eqL:List zC->List zC->Bool
 | [],[]=>Aj
 | x::l,y::m=>eqF x y&&eqL l m
 | [],_::_=>Ak
 | _::_,[]=>Ak
end
mutual
theorem z41:∀ f g,eqF f g=Aj↔f=g
 | .mk a s l,.mk b t m=>by
  rw[eqF,Qc,Qc,z3x l m,QJ,QJ];grind
theorem z3x:∀ l m,eqL l m=Aj↔l=m
 | [],[]=>by simp[eqL]
 | x::l,y::m=>by rw[eqL,Qc,z41 x y,z3x l m];simp
 | [],_::_=>by simp[eqL]
 | _::_,[]=>by simp[eqL]
end
theorem z09:∀ {l:List zC} {x:zC},x∈l->wO x<=yC l
 | y::l,x,h=>by
  rw[yC];rcases QO.1 h with rfl | h
  ·omega
  ·have:=z09 h;omega
theorem zXa{kS:Nat->zC->zC->Option Bool}: ∀(l m pre pre':List zC),(∀ x∈l,∀ y,Ev λk=>kS k x y=Ah (eqF x y))->l.length=m.length->pre.length=pre'.length->(pre++l).length<=5000->
  Ev λk=>zN (zAI (pre++l) (pre'++m) (kS k)) (pre.length:Int)=Ah (eqL l m)
 | [],[],pre,pre',_,_,_,_=>Ev.of λk=>vW (by
  unfold zAI;have:decide ((pre.length:Int)<len (pre++[]))=false:=Qp (by simp);simp;rfl)
 | x::l,y::m,pre,pre',hs,hl,hp,hb=>by
  have hb':pre.length+l.length+1<=5000:=by simp at hb;omega
  refine(hs x Qt y).imp2 (zXa l m (pre++[x]) (pre'++[y]) (λz hz=>hs z (Qm _ hz)) (by grind) (by simp[hp]) (by simp;omega)) λk e1 e2=>?_;rw[Qo,Qo] at e2;have h2:zD (pre++x::l) (pre.length:Int)=Ah x:=xO (by simp);have h3:zD (pre'++y::m) (pre.length:Int)=Ah y:=by rw[hp];exact xO (by simp)
  rw[eqL];cases hx:eqF x y with
  | false=>
   refine vW ?_;unfold zAI;grind
  | true=>
   refine(yZ (t:=((pre++[x]).length:Int)) ?_).trans e2;unfold zAI;simp[h2,h3,e1,hx];rw[wE pre.length (by omega)];simp
 | [],_::_,_,_,_,hl,_,_=>by simp at hl
 | _::_,[],_,_,_,hl,_,_=>by simp at hl
theorem z0v:∀(l m:List zC),l.length≠m.length->eqL l m=Ak
 | [],[],h=>absurd rfl h
 | x::l,y::m,h=>by
  rw[eqL,z0v l m (by grind),Bool.and_false]
 | [],_::_,_=>by rw[eqL]
 | _::_,[],_=>by rw[eqL]
theorem zZl:∀(n:Nat) (f g:zC),wO f<=n->n<=5000->Ev λk=>zBq k f g=Ah (eqF f g)
 | 0,.mk a s l,g,h,_=>by rw[wO] at h;omega
 | n+1,.mk a s l,.mk b t m,h,hn=>by
  rw[wO] at h;have hll:=zMH l;have hin:∀ x∈l,∀ y,Ev λk=>zBq k x y=Ah (eqF x y):=λx hx y=>zZl n x y (by have:=z09 hx;omega) (by omega);have hE:Ev λk=>zAK k l m=Ah (eqL l m):=by
   by_cases hlen:l.length=m.length
   ·refine Ev.suc ((zXa l m [] [] hin hlen rfl (by simp;omega)).imp λk e=>?_);show(if(len l != len m)=Aj then Ah Ak else zN (zAI l m (zBq k)) 0)=_;grind
   ·refine Ev.suc (Ev.of λk=>?_);show(if(len l != len m)=Aj then Ah Ak else zN (zAI l m (zBq k)) 0)=_;rw[Qi (by grind),z0v l m hlen]
  refine Ev.suc (hE.imp λk e=>?_);show(if(a==b)=Aj then if(s==t)=Aj then(zAK k l m).bind λr1=>Ah r1 else Ah Ak else Ah Ak:Option Bool).bind (λs1=>Ah s1)=_;rw[e,eqF];grind
theorem z2I:∀(n:Nat) (f g:zC),wO f<=n->n<=5000->Ev λk=>zDi k f g=Ah (eqF f g)
 | 0,.mk a s l,g,h,_=>by rw[wO] at h;omega
 | n+1,.mk a s l,.mk b t m,h,hn=>by
  rw[wO] at h;have hll:=zMH l;have hin:∀ x∈l,∀ y,Ev λk=>zDi k x y=Ah (eqF x y):=λx hx y=>z2I n x y (by have:=z09 hx;omega) (by omega);have hs:∀ k,zDi (k+1) (.mk a s l) (.mk b t m)=if(a != b||(!(s==t)||len l != len m))=Aj then Ah Ak else zN (zAI l m (zDi k)) 0:=λk=>rfl
  rw[eqF];by_cases h1:a=b
  ·by_cases h2:s=t
   ·by_cases h3:l.length=m.length
    ·refine Ev.suc ((zXa l m [] [] hin h3 rfl (by simp;omega)).imp λk e=>?_);grind
    ·refine Ev.suc (Ev.of λk=>?_);rw[hs,Qi (by grind),z0v l m h3];simp
   ·refine Ev.suc (Ev.of λk=>?_);grind
  ·refine Ev.suc (Ev.of λk=>?_);grind
theorem zZe{f:zC}(g:zC)(h:wO f<=5000): zLJ f g=Ah (eqF f g)/\zN4 f g=Ah (eqF f g):=
 ⟨(zZl _ f g (Qd _) h).lim,(z2I _ f g (Qd _) h).lim⟩
end
section
theorem z7I:zEN=zEL:=by
 funext k;induction k with
 | zero=>rfl
 | succ k ih=>
  show(λy0=>zLI (zEN k) y0)=λy0=>zLF (zEL k) y0;rw[ih];rfl
theorem zBK{n:Int}(h0:0<=n)(h1:n<=100000): zAU n=Ah (Lib.itoa n):=by
 unfold zAU;rw[z7I];exact z5k h0 h1
end
section
abbrev ev0:qB:=(0,0,0,0,[],(0,0,0,(Ak,[]),[]),(Ak,[]),(0,0),(0,0,0,0),fm (0,[],[]))
def wI (n:Int): Prop:=-9223372036854775808<=n/\n<=9223372036854775807
section
variable {r:zA}{e b:Bool}{ev:qB}
theorem zXy (hr:r.length<=100000): zBA (r,e,b,ev)=Ah ((vH 32 r).1,(vH 32 r).2.1,!(vH 32 r).2.2,b||e):=by
 unfold zBA;simp[z9d 32 (s:=r) (by omega)];grind
theorem zYO{w:zA}{v:Int}(h0:0<=v)(h1:v<=9999)(h:Lib.itoa v=w): zYG w=Ah v:=by
 obtain⟨k,rfl⟩:=Qv h0;unfold Lib.itoa at h;rw[Qa (by omega),QY] at h;subst h;unfold zYG;rw[Qi ⟨z3m k,z4G 4 k (by omega) (by omega)⟩,z7d]
theorem z6F{w:zA}{v:Int}(h:zYG w=Ah v): 0<=v/\v<=9999/\Lib.itoa v=w/\Lib.atoiAll w=.ok v:=by
 unfold zYG at h;split at h
 ·rename_i hc;injection h with h;subst h;have hd:∀ c∈w,zKo c=true:=by
   have h3:=hc.1;unfold zPX at h3;simp only[Qc,QR] at h3;exact h3.1.2
  have hv:=zXu w 0 hd;have hpow:10 ^ w.length<=10 ^ 4:=QZ (by omega) hc.2;refine⟨by omega,by omega,?_,z3X hc.1 hc.2⟩;unfold Lib.itoa;exact z39 _ w rfl hc.1
 ·cases h
theorem sat_bd (w:zA): wI (Lib.atoiSat w):=by
 grind [Lib.atoiSat,wI]
theorem zUb (hr:r.length<=100000): ∃ v,tB (r,e,b,ev)=Ah (v,(vH 32 r).2.1,!(vH 32 r).2.2,(b||e)||(zYG (vH 32 r).1).isNone)/\(∀ u,zYG (vH 32 r).1=Ah u->v=u)/\wI v:=by
 unfold tB;rw[zXy hr,zob];dsimp only;have hl:(vH 32 r).1.length<=r.length:=by
  have:=congrArg List.length (zR4 32 r);rw[Qg] at this;omega
 generalize (vH 32 r).1=w at hl;unfold zKx z7l;rw[Qi (by omega)];cases hn:zYG w with
 | some u=>
  obtain⟨h0,h1,h2,h3⟩:=z6F hn;refine⟨u,?_,λx hx=>(QA hx),by unfold wI;omega⟩;grind [zX2]
 | none=>
  have key:∀ v:Int,wI v->((zEP v).bind λr3=>if(!(r3==w))=Aj then Ah Aj else if decide (v<0)=Aj then Ah Aj else Ah (decide (9999<v)))=Ah true:=by
   intro v hv;rw[zX2 hv.1 hv.2,zob];by_cases he:Lib.itoa v=w
   ·by_cases h0:v<0
    ·grind
    ·by_cases h1:9999<v
     ·grind
     ·rw[zYO (by omega) (by omega) he] at hn;cases hn
   ·simp[he]
  cases ha:Lib.atoiAll w with
  | ok v=>
   have hb:=z9P ha;refine⟨v,?_,λx hx=>(by cases hx),hb⟩;rw[zob];rw[key v hb];grind
  | «syntax»=>
   refine⟨0,?_,λx hx=>(by cases hx),by unfold wI;omega⟩;grind
  | range=>
   refine⟨Lib.atoiSat w,?_,λx hx=>(by cases hx),sat_bd w⟩;grind
theorem z1q (hr:r.length<=100000): zAb (r,e,b,ev)=Ah ((zE3 (vH 32 r).1).1,(vH 32 r).2.1,!(vH 32 r).2.2,(b||e)||(zE3 (vH 32 r).1).2 != 0):=by
 unfold zAb;rw[zXy hr,zob];rw[z3b,zob];grind
theorem z0t{w:zA}(h:(32:UInt8)∉w): vH 32 w=(w,[],Ak):=by
 have h1:=z55 32 w h;have h2:=zSn 32 w h1;have h3:=zR4 32 w;grind
theorem xD{n:Int}(h:0<=n): (32:UInt8)∉Lib.itoa n:=λe=>(Wd.itoa h 32 e).1 rfl
theorem z1H{n:Int}(h0:0<=n)(h1:n<=9999): zYG (Lib.itoa n)=Ah n:=zYO h0 h1 rfl
theorem zC7{n:Int}{t:zA}(h0:0<=n)(h1:n<=9999)(hr:(Lib.itoa n++32::t).length<=100000): tB (Lib.itoa n++32::t,Ak,Ak,ev)=Ah (n,t,Ak,Ak):=by
 obtain⟨v,h,h2,_⟩:=zUb (e:=Ak) (b:=Ak) (ev:=ev) hr;rw[zRG 32 _ _ (xD h0)] at h h2;rw[z1H h0 h1] at h h2;grind
theorem wP{n:Int}(h0:0<=n)(h1:n<=9999): (Lib.itoa n).length<=4:=by
 obtain⟨k,rfl⟩:=Qv h0;unfold Lib.itoa;exact z4G 4 k (by omega) (by omega)
theorem zUl{n:Int}(h0:0<=n)(h1:n<=9999): tB (Lib.itoa n,Ak,Ak,ev)=Ah (n,[],Aj,Ak):=by
 obtain⟨v,h,h2,_⟩:=zUb (r:=Lib.itoa n) (e:=Ak) (b:=Ak) (ev:=ev) (by grind [wP]);rw[z0t (xD h0)] at h h2;rw[z1H h0 h1] at h h2;grind
theorem zZR{c:UInt8}(h:uX c=Aj): c≠32/\c≠126/\c≠10:=by
 refine⟨?_,?_,?_⟩ <;> rintro rfl <;> revert h <;> decide
theorem zYN{s:zA}(h:vName s=Aj): (∀ c∈s,uX c=Aj)/\s≠[]:=by
 cases s with
 | nil=>cases h
 | cons c r=>
  have h:(decide (r.length+1<=12)&&loB c&&r.all uX)=true:=h;refine⟨λd hd=>?_,by simp⟩;rcases QO.1 hd with rfl | hd
  ·grind [uX]
  grind
theorem zI2{l:zH}(h:vName l.2=Aj): (32:UInt8)∉qT l/\qT l≠[]/\zE3 (qT l)=(l,0):=by
 obtain⟨h1,h2⟩:=zYN h;have hs:(32:UInt8)∉l.2:=λe=>(zZR (h1 _ e)).1 rfl;obtain⟨g,s⟩:=l;unfold qT;rw[Qi h];cases g with
 | true=>
  refine⟨λe=>?_,by simp,?_⟩
  ·grind
  ·show zE3 (126::s)=_;rw[zKm,Qi h]
 | false=>
  refine⟨hs,h2,?_⟩;show zE3 s=_;rw[zFd (λr e=>by subst e;exact(zZR (h1 126 (by simp))).2.1 rfl),Qi h]
theorem z0y{l:zH}{t:zA}(h:vName l.2=Aj)(hr:(qT l++32::t).length<=100000): zAb (qT l++32::t,Ak,Ak,ev)=Ah (l,t,Ak,Ak):=by
 obtain⟨h1,_,h3⟩:=zI2 h;rw[z1q hr,zRG 32 _ _ h1];grind
theorem zXo{l:zH}(h:vName l.2=Aj): zAb (qT l,Ak,Ak,ev)=Ah (l,[],Aj,Ak):=by
 obtain⟨h1,_,h3⟩:=zI2 h;rw[z1q (by have:=tD l;omega),z0t h1];grind
theorem z9e{t:zA}: zCO (t,Ak,Ak,ev)=Ah (t,[],Aj,Ak):=rfl
end
end
section
def z6T:zA:=[112,117,116]
def zUI:zA:=[114,117,108,101]
def kWd:zA:=[119,105,116,104,100,114,97,119]
def z38:zA:=[97,115,115,101,114,116]
def z32:zA:=[99,104,97,108,108,101,110,103,101]
def z0n:zA:=[97,114,103,117,101]
def zZD:zA:=[98,101,99,97,117,115,101]
def z35:zA:=[99,111,110,99,101,100,101]
def z34:zA:=[114,101,116,114,97,99,116]
def z3N:zA:=[111,112,101,110]
def z3I:zA:=[97,116,116,97,99,107]
def z2g:zA:=[116,97,107,101,98,97,99,107]
def z28:zA:=[103,105,118,101,117,112]
def z1o:zA:=[100,101,99,105,100,101]
def z30:zA:=[114,101,118,105,115,101]
def kUpd:zA:=[117,112,100,97,116,101]
def kMrg:zA:=[109,101,114,103,101]
theorem rdw{k:zA}(h:(32:UInt8)∉k){t:zA}(hl:(k++32::t).length<=100000){ev:qB}: zBA (k++32::t,Ak,Ak,ev)=Ah (k,t,Ak,Ak):=by
 rw[zXy hl,zRG 32 _ _ h];rfl
section
variable {n:Int}(h0:0<=n)(h1:n<=9999){t:zA}
include h0 h1
theorem z63 (hl:(z6T++32::(Lib.itoa n++32::t)).length<=100000): yW (z6T++32::(Lib.itoa n++32::t))=Ah ((1,n,0,0,t,(0,0,0,(Ak,[]),[]),(Ak,[]),(0,0),(0,0,0,0),fm (0,[],[])),Aj):=by
 have hl2:(Lib.itoa n++32::t).length<=100000:=by simp only[Qg,Qr] at hl ⊢;omega
 unfold yW zAC;rw[zob,rdw (by decide) hl,zob];dsimp only;rw[Qi (by decide),zC7 h0 h1 hl2];rfl
theorem z3F (hl:(zUI++32::(Lib.itoa n++32::t)).length<=100000): yW (zUI++32::(Lib.itoa n++32::t))=Ah ((2,n,0,0,t,(0,0,0,(Ak,[]),[]),(Ak,[]),(0,0),(0,0,0,0),fm (0,[],[])),Aj):=by
 have hl2:(Lib.itoa n++32::t).length<=100000:=by simp only[Qg,Qr] at hl ⊢;omega
 unfold yW zAC;rw[zob,rdw (by decide) hl,zob];dsimp only;rw[Qa (by decide),Qi (by decide),zC7 h0 h1 hl2];rfl
theorem z2C:yW (kWd++32::Lib.itoa n)=Ah ((3,n,0,0,[],(0,0,0,(Ak,[]),[]),(Ak,[]),(0,0),(0,0,0,0),fm (0,[],[])),Aj):=by
 have hl:(kWd++32::Lib.itoa n).length<=100000:=by have:=wP h0 h1;simp only[Qg,Qr];show 8+_<=_;omega
 unfold yW zAC;rw[zob,rdw (by decide) hl,zob];dsimp only;rw[Qa (by decide),Qa (by decide),Qi (by decide),zUl h0 h1];rfl
end
theorem zWC:∀(gs:List zH),(uN (gs.map qT)).length<=14*gs.length
 | []=>by simp[uN]
 | [g]=>by have:=tD g;simp[uN];omega
 | g::g2::gs=>by
  have h1:=tD g;have h2:=zWC (g2::gs);rw[QU,QU,uN];rw[QU] at h2;simp at h2 ⊢;omega
section
variable {ev:qB}{l:zH}(hv:vName l.2=Aj)
theorem rd_gs{y0:vY}{k:Int}{s1:zA×Bool×Bool×Int}{r2:zH×zA×Bool×Bool}: ∀(gs acc:List zH),gs≠[]->(∀ g∈gs,vName g.2=Aj)->gs.length+acc.length<=1000->
  zN (zCT y0 k s1 r2) (uN (gs.map qT),Ak,Ak,acc)=Ah ([],Aj,Ak,4,k,s1.2.2.2,r2.1.1,r2.1.2,acc++gs)
 | [],_,h,_,_=>absurd rfl h
 | [g],acc,_,hg,hl=>by
  have h1:=hg g (by simp);refine(yZ (t:=([],Aj,Ak,acc++[g])) ?_).trans (vW rfl);unfold zCT;dsimp only;rw[QU,List.map_nil,uN,zXo h1,zob,yI (by simp at hl ⊢;omega)];rfl
 | g::g2::gs,acc,_,hg,hl=>by
  have h1:=hg g (by simp);have hlen:(qT g++32::uN ((g2::gs).map qT)).length<=100000:=by
   have:=tD g;have:=zWC (g2::gs);simp only[Qg,Qr] at this hl ⊢;omega
  refine(yZ (t:=(uN ((g2::gs).map qT),Ak,Ak,acc++[g])) ?_).trans ((rd_gs (g2::gs) (acc++[g]) (by simp) (λx hx=>hg x (Qm _ hx)) (by simp at hl ⊢;omega)).trans (by rw[Qo];rfl));unfold zCT;dsimp only;rw[QU,QU,uN,<-QU,z0y h1 hlen,zob,yI (by simp at hl ⊢;omega)];rfl
include hv
theorem z9t{k:Int}(hk:k=1\/k=4\/k=5): zAS (qT l,Ak,Ak,ev) k=Ah ([],Aj,Ak,4,k,ev.2.2.2.2.2.1.2.2.1,l.1,l.2,ev.2.2.2.2.2.1.2.2.2.2):=by
 unfold zAS;rw[Qa (by rcases hk with rfl | rfl | rfl <;> decide),zob];rw[zXo hv,zob,Qi (by rcases hk with rfl | rfl | rfl <;> decide)]
theorem rd_sp2{i:Int}(i0:0<=i)(i1:i<=9999): zAS (Lib.itoa i++32::qT l,Ak,Ak,ev) 2=Ah ([],Aj,Ak,4,2,i,l.1,l.2,ev.2.2.2.2.2.1.2.2.2.2):=by
 have hl:(Lib.itoa i++32::qT l).length<=100000:=by have:=wP i0 i1;have:=tD l;simp only[Qg,Qr];omega
 unfold zAS;rw[Qi (by decide)];rw[zC7 i0 i1 hl,zob,zob];rw[zXo hv,zob,Qi (by decide)]
theorem rd_sp3{gs:List zH}(hne:gs≠[])(hg:∀ g∈gs,vName g.2=Aj)(h6:gs.length<=6)(he:ev.2.2.2.2.2.1.2.2.2.2=[]): zAS (qT l++32::(zZD++32::uN (gs.map qT)),Ak,Ak,ev) 3=Ah ([],Aj,Ak,4,3,ev.2.2.2.2.2.1.2.2.1,l.1,l.2,gs):=by
 have hl2:(zZD++32::uN (gs.map qT)).length<=1000:=by have:=zWC gs;simp only[Qg,Qr];show 7+_<=_;omega
 have hl:(qT l++32::(zZD++32::uN (gs.map qT))).length<=100000:=by have:=tD l;rw[Qg,Qr];omega
 unfold zAS;rw[Qa (by decide),zob];rw[z0y hv hl,zob,Qa (by decide)];dsimp only;rw[Qa (by decide),rdw (by decide) (by omega),zob,zob];rw[he];exact rd_gs gs [] hne hg (by simp;omega)
end
section
variable {n:Int}(h0:0<=n)(h1:n<=9999){l:zH}
include h0 h1
abbrev z1d (n:Int)(sp:zB6): qB:=(4,n,0,0,[],sp,(Ak,[]),(0,0),(0,0,0,0),fm (0,[],[]))
theorem zR0{k:zA}(hk:k.length<=10){t:zA}(ht:t.length<=90000): (k++32::(Lib.itoa n++32::t)).length<=100000/\(Lib.itoa n++32::t).length<=100000:=by
 have:=wP h0 h1;simp;omega
theorem z3c (hv:vName l.2=Aj): yW (z38++32::(Lib.itoa n++32::qT l))=Ah (z1d n (1,0,0,l,[]),Aj):=by
 obtain⟨hl,hl2⟩:=zR0 h0 h1 (k:=z38) (by decide) (t:=qT l) (by have:=tD l;omega);unfold yW zAC;rw[zob,rdw (by decide) hl,zob];dsimp only;rw[Qa (by decide),Qa (by decide),Qa (by decide),Qi (by decide),zC7 h0 h1 hl2,zob];unfold zBa;rw[z9t hv (.inl rfl)];rfl
theorem z3s (hv:vName l.2=Aj){i:Int}(i0:0<=i)(i1:i<=9999): yW (z32++32::(Lib.itoa n++32::(Lib.itoa i++32::qT l)))=Ah (z1d n (2,0,i,l,[]),Aj):=by
 obtain⟨hl,hl2⟩:=zR0 h0 h1 (k:=z32) (by decide) (t:=Lib.itoa i++32::qT l) (by have:=tD l;have:=wP i0 i1;simp;omega);unfold yW zAC;rw[zob,rdw (by decide) hl,zob];dsimp only;rw[Qa (by decide),Qa (by decide),Qa (by decide),Qa (by decide),Qi (by decide),zC7 h0 h1 hl2,zob];unfold zBT;rw[rd_sp2 hv i0 i1];rfl
theorem zZQ (hv:vName l.2=Aj){gs:List zH}(hne:gs≠[])(hg:∀ g∈gs,vName g.2=Aj)(h6:gs.length<=6): yW (z0n++32::(Lib.itoa n++32::(qT l++32::(zZD++32::uN (gs.map qT)))))=Ah (z1d n (3,0,0,l,gs),Aj):=by
 obtain⟨hl,hl2⟩:=zR0 h0 h1 (k:=z0n) (by decide) (t:=qT l++32::(zZD++32::uN (gs.map qT))) (by have:=tD l;have:=zWC gs;simp;have:zZD.length=7:=rfl;omega);unfold yW zAC;rw[zob,rdw (by decide) hl,zob];dsimp only;rw[Qa (by decide),Qa (by decide),Qa (by decide),Qa (by decide),Qa (by decide),Qi (by decide),zC7 h0 h1 hl2,zob];unfold zBf;rw[rd_sp3 hv hne hg h6 rfl];rfl
theorem z5i (hv:vName l.2=Aj): yW (z35++32::(Lib.itoa n++32::qT l))=Ah (z1d n (4,0,0,l,[]),Aj):=by
 obtain⟨hl,hl2⟩:=zR0 h0 h1 (k:=z35) (by decide) (t:=qT l) (by have:=tD l;omega);unfold yW zAC;rw[zob,rdw (by decide) hl,zob];dsimp only;rw[Qa (by decide),Qa (by decide),Qa (by decide),Qa (by decide),Qa (by decide),Qa (by decide),Qi (by decide),zC7 h0 h1 hl2,zob];unfold zBb;rw[z9t hv (.inr (.inl rfl))];rfl
theorem z3i (hv:vName l.2=Aj): yW (z34++32::(Lib.itoa n++32::qT l))=Ah (z1d n (5,0,0,l,[]),Aj):=by
 obtain⟨hl,hl2⟩:=zR0 h0 h1 (k:=z34) (by decide) (t:=qT l) (by have:=tD l;omega);unfold yW zAC;rw[zob,rdw (by decide) hl,zob];dsimp only;rw[Qa (by decide),Qa (by decide),Qa (by decide),Qa (by decide),Qa (by decide),Qa (by decide),Qa (by decide),Qi (by decide),zC7 h0 h1 hl2,zob];unfold zBc;rw[z9t hv (.inr (.inr rfl))];rfl
theorem z3h (hv:vName l.2=Aj){a b:Int}(a0:0<=a)(a1:a<=9999)(b0:0<=b)(b1:b<=9999): yW (z3N++32::(Lib.itoa n++32::(qT l++32::(Lib.itoa a++32::Lib.itoa b))))=Ah ((5,n,0,0,[],(0,0,0,(Ak,[]),[]),l,(a,b),(0,0,0,0),fm (0,[],[])),Aj):=by
 have h3:(Lib.itoa a++32::Lib.itoa b).length<=10:=by have:=wP a0 a1;have:=wP b0 b1;simp only[Qg,Qr];omega
 have h4:(qT l++32::(Lib.itoa a++32::Lib.itoa b)).length<=30:=by have:=tD l;rw[Qg,Qr];omega
 obtain⟨hl,hl2⟩:=zR0 h0 h1 (k:=z3N) (by decide) (t:=qT l++32::(Lib.itoa a++32::Lib.itoa b)) (by omega);unfold yW zAC;rw[zob,rdw (by decide) hl,zob];dsimp only;rw[Qa (by decide),Qa (by decide),Qa (by decide),Qa (by decide),Qa (by decide),Qa (by decide),Qa (by decide),Qa (by decide),Qi (by decide),zC7 h0 h1 hl2,zob];unfold zBh;rw[z0y hv (by omega),zob];rw[zC7 a0 a1 (by omega),zob];rw[zUl b0 b1];rfl
abbrev z7o (n tr:Int)(m:yJ): qB:=(6,n,tr,0,[],(0,0,0,(Ak,[]),[]),(Ak,[]),(0,0),m,fm (0,[],[]))
section
variable {tr pl x y:Int}(t0:0<=tr)(t1:tr<=9999)(p0:0<=pl)(p1:pl<=9999)(x0:0<=x)(x1:x<=9999)(y0:0<=y)(y1:y<=9999)
include t0 t1 p0 p1 y0 y1
theorem z6J:yW (z2g++32::(Lib.itoa n++32::(Lib.itoa tr++32::(Lib.itoa pl++32::Lib.itoa y))))=Ah (z7o n tr (pl,3,0,y),Aj):=by
 have h3:(Lib.itoa pl++32::Lib.itoa y).length<=10:=by have:=wP p0 p1;have:=wP y0 y1;simp only[Qg,Qr];omega
 have h4:(Lib.itoa tr++32::(Lib.itoa pl++32::Lib.itoa y)).length<=30:=by have:=wP t0 t1;rw[Qg,Qr];omega
 obtain⟨hl,hl2⟩:=zR0 h0 h1 (k:=z2g) (by decide) (t:=Lib.itoa tr++32::(Lib.itoa pl++32::Lib.itoa y)) (by omega);unfold yW zAC;rw[zob,rdw (by decide) hl,zob];dsimp only;rw[Qa (by decide),Qa (by decide),Qa (by decide),Qa (by decide),Qa (by decide),Qa (by decide),Qa (by decide),Qa (by decide),Qa (by decide),Qa (by decide),Qi (by decide),zC7 h0 h1 hl2,zob];unfold zBY zBG;rw[zC7 t0 t1 (by omega),zob];rw[zC7 p0 p1 (by omega),zob,Qa (by decide),zob,Qi (by decide)];rw[zUl y0 y1];rfl
include x0 x1
theorem z57:yW (z3I++32::(Lib.itoa n++32::(Lib.itoa tr++32::(Lib.itoa pl++32::(Lib.itoa x++32::Lib.itoa y)))))=Ah (z7o n tr (pl,2,x,y),Aj):=by
 have h2:(Lib.itoa x++32::Lib.itoa y).length<=10:=by have:=wP x0 x1;have:=wP y0 y1;simp only[Qg,Qr];omega
 have h3:(Lib.itoa pl++32::(Lib.itoa x++32::Lib.itoa y)).length<=20:=by have:=wP p0 p1;rw[Qg,Qr];omega
 have h4:(Lib.itoa tr++32::(Lib.itoa pl++32::(Lib.itoa x++32::Lib.itoa y))).length<=30:=by have:=wP t0 t1;rw[Qg,Qr];omega
 obtain⟨hl,hl2⟩:=zR0 h0 h1 (k:=z3I) (by decide) (t:=Lib.itoa tr++32::(Lib.itoa pl++32::(Lib.itoa x++32::Lib.itoa y))) (by omega);unfold yW zAC;rw[zob,rdw (by decide) hl,zob];dsimp only;rw[Qa (by decide),Qa (by decide),Qa (by decide),Qa (by decide),Qa (by decide),Qa (by decide),Qa (by decide),Qa (by decide),Qa (by decide),Qi (by decide),zC7 h0 h1 hl2,zob];unfold zB0 zBG;rw[zC7 t0 t1 (by omega),zob];rw[zC7 p0 p1 (by omega),zob,Qi (by decide)];rw[zC7 x0 x1 (by omega),zob,zob,Qi (by decide)];rw[zUl y0 y1];rfl
end
theorem z58{tr pl:Int}(t0:0<=tr)(t1:tr<=9999)(p0:0<=pl)(p1:pl<=9999): yW (z28++32::(Lib.itoa n++32::(Lib.itoa tr++32::Lib.itoa pl)))=Ah (z7o n tr (pl,4,0,0),Aj):=by
 have h4:(Lib.itoa tr++32::Lib.itoa pl).length<=30:=by have:=wP t0 t1;have:=wP p0 p1;rw[Qg,Qr];omega
 obtain⟨hl,hl2⟩:=zR0 h0 h1 (k:=z28) (by decide) (t:=Lib.itoa tr++32::Lib.itoa pl) (by omega);unfold yW zAC;rw[zob,rdw (by decide) hl,zob];dsimp only;rw[Qa (by decide),Qa (by decide),Qa (by decide),Qa (by decide),Qa (by decide),Qa (by decide),Qa (by decide),Qa (by decide),Qa (by decide),Qa (by decide),Qa (by decide),Qi (by decide),zC7 h0 h1 hl2,zob];unfold zB3 zBG;rw[zC7 t0 t1 (by omega),zob];rw[zUl p0 p1,zob,Qa (by decide),zob,Qa (by decide)];rfl
theorem zYx (hv:vName l.2=Aj){d:Int}(d0:0<=d)(d1:d<=9999): yW (z1o++32::(Lib.itoa n++32::(Lib.itoa d++32::qT l)))=Ah ((7,n,0,d,[],(0,0,0,(Ak,[]),[]),l,(0,0),(0,0,0,0),fm (0,[],[])),Aj):=by
 have h4:(Lib.itoa d++32::qT l).length<=30:=by have:=wP d0 d1;have:=tD l;rw[Qg,Qr];omega
 obtain⟨hl,hl2⟩:=zR0 h0 h1 (k:=z1o) (by decide) (t:=Lib.itoa d++32::qT l) (by omega);unfold yW zAC;rw[zob,rdw (by decide) hl,zob];dsimp only;rw[Qa (by decide),Qa (by decide),Qa (by decide),Qa (by decide),Qa (by decide),Qa (by decide),Qa (by decide),Qa (by decide),Qa (by decide),Qa (by decide),Qa (by decide),Qa (by decide),Qi (by decide),zC7 h0 h1 hl2,zob];unfold zBZ;rw[zC7 d0 d1 (by omega),zob];rw[zXo hv];rfl
def kCh (k:Int): zA:=if k=8 then z30 else if k=9 then kUpd else kMrg
theorem z9n{k d:Int}(d0:0<=d)(d1:d<=9999){t:zA}(ht:t.length<=80000){ev:qB}{f:zC}{o c:Int}(hp:zBd t=Ah (f,o,c)): zBI (Lib.itoa d++32::t,Ak,Ak,ev) k=Ah ([],Aj,c != 0,k,d,(fv f).1,(fv f).2.1,(fv f).2.2):=by
 have _:=h0;have _:=h1;have hl:(Lib.itoa d++32::t).length<=100000:=by have:=wP d0 d1;rw[Qg,Qr];omega
 unfold zBI zCg;rw[zC7 d0 d1 hl,zob];dsimp only;rw[z9e,zob];dsimp only;rw[hp];rfl
theorem z2T{k d:Int}(hk:k=8\/k=9\/k=10)(d0:0<=d)(d1:d<=9999){t:zA}(ht:t.length<=80000){f:zC}{o c:Int}(hp:zBd t=Ah (f,o,c)): yW (kCh k++32::(Lib.itoa n++32::(Lib.itoa d++32::t)))=Ah ((k,n,0,d,[],(0,0,0,(Ak,[]),[]),(Ak,[]),(0,0),(0,0,0,0),f),c==0):=by
 have h4:(Lib.itoa d++32::t).length<=90000:=by have:=wP d0 d1;rw[Qg,Qr];omega
 have hfin:∀ b:Bool,b=(c != 0)->(!b)=(c==0):=λb hb=>by rw[hb];cases h:c==0 <;> simp[bne,h]
 obtain⟨op,s,ls⟩:=f;rcases hk with rfl | rfl | rfl
 ·obtain⟨hl,hl2⟩:=zR0 h0 h1 (k:=z30) (by decide) (t:=Lib.itoa d++32::t) h4;show yW (z30++32::(Lib.itoa n++32::(Lib.itoa d++32::t)))=_;unfold yW zAC;rw[zob,rdw (by decide) hl,zob];dsimp only;rw[Qa (by decide),Qa (by decide),Qa (by decide),Qa (by decide),Qa (by decide),Qa (by decide),Qa (by decide),Qa (by decide),Qa (by decide),Qa (by decide),Qa (by decide),Qa (by decide),Qa (by decide),Qi (by decide),zC7 h0 h1 hl2,zob];unfold zB4;rw[z9n h0 h1 d0 d1 ht hp,zob,zob,<-hfin _ rfl];cases c != 0 <;> rfl
 ·obtain⟨hl,hl2⟩:=zR0 h0 h1 (k:=kUpd) (by decide) (t:=Lib.itoa d++32::t) h4;show yW (kUpd++32::(Lib.itoa n++32::(Lib.itoa d++32::t)))=_;unfold yW zAC;rw[zob,rdw (by decide) hl,zob];dsimp only;rw[Qa (by decide),Qa (by decide),Qa (by decide),Qa (by decide),Qa (by decide),Qa (by decide),Qa (by decide),Qa (by decide),Qa (by decide),Qa (by decide),Qa (by decide),Qa (by decide),Qa (by decide),Qa (by decide),Qi (by decide),zC7 h0 h1 hl2,zob];unfold zB2;rw[z9n h0 h1 d0 d1 ht hp,zob,zob,<-hfin _ rfl];cases c != 0 <;> rfl
 ·obtain⟨hl,hl2⟩:=zR0 h0 h1 (k:=kMrg) (by decide) (t:=Lib.itoa d++32::t) h4;show yW (kMrg++32::(Lib.itoa n++32::(Lib.itoa d++32::t)))=_;unfold yW zAC;rw[zob,rdw (by decide) hl,zob];dsimp only;rw[Qa (by decide),Qa (by decide),Qa (by decide),Qa (by decide),Qa (by decide),Qa (by decide),Qa (by decide),Qa (by decide),Qa (by decide),Qa (by decide),Qa (by decide),Qa (by decide),Qa (by decide),Qa (by decide),Qa (by decide),Qi (by decide),zC7 h0 h1 hl2,zob];unfold zB1;rw[z9n h0 h1 d0 d1 ht hp,zob,zob,<-hfin _ rfl];cases c != 0 <;> rfl
end
end
section
theorem z2m (l:List zA)(i:Nat): tJ l (i:Int)=Ah (l.getD i []):=by
 unfold tJ;by_cases h:i<l.length
 ·have:decide ((i:Int)<len l)=true:=Qq (by grind);rw[Qi this,uB,Qs h,zob];grind
 grind
theorem at1 (l:List zA): tJ l 1=Ah (l.getD 1 []):=z2m l 1
theorem at2 (l:List zA): tJ l 2=Ah (l.getD 2 []):=z2m l 2
theorem at3 (l:List zA): tJ l 3=Ah (l.getD 3 []):=z2m l 3
theorem at4 (l:List zA): tJ l 4=Ah (l.getD 4 []):=z2m l 4
theorem at5 (l:List zA): tJ l 5=Ah (l.getD 5 []):=z2m l 5
theorem z0l (w:zA)(l:List zA): zD (w::l) 0=Ah w:=by
 rfl
theorem num41{w:zA}(h:w.length<=5000): zAy w=Ah ((zYG w).getD (-1)):=by
 exact z4J h
theorem tS{n:Int}(h0:0<=n)(h1:n<=9999): zAy (Lib.itoa n)=Ah n:=by grind [num41,wP,z1H]
theorem zCQ{s:zA}(h:s.length<=5000): zLv s=Ah (xQ 32 s):=by
 exact z7C h
theorem uK{w:zA}(h:(32:UInt8)∉w)(t:zA): xQ 32 (w++32::t)=w::xQ 32 t:=by
 rw[zLX,zRG 32 w t h,Qi rfl]
theorem zFe{w:zA}(h:(32:UInt8)∉w): xQ 32 w=[w]:=by
 rw[zLX,z0t h];rfl
def rst:Nat->zA->zA
 | _,[]=>[]
 | k,c::r=>if c=32 then(if k=1 then r else rst (k-1) r) else rst k r
theorem zNU:∀ {w:zA},(32:UInt8)∉w->∀(k:Nat) (t:zA),rst k (w++32::t)=if k=1 then t else rst (k-1) t
 | [],_,k,t=>by
  show(if(32:UInt8)=32 then _ else _)=_;grind
 | c::w,h,k,t=>by
  have h1:c≠32:=λe=>h (by simp[e]);have h2:(32:UInt8)∉w:=λe=>h (by simp[e]);show(if c=32 then _ else rst k (w++32::t))=_;rw[Qa h1];exact zNU h2 k t
theorem zXP{S:zA}(hl:S.length<=5000): ∀(R:zA) (i k:Nat),S.drop i=R->i<=S.length->1<=k->k<=100->zN (zDZ S) ((k:Int),(i:Int))=Ah (rst k R)
 | [],i,k,h,hi,_,_=>by
  have hn:=zOK h hi;refine vW ?_;unfold zDZ;have:decide ((i:Int)<len S)=false:=Qp (by grind);simp only[this,zbf,Qy];rfl
 | c::r,i,k,h,hi,hk,hk2=>by
  have hn:=zOK h hi;simp at hn;have h1:decide ((i:Int)<len S)=true:=Qq (by grind);have hx:S[i]?=Ah c:=by have:=zTg (j:=0) h;simpa using this
  have hd:S.drop (i+1)=r:=by
   have:=congrArg List.tail h;rw[List.tail_drop] at this;simpa using this
  show zN _ _=Ah (if c=32 then(if k=1 then r else rst (k-1) r) else rst k r);by_cases hc:c=32
  ·subst hc;have e32:(((32:UInt8).toNat:Int)==32)=true:=rfl;have ew:zE ((k:Int)-1)=((k-1:Nat):Int):=by rw[qN (by omega) (by omega)];omega
   by_cases h1k:k=1
   ·subst h1k;refine vW ?_;unfold zDZ;have e0:(zE (((1:Nat):Int)-1)==0)=true:=by decide
    simp only[h1,Qx,zDQ,hx,Uh,zob,e32,e0];rw[wE i (by omega),zL2 (by omega) (by grind) (by simp)];simp[hd]
   ·rw[Qa h1k];refine(yZ (t:=(((k-1:Nat):Int),((i+1:Nat):Int))) ?_).trans (zXP hl r (i+1) (k-1) hd (by omega) (by omega) (by omega));unfold zDZ;have e0:(((k-1:Nat):Int)==0)=false:=by rw[Qu];omega
    simp only[h1,Qx,zDQ,hx,Uh,zob,e32,ew,e0,zbf,Qy];rw[wE i (by omega)]
  ·rw[Qa hc];refine(yZ (t:=((k:Int),((i+1:Nat):Int))) ?_).trans (zXP hl r (i+1) k hd (by omega) hk hk2);unfold zDZ;have e32:((c.toNat:Int)==32)=false:=by
    simp only[Qu];intro e;exact hc (UInt8.toNat_inj.1 (by grind))
   simp only[h1,Qx,zDQ,hx,Uh,zob,e32,zbf,Qy];rw[wE i (by omega)]
theorem z6v{S:zA}(hl:S.length<=5000): zEv S 2=Ah (rst 2 S):=zXP hl S 0 2 rfl (by omega) (by omega) (by omega)
theorem rest3{S:zA}(hl:S.length<=5000): zEv S 3=Ah (rst 3 S):=zXP hl S 0 3 rfl (by omega) (by omega) (by omega)
section
variable {n:Int}(h0:0<=n)(h1:n<=9999){t:zA}{l:zH}
include h0 h1
theorem z5N (hl:(z6T++32::(Lib.itoa n++32::t)).length<=5000): uV (z6T++32::(Lib.itoa n++32::t))=Ah (1,n,0,0,t,(0,0,0,(Ak,[]),[]),(Ak,[]),(0,0),(0,0,0,0),fm (0,[],[])):=by
 unfold uV;rw[zCQ hl,zob,uK (by decide),uK (xD h0),at1,zob,Qe,Qn,tS h0 h1,zob];rw[z0l,zob,Qi (by decide),z6v hl,zNU (by decide),Qa (by decide),zNU (xD h0),Qi rfl];rfl
theorem z2v (hl:(zUI++32::(Lib.itoa n++32::t)).length<=5000): uV (zUI++32::(Lib.itoa n++32::t))=Ah (2,n,0,0,t,(0,0,0,(Ak,[]),[]),(Ak,[]),(0,0),(0,0,0,0),fm (0,[],[])):=by
 unfold uV;rw[zCQ hl,zob,uK (by decide),uK (xD h0),at1,zob,Qe,Qn,tS h0 h1,zob];simp[z0l];rw[Qa (by decide),Qi (by decide),z6v hl,zNU (by decide),Qa (by decide),zNU (xD h0),Qi rfl];rfl
theorem z7n:uV (kWd++32::Lib.itoa n)=Ah (3,n,0,0,[],(0,0,0,(Ak,[]),[]),(Ak,[]),(0,0),(0,0,0,0),fm (0,[],[])):=by
 have hl:(kWd++32::Lib.itoa n).length<=5000:=by have:=wP h0 h1;simp only[Qg,Qr];show 8+_<=_;omega
 unfold uV;rw[zCQ hl,zob,uK (by decide),zFe (xD h0),at1,zob,Qe,Qn,tS h0 h1,zob];simp[z0l];rfl
theorem zN5 (hv:vName l.2=Aj): zBN (qT l)=Ah (l,0):=by
 have _:=h0;have _:=h1;rw[zUT,(zI2 hv).2.2]
theorem z4m{k:zA}(hk:k.length<=10){t:zA}(ht:t.length<=4000): (k++32::(Lib.itoa n++32::t)).length<=5000:=by
 have:=wP h0 h1;grind
theorem z43 (hv:vName l.2=Aj): uV (z38++32::(Lib.itoa n++32::qT l))=Ah (z1d n (1,0,0,l,[])):=by
 have hl:=z4m h0 h1 (k:=z38) (by decide) (t:=qT l) (by have:=tD l;omega);unfold uV;rw[zCQ hl,zob,uK (by decide),uK (xD h0),zFe (zI2 hv).1,at1,zob,Qe,Qn,tS h0 h1,zob];simp[z0l];rw[Qa (by decide),Qa (by decide),Qa (by decide),show zA0 z38=Ah 1 from rfl,zob,Qi (by decide),zob,Qa (by decide),zob];rw[at2,zob,Qe,Qe,Qn,zN5 h0 h1 hv,zob];exact(congrArg (λo:Option _=>o.bind _) (vW rfl)).trans rfl
theorem z5q (hv:vName l.2=Aj): uV (z35++32::(Lib.itoa n++32::qT l))=Ah (z1d n (4,0,0,l,[])):=by
 have hl:=z4m h0 h1 (k:=z35) (by decide) (t:=qT l) (by have:=tD l;omega);unfold uV;rw[zCQ hl,zob,uK (by decide),uK (xD h0),zFe (zI2 hv).1,at1,zob,Qe,Qn,tS h0 h1,zob];simp[z0l];rw[Qa (by decide),Qa (by decide),Qa (by decide),show zA0 z35=Ah 4 from rfl,zob,Qi (by decide),zob,Qa (by decide),zob];rw[at2,zob,Qe,Qe,Qn,zN5 h0 h1 hv,zob];exact(congrArg (λo:Option _=>o.bind _) (vW rfl)).trans rfl
theorem z4B (hv:vName l.2=Aj): uV (z34++32::(Lib.itoa n++32::qT l))=Ah (z1d n (5,0,0,l,[])):=by
 have hl:=z4m h0 h1 (k:=z34) (by decide) (t:=qT l) (by have:=tD l;omega);unfold uV;rw[zCQ hl,zob,uK (by decide),uK (xD h0),zFe (zI2 hv).1,at1,zob,Qe,Qn,tS h0 h1,zob];simp[z0l];rw[Qa (by decide),Qa (by decide),Qa (by decide),show zA0 z34=Ah 5 from rfl,zob,Qi (by decide),zob,Qa (by decide),zob];rw[at2,zob,Qe,Qe,Qn,zN5 h0 h1 hv,zob];exact(congrArg (λo:Option _=>o.bind _) (vW rfl)).trans rfl
theorem z4Z (hv:vName l.2=Aj){i:Int}(i0:0<=i)(i1:i<=9999): uV (z32++32::(Lib.itoa n++32::(Lib.itoa i++32::qT l)))=Ah (z1d n (2,0,i,l,[])):=by
 have hl:=z4m h0 h1 (k:=z32) (by decide) (t:=Lib.itoa i++32::qT l) (by grind [tD,wP]);unfold uV;rw[zCQ hl,zob,uK (by decide),uK (xD h0),uK (xD i0),zFe (zI2 hv).1,at1,zob,Qe,Qn,tS h0 h1,zob];simp[z0l];rw[Qa (by decide),Qa (by decide),Qa (by decide),show zA0 z32=Ah 2 from rfl,zob,Qi (by decide),zob,Qi (by decide),at2,zob,Qe,Qe,Qn,tS i0 i1,zob,zob];rw[at3,zob,Qe,Qe,Qe,Qn,zN5 h0 h1 hv,zob];exact(congrArg (λo:Option _=>o.bind _) (vW rfl)).trans rfl
theorem z77{gs:List zH}(hne:gs≠[])(hg:∀ g∈gs,vName g.2=Aj): xQ 32 (uN (gs.map qT))=gs.map qT:=by
 have _:=h0;have _:=h1;refine z16 _ (by simpa using hne) λw hw=>?_;obtain⟨g,hgm,rfl⟩:=QD.1 hw;intro c hc;refine⟨λe=>(zI2 (hg g hgm)).1 (e▸hc),?_⟩;rintro rfl;have h:=hg g hgm;obtain⟨h1,_⟩:=zYN h;unfold qT at hc;rw[Qi h] at hc;split at hc
 ·rcases QO.1 hc with e | e
  ·cases e
  ·exact(zZR (h1 10 e)).2.2 rfl
 ·exact(zZR (h1 10 hc)).2.2 rfl
theorem z6P{s2:Int×Int}{r11:zH×Int}: ∀(gs acc:List zH) (pre:List zA),pre.length=4+acc.length->(∀ g∈gs,vName g.2=Aj)->gs.length+acc.length<=1000->
  zN (zEq (pre++gs.map qT) 3 s2 r11) ((pre.length:Int),acc)=Ah (4,0,0,[],3,s2.2,r11.1.1,r11.1.2,acc++gs,Ak,[],0,0,0,0,0,0,0,[],[])
 | [],acc,pre,hp,_,_=>by
  refine vW ?_;unfold zEq;grind
 | g::gs,acc,pre,hp,hg,hl=>by
  have h1':=hg g (by simp);have ih:=z6P (s2:=s2) (r11:=r11) gs (acc++[g]) (pre++[qT g]) (by simp;omega) (λx hx=>hg x (Qm _ hx)) (by grind);rw[Qo] at ih;refine(yZ (t:=(((pre++[qT g]).length:Int),acc++[g])) ?_).trans (ih.trans (by grind));unfold zEq;have e1:decide ((pre.length:Int)<len (pre++(g::gs).map qT))=true:=Qq (by grind);have e2:zD (pre++(g::gs).map qT) (pre.length:Int)=Ah (qT g):=xO (by simp);have e3:((3:Int)==3)=true:=rfl;simp only[e1,e3,Bool.and_self,Qx,e2,zob,zN5 h0 h1 h1'];rw[yI (by grind),zob,wE pre.length (by grind)];simp
theorem z5I (hv:vName l.2=Aj){gs:List zH}(hne:gs≠[])(hg:∀ g∈gs,vName g.2=Aj)(h6:gs.length<=6): uV (z0n++32::(Lib.itoa n++32::(qT l++32::(zZD++32::uN (gs.map qT)))))=Ah (z1d n (3,0,0,l,gs)):=by
 have hl:=z4m h0 h1 (k:=z0n) (by decide) (t:=qT l++32::(zZD++32::uN (gs.map qT))) (by have:=tD l;have:=zWC gs;simp;have:zZD.length=7:=rfl;omega);unfold uV;rw[zCQ hl,zob,uK (by decide),uK (xD h0),uK (zI2 hv).1,uK (by decide),z77 h0 h1 hne hg,at1,zob,Qe,Qn,tS h0 h1,zob];simp only[z0l,zob];rw[Qa (by decide),Qa (by decide),Qa (by decide),show zA0 z0n=Ah 3 from rfl,zob,Qi (by decide),zob,Qa (by decide),zob];rw[at2,zob,Qe,Qe,Qn,zN5 h0 h1 hv,zob];have h:=z6P h0 h1 (s2:=(2,0)) (r11:=(l,0)) gs [] [z0n,Lib.itoa n,qT l,zZD] rfl hg (by simp;omega);grind
theorem z4R (hv:vName l.2=Aj){a b:Int}(a0:0<=a)(a1:a<=9999)(b0:0<=b)(b1:b<=9999): uV (z3N++32::(Lib.itoa n++32::(qT l++32::(Lib.itoa a++32::Lib.itoa b))))=Ah (5,n,0,0,[],(0,0,0,(Ak,[]),[]),l,(a,b),(0,0,0,0),fm (0,[],[])):=by
 have hl:=z4m h0 h1 (k:=z3N) (by decide) (t:=qT l++32::(Lib.itoa a++32::Lib.itoa b)) (by have:=tD l;have:=wP a0 a1;have:=wP b0 b1;grind);unfold uV;rw[zCQ hl,zob,uK (by decide),uK (xD h0),uK (zI2 hv).1,uK (xD a0),zFe (xD b0),at1,zob,Qe,Qn,tS h0 h1,zob];simp[z0l];rw[Qa (by decide),Qa (by decide),Qa (by decide),show zA0 z3N=Ah 0 from rfl,zob,Qa (by decide),Qi (by decide),at3,zob,Qe,Qe,Qe,Qn,tS a0 a1,zob,at4,zob,Qe,Qe,Qe,Qe,Qn,tS b0 b1,zob,at2,zob,Qe,Qe,Qn,zN5 h0 h1 hv];rfl
theorem z4Q{tr pl:Int}(t0:0<=tr)(t1:tr<=9999)(p0:0<=pl)(p1:pl<=9999): uV (z28++32::(Lib.itoa n++32::(Lib.itoa tr++32::Lib.itoa pl)))=Ah (z7o n tr (pl,4,0,0)):=by
 have hl:=z4m h0 h1 (k:=z28) (by decide) (t:=Lib.itoa tr++32::Lib.itoa pl) (by grind [wP]);unfold uV;rw[zCQ hl,zob,uK (by decide),uK (xD h0),uK (xD t0),zFe (xD p0),at1,zob,Qe,Qn,tS h0 h1,zob];simp[z0l];rw[Qa (by decide),Qa (by decide),Qa (by decide),show zA0 z28=Ah 0 from rfl,zob,Qa (by decide),Qa (by decide),show zBi z28=Ah 4 from rfl,zob,Qi (by decide),at2,zob,Qe,Qe,Qn,tS t0 t1,zob,at3,zob,Qe,Qe,Qe,Qn,tS p0 p1];rfl
section
variable {tr pl x y:Int}(t0:0<=tr)(t1:tr<=9999)(p0:0<=pl)(p1:pl<=9999)(x0:0<=x)(x1:x<=9999)(y0:0<=y)(y1:y<=9999)
include t0 t1 p0 p1 y0 y1
theorem z4L:uV (z2g++32::(Lib.itoa n++32::(Lib.itoa tr++32::(Lib.itoa pl++32::Lib.itoa y))))=Ah (z7o n tr (pl,3,0,y)):=by
 have hl:=z4m h0 h1 (k:=z2g) (by decide) (t:=Lib.itoa tr++32::(Lib.itoa pl++32::Lib.itoa y)) (by grind [wP]);unfold uV;rw[zCQ hl,zob,uK (by decide),uK (xD h0),uK (xD t0),uK (xD p0),zFe (xD y0),at1,zob,Qe,Qn,tS h0 h1,zob];simp[z0l];rw[Qa (by decide),Qa (by decide),Qa (by decide),show zA0 z2g=Ah 0 from rfl,zob,Qa (by decide),Qa (by decide),show zBi z2g=Ah 3 from rfl,zob,Qi (by decide),at2,zob,Qe,Qe,Qn,tS t0 t1,zob,at3,zob,Qe,Qe,Qe,Qn,tS p0 p1,zob,zob,Qa (by decide),Qi (by decide),at4,zob,Qe,Qe,Qe,Qe,Qn,tS y0 y1];rfl
include x0 x1
theorem z59:uV (z3I++32::(Lib.itoa n++32::(Lib.itoa tr++32::(Lib.itoa pl++32::(Lib.itoa x++32::Lib.itoa y)))))=Ah (z7o n tr (pl,2,x,y)):=by
 have hl:=z4m h0 h1 (k:=z3I) (by decide) (t:=Lib.itoa tr++32::(Lib.itoa pl++32::(Lib.itoa x++32::Lib.itoa y))) (by grind [wP]);unfold uV;rw[zCQ hl,zob,uK (by decide),uK (xD h0),uK (xD t0),uK (xD p0),uK (xD x0),zFe (xD y0),at1,zob,Qe,Qn,tS h0 h1,zob];simp[z0l];rw[Qa (by decide),Qa (by decide),Qa (by decide),show zA0 z3I=Ah 0 from rfl,zob,Qa (by decide),Qa (by decide),show zBi z3I=Ah 2 from rfl,zob,Qi (by decide),at2,zob,Qe,Qe,Qn,tS t0 t1,zob,at3,zob,Qe,Qe,Qe,Qn,tS p0 p1,zob,zob,Qi (by decide),at4,zob,Qe,Qe,Qe,Qe,Qn,tS x0 x1,zob,at5,zob,Qe,Qe,Qe,Qe,Qe,Qn,tS y0 y1];rfl
end
theorem z4V (hv:vName l.2=Aj){d:Int}(d0:0<=d)(d1:d<=9999): uV (z1o++32::(Lib.itoa n++32::(Lib.itoa d++32::qT l)))=Ah (7,n,0,d,[],(0,0,0,(Ak,[]),[]),l,(0,0),(0,0,0,0),fm (0,[],[])):=by
 have hl:=z4m h0 h1 (k:=z1o) (by decide) (t:=Lib.itoa d++32::qT l) (by grind [tD,wP]);unfold uV;rw[zCQ hl,zob,uK (by decide),uK (xD h0),uK (xD d0),zFe (zI2 hv).1,at1,zob,Qe,Qn,tS h0 h1,zob];simp[z0l];rw[Qa (by decide),Qa (by decide),Qa (by decide),show zA0 z1o=Ah 0 from rfl,zob,Qa (by decide),Qa (by decide),show zBi z1o=Ah 0 from rfl,zob,Qa (by decide),Qi (by decide),at2,zob,Qe,Qe,Qn,tS d0 d1,zob,at3,zob,Qe,Qe,Qe,Qn,zN5 h0 h1 hv];rfl
theorem z8C{k d:Int}(hk:k=8\/k=9\/k=10)(d0:0<=d)(d1:d<=9999){t:zA}(ht:t.length<=3000){f:zC}{o c:Int}(hp:zCh t=Ah (f,o,c)): uV (kCh k++32::(Lib.itoa n++32::(Lib.itoa d++32::t)))=Ah (k,n,0,d,[],(0,0,0,(Ak,[]),[]),(Ak,[]),(0,0),(0,0,0,0),f):=by
 have h3:(32:UInt8)∉kCh k/\(kCh k).length<=10/\zA0 (kCh k)=Ah 0/\zBi (kCh k)=Ah 0/\zCu (kCh k)=Ah k/\((kCh k==[112,117,116])=Ak/\(kCh k==[114,117,108,101])=Ak/\(kCh k==[119,105,116,104,100,114,97,119])=Ak/\(kCh k==[111,112,101,110])=Ak/\(kCh k==[100,101,99,105,100,101])=Ak)/\decide (0<k)=true:=by
  rcases hk with rfl | rfl | rfl <;> exact⟨by decide,by decide,rfl,rfl,rfl,⟨rfl,rfl,rfl,rfl,rfl⟩,rfl⟩
 obtain⟨a1,a2,a3,a4,a5,⟨a6,a7,a8,a9,wS⟩,qL⟩:=h3;have hl:=z4m h0 h1 a2 (t:=Lib.itoa d++32::t) (by grind [wP]);have hr:zEv (kCh k++32::(Lib.itoa n++32::(Lib.itoa d++32::t))) 3=Ah t:=by
  rw[rest3 hl,zNU a1,Qa (by decide),zNU (xD h0),Qa (by decide),zNU (xD d0),Qi rfl]
 obtain⟨op,s,ls⟩:=f;unfold uV;rw[zCQ hl,zob,uK a1,uK (xD h0),uK (xD d0),at1,zob,Qe,Qn,tS h0 h1,zob];simp only[z0l,zob,a6,a7,a8,a9,wS,zbf,Qy,a3,a4,a5,qL,Qx,show decide ((0:Int)<0)=Ak from rfl,at2,Qe,Qn,tS d0 d1,hr,hp];rfl
end
end
section
theorem zWG:∀(l m pre pre':List zH),l.length=m.length->pre.length=pre'.length->(pre++l).length<=100000->zN (zB8 (pre++l) (pre'++m)) (pre.length:Int)=Ah (decide (l=m))
 | [],[],pre,pre',_,_,_=>vW (by
  unfold zB8;grind)
 | x::l,y::m,pre,pre',hl,hp,hb=>by
  have hb':pre.length+l.length+1<=100000:=by simp at hb;omega
  have ih:=zWG l m (pre++[x]) (pre'++[y]) (by grind) (by simp[hp]) (by simp;omega);rw[Qo,Qo] at ih;have h2:zD (pre++x::l) (pre.length:Int)=Ah x:=xO (by simp);have h3:zD (pre'++y::m) (pre.length:Int)=Ah y:=by rw[hp];exact xO (by simp)
  by_cases hx:x=y
  ·subst hx;refine(yZ (t:=((pre++[x]).length:Int)) ?_).trans (ih.trans (by simp));unfold zB8;simp[h2,h3];rw[wE pre.length (by omega)];simp
  ·have hf:decide (x::l=y::m)=false:=Qp (by simp[hx]);refine vW ?_;unfold zB8;grind
 | [],_::_,_,_,hl,_,_=>by simp at hl
 | _::_,[],_,_,hl,_,_=>by simp at hl
theorem eqLit{l m:List zH}(h:l.length<=100000): zCJ l m=Ah (decide (l=m)):=by
 unfold zCJ;by_cases hl:l.length=m.length
 ·rw[Qa (by grind)];exact zWG l m [] [] hl rfl (by grind)
 ·rw[Qi (by grind),Qp (λe=>hl (by rw[e]))]
theorem sameGr:zGI=zCJ:=rfl
def eqE (a b:qB): Bool:=
 a.1==b.1&&(a.2.1==b.2.1&&(a.2.2.1==b.2.2.1&&(a.2.2.2.1==b.2.2.2.1&&(a.2.2.2.2.1==b.2.2.2.2.1&&(a.2.2.2.2.2.1.1==b.2.2.2.2.2.1.1&&(a.2.2.2.2.2.1.2.1==b.2.2.2.2.2.1.2.1&&(a.2.2.2.2.2.1.2.2.1==b.2.2.2.2.2.1.2.2.1&&(a.2.2.2.2.2.1.2.2.2.1==b.2.2.2.2.2.1.2.2.2.1&&(decide (a.2.2.2.2.2.1.2.2.2.2=b.2.2.2.2.2.1.2.2.2.2)&&(a.2.2.2.2.2.2.1==b.2.2.2.2.2.2.1&&(a.2.2.2.2.2.2.2.1==b.2.2.2.2.2.2.2.1&&(a.2.2.2.2.2.2.2.2.1==b.2.2.2.2.2.2.2.2.1&&eqF a.2.2.2.2.2.2.2.2.2 b.2.2.2.2.2.2.2.2.2))))))))))))
theorem z0b{a b:qB}: eqE a b=Aj↔a=b:=by
 obtain⟨a1,a2,a3,a4,a5,⟨a6,a7,a8,a9,wS⟩,qL,qY,a13,a14⟩:=a;obtain⟨b1,b2,b3,b4,b5,⟨b6,b7,b8,b9,b10⟩,b11,b12,b13,b14⟩:=b;unfold eqE;simp[z41,and_assoc]
theorem zPN{a b:qB}(hn:wO a.2.2.2.2.2.2.2.2.2<=5000)(hg:a.2.2.2.2.2.1.2.2.2.2.length<=100000): zFD a b=Ah (eqE a b):=by
 grind [zFD,eqE,eqLit,zZe]
theorem zQp{a b:qB}(hn:wO a.2.2.2.2.2.2.2.2.2<=5000)(hg:a.2.2.2.2.2.1.2.2.2.2.length<=100000): zDf a b=Ah (eqE a b):=by
 rw[<-zPN hn hg];grind [zDf,zFD,sameGr,zZe]
theorem z1Y:∀ l:List zA,([32]:zA).intercalate l=uN l
 | []=>rfl
 | [w]=>by simp[uN,List.intercalate]
 | w::v::r=>by
  have ih:=z1Y (v::r);rw[uN,<-ih];simp_all
theorem zJn{l:List zA}(h1:l.length<=1000000)(h2:(uN l).length<=1000000000): zDL l [32]=Ah (uN l):=by
 unfold zDL z8F;rw[z1Y,Qi ⟨by omega,by omega⟩]
def prt (t:zA): Bool:=t.all λb=>decide (32<=b.toNat)&&decide (b.toNat<=126)
theorem txt1 (b:UInt8): zBL (b.toNat:Int)=Ah (!(decide (32<=b.toNat)&&decide (b.toNat<=126))):=by grind [zBL,decide_eq_false]
theorem z2F:∀(t:zA) (i:Nat),decide (0<=z8i zBL t i)=!prt t
 | [],i=>by simp[z8i,prt]
 | b::t,i=>by
  rw[z8i,txt1];have ih:=z2F t (i+1);by_cases hb:(decide (32<=b.toNat)&&decide (b.toNat<=126))=Aj
  ·rw[Qa (by grind),ih,prt,prt,Uw,hb,Bool.true_and]
  ·have hb':=eq_false_of_ne_true hb;rw[Qi (by grind),prt,Uw,hb',Bool.false_and];simp
theorem z1L (t:zA): zAi t=Ah (!prt t):=by
 unfold zAi zBJ zBH idxF;rw[Qi ⟨rfl,λn _=>rfl,λn hn _=>by
  grind [zBL]⟩,zob,zob,z2F]
theorem zVx{S:zA}(hl:S.length<=1000000): ∀(R:zA) (i:Nat),S.drop i=R->i<=S.length->zN (zCD S) (i:Int)=Ah (if prt R then .inl () else .inr Ak)
 | [],i,h,hi=>by
  have hn:=zOK h hi;refine vW ?_;unfold zCD;have:decide ((i:Int)<len S)=false:=Qp (by grind);simp only[this,zbf,Qy];rfl
 | c::r,i,h,hi=>by
  have hn:=zOK h hi;simp at hn;have h1:decide ((i:Int)<len S)=true:=Qq (by grind);have hx:S[i]?=Ah c:=by have:=zTg (j:=0) h;simpa using this
  have hd:S.drop (i+1)=r:=by
   have:=congrArg List.tail h;rw[List.tail_drop] at this;simpa using this
  have hq:(if decide ((c.toNat:Int)<32)=Aj then Ah Aj else Ah (decide (126<(c.toNat:Int))):Option Bool)=Ah (!(decide (32<=c.toNat)&&decide (c.toNat<=126))):=by
   rw[<-txt1];unfold zBL;cases decide ((c.toNat:Int)<32) <;> rfl
  rw[prt,Uw];cases hb:decide (32<=c.toNat)&&decide (c.toNat<=126) with
  | true=>
   refine(yZ (t:=((i+1:Nat):Int)) ?_).trans (zVx hl r (i+1) hd (by omega));unfold zCD;simp only[h1,Qx,zDQ,hx,Uh,zob];rw[hq,hb,zob,QG,Qa (by decide),wE i (by omega)]
  | false=>
   refine vW ?_;unfold zCD;simp[zDQ];grind
def z6c (t:zA): Bool:=prt t&&(decide (1<=t.length)&&decide (t.length<=200))
theorem zRq{t:zA}(hl:t.length<=1000000): zFJ t=Ah (z6c t):=by
 unfold zFJ z6c;have h:zN (zCD t) 0=_:=zVx hl t 0 rfl (by omega);rw[h];have e1:decide (1<=len t)=decide (1<=t.length):=by
  by_cases h:1<=t.length
  ·grind
  ·grind
 have e2:decide (len t<=200)=decide (t.length<=200):=by
  by_cases h:t.length<=200
  ·grind
  ·grind
 rw[e1,e2];cases prt t <;> rfl
end
section
theorem tx_ne:∀ f,vG f=Aj->tO f=Aj->vE f≠[]
 | .mk op s [],h,hn=>by
  rw[zMX,Qc] at h;rw[tO,Qc] at hn;have hk:=zNo h.1;have:op=1\/op=2\/op=3:=by simp at hk;exact hk
  rw[vE,txL,QE];rcases this with rfl | rfl | rfl
  ·exact List.cons_ne_nil _ _
  ·exact List.cons_ne_nil _ _
  ·have hv:=hn.1;rw[Qi rfl] at hv;exact(zYN hv).2
 | .mk op s (x::l),h,hn=>by
  rw[zMX,Qc,tW,Qc] at h;rw[tO,Qc,z2y,Qc] at hn;have ih:=tx_ne x h.2.1 hn.2.1;rw[vE,zMK];intro e;have h1:=(UT.1 (UT.1 (UT.1 e).2).2).1;have h2:=(zRI (decide (tV x<zNy op 0)) (vE x)).1;simp_all
theorem zEJ{f:zC}(hn:wO f<=5000): ∃ t c,zAt f=Ah (t,c)/\zAR f=Ah (t,c)/\t.length<=4096/\(c=0->t≠[]/\vG f=Aj):=by
 obtain⟨t,c,h1,h2,h3,_⟩:=z23 hn;refine⟨t,c,h1,h2,h3,?_⟩;rintro rfl;obtain⟨v1,_⟩:=zQb (zTt f (by omega));unfold zAt at h1;rw[v1,zob] at h1;by_cases hv:z2D f=0
 ·have hv':vG f=Aj/\tO f=true:=by
   unfold z2D at hv;split at hv
   ·grind
   ·cases hv
  have hlen:=zZf f hv'.2;have w:zD0 [] f=Ah (vE f):=((z60 f hv'.1 hn).imp λk e=>(e [] (by simp;omega)).trans (by grind)).lim;rw[hv,Qa (by decide),w,zob] at h1;unfold zBU zAr at h1;rw[zob] at h1;split at h1
  ·grind
  ·injection h1 with h1;injection h1 with h1 _;rw[<-h1];exact⟨tx_ne f hv'.1 hv'.2,hv'.1⟩
 grind
def wX (n:Int): Bool:=decide (0<=n)&&decide (n<=9999)
theorem zJc{n:Int}: wX n=Aj↔0<=n/\n<=9999:=by unfold wX;simp
theorem z9F (n:Int): Lib.itoa n≠[]:=by grind [Lib.itoa,z8d]
section
variable {e:qB}{ws:List zA}{b:Bool}
theorem zG1{w:zA}(hw:ws.length<=100000): zA9 (e,ws,b) w=Ah (ws++[w],b||w==[]):=by
 unfold zA9;rw[yI (by simp;omega)];grind
theorem zRa{ws0:List zA}{b0:Bool}{y1:List Int}(hy:y1.length<=1000)(hB:∀ n∈y1,wI n): ∀(ns pre:List Int) (ws:List zA) (b:Bool),y1=pre++ns->ws.length+ns.length<=100000->zN (zCH y1 (e,ws0,b0)) ((pre.length:Int),ws,b)=Ah (ws++ns.map Lib.itoa,b||!ns.all wX)
 | [],pre,ws,b,h,_=>by
  subst h;refine vW ?_;unfold zCH;grind
 | n::ns,pre,ws,b,h,hl=>by
  have hb:=hB n (by grind);have hyl:pre.length+ns.length+1<=1000:=by rw[h] at hy;simp at hy;omega
  have ih:=zRa (ws0:=ws0) (b0:=b0) hy hB ns (pre++[n]) (ws++[Lib.itoa n]) (b||!wX n) (by grind) (by grind);refine(yZ (t:=(((pre++[n]).length:Int),ws++[Lib.itoa n],b||!wX n)) ?_).trans (ih.trans ?_)
  ·unfold zCH;have e1:decide ((pre.length:Int)<len y1)=true:=Qq (by grind);have e2:zD y1 (pre.length:Int)=Ah n:=by rw[h];exact xO (by simp)
   have e3:(if b=Aj then Ah Aj else if decide (n<0)=Aj then Ah Aj else Ah (decide (9999<n)):Option Bool)=Ah (b||!wX n):=by
    cases b with
    | true=>rfl
    | false=>
     grind [wX]
   simp only[e1,Qx,e2,zob];rw[e3,zob,zX2 hb.1 hb.2,zob,zG1 (by grind),zob,wE pre.length (by omega)];have e4:(Lib.itoa n==[])=false:=by rw[Qu];exact z9F n
   grind
  grind
theorem z5c{ns:List Int}(hy:ns.length<=1000)(hB:∀ n∈ns,wI n)(hw:ws.length<=1000): zCc (e,ws,b) ns=Ah (ws++ns.map Lib.itoa,b||!ns.all wX):=by
 exact zRa hy hB ns [] ws b rfl (by omega)
theorem zJA{w:zA}{ns:List Int}(hne:w≠[])(hy:ns.length<=100)(hB:∀ n∈e.2.1::ns,wI n)(hw:ws.length<=100): tU (e,ws,b) w ns=Ah (ws++[w]++(e.2.1::ns).map Lib.itoa,b||!(e.2.1::ns).all wX):=by
 unfold tU;rw[zG1 (by omega),zob,yI (by simp;omega),zob];rw[List.singleton_append,z5c (by simp;omega) hB (by simp;omega),zob];grind
theorem z8s (l:zH): (qT l==[])=!vName l.2:=by
 cases h:vName l.2 with
 | true=>rw[QG,Qu];exact(zI2 h).2.1
 | false=>unfold qT;grind
theorem z6X (hl:e.2.2.2.2.1.length<=1000000)(hw:ws.length<=1000): zCb (e,ws,b)=Ah (ws++[e.2.2.2.2.1],b||!z6c e.2.2.2.2.1):=by
 unfold zCb;dsimp only;generalize e.2.2.2.2.1=t at hl;rw[z1L,zob];have h1:(if b=Aj then Ah Aj else if decide (200<len t)=Aj then Ah Aj else Ah (!prt t):Option Bool)=Ah (b||(decide (200<t.length)||!prt t)):=by
  have:decide (200<len t)=decide (200<t.length):=by
   by_cases h:200<t.length
   ·grind
   ·grind
  rw[this];cases b <;> cases decide (200<t.length) <;> rfl
 rw[h1,zob,zG1 (by omega),zob];have h2:((b||(decide (200<t.length)||!prt t))||t==[])=(b||!z6c t):=by
  unfold z6c;cases t with
  | nil=>grind
  | cons c r=>
   grind
 rw[h2]
theorem z0z{t:zA}{c:Int}(hf:zAt e.2.2.2.2.2.2.2.2.2=Ah (t,c))(hne:c=0->t≠[])(hw:ws.length<=1000): zBW (e,ws,b)=Ah (ws++[t],b||!(c==0&&decide (t.length<=300))):=by
 unfold zBW;dsimp only;rw[hf,zob];have h1:(if b=Aj then Ah Aj else if(c != 0)=Aj then Ah Aj else Ah (decide (300<len t)):Option Bool)=Ah (b||!(c==0&&decide (t.length<=300))):=by
  have:decide (300<len t)=!decide (t.length<=300):=by
   by_cases h:t.length<=300
   ·grind
   ·grind
  rw[this,bne];cases b <;> cases c==0 <;> cases decide (t.length<=300) <;> rfl
 rw[h1,zob,zG1 (by omega),zob];grind
end
end
end Go.GD
