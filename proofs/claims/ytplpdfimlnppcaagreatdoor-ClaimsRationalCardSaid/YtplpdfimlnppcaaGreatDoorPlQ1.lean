/- A part. Conditions: none. -/
import Derived.Test.YtplpdfimlnppcaaGreatDoorLib
import Derived.Test.YtplpdfimlnppcaaGreatDoorModels
import Derived.Lib.TrailingZeros
import Derived.Shelf.Strings.FieldsAny
import Derived.Test.YtplpdfimlnppcaaGreatDoorJoin
namespace Go.GD
set_option autoImplicit false
set_option linter.unusedVariables false
section
noncomputable def zGZ (y0:wJ) (s1:Int):Option (Int⊕Int) :=
 if decide (s1<(len y0.2)) then
  (zF y0.2 s1).bind fun x1 =>
  if (decide (x1.1<0))||((decide (y0.1≤x1.1))||((decide (x1.2<0))||(decide (y0.1≤x1.2)))) then
   some (.inr 1)
  else
   (
    if decide (0<s1) then
     (zF y0.2 (zS (s1-1))).bind fun x2 =>
     if decide (x1.1<x2.1) then
      some true
     else
      (zF y0.2 (zS (s1-1))).bind fun x3 =>
      if x3.1==x1.1 then
       (zF y0.2 (zS (s1-1))).bind fun x4 =>
       some (decide (x1.2≤x4.2))
      else
       some false
    else
     some false:Option Bool).bind fun s2 =>
   if s2 then
    some (.inr 8)
   else
    some (.inl (zS (s1+1)))
 else
  some (.inr 0)
noncomputable def zGs (y0:wJ):Option Int :=
 if (decide (y0.1<0))||(decide (40<y0.1)) then
  some 1
 else
  zU (zGZ y0) 0
noncomputable def zRv (y0:wJ):Option wJ :=
 (zGs y0).bind fun r1 =>
 if r1 != 0 then
  some (0,([]:List wD))
 else
  some y0
end
section
theorem xV {x:Int} (h1:-9223372036854775808≤x) (h2:x<9223372036854775808):zS x=x:=by
 simp only [zS,IntKind.wrap,IntKind.signed,IntKind.bits]
 simp;omega
theorem zWZ (n:Nat) (h:n<9223372036854775808):zS (n:Int)=n:=xV (by omega) (by omega)
theorem yM (n:Nat) (h:n+1<9223372036854775808):zS ((n:Int)+1)=((n+1:Nat):Int):=by rw [xV (by omega) (by omega)];omega
theorem xL {α:Type} (l:List α) (i:Nat):zF l (i:Int)=l[i]?:=by simp [zF]
theorem z0H (l:qD) (i:Nat):tW l (i:Int)=(l[i]?).map (fun b=>(b.toNat:Int)):=by simp [tW]
theorem zRE {α:Type} {l:List α} {i:Int} (h0:0≤i) (h1:i<l.length):∃ x,zF l i=some x∧l[i.toNat]?=some x:=by
 have:l[i.toNat]?=some l[i.toNat]:=List.getElem?_eq_getElem (by omega)
 exact ⟨_,by simp [zF,h0,this],this⟩
theorem vY {α:Type} {l m:List α} (h:l.length+m.length<4294967296):wE l m=some (l++m):=by simp [wE,h]
theorem z0I {l m:qD} (h:l.length+m.length<4294967296):cat l m=some (l++m):=by simp [cat,h]
theorem zOO {α:Type} {l:List α} {j:Int} (h1:0≤j) (h2:j≤l.length):sub l 0 j=some (l.take j.toNat):=by simp [sub,h1,h2]
theorem z3W {α:Type} {l:List α} {i:Int} (h1:0≤i) (h2:i≤l.length):sub l i (len l)=some (l.drop i.toNat):=by simp [sub,h1,h2]
def zVy {σ ρ α:Type} (step:Nat->σ->α->Option (σ⊕ρ)) (fin:σ->Option ρ):Nat->List α->σ->Option ρ
 | _,[],s=>fin s
 | i,x::l,s=>match step i s x with
  | none=>none
  | some (.inl s')=>zVy step fin (i+1) l s'
  | some (.inr r)=>some r
theorem z3D {σ ρ α τ:Type} {B:τ->Option (τ⊕ρ)} (mk:Nat->σ->τ) (l:List α) (step:Nat->σ->α->Option (σ⊕ρ)) (fin:σ->Option ρ)
  (hB:∀ i x s,l[i]?=some x->B (mk i s)=(step i s x).map fun o=>match o with | .inl s'=>.inl (mk (i+1) s') | .inr r=>.inr r)
  (he:∀ s,B (mk l.length s)=(fin s).map .inr):∀ (n i:Nat) (s:σ),i+n=l.length->zU B (mk i s)=zVy step fin i (l.drop i) s:=by
 intro n
 induction n with
 | zero =>
  intro i s h
  rw [Nat.add_zero] at h
  subst h
  rw [yF,he,List.drop_length]
  cases hf:fin s <;> simp [zVy,hf]
 | succ n ih =>
  intro i s h
  have hx:l[i]?=some l[i]:=List.getElem?_eq_getElem (by omega)
  rw [yF,hB i _ s hx,List.drop_eq_getElem_cons (by omega)]
  cases hs:step i s l[i] with
  | none=>simp [zVy,hs]
  | some o =>
   cases o with
   | inl s'=>simp only [Option.map_some,zVy,hs];exact ih (i+1) s' (by omega)
   | inr r=>simp [zVy,hs]
theorem zQB {σ ρ α τ:Type} {B:τ->Option (τ⊕ρ)} (mk:Nat->σ->τ) (l:List α) (step:Nat->σ->α->Option (σ⊕ρ)) (fin:σ->Option ρ)
  (hB:∀ i x s,l[i]?=some x->B (mk i s)=(step i s x).map fun o=>match o with | .inl s'=>.inl (mk (i+1) s') | .inr r=>.inr r)
  (he:∀ s,B (mk l.length s)=(fin s).map .inr) (s:σ):zU B (mk 0 s)=zVy step fin 0 l s:=by
 have:=z3D mk l step fin hB he l.length 0 s (by omega)
 simpa using this
theorem zPm {ρ α:Type} {B:Int->Option (Int⊕ρ)} {l:List α} {r:ρ} (hB:∀ (i:Nat) (x:α),l[i]?=some x->B (i:Int)=some (.inl ((i+1:Nat):Int)))
  (he:B (l.length:Int)=some (.inr r)):zU B 0=some r:=by
 have h:=zQB (B:=B) (fun i (_:Unit)=>(i:Int)) l (fun _ _ _=>some (.inl ())) (fun _=>some r) (fun i x s hx=>by simp [hB i x hx]) (fun s=>by simp [he]) ()
 have key:∀ (l:List α) (i:Nat),zVy (fun _ (_:Unit) (_:α)=>some (.inl ())) (fun _=>some r) i l ()=some r:=by
  intro l
  induction l with
  | nil=>intro i;rfl
  | cons x l ih=>intro i;exact ih (i+1)
 rw [key] at h
 exact h
theorem uW {ρ α σ τ:Type} {B:τ->Option (τ⊕ρ)} (mk:Nat->σ->τ) (l:List α) (I:Nat->σ->Prop) (Q:ρ->Prop)
  (hB:∀ i x s,l[i]?=some x->I i s->(∃ s',B (mk i s)=some (.inl (mk (i+1) s'))∧I (i+1) s')∨∃ r,B (mk i s)=some (.inr r)∧Q r)
  (he:∀ s,I l.length s->∃ r,B (mk l.length s)=some (.inr r)∧Q r):∀ s,I 0 s->∃ r,zU B (mk 0 s)=some r∧Q r:=by
 have key:∀ n i s,i+n=l.length->I i s->∃ r,zU B (mk i s)=some r∧Q r:=by
  intro n
  induction n with
  | zero =>
   intro i s h hI
   rw [Nat.add_zero] at h
   subst h
   obtain ⟨r,h1,h2⟩:=he s hI
   exact ⟨r,by rw [yF,h1],h2⟩
  | succ n ih =>
   intro i s h hI
   have hx:l[i]?=some l[i]:=List.getElem?_eq_getElem (by omega)
   rcases hB i _ s hx hI with ⟨s',h1,h2⟩ | ⟨r,h1,h2⟩
   ·obtain ⟨r,h3,h4⟩:=ih (i+1) s' (by omega) h2
    exact ⟨r,by rw [yF,h1];exact h3,h4⟩
   ·exact ⟨r,by rw [yF,h1],h2⟩
 exact fun s hI=>key l.length 0 s (by omega) hI
theorem zVr {ρ τ:Type} {B:τ->Option (τ⊕ρ)} (μ:τ->Nat) (I:τ->Prop) (Q:ρ->Prop)
  (step:∀ s,I s->(∃ s',B s=some (.inl s')∧I s'∧μ s' < μ s)∨(∃ r,B s=some (.inr r)∧Q r)) (s:τ) (h:I s):∃ r,zU B s=some r∧Q r:=zN2 I μ Q step s h
end
section
structure uS (s:uO):Prop where
 lo:0≤s.2
 hi:s.2≤s.1.length
 small:s.1.length≤2000
theorem z3r (l:List Int):zPu l=some (l.take 2000,0):=by
 unfold zPu
 by_cases h:2000<len l
 ·rw [if_pos h,zOO (by omega) (by simp [len] at h;omega)];rfl
 ·rw [if_neg h,zOO (by simp [len]) (by simp [len])]
  simp only [zob]
  rw [List.take_of_length_le (by simp),List.take_of_length_le (by simp [len] at h;omega)]
theorem z2h (l:List Int):uS (l.take 2000,0):=⟨Int.le_refl _,by simp,by simp;omega⟩
theorem zZp {s:uO} (h:uS s):∃ v k,zK3 s=some (v,k)∧uS (s.1,k):=by
 obtain ⟨h1,h2,h3⟩:=h
 unfold zK3
 by_cases hk:len s.1≤s.2
 ·exact ⟨0,s.2,by simp [hk],h1,h2,h3⟩
 ·have hk':s.2<s.1.length:=by simpa [len] using hk
  obtain ⟨x,hx,_⟩:=zRE h1 hk'
  refine ⟨x,s.2+1,?_,by show (0:Int)≤s.2+1;omega,by show s.2+1≤(s.1.length:Int);omega,h3⟩
  simp only [hk,decide_false,zbf,if_false]
  rw [xV (x:=s.2+1) (by omega) (by omega),show s.2+1-1=s.2 by omega,xV (by omega) (by omega),hx];rfl
theorem z4s {x n:Int} (h0:1≤n) (h1:n≤4611686018427387904):∃ v,zLc x n=some v∧0≤v∧v<n:=by
 unfold zLc
 have hn:¬ n<1:=by omega
 have hn0:n≠0:=by omega
 simp only [hn,decide_false,zbf,if_false,z5L,hn0,zob]
 have ha:=Int.tmod_lt_of_pos x (show 0<n by omega)
 have hb:-n<x.tmod n:=by
  have:=Int.lt_tmod_of_pos x (show 0<n by omega)
  exact this
 by_cases hx:x.tmod n<0
 ·exact ⟨x.tmod n+n,by simp [hx,xV (x:=x.tmod n+n) (by omega) (by omega)],by omega,by omega⟩
 ·exact ⟨x.tmod n,by simp [hx],by omega,ha⟩
theorem zLT {s:uO} {n:Int} (h:uS s) (h0:1≤n) (h1:n≤4611686018427387904):∃ v k,tF s n=some (v,k)∧0≤v∧v<n∧uS (s.1,k):=by
 obtain ⟨v,k,hr,hk⟩:=zZp h
 obtain ⟨u,hu,h2,h3⟩:=z4s (x:=v) h0 h1
 exact ⟨u,k,by simp [tF,hr,hu],h2,h3,hk⟩
theorem z2V {s:uO} {l:List qD} (h:uS s) (h0:l≠[]) (h1:l.length≤1000):∃ x k,zJn s l=some (x,k)∧x∈l∧uS (s.1,k):=by
 have hp:=List.length_pos_iff.2 h0
 obtain ⟨v,k,hr,h2,h3,hk⟩:=zLT (n:=len l) h (by simp [len];omega) (by simp [len];omega)
 obtain ⟨x,hx,hx2⟩:=zRE h2 h3
 exact ⟨x,k,by simp [zJn,hr,hx],List.mem_of_getElem? hx2,hk⟩
def zOg (k:Nat):qD:=[UInt8.ofNat (97+k)]
theorem zMd {s:uO} {n:Int} (h:uS s) (h0:1≤n) (h1:n≤26):∃ (g:Bool) (j:Nat) (k:Int),zCm s n=some ((g,zOg j),k)∧(j:Int)<n∧uS (s.1,k):=by
 obtain ⟨v,k,hr,h2,h3,hk⟩:=zLT (n:=2*n) h (by omega) (by omega)
 obtain ⟨m,rfl⟩:=Int.eq_ofNat_of_zero_le h2
 refine ⟨yE .i64 m 1==1,m / 2,k,?_,by omega,hk⟩
 unfold zCm
 rw [xV (x:=2*n) (by omega) (by omega),hr]
 have hq:z5U .i64 (m:Int) 2=some ((m / 2:Nat):Int):=by
  simp only [z5U]
  rw [if_neg (by omega)]
  show some (zS _)=_
  have:(m:Int).tdiv 2=((m / 2:Nat):Int):=by
   rw [Int.tdiv_eq_ediv_of_nonneg (by omega)];omega
  rw [this,xV (by omega) (by omega)]
 simp only [zob,hq]
 have hw:IntKind.u8.wrap (zS (97+((m / 2:Nat):Int)))=((97+m / 2:Nat):Int):=by
  rw [xV (by omega) (by omega)]
  simp only [IntKind.wrap,IntKind.signed,IntKind.bits]
  simp;omega
 rw [hw]
 rfl
end
section
theorem z4J {α:Type} (l:List α) (i k:Nat):zUz l (i:Int) (k:Int)=l[i+k]?:=by
 simp only [zUz]
 rw [if_pos (by omega),show ((i:Int)+(k:Int))=((i+k:Nat):Int) by omega,xL]
section
variable {α:Type} [BEq α]
noncomputable def zPG (y0:List α) (s1:Int) (s3:(List α)×Int×Int):Option (((List α)×Int×Int)⊕((List α)×Int)) :=
 if decide (s3.2.2<((Int.toNat (((List.length y0:Nat):Int)-s1):Nat):Int)) then
  (zUz s3.1 s1 s3.2.2).bind fun x3 =>
  (zUz s3.1 s1 (zS (s3.2.2-1))).bind fun x4 =>
  if !(x3==x4) then
   (zUz s3.1 s1 s3.2.2).bind fun x5 =>
   (zF s3.1 s3.2.1).bind fun _ =>
   some (.inl (List.set s3.1 (Int.toNat s3.2.1) x5,zS (s3.2.1+1),zS (s3.2.2+1)))
  else
   some (.inl (s3.1,s3.2.1,zS (s3.2.2+1)))
 else
  some (.inr (s3.1,s3.2.1))
noncomputable def zRL (z:α) (y0:List α) (s1:Int):Option (Int⊕(List α)) :=
 if decide (s1<(len y0)) then
  (zF y0 s1).bind fun x1 =>
  (zF y0 (zS (s1-1))).bind fun x2 =>
  if x1==x2 then
   (yC (decide (0≤s1)&&decide (s1≤len y0))).bind fun _ =>
   (zU (zPG y0 s1) (y0,s1,1):Option ((List α)×Int)).bind fun s2 =>
   (yC (decide (0≤s2.2)&&decide (s2.2≤len s2.1))).bind fun _ =>
   (sub (zDI s2.1 s2.2 z) 0 s2.2).bind fun x7 =>
   some (.inr x7)
  else
   some (.inl (zS (s1+1)))
 else
  some (.inr y0)
noncomputable def zVs (z:α) (y0:List α):Option (List α) :=
 if decide ((len y0)<2) then
  some y0
 else
  zU (zRL z y0) 1
def dd (a:α):List α->List α
 | []=>[]
 | b::r=>if a==b then dd b r else b::dd b r
def tS:List α->List α
 | []=>[]
 | a::r=>a::dd a r
theorem zXz:∀ (r s:List α) (a:α),dd a (r++s)=dd a r++dd (r.getLastD a) s
 | [],s,a=>rfl
 | b::r,s,a=>by
  simp only [List.cons_append,dd,zXz r s b,List.getLastD_cons]
  split <;> simp
theorem zVZ {l:List α} {j:Nat} {y x:α} (h1:l[j]?=some y) (h2:l[j+1]?=some x):tS (l.take (j+2))=tS (l.take (j+1))++if y==x then [] else [x]:=by
 have e1:l.take (j+2)=l.take (j+1)++[x]:=by
  rw [List.take_add_one (i:=j+1),h2];rfl
 have e2:l.take (j+1)=l.take j++[y]:=by rw [List.take_add_one,h1];rfl
 rw [e1]
 cases hl:l.take (j+1) with
 | nil=>rw [hl] at e2;cases h3:l.take j <;> simp [h3] at e2
 | cons a r =>
  have hlast:r.getLastD a=y:=by
   have:(a::r).getLast?=some y:=by rw [←hl,e2];simp
   rw [←List.getLastD_cons (a:=a) (b:=a) (l:=r),List.getLastD_eq_getLast?,this];rfl
  simp only [List.cons_append,tS,zXz,hlast,dd]
theorem z5b:∀ (r:List α) (a:α),(dd a r).length≤r.length
 | [],_=>Nat.le_refl _
 | b::r,a=>by
  simp only [dd]
  have:=z5b r b
  split <;> simp <;> omega
theorem z2Q (l:List α):(tS l).length≤l.length:=by
 cases l with
 | nil=>simp [tS]
 | cons a r=>have:=z5b r a;simp [tS];omega
theorem zVG [LawfulBEq α] (l:List α) (i0:Nat) (h0:1≤i0) (hi:i0<l.length) (hbig:l.length<9223372036854775807) (hd:tS (l.take (i0+1))=tS (l.take i0)) (hk:tS (l.take i0)=l.take i0) :
  ∃ c k,zU (zPG l (i0:Int)) (l,(i0:Int),1)=some (c,((k:Nat):Int))∧c.length=l.length∧k≤l.length∧c.take k=tS l:=by
 have key:∀ n k2 (c:List α) (k:Nat),i0+k2+n=l.length->1≤k2->c.length=l.length->k+1≤i0+k2->(∀ j,i0+k2≤j+1->c[j]?=l[j]?)->c.take k=tS (l.take (i0+k2))->
   ∃ c' k',zU (zPG l (i0:Int)) (c,(k:Int),(k2:Int))=some (c',((k':Nat):Int))∧c'.length=l.length∧k'≤l.length∧c'.take k'=tS l:=by
  intro n
  induction n with
  | zero =>
   intro k2 c k hn h1 hc hk1 hsame htake
   refine ⟨c,k,?_,hc,by omega,?_⟩
   ·rw [yF]
    unfold zPG
    have:decide ((k2:Int)<((Int.toNat (((List.length l:Nat):Int)-(i0:Int)):Nat):Int))=false:=by simp;omega
    simp only [this,zbf,if_false]
   ·rw [htake,List.take_of_length_le (by omega)]
  | succ n ih =>
   intro k2 c k hn h1 hc hk1 hsame htake
   have hx:l[i0+k2]?=some l[i0+k2]:=List.getElem?_eq_getElem (by omega)
   have hy:l[i0+k2-1]?=some l[i0+k2-1]:=List.getElem?_eq_getElem (by omega)
   have hcx:c[i0+k2]?=some l[i0+k2]:=by rw [hsame _ (by omega)];exact hx
   have hcy:c[i0+(k2-1)]?=some l[i0+k2-1]:=by rw [hsame _ (by omega),←hy];congr 1;omega
   have hlt:decide ((k2:Int)<((Int.toNat (((List.length l:Nat):Int)-(i0:Int)):Nat):Int))=true:=by simp;omega
   have hw1:zS ((k2:Int)-1)=((k2-1:Nat):Int):=by rw [xV (by omega) (by omega)];omega
   have hdt:=zVZ (l:=l) (j:=i0+k2-1) (y:=l[i0+k2-1]) (x:=l[i0+k2]) hy (by rw [show i0+k2-1+1=i0+k2 by omega];exact hx)
   rw [show i0+k2-1+2=i0+(k2+1) by omega,show i0+k2-1+1=i0+k2 by omega] at hdt
   have hklt:k<c.length:=by omega
   rw [yF]
   unfold zPG
   simp only [hlt,if_true,z4J,hcx,zob,hw1,hcy]
   rw [BEq.comm]
   have hklt':zF c (k:Int)=some c[k]:=by rw [xL];exact List.getElem?_eq_getElem hklt
   cases hb:l[i0+k2-1]==l[i0+k2] with
   | true =>
    simp only [Bool.not_true,zbf,if_false]
    rw [yM k2 (by omega)]
    have:=ih (k2+1) c k (by omega) (by omega) hc (by omega) (fun j hj=>hsame j (by omega)) (by rw [hdt,hb];simpa using htake)
    exact this
   | false =>
    simp only [Bool.not_false,if_true,hklt',zob]
    rw [yM k2 (by omega),yM k (by omega),Int.toNat_natCast]
    refine ih (k2+1) (c.set k l[i0+k2]) (k+1) (by omega) (by omega) (by simp [hc]) (by omega) (fun j hj=>?_) ?_
    ·rw [List.getElem?_set_ne (by omega)];exact hsame j (by omega)
    ·rw [hdt,hb,←htake]
     rw [List.take_add_one,List.getElem?_set_self hklt,List.take_set_of_le (Nat.le_refl _)]
     rfl
 have hsome:l[i0]?=some l[i0]:=List.getElem?_eq_getElem hi
 refine key (l.length-(i0+1)) 1 l i0 (by omega) (Nat.le_refl _) rfl (by omega) (fun j _=>rfl) ?_
 rw [hd,hk]
theorem zNl [LawfulBEq α] (z:α) (l:List α) (hbig:l.length<9223372036854775807):zVs z l=some (tS l):=by
 unfold zVs
 by_cases h2:l.length<2
 ·have:decide (len l<2)=true:=by simp [len];omega
  simp only [this,if_true]
  match l,h2 with
  | [],_=>rfl
  | [a],_=>rfl
 ·have:decide (len l<2)=false:=by simp [len];omega
  simp only [this,zbf,if_false]
  have key:∀ n k,k+n=l.length->1≤k->tS (l.take k)=l.take k->zU (zRL z l) (k:Int)=some (tS l):=by
   intro n
   induction n with
   | zero =>
    intro k hn h1 hp
    rw [yF]
    unfold zRL
    have:decide ((k:Int)<len l)=false:=by simp [len];omega
    simp only [this,zbf,if_false]
    rw [List.take_of_length_le (by omega)] at hp
    rw [hp]
   | succ n ih =>
    intro k hn h1 hp
    have hx:l[k]?=some l[k]:=List.getElem?_eq_getElem (by omega)
    have hy:l[k-1]?=some l[k-1]:=List.getElem?_eq_getElem (by omega)
    have hlt:decide ((k:Int)<len l)=true:=by simp [len];omega
    have hw1:zS ((k:Int)-1)=((k-1:Nat):Int):=by rw [xV (by omega) (by omega)];omega
    have hdt:=zVZ (l:=l) (j:=k-1) (y:=l[k-1]) (x:=l[k]) hy (by rw [show k-1+1=k by omega];exact hx)
    rw [show k-1+2=k+1 by omega,show k-1+1=k by omega,hp] at hdt
    rw [yF]
    unfold zRL
    simp only [hlt,if_true,xL,hx,hw1,hy,zob]
    rw [BEq.comm]
    cases hb:l[k-1]==l[k] with
    | true =>
     have hc1:(decide (0≤(k:Int))&&decide ((k:Int)≤len l))=true:=by simp [len];omega
     obtain ⟨c,q,hl,hcl,hq,htk⟩:=zVG l k h1 (by omega) hbig (by rw [hdt,hb,hp];simp) hp
     have hc2:(decide (0≤((q:Nat):Int))&&decide (((q:Nat):Int)≤len c))=true:=by simp [len];omega
     simp only [if_true,hc1,yC,zob,hl,hc2]
     rw [zOO (by omega) (by rw [zIs,hcl];omega)]
     simp only [zob,Int.toNat_natCast,zDI,htk]
     have hdl:(tS l).length=q:=by rw [←htk,List.length_take];omega
     rw [←hdl,List.take_left]
    | false =>
     simp only [zbf,if_false]
     rw [yM k (by omega)]
     refine ih (k+1) (by omega) (by omega) ?_
     rw [hdt,hb,List.take_add_one,hx];rfl
  exact key (l.length-1) 1 (by omega) (Nat.le_refl _) (by match l,h2 with | a::r,_=>rfl)
end
section
variable {α:Type} {lt:α->α->Bool}
structure zVK (lt:α->α->Bool):Prop where
 irrefl:∀ x,lt x x=false
 trans:∀ x y z,lt x y=true->lt y z=true->lt x z=true
 tri:∀ x y,lt x y=true∨x=y∨lt y x=true
abbrev vZ (lt:α->α->Bool) (l:List α):Prop:=l.Pairwise fun x y=>lt x y=true
theorem zVK.asymm (O:zVK lt) {x y:α} (h:lt x y=true):lt y x=false:=by
 cases hb:lt y x with
 | false=>rfl
 | true=>have:=O.trans _ _ _ h hb;rw [O.irrefl] at this;cases this
theorem vZ.ext (O:zVK lt):∀ {l m:List α},vZ lt l->vZ lt m->(∀ x,x∈l↔x∈m)->l=m
 | [],[],_,_,_=>rfl
 | [],y::m,_,_,h=>by have:=(h y).2 (List.mem_cons_self);cases this
 | x::l,[],_,_,h=>by have:=(h x).1 (List.mem_cons_self);cases this
 | x::l,y::m,hl,hm,h=>by
  obtain ⟨h1,h2⟩:=List.pairwise_cons.1 hl
  obtain ⟨h3,h4⟩:=List.pairwise_cons.1 hm
  have hxy:x=y:=by
   rcases List.mem_cons.1 ((h x).1 (List.mem_cons_self)) with h5 | h5
   ·exact h5
   ·rcases List.mem_cons.1 ((h y).2 (List.mem_cons_self)) with h6 | h6
    ·exact h6.symm
    ·have:=O.asymm (h3 x h5);rw [h1 y h6] at this;cases this
  subst hxy
  congr 1
  refine vZ.ext O h2 h4 fun z=>⟨fun hz=>?_,fun hz=>?_⟩
  ·rcases List.mem_cons.1 ((h z).1 (List.mem_cons_of_mem _ hz)) with rfl | h5
   ·have:=h1 z hz;rw [O.irrefl] at this;cases this
   ·exact h5
  ·rcases List.mem_cons.1 ((h z).2 (List.mem_cons_of_mem _ hz)) with rfl | h5
   ·have:=h3 z hz;rw [O.irrefl] at this;cases this
   ·exact h5
theorem zXm [BEq α] [LawfulBEq α] (O:zVK lt):∀ {l:List α},l.Pairwise (fun x y=>lt y x=false)->vZ lt (tS l)∧∀ x,x∈tS l↔x∈l:=by
 have key:∀ (r:List α) (a:α),(a::r).Pairwise (fun x y=>lt y x=false)->vZ lt (a::dd a r)∧∀ x,x∈a::dd a r↔x∈a::r:=by
  intro r
  induction r with
  | nil=>intro a _;simp [dd]
  | cons b r ih =>
   intro a h
   obtain ⟨h1,h2⟩:=List.pairwise_cons.1 h
   obtain ⟨i1,i2⟩:=ih b h2
   by_cases hab:a=b
   ·subst hab
    simp only [dd,beq_self_eq_true,if_true]
    refine ⟨i1,fun x=>?_⟩
    rw [i2];simp
   ·have hb:(a==b)=false:=beq_eq_false_iff_ne.2 hab
    simp only [dd,hb,zbf,if_false]
    have hlt:lt a b=true:=by
     rcases O.tri a b with h | h | h
     ·exact h
     ·exact absurd h hab
     ·rw [h1 b (List.mem_cons_self)] at h;cases h
    refine ⟨List.pairwise_cons.2 ⟨fun y hy=>?_,i1⟩,fun x=>?_⟩
    ·rcases List.mem_cons.1 hy with rfl | hy
     ·exact hlt
     ·exact O.trans _ _ _ hlt ((List.pairwise_cons.1 i1).1 y hy)
    ·rw [List.mem_cons,i2];simp
 intro l h
 cases l with
 | nil=>simp [tS]
 | cons a r=>exact key r a h
theorem zM5 (O:zVK lt) (l:List α):(l.mergeSort fun x y=>!lt y x).Pairwise (fun x y=>lt y x=false):=by
 have h:=List.pairwise_mergeSort (le:=fun x y=>!lt y x) (fun a b c h1 h2=>?_) (fun a b=>?_) l
 ·exact h.imp fun h=>by simpa using h
 ·simp only [Bool.not_eq_true'] at *
  cases h3:lt c a with
  | false=>rfl
  | true =>
   rcases O.tri a b with h | rfl | h
   ·have:=O.trans _ _ _ h3 h;rw [this] at h2;cases h2
   ·rw [h3] at h2;cases h2
   ·rw [h] at h1;cases h1
 ·cases h:lt b a with
  | false=>simp
  | true=>simp [O.asymm h]
def xM [BEq α] (lt:α->α->Bool) (l:List α):List α:=tS (l.mergeSort fun x y=>!lt y x)
theorem zKd [BEq α] [LawfulBEq α] (O:zVK lt) (l:List α):vZ lt (xM lt l)∧∀ x,x∈xM lt l↔x∈l:=by
 obtain ⟨h1,h2⟩:=zXm O (zM5 O l)
 exact ⟨h1,fun x=>by rw [xM,h2,List.mem_mergeSort]⟩
theorem zZz [BEq α] [LawfulBEq α] (O:zVK lt) {l m:List α} (h1:vZ lt m) (h2:∀ x,x∈m↔x∈l):xM lt l=m:=by
 obtain ⟨h3,h4⟩:=zKd O l
 exact vZ.ext O h3 h1 fun x=>by rw [h4,h2]
theorem zS1 [BEq α] (lt:α->α->Bool) (l:List α):(xM lt l).length≤l.length:=by
 have:=z2Q (l.mergeSort fun x y=>!lt y x)
 simpa [xM] using this
end
section
variable {α:Type} [BEq α]
noncomputable def z0D (y0:List α) (y1:α) (s1:Int):Option (Int⊕Int) :=
 if decide (s1<(len y0)) then
  (zF y0 s1).bind fun x1 =>
  if y1==x1 then
   some (.inr s1)
  else
   some (.inl (zS (s1+1)))
 else
  some (.inr (-1))
noncomputable def z5S (y0:List α) (y1:α):Option Int:=zU (z0D y0 y1) 0
theorem zUr (l:List α) (x:α) (hb:l.length<9223372036854775807):∃ r,z5S l x=some r∧(0≤r↔∃ y∈l,x==y):=by
 have h:=uW (B:=z0D l x) (fun i (_:Unit)=>(i:Int)) l (fun i _=>∀ j y,j<i->l[j]?=some y->(x==y)=false) (fun r=>(0≤r↔∃ y∈l,x==y)) ?_ ?_ () (by simp)
 ·exact h
 ·intro i y s hy hI
  have hi:=(List.getElem?_eq_some_iff.1 hy).1
  have hlt:decide ((i:Int)<len l)=true:=by simp [len];omega
  unfold z0D
  simp only [hlt,if_true,xL,hy,zob]
  cases hxy:x==y with
  | true=>exact .inr ⟨_,rfl,⟨fun _=>⟨y,List.mem_of_getElem? hy,hxy⟩,fun _=>by omega⟩⟩
  | false =>
   refine .inl ⟨(),by simp [yM i (by omega)],fun j z hj hz=>?_⟩
   rcases Nat.lt_succ_iff_lt_or_eq.1 hj with h | rfl
   ·exact hI j z h hz
   ·rw [hy] at hz;cases hz;exact hxy
 ·intro s hI
  unfold z0D
  refine ⟨-1,by simp [len],⟨fun h=>by omega,fun ⟨y,hy,hxy⟩=>?_⟩⟩
  obtain ⟨j,hj⟩:=List.mem_iff_getElem?.1 hy
  rw [hI j y (List.getElem?_eq_some_iff.1 hj).1 hj] at hxy
  cases hxy
noncomputable def z4d (y0:List α) (y1:List α) (s1:Int):Option (Int⊕Bool) :=
 if decide (s1<(len y0)) then
  (zF y0 s1).bind fun x1 =>
  (zF y1 s1).bind fun x2 =>
  if !(x1==x2) then
   some (.inr false)
  else
   some (.inl (zS (s1+1)))
 else
  some (.inr true)
noncomputable def z6d (y0:List α) (y1:List α):Option Bool :=
 if (len y0) != (len y1) then
  some false
 else
  zU (z4d y0 y1) 0
theorem z06 [DecidableEq α] [LawfulBEq α] (l m:List α) (hb:l.length<9223372036854775807):z6d l m=some (decide (l=m)):=by
 unfold z6d
 by_cases hl:l.length=m.length
 ·have h0:(len l != len m)=false:=by simp [len,hl]
  simp only [h0,zbf,if_false]
  have h:=uW (B:=z4d l m) (fun i (_:Unit)=>(i:Int)) l (fun i _=>∀ j,j<i->l[j]?=m[j]?) (fun r=>r=decide (l=m)) ?_ ?_ () (by simp)
  ·obtain ⟨r,h1,rfl⟩:=h;exact h1
  ·intro i x s hx hI
   have hi:=(List.getElem?_eq_some_iff.1 hx).1
   have hy:m[i]?=some m[i]:=List.getElem?_eq_getElem (by omega)
   have hlt:decide ((i:Int)<len l)=true:=by simp [len];omega
   unfold z4d
   simp only [hlt,if_true,xL,hx,hy,zob]
   by_cases he:x=m[i]
   ·refine .inl ⟨(),by simp [he,yM i (by omega)],fun j hj=>?_⟩
    rcases Nat.lt_succ_iff_lt_or_eq.1 hj with h | rfl
    ·exact hI j h
    ·rw [hx,hy,he]
   ·refine .inr ⟨false,by simp [he],?_⟩
    symm
    rw [decide_eq_false_iff_not]
    intro h;subst h
    rw [hx] at hy;cases hy;exact he rfl
  ·intro s hI
   refine ⟨true,by unfold z4d;simp [len],?_⟩
   symm
   rw [decide_eq_true_iff]
   apply List.ext_getElem?
   intro j
   by_cases hj:j<l.length
   ·exact hI j hj
   ·rw [List.getElem?_eq_none (by omega),List.getElem?_eq_none (by omega)]
 ·have h0:(len l != len m)=true:=by simp [len];omega
  simp only [h0,if_true]
  congr 1;symm
  rw [decide_eq_false_iff_not]
  intro h;subst h;exact hl rfl
end
end
section
structure Le {α:Type} (a b:Option α):Prop where
 el:∀ r,a=some r->b=some r
theorem Le.refl {α:Type} (a:Option α):Le a a:=⟨fun _ h=>h⟩
theorem Le.bind {α β:Type} {a b:Option α} {f g:α->Option β} (h:Le a b) (k:∀ x,Le (f x) (g x)):Le (a.bind f) (b.bind g):=⟨fun r hr=>by
 cases a with
 | none=>cases hr
 | some x=>rw [h.el x rfl];exact (k x).el r hr⟩
theorem Le.ite {α:Type} {c:Prop} [Decidable c] {a b a' b':Option α} (h:Le a b) (k:Le a' b'):Le (if c then a else a') (if c then b else b'):=by
 split
 ·exact h
 ·exact k
theorem Le.seqE {σ α:Type} {a b:Option (σ⊕α)} {f g:σ->Option α} (h:Le a b) (k:∀ x,Le (f x) (g x)):Le (yD a f) (yD b g) :=
 Le.bind h fun o=>by
  cases o with
  | inl s=>exact k s
  | inr r=>exact Le.refl _
theorem Le.none {α:Type} (b:Option α):Le none b:=⟨fun _ h=>nomatch h⟩
abbrev lp {σ ρ:Type} (n:Nat) (B:σ->Option (σ⊕ρ)) (s:σ):Option ρ:=tR B n s
theorem Le.lp {σ ρ:Type} {B C:σ->Option (σ⊕ρ)} (h:∀ s,Le (B s) (C s)) (n:Nat) (s:σ):Le (lp n B s) (zU C s):=by
 refine ⟨fun r hr=>?_⟩
 refine zKp (n:=n) ?_
 revert s
 induction n with
 | zero=>intro s hr;cases hr
 | succ n ih =>
  intro s hr
  simp only [tR] at hr ⊢
  cases hb:B s with
  | none=>rw [hb] at hr;cases hr
  | some o =>
   rw [hb] at hr
   rw [(h s).el o hb]
   cases o with
   | inl s'=>exact ih s' hr
   | inr r'=>exact hr
theorem Le.lim {α:Type} {a:Option α} {f:Nat->Option α} (n:Nat) (h:∀ m,n≤m->Le a (f m)):Le a (zZV f):=⟨fun r hr=>zNw n fun m hm=>(h m hm).el r hr⟩
def ins {α:Type} (lt:α->α->Bool) (x:α):List α->List α
 | []=>[x]
 | y::r=>if lt y x then y::ins lt x r else x::y::r
def zTp {α:Type} (lt:α->α->Bool):List α->List α
 | []=>[]
 | x::r=>ins lt x (zTp lt r)
end
section
def Tw {α:Type} (m:Option α):Type:={ r:Option α // Le r m }
def td {α:Type} (m:Option α):Tw m:=⟨m,Le.refl m⟩
def tb {α β:Type} {a:Option α} {f:α->Option β} (h:Tw a) (k:∀ x,Tw (f x)):Tw (a.bind f):=⟨h.1.bind fun x=>(k x).1,Le.bind h.2 fun x=>(k x).2⟩
def ti {α:Type} {c:Prop} [Decidable c] {a b:Option α} (h:Tw a) (k:Tw b):Tw (if c then a else b):=⟨if c then h.1 else k.1,Le.ite h.2 k.2⟩
def ts {σ α:Type} {a:Option (σ⊕α)} {f:σ->Option α} (h:Tw a) (k:∀ x,Tw (f x)):Tw (yD a f):=⟨Go.GD.yD h.1 fun x=>(k x).1,Le.seqE h.2 fun x=>(k x).2⟩
def tl {σ ρ:Type} {C:σ->Option (σ⊕ρ)} (n:Nat) (h:∀ s,Tw (C s)) (s:σ):Tw (zU C s):=⟨Go.GD.lp n (fun s=>(h s).1) s,Le.lp (fun s=>(h s).2) n s⟩
theorem Tw.el {α:Type} {m:Option α} (w:Tw m) {r:α} (h:w.1=some r):m=some r:=w.2.el r h
end
section
abbrev yS (x y:Int):Bool:=decide (x<y)
abbrev zY2 (x y:Int):Int:=if x<y then -1 else if y<x then 1 else 0
def orF:List Int->Int
 | []=>0
 | x::r=>if x != 0 then x else orF r
abbrev zXb {α β:Type} [BEq α] (lt1:α->α->Bool) (xY:β->β->Bool) (x y:α×β):Bool:=lt1 x.1 y.1||(x.1==y.1&&xY x.2 y.2)
theorem tG:zVK yS:=⟨fun x=>by simp,fun x y z h1 h2=>by simp at *;omega,fun x y=>by simp;omega⟩
theorem zVz {α β:Type} [BEq α] [LawfulBEq α] {lt1:α->α->Bool} {xY:β->β->Bool} (O1:zVK lt1) (O2:zVK xY):zVK (zXb lt1 xY):=by
 refine ⟨fun x=>by simp [O1.irrefl,O2.irrefl],fun x y z h1 h2=>?_,fun x y=>?_⟩
 ·simp only [zXb,Bool.or_eq_true,Bool.and_eq_true,beq_iff_eq] at *
  rcases h1 with h1 | ⟨h1,h1'⟩ <;> rcases h2 with h2 | ⟨h2,h2'⟩
  ·exact .inl (O1.trans _ _ _ h1 h2)
  ·exact .inl (h2▸h1)
  ·exact .inl (h1▸h2)
  ·exact .inr ⟨h1.trans h2,O2.trans _ _ _ h1' h2'⟩
 ·obtain ⟨a,b⟩:=x;obtain ⟨c,d⟩:=y
  simp only [zXb,Bool.or_eq_true,Bool.and_eq_true,beq_iff_eq,Prod.mk.injEq]
  rcases O1.tri a c with h | rfl | h
  ·exact .inl (.inl h)
  ·rcases O2.tri b d with h | rfl | h
   ·exact .inl (.inr ⟨rfl,h⟩)
   ·exact .inr (.inl ⟨rfl,rfl⟩)
   ·exact .inr (.inr (.inr ⟨rfl,h⟩))
  ·exact .inr (.inr (.inl h))
theorem OrdF.of {α:Type} {f:α->α->Option Int} {lt:α->α->Bool} (O:zVK lt) (ht:∀ x y,∃ n,f x y=some n) (h:∀ x y,uK f x y=lt x y):OrdF f:=by
 refine ⟨ht,fun x=>by rw [h,O.irrefl],fun x y z h1 h2=>?_,fun x y z h1 h2=>?_,fun x y h1 h2=>?_⟩
 ·rw [h] at *;exact O.trans _ _ _ h1 h2
 ·rw [h] at *
  cases h3:lt x z with
  | false=>rfl
  | true =>
   rcases O.tri x y with h4 | rfl | h4
   ·rw [h4] at h1;cases h1
   ·rw [h3] at h2;cases h2
   ·have:=O.trans _ _ _ h4 h3;rw [this] at h2;cases h2
 ·rw [h] at *
  rcases O.tri x y with h4 | h4 | h4
  ·rw [h4] at h1;cases h1
  ·exact h4
  ·rw [h4] at h2;cases h2
theorem zVu {α:Type} {f:α->α->Option Int} {lt:α->α->Bool} (O:zVK lt) (ht:∀ x y,∃ n,f x y=some n) (h:∀ x y,uK f x y=lt x y) {l:List α} (hl:l.length<4294967296) :
  zWf f l=some (l.mergeSort fun x y=>!lt y x):=by
 unfold zWf
 rw [if_pos ⟨OrdF.of O ht h,hl⟩]
 have:(fun x y=>!uK f y x)=fun x y=>!lt y x:=by funext x y;rw [h]
 rw [this]
noncomputable def orL (y0:List Int) (s1:Int):Option (Int⊕Int) :=
 if decide (s1<(len y0)) then
  (zF y0 s1).bind fun x1 =>
  if x1 != 0 then
   some (.inr x1)
  else
   some (.inl (zS (s1+1)))
 else
  some (.inr 0)
theorem z4a (l:List Int) (hb:l.length<9223372036854775807):zU (orL l) 0=some (orF l):=by
 have h:=zQB (B:=orL l) (fun i (_:Unit)=>(i:Int)) l (fun _ _ x=>if x != 0 then some (.inr x) else some (.inl ())) (fun _=>some 0) (fun i x s hx=>?_) (fun s=>by simp [orL,len]) ()
 ·have key:∀ (l:List Int) (i:Nat),zVy (fun _ (_:Unit) (x:Int)=>if x != 0 then some (Sum.inr x) else some (.inl ())) (fun _=>some 0) i l ()=some (orF l):=by
   intro l
   induction l with
   | nil=>intro i;rfl
   | cons x l ih =>
    intro i
    by_cases hx:x=0
    ·subst hx;exact ih (i+1)
    ·simp [zVy,orF,hx]
  rw [key] at h
  exact h
 ·have hi:=(List.getElem?_eq_some_iff.1 hx).1
  unfold orL
  have hlt:decide ((i:Int)<len l)=true:=by simp [len];omega
  simp only [hlt,if_true,xL,hx,zob]
  by_cases h0:x=0
  ·subst h0;simp [yM i (by omega)]
  ·simp [h0]
section
variable {α:Type} {lt:α->α->Bool}
theorem zW6 (x:α):∀ l:List α,(ins lt x l).Perm (x::l)
 | []=>List.Perm.refl _
 | y::r=>by
  unfold ins
  split
  ·exact ((zW6 x r).cons y).trans (List.Perm.swap x y r)
  ·exact List.Perm.refl _
theorem zNO:∀ l:List α,(zTp lt l).Perm l
 | []=>List.Perm.refl _
 | x::r=>(zW6 x _).trans ((zNO r).cons x)
theorem zV8 (O:zVK lt) (x:α):∀ l:List α,l.Pairwise (fun x y=>lt y x=false)->(ins lt x l).Pairwise (fun x y=>lt y x=false)
 | [],_=>by simp [ins]
 | y::r,h=>by
  obtain ⟨h1,h2⟩:=List.pairwise_cons.1 h
  unfold ins
  split
  ·rename_i hlt
   refine List.pairwise_cons.2 ⟨fun z hz=>?_,zV8 O x r h2⟩
   rcases List.mem_cons.1 ((zW6 x r).mem_iff.1 hz) with rfl | hz
   ·exact O.asymm hlt
   ·exact h1 z hz
  ·rename_i hlt
   have hyx:lt y x=false:=by simpa using hlt
   refine List.pairwise_cons.2 ⟨fun z hz=>?_,h⟩
   rcases List.mem_cons.1 hz with rfl | hz
   ·exact hyx
   ·cases hzx:lt z x with
    | false=>rfl
    | true =>
     have hzy:=h1 z hz
     rcases O.tri x y with h3 | rfl | h3
     ·rw [O.trans _ _ _ hzx h3] at hzy;cases hzy
     ·rw [hzx] at hzy;cases hzy
     ·rw [h3] at hyx;cases hyx
theorem zMZ (O:zVK lt):∀ l:List α,(zTp lt l).Pairwise (fun x y=>lt y x=false)
 | []=>List.Pairwise.nil
 | x::r=>zV8 O x _ (zMZ O r)
theorem zOE (O:zVK lt) (l:List α):(l.mergeSort fun x y=>!lt y x)=zTp lt l:=by
 refine List.Perm.eq_of_pairwise (le:=fun x y=>lt y x=false) (fun a b _ _ h1 h2=>?_) (zM5 O l) (zMZ O l) ((List.mergeSort_perm _ _).trans (zNO l).symm)
 rcases O.tri a b with h | h | h
 ·rw [h] at h2;cases h2
 ·exact h
 ·rw [h] at h1;cases h1
end
theorem zTf {l:List Int} (h:l.length<4294967296):z4q l=some (zTp yS l):=by
 unfold z4q
 rw [if_pos h,←zOE tG]
 have:(fun x y:Int=>decide (x≤y))=fun x y=>!yS y x:=by
  funext x y
  rw [Bool.eq_iff_iff];simp
 rw [this]
end
section
section
variable {α:Type} {l:List α} {i:Nat} {x:α}
theorem vF (h:l[i]?=some x):i<l.length:=(List.getElem?_eq_some_iff.1 h).1
theorem wS (h:l[i]?=some x):decide ((i:Int)<len l)=true:=by have:=vF h;simp [len];omega
theorem yU (l:List α):decide (((l.length:Nat):Int)<len l)=false:=by simp [len]
theorem wP (h:l[i]?=some x):zF l (i:Int)=some x:=by rw [xL];exact h
theorem wR (h:l[i]?=some x) (hl:l.length<4294967296):zS ((i:Int)+1)=((i+1:Nat):Int):=yM i (by have:=vF h;omega)
theorem zNG {j:Int} (h:zF l j=some x):∃ n:Nat,j=(n:Int)∧l[n]?=some x:=by
 unfold zF at h
 split at h
 ·rename_i h0;exact ⟨j.toNat,by omega,h⟩
 ·cases h
theorem zIg {j:Int} (h0:0≤j) (h1:j<l.length):∃ x,zF l j=some x:=by obtain ⟨x,h,_⟩:=zRE h0 h1;exact ⟨x,h⟩
theorem xA (h:l[i]?=some x):l.take (i+1)=l.take i++[x]:=by rw [List.take_add_one,h];rfl
theorem wZ (h:l[i]?=some x):x∈l:=List.mem_of_getElem? h
end
section
variable {α σ ρ:Type}
theorem zDz {B:σ×Int->Option ((σ×Int)⊕ρ)} (l:List α) (f:σ->α->σ) (fin:σ->ρ) (I:Nat->σ->Prop) (s:σ) (h0:I 0 s)
  (hB:∀ (i:Nat) x s,l[i]?=some x->I i s->B (s,(i:Int))=some (.inl (f s x,((i+1:Nat):Int)))∧I (i+1) (f s x))
  (he:∀ s,I l.length s->B (s,(l.length:Int))=some (.inr (fin s))):zU B (s,0)=some (fin (l.foldl f s))∧I l.length (l.foldl f s):=by
 have key:∀ (n i:Nat) (s:σ),i+n=l.length->I i s->zU B (s,(i:Int))=some (fin ((l.drop i).foldl f s))∧I l.length ((l.drop i).foldl f s):=by
  intro n
  induction n with
  | zero =>
   intro i s h hI
   rw [Nat.add_zero] at h
   subst h
   rw [yF,he s hI,List.drop_length]
   exact ⟨rfl,hI⟩
  | succ n ih =>
   intro i s h hI
   have hx:l[i]?=some l[i]:=List.getElem?_eq_getElem (by omega)
   obtain ⟨h1,h2⟩:=hB i _ s hx hI
   rw [yF,h1,List.drop_eq_getElem_cons (by omega)]
   exact ih (i+1) _ (by omega) h2
 have:=key l.length 0 s (by omega) h0
 simpa using this
theorem zVo {B:σ×Int->Option ((σ×Int)⊕ρ)} (l:List α) (f:σ->α->σ) (fin:σ->ρ) (k:Nat) (hk:k≤l.length) (s:σ)
  (hB:∀ (i:Nat) x s,l[i]?=some x->B (s,(i:Int))=some (.inl (f s x,((i+1:Nat):Int))))
  (he:∀ s,B (s,(l.length:Int))=some (.inr (fin s))):zU B (s,(k:Int))=some (fin ((l.drop k).foldl f s)):=by
 have key:∀ (n i:Nat) (s:σ),i+n=l.length->zU B (s,(i:Int))=some (fin ((l.drop i).foldl f s)):=by
  intro n
  induction n with
  | zero =>
   intro i s h
   rw [Nat.add_zero] at h
   subst h
   rw [yF,he s,List.drop_length]
   rfl
  | succ n ih =>
   intro i s h
   have hx:l[i]?=some l[i]:=List.getElem?_eq_getElem (by omega)
   rw [yF,hB i _ s hx,List.drop_eq_getElem_cons (by omega)]
   exact ih (i+1) _ (by omega)
 exact key (l.length-k) k s (by omega)
theorem zQC {B:Int×σ->Option ((Int×σ)⊕ρ)} (l:List α) (f:σ->α->σ) (fin:σ->ρ) (I:Nat->σ->Prop) (s:σ) (h0:I 0 s)
  (hB:∀ (i:Nat) x s,l[i]?=some x->I i s->B ((i:Int),s)=some (.inl (((i+1:Nat):Int),f s x))∧I (i+1) (f s x))
  (he:∀ s,I l.length s->B ((l.length:Int),s)=some (.inr (fin s))):zU B (0,s)=some (fin (l.foldl f s))∧I l.length (l.foldl f s):=by
 have key:∀ (n i:Nat) (s:σ),i+n=l.length->I i s->zU B ((i:Int),s)=some (fin ((l.drop i).foldl f s))∧I l.length ((l.drop i).foldl f s):=by
  intro n
  induction n with
  | zero =>
   intro i s h hI
   rw [Nat.add_zero] at h
   subst h
   rw [yF,he s hI,List.drop_length]
   exact ⟨rfl,hI⟩
  | succ n ih =>
   intro i s h hI
   have hx:l[i]?=some l[i]:=List.getElem?_eq_getElem (by omega)
   obtain ⟨h1,h2⟩:=hB i _ s hx hI
   rw [yF,h1,List.drop_eq_getElem_cons (by omega)]
   exact ih (i+1) _ (by omega) h2
 have:=key l.length 0 s (by omega) h0
 simpa using this
theorem zOq {B:Int->Option (Int⊕ρ)} (l:List α) (p:α->Bool) (yes no:ρ)
  (hB:∀ (i:Nat) x,l[i]?=some x->B (i:Int)=some (if p x then .inr yes else .inl ((i+1:Nat):Int))) (he:B (l.length:Int)=some (.inr no)) :
  zU B 0=some (if l.any p then yes else no):=by
 have key:∀ (n i:Nat),i+n=l.length->zU B (i:Int)=some (if (l.drop i).any p then yes else no):=by
  intro n
  induction n with
  | zero =>
   intro i h
   rw [Nat.add_zero] at h
   subst h
   rw [yF,he,List.drop_length]
   rfl
  | succ n ih =>
   intro i h
   have hx:l[i]?=some l[i]:=List.getElem?_eq_getElem (by omega)
   rw [yF,hB i _ hx,List.drop_eq_getElem_cons (by omega)]
   cases hp:p l[i] with
   | true=>simp only [if_true,List.any_cons,hp,Bool.true_or]
   | false =>
    simp only [zbf,if_false,List.any_cons,hp,Bool.false_or]
    exact ih (i+1) (by omega)
 have:=key l.length 0 (by omega)
 simpa using this
theorem zWF {B:Int->Option (Int⊕Bool)} (l:List α) (p:α->Bool) (hB:∀ (i:Nat) x,l[i]?=some x->B (i:Int)=some (if p x then .inr true else .inl ((i+1:Nat):Int))) (he:B (l.length:Int)=some (.inr false)) :
  zU B 0=some (l.any p):=by
 rw [zOq l p true false hB he]
 cases l.any p <;> rfl
end
theorem zGj {α β:Type} (p:α->Bool) (g:α->β):∀ (l:List α) (acc:List β),l.foldl (fun s x=>if p x then s++[g x] else s) acc=acc++(l.filter p).map g
 | [],acc=>by simp
 | x::l,acc=>by
  simp only [List.foldl_cons,zGj p g l]
  cases hp:p x <;> simp [hp]
theorem zJ8 {α β:Type} (g:α->β):∀ (l:List α) (acc:List β),l.foldl (fun s x=>s++[g x]) acc=acc++l.map g
 | [],acc=>by simp
 | x::l,acc=>by simp only [List.foldl_cons,zJ8 g l];simp
theorem zHA {α β:Type} (g:α->List β):∀ (l:List α) (acc:List β),l.foldl (fun s x=>s++g x) acc=acc++l.flatMap g
 | [],acc=>by simp
 | x::l,acc=>by simp only [List.foldl_cons,zHA g l];simp
theorem z0d {l r:List Int} (h:r.Perm l) (hs:r.Pairwise (fun x y=>yS y x=false)):tS r=xM yS l:=by
 obtain ⟨h1,h2⟩:=zXm tG hs
 exact (zZz tG h1 (fun x=>by rw [h2];exact h.mem_iff)).symm
end
section
def wW (n:Nat):List Int:=(List.range n).map Int.ofNat
theorem tE (n:Nat):(wW n).length=n:=by simp [wW]
theorem zQY {n i:Nat} {x:Int} (h:(wW n)[i]?=some x):x=(i:Int)∧i<n:=by
 have h1:=vF h
 rw [tE] at h1
 simp only [wW,List.getElem?_map,List.getElem?_range h1,Option.map_some,Option.some.injEq] at h
 exact ⟨h.symm,h1⟩
theorem xJ {n:Nat} {x:Int}:x∈wW n↔0≤x∧x<n:=by
 simp only [wW,List.mem_map,List.mem_range]
 exact ⟨fun ⟨a,h1,h2⟩=>by subst h2;simp;omega,fun h=>⟨x.toNat,by omega,by simp;omega⟩⟩
theorem zKO (n:Nat):vZ yS (wW n):=by
 rw [wW,vZ,List.pairwise_map]
 exact List.pairwise_lt_range.imp fun {a b} h=>by simp;omega
theorem zMF {α β ρ:Type} {B:List β×Int->Option ((List β×Int)⊕ρ)} (l:List α) (g:α->List β) (fin:List β->ρ) (c:Nat) (hg:∀ x∈l,(g x).length≤c) (acc:List β)
  (hB:∀ (i:Nat) x s,l[i]?=some x->s.length≤acc.length+c*i->B (s,(i:Int))=some (.inl (s++g x,((i+1:Nat):Int))))
  (he:∀ s,B (s,(l.length:Int))=some (.inr (fin s))):zU B (acc,0)=some (fin (acc++l.flatMap g)):=by
 have h:=zDz (B:=B) l (fun s x=>s++g x) fin (fun i s=>s.length≤acc.length+c*i) acc (by simp) (fun i x s hx hI=>⟨hB i x s hx hI,by
  have:=hg x (wZ hx)
  rw [List.length_append,Nat.mul_add];omega⟩) (fun s _=>he s)
 rw [zHA] at h
 exact h.1
theorem zOA {α β:Type} (g:α->List β) (c:Nat):∀ (l:List α),(∀ x∈l,(g x).length≤c)->(l.flatMap g).length≤l.length*c
 | [],_=>by simp
 | x::l,h=>by
  have h1:=zOA g c l fun y hy=>h y (List.mem_cons_of_mem _ hy)
  have h2:=h x List.mem_cons_self
  simp only [List.flatMap_cons,List.length_append,List.length_cons,Nat.add_mul,Nat.one_mul]
  omega
theorem zU1 {α β:Type} (p:α->Bool) (g:α->List β) (l:List α):(l.filter p).flatMap g=l.flatMap fun x=>if p x then g x else []:=by
 induction l with
 | nil=>rfl
 | cons x l ih =>
  rw [List.filter_cons,List.flatMap_cons]
  cases hp:p x with
  | true=>simp [ih]
  | false=>simp [ih]
section
variable {α:Type}
noncomputable def zSJ (p:α->Option Bool) (y0:List α) (s1:Int):Option (Int⊕Int) :=
 if decide (s1<(len y0)) then
  (zF y0 s1).bind fun x1 =>
  (p x1).bind fun r1 =>
  if r1 then
   some (.inr s1)
  else
   some (.inl (zS (s1+1)))
 else
  some (.inr (-1))
theorem zYU (p:α->Option Bool) (q:α->Bool) (l:List α) (hb:l.length<4294967296) (hp:∀ x∈l,p x=some (q x)) :
  (l.any q=false∧zU (zSJ p l) 0=some (-1))∨∃ (k:Nat) (x:α),zU (zSJ p l) 0=some (k:Int)∧l[k]?=some x∧q x=true∧∀ j y,j<k->l[j]?=some y->q y=false:=by
 have h:=uW (B:=zSJ p l) (fun i (_:Unit)=>(i:Int)) l (fun i _=>∀ j y,j<i->l[j]?=some y->q y=false)
  (fun r=>(l.any q=false∧r=-1)∨∃ (k:Nat) (x:α),r=(k:Int)∧l[k]?=some x∧q x=true∧∀ j y,j<k->l[j]?=some y->q y=false) ?_ ?_ () (by omega)
 ·obtain ⟨r,h1,⟨h2,rfl⟩ | ⟨k,x,rfl,h2⟩⟩:=h
  ·exact .inl ⟨h2,h1⟩
  ·exact .inr ⟨k,x,h1,h2⟩
 ·intro i x s hx hI
  unfold zSJ
  simp only [wS hx,if_true,wP hx,zob,hp x (wZ hx)]
  cases hq:q x with
  | true=>exact .inr ⟨_,by simp only [if_true],.inr ⟨i,x,rfl,hx,hq,hI⟩⟩
  | false =>
   refine .inl ⟨(),by simp only [zbf,if_false,wR hx hb],fun j y hj hy=>?_⟩
   rcases Nat.lt_succ_iff_lt_or_eq.1 hj with h | rfl
   ·exact hI j y h hy
   ·rw [hx] at hy;cases hy;exact hq
 ·intro s hI
  unfold zSJ
  refine ⟨-1,by simp only [yU,zbf,if_false],.inl ⟨?_,rfl⟩⟩
  rw [List.any_eq_false]
  intro x hx
  obtain ⟨j,hj⟩:=List.mem_iff_getElem?.1 hx
  simp [hI j x (vF hj) hj]
noncomputable def zT1 (p:α->Option Bool) (y0:List α) (s2:(List α)×Int×Int):Option (((List α)×Int×Int)⊕((List α)×Int)) :=
 if decide (s2.2.2<(len y0)) then
  (zF s2.1 s2.2.2).bind fun x1 =>
  (p x1).bind fun r2 =>
  if !r2 then
   (zF s2.1 s2.2.1).bind fun _ =>
   some (.inl (List.set s2.1 (Int.toNat s2.2.1) x1,zS (s2.2.1+1),zS (s2.2.2+1)))
  else
   some (.inl (s2.1,s2.2.1,zS (s2.2.2+1)))
 else
  some (.inr (s2.1,s2.2.1))
noncomputable def zWc (p:α->Option Bool) (z:α) (y0:List α):Option (List α) :=
 (zU (zSJ p y0) 0).bind fun r1 =>
 if r1==(-1) then
  some y0
 else
  (zU (zT1 p y0) (y0,r1,zS (r1+1)):Option ((List α)×Int)).bind fun s1 =>
  (yC (decide (0≤s1.2)&&decide (s1.2≤len s1.1))).bind fun _ =>
  (sub (zDI s1.1 s1.2 z) 0 s1.2).bind fun x3 =>
  some x3
theorem zWE (p:α->Option Bool) (q:α->Bool) (z:α) (l:List α) (hb:l.length<4294967296) (hp:∀ x∈l,p x=some (q x)):zWc p z l=some (l.filter fun x=>!q x):=by
 unfold zWc
 rcases zYU p q l hb hp with ⟨h1,h2⟩ | ⟨k,x,h1,h2,h3,h4⟩
 ·rw [h2]
  simp only [zob,beq_self_eq_true,if_true]
  congr 1
  symm
  rw [List.filter_eq_self]
  intro y hy
  have:=List.any_eq_false.1 h1 y hy
  simpa using this
 ·rw [h1]
  have hne:((k:Int)==-1)=false:=beq_eq_false_iff_ne.2 (by omega)
  have hkl:=vF h2
  simp only [zob,hne,zbf,if_false,yM k (by omega)]
  have key:∀ n i j (c:List α),i+n=l.length->j<i->c.length=l.length->(∀ u,i≤u->c[u]?=l[u]?)->c.take j=(l.take i).filter (fun x=>!q x)->
    ∃ c' j',zU (zT1 p l) (c,(j:Int),(i:Int))=some (c',((j':Nat):Int))∧c'.length=l.length∧j'≤l.length∧c'.take j'=l.filter fun x=>!q x:=by
   intro n
   induction n with
   | zero =>
    intro i j c hn hj hc hs ht
    rw [Nat.add_zero] at hn
    subst hn
    rw [List.take_length] at ht
    refine ⟨c,j,?_,hc,by omega,ht⟩
    rw [yF]
    unfold zT1
    simp only [yU,zbf,if_false]
   | succ n ih =>
    intro i j c hn hj hc hs ht
    have hx:l[i]?=some l[i]:=List.getElem?_eq_getElem (by omega)
    have hcx:zF c (i:Int)=some l[i]:=by rw [xL,hs i (Nat.le_refl _)];exact hx
    rw [yF]
    unfold zT1
    simp only [wS hx,if_true,hcx,zob,hp _ (wZ hx)]
    cases hq:q l[i] with
    | true =>
     simp only [Bool.not_true,zbf,if_false,wR hx hb]
     refine ih (i+1) j c (by omega) (by omega) hc (fun u hu=>hs u (by omega)) ?_
     rw [xA hx,List.filter_append,ht]
     simp [hq]
    | false =>
     have hcj:zF c (j:Int)=some c[j]:=by rw [xL];exact List.getElem?_eq_getElem (by omega)
     simp only [Bool.not_false,if_true,hcj,zob,wR hx hb,Int.toNat_natCast]
     rw [yM j (by omega)]
     refine ih (i+1) (j+1) (c.set j l[i]) (by omega) (by omega) (by simp [hc]) (fun u hu=>?_) ?_
     ·rw [List.getElem?_set_ne (by omega)];exact hs u (by omega)
     ·rw [xA hx,List.filter_append,←ht,List.take_add_one,List.getElem?_set_self (by omega),List.take_set_of_le (Nat.le_refl _)]
      simp [hq]
  obtain ⟨c,j,e1,e2,e3,e4⟩:=key (l.length-(k+1)) (k+1) k l (by omega) (by omega) rfl (fun u _=>rfl) (by
   rw [xA h2,List.filter_append]
   have:(l.take k).filter (fun x=>!q x)=l.take k:=by
    rw [List.filter_eq_self]
    intro y hy
    obtain ⟨u,hu⟩:=List.mem_iff_getElem?.1 hy
    rw [List.getElem?_take] at hu
    split at hu
    ·rename_i huk;simp [h4 u y huk hu]
    ·cases hu
   simp [this,h3])
  rw [e1]
  have hc1:(decide (0≤((j:Nat):Int))&&decide (((j:Nat):Int)≤len c))=true:=by simp [len];omega
  simp only [zob,hc1,yC,if_true]
  rw [zOO (by omega) (by rw [zIs,e2];omega)]
  simp only [zob,Int.toNat_natCast,zDI,e4]
  have hdl:(l.filter fun x=>!q x).length=j:=by rw [←e4,List.length_take];omega
  rw [←hdl,List.take_left]
end
end
section
theorem zPW (x y:Int):zBf x y=some (zY2 x y):=by
 unfold zBf zY2
 by_cases h1:x<y
 ·simp [zHd,h1]
 ·by_cases h2:y<x <;> simp [zHd,h1,h2]
theorem z1f (l:List Int) (hb:l.length<9223372036854775807):zHc l=some (orF l):=z4a l hb
abbrev xY:wD->wD->Bool:=zXb yS yS
abbrev lt4:wV->wV->Bool:=zXb yS (zXb yS (zXb yS yS))
theorem z3m:zVK xY:=zVz tG tG
theorem z6u:zVK lt4:=zVz tG (zVz tG (zVz tG tG))
theorem z2E (x y:wD):zE2 x y=some (orF [zY2 x.1 y.1,zY2 x.2 y.2]):=by
 unfold zE2
 rw [zPW,zPW]
 simp only [zob]
 rw [z1f _ (by simp)]
 rfl
theorem zXE (x y:wV):zD5 x y=some (orF [zY2 x.1 y.1,zY2 x.2.1 y.2.1,zY2 x.2.2.1 y.2.2.1,zY2 x.2.2.2 y.2.2.2]):=by
 unfold zD5
 rw [zPW,zPW,zPW,zPW]
 simp only [zob]
 rw [z1f _ (by simp)]
 rfl
theorem zQ7 {x y:Int} {r:List Int} {b:Bool} (h:decide (orF r<0)=b):decide (orF (zY2 x y::r)<0)=(yS x y||(x==y&&b)):=by
 unfold orF zY2
 by_cases h1:x<y
 ·simp [h1]
 ·by_cases h2:y<x
  ·have h3:(x==y)=false:=by simp;omega
   simp [h1,h2,h3]
  ·have h3:x=y:=by omega
   subst h3
   simp [h]
theorem z10 (x y:wD):uK zE2 x y=xY x y:=by
 simp only [uK,z2E,Option.getD_some]
 exact zQ7 (by rw [zQ7 (r:=[]) (b:=false) (by simp [orF])];simp)
theorem zXs (x y:wV):uK zD5 x y=lt4 x y:=by
 simp only [uK,zXE,Option.getD_some]
 exact zQ7 (zQ7 (zQ7 (by rw [zQ7 (r:=[]) (b:=false) (by simp [orF])];simp)))
theorem zVl {l:List wD} (hl:l.length<4294967296):zBE l=some (l.mergeSort fun x y=>!xY y x) :=
 zVu z3m (fun x y=>⟨_,z2E x y⟩) z10 hl
theorem zWi {l:List wD} (hl:l.length<9223372036854775807):zDL l=some (tS l):=zNl (0,0) l hl
theorem zSp {l:List wV} (hl:l.length<4294967296):zAc l=some (l.mergeSort fun x y=>!lt4 y x) :=
 zVu z6u (fun x y=>⟨_,zXE x y⟩) zXs hl
def z1Y (n:Int) (a:wV):Bool:=decide (a.1<0)||decide (n≤a.1)||decide (a.2.1<0)||decide (n≤a.2.1)
def zHk (l:List wV):List wD:=l.map fun a=>(a.1,a.2.1)
def zTr (n:Int) (l:List wV):wJ×Int :=
 if decide (n<0)||decide (40<n) then ((0,[]),1) else if l.any (z1Y n) then ((0,[]),1) else ((n,xM xY (zHk l)),0)
theorem z04 (n:Int) (x:wV):(decide ((if x.2.1<x.1 then x.2.1 else x.1)<0)||decide (n≤(if x.2.1 > x.1 then x.2.1 else x.1)))=z1Y n x:=by
 rw [Bool.eq_iff_iff]
 simp only [z1Y,Bool.or_eq_true,decide_eq_true_eq]
 split <;> split <;> omega
theorem zVv {α:Type} {l:List α} {i:Nat} {x:α} (p:α->Bool) (hx:l[i]?=some x):(l.take (i+1)).any p=((l.take i).any p||p x):=by
 rw [List.take_add_one,hx];simp
theorem zZS (n:Int) (l:List wV) (hl:l.length<4294967000) :
  zU (zF9 l n) (0,[])=some (if l.any (z1Y n) then .inr ((0,[]),1) else .inl (zHk l)):=by
 have h:=uW (B:=zF9 l n) (fun i (s:List wD)=>((i:Int),s)) l (fun i s=>s=zHk (l.take i)∧(l.take i).any (z1Y n)=false)
  (fun r=>r=if l.any (z1Y n) then .inr ((0,[]),1) else .inl (zHk l)) ?_ ?_ [] (by simp [zHk])
 ·obtain ⟨r,h1,rfl⟩:=h;exact h1
 ·rintro i x s hx ⟨rfl,hI⟩
  have hi:=(List.getElem?_eq_some_iff.1 hx).1
  unfold zF9
  have hlt:decide ((i:Int)<len l)=true:=by simp [len];omega
  simp only [hlt,if_true,xL,hx,zob,z04]
  cases hb:z1Y n x with
  | true =>
   refine .inr ⟨_,by simp;rfl,?_⟩
   have:l.any (z1Y n)=true:=List.any_eq_true.2 ⟨x,List.mem_of_getElem? hx,hb⟩
   simp [this]
  | false =>
   refine .inl ⟨zHk (l.take (i+1)),?_,rfl,by rw [zVv _ hx,hI,hb];rfl⟩
   have hp:zHk (l.take (i+1))=zHk (l.take i)++[(x.1,x.2.1)]:=by unfold zHk;rw [List.take_add_one,hx];simp
   rw [vY (by simp [zHk];omega)]
   simp [hp,yM i (by omega)]
 ·rintro s ⟨rfl,hI⟩
  unfold zF9
  rw [List.take_length] at hI
  simp [hI,len]
theorem zSn (n:Int) (l:List wV) (hl:l.length<4294967000):zFC n l=some (zTr n l):=by
 unfold zFC zTr
 cases h0:(decide (n<0)||decide (40<n)) with
 | true=>simp
 | false =>
  simp only [zbf,if_false]
  rw [zZS n l hl]
  cases hb:l.any (z1Y n) with
  | true=>simp [yD]
  | false =>
   have hlen:(zHk l).length<4294967296:=by simp [zHk];omega
   simp only [zbf,if_false,yD,zob]
   rw [zVl hlen]
   simp only [zob]
   rw [zWi (by simp [zHk];omega)]
   rfl
end
section
theorem zJI:∀ a:qD,uN a a=false
 | []=>rfl
 | a::x=>by simp [uN,zJI x,UInt8.lt_irrefl]
theorem zUC:∀ {a b c:qD},uN a b=true->uN b c=true->uN a c=true
 | _,_,[],_,h=>by simp [uN] at h
 | _,[],_::_,h,_=>by simp [uN] at h
 | [],_::_,_::_,_,_=>rfl
 | a::x,b::y,c::z,h1,h2=>by
  simp only [uN,Bool.or_eq_true,decide_eq_true_eq,Bool.and_eq_true,beq_iff_eq] at *
  rcases h1 with h1 | ⟨rfl,h1⟩ <;> rcases h2 with h2 | ⟨rfl,h2⟩
  ·exact .inl (UInt8.lt_trans h1 h2)
  ·exact .inl h1
  ·exact .inl h2
  ·exact .inr ⟨rfl,zUC h1 h2⟩
theorem zXi:∀ a b:qD,uN a b=true∨a=b∨uN b a=true
 | [],[]=>.inr (.inl rfl)
 | [],_::_=>.inl rfl
 | _::_,[]=>.inr (.inr rfl)
 | a::x,b::y=>by
  simp only [uN,Bool.or_eq_true,decide_eq_true_eq,Bool.and_eq_true,beq_iff_eq,List.cons.injEq]
  rcases UInt8.lt_or_lt_of_ne (a:=a) (b:=b) |> fun f=>(Classical.em (a=b)).imp id f with rfl | h | h
  ·rcases zXi x y with h | rfl | h
   ·exact .inl (.inr ⟨rfl,h⟩)
   ·exact .inr (.inl ⟨rfl,rfl⟩)
   ·exact .inr (.inr (.inr ⟨rfl,h⟩))
  ·exact .inl (.inl h)
  ·exact .inr (.inr (.inl h))
theorem z0w (a b:qD):zFU a b=some (if uN a b then -1 else if a=b then 0 else 1):=by
 have hn:∀ x:qD,zEb x=some false:=fun x=>by simp [zEb]
 simp only [zFU,hn,zob,zbf,if_false]
 by_cases h1:uN a b=true
 ·simp [h1]
 ·by_cases h2:a=b
  ·simp [h2,zJI]
  ·simp [h1,h2]
def loB (b:UInt8):Bool:=decide (97≤(b.toNat:Int))&&decide ((b.toNat:Int)≤122)
def okB (b:UInt8):Bool:=loB b||(if decide (48≤(b.toNat:Int)) then decide ((b.toNat:Int)≤57)||(b.toNat:Int)==95 else (b.toNat:Int)==95)
def vName:qD->Bool
 | []=>false
 | c::r=>decide (r.length+1≤12)&&loB c&&r.all okB
theorem zTk (s:qD):zBq s=some (vName s):=by
 unfold zBq
 cases s with
 | nil=>rfl
 | cons c r =>
  have h0:((len (c::r))==0)=false:=by rw [beq_eq_false_iff_ne];simp [len];omega
  by_cases hl:r.length+1≤12
  ·have h1:decide (12<len (c::r))=false:=by simp [len];omega
   rw [h0,h1]
   simp only [Bool.or_self,zbf,if_false]
   have h:=zQB (B:=zET (c::r)) (fun i (_:Unit)=>(i:Int)) (c::r)
    (fun i _ b=>some (if loB b then .inl () else if decide (0<(i:Int))&&okB b then .inl () else .inr false)) (fun _=>some true) ?_ ?_ ()
   ·rw [show ((0:Nat):Int)=0 from rfl] at h
    rw [h]
    have key:∀ (l:List UInt8) (i:Nat),0<i->zVy (fun (i:Nat) (_:Unit) (b:UInt8)=>some (if loB b then .inl () else if decide (0<(i:Int))&&okB b then .inl () else .inr false)) (fun _=>some true) i l ()=some (l.all okB):=by
     intro l
     induction l with
     | nil=>intro i _;rfl
     | cons b l ih =>
      intro i hi
      have hd:decide (0<(i:Int))=true:=by simp;omega
      by_cases hb:okB b=true
      ·by_cases hlo:loB b=true
       ·simp only [zVy,hlo,if_true];rw [ih (i+1) (by omega)];simp [hb]
       ·simp only [zVy,hlo,if_false,hd,hb,Bool.and_self,if_true,zbf];rw [ih (i+1) (by omega)];simp [hb]
      ·have hlo:¬ loB b=true:=fun h=>hb (by simp [okB,h])
       simp [zVy,hlo,hb]
    by_cases hlo:loB c=true
    ·simp only [zVy,hlo,if_true]
     rw [key r 1 (by omega)]
     simp [vName,hlo,hl]
    ·simp [zVy,hlo,vName]
   ·intro i x s hx
    have hi:=(List.getElem?_eq_some_iff.1 hx).1
    have hlt:decide ((i:Int)<len (c::r))=true:=by simp [len] at hi ⊢;omega
    unfold zET
    rw [z0H,hx,yM i (by simp at hi;omega)]
    simp only [hlt,if_true,Option.map_some,zob]
    by_cases hlo:loB x=true
    ·have hlo':=hlo
     unfold loB at hlo'
     simp only [hlo',if_true,hlo]
    ·have hlo':=hlo
     unfold loB at hlo'
     simp only [hlo',if_false,hlo,zbf]
     by_cases hc:(decide (0<(i:Int))&&okB x)=true
     ·have hc':=hc
      unfold okB at hc'
      simp only [hlo,Bool.false_or] at hc'
      simp only [hc',if_true,hc]
     ·have hc':=hc
      unfold okB at hc'
      simp only [hlo,Bool.false_or] at hc'
      simp only [hc',if_false,hc,zbf]
   ·intro s
    unfold zET
    simp [len]
  ·have h1:decide (12<len (c::r))=true:=by simp [len];omega
   rw [h1]
   simp [vName,hl]
theorem zOK (s:qD):zCy s=some (vName s):=by
 unfold zCy
 cases s with
 | nil=>rfl
 | cons c r =>
  have h0:decide ((len (c::r))<1)=false:=by simp [len];omega
  have hs0:tW (c::r) 0=some (c.toNat:Int):=rfl
  rw [h0]
  by_cases hl:r.length+1≤12
  ·have h1:decide (12<len (c::r))=false:=by simp [len];omega
   rw [h1]
   simp only [zbf,if_false,hs0,zob]
   by_cases hlo:loB c=true
   ·have ha:decide ((c.toNat:Int)<97)=false:=by simp [loB] at hlo ⊢;omega
    have hb:decide (122<(c.toNat:Int))=false:=by simp [loB] at hlo ⊢;omega
    simp only [ha,hb,zbf,if_false,zob]
    have h:=zQB (B:=zFQ (c::r)) (fun i (_:Unit)=>(i:Int)) (c::r)
     (fun _ _ b=>some (if okB b then .inl () else .inr false)) (fun _=>some true) ?_ ?_ ()
    ·rw [show ((0:Nat):Int)=0 from rfl] at h
     rw [h]
     have key:∀ (l:List UInt8) (i:Nat),zVy (fun (_:Nat) (_:Unit) (b:UInt8)=>some (if okB b then .inl () else .inr false)) (fun _=>some true) i l ()=some (l.all okB):=by
      intro l
      induction l with
      | nil=>intro i;rfl
      | cons b l ih =>
       intro i
       by_cases hb:okB b=true
       ·simp only [zVy,hb,if_true];rw [ih (i+1)];simp [hb]
       ·simp [zVy,hb]
     rw [key]
     simp [vName,hlo,hl,okB]
    ·intro i x s hx
     have hi:=(List.getElem?_eq_some_iff.1 hx).1
     have hlt:decide ((i:Int)<len (c::r))=true:=by simp [len] at hi ⊢;omega
     unfold zFQ
     rw [z0H,hx,yM i (by simp at hi;omega)]
     simp only [hlt,if_true,Option.map_some,zob]
     have hok:okB x=!(if decide ((x.toNat:Int)<97) then (if decide ((x.toNat:Int)<48) then ((x.toNat:Int) != 95) else if decide (57<(x.toNat:Int)) then ((x.toNat:Int) != 95) else false)
       else if decide (122<(x.toNat:Int)) then (if decide ((x.toNat:Int)<48) then ((x.toNat:Int) != 95) else if decide (57<(x.toNat:Int)) then ((x.toNat:Int) != 95) else false) else false):=by
      unfold okB loB
      generalize (x.toNat:Int)=n
      rw [Bool.eq_iff_iff]
      simp
      constructor
      ·intro h
       by_cases h1:n<97 <;> by_cases h2:n<48 <;> by_cases h3:57<n <;> by_cases h4:122<n <;> simp [h1,h2,h3,h4] <;> (split at h <;> (try simp at h) <;> omega)
      ·intro h
       by_cases h1:n<97 <;> by_cases h2:n<48 <;> by_cases h3:57<n <;> by_cases h4:122<n <;> simp [h1,h2,h3,h4] at h <;> (split <;> (try simp) <;> omega)
     rw [hok]
     cases decide ((x.toNat:Int)<97) <;> cases decide ((x.toNat:Int)<48) <;> cases decide (57<(x.toNat:Int)) <;> cases decide (122<(x.toNat:Int)) <;> cases ((x.toNat:Int) != 95) <;> rfl
    ·intro s
     unfold zFQ
     simp [len]
   ·have hor:(decide ((c.toNat:Int)<97)||decide (122<(c.toNat:Int)))=true:=by simp [loB] at hlo ⊢;omega
    have hv:vName (c::r)=false:=by simp [vName,hlo]
    rw [hv]
    cases h1:decide ((c.toNat:Int)<97) with
    | true=>rfl
    | false=>rw [h1] at hor;simp only [Bool.false_or] at hor;simp only [zbf,if_false,hor,zob,if_true]
  ·have h1:decide (12<len (c::r))=true:=by simp [len];omega
   rw [h1]
   simp [vName,hl]
theorem zRe (x:zG):zCI x=some (vName x.2):=by simp [zCI,zTk]
theorem zRu (x:zG):zEn x=some (vName x.2):=by simp [zEn,zOK]
def vH (a b:zG):Bool:=uN a.2 b.2||(a.2==b.2&&(!a.1&&b.1))
def zOW (a b:zG):Int:=if vH a b then -1 else if a=b then 0 else 1
theorem zSl (a:zG):vH a a=false:=by simp [vH,zJI]
theorem zLv {a b c:zG} (h1:vH a b=true) (h2:vH b c=true):vH a c=true:=by
 obtain ⟨g,a⟩:=a;obtain ⟨g',b⟩:=b;obtain ⟨g'',c⟩:=c
 simp only [vH,Bool.or_eq_true,Bool.and_eq_true,beq_iff_eq,Bool.not_eq_true'] at *
 rcases h1 with h1 | ⟨rfl,h1,h1'⟩ <;> rcases h2 with h2 | ⟨rfl,h2,h2'⟩
 ·exact .inl (zUC h1 h2)
 ·exact .inl h1
 ·exact .inl h2
 ·rw [h1'] at h2;cases h2
theorem zOt (a b:zG):vH a b=true∨a=b∨vH b a=true:=by
 obtain ⟨g,a⟩:=a;obtain ⟨g',b⟩:=b
 simp only [vH,Bool.or_eq_true,Bool.and_eq_true,beq_iff_eq,Bool.not_eq_true',Prod.mk.injEq]
 rcases zXi a b with h | rfl | h
 ·exact .inl (.inl h)
 ·cases g <;> cases g' <;> simp
 ·exact .inr (.inr (.inl h))
theorem zNu (a b:zG):zCR a b=some (zOW a b):=by
 obtain ⟨g,a⟩:=a;obtain ⟨g',b⟩:=b
 unfold zCR zOW vH
 rw [z0w]
 by_cases h1:uN a b=true
 ·simp [h1]
 ·by_cases h2:a=b
  ·subst h2
   cases g <;> cases g' <;> simp [zJI]
  ·simp [h1,h2]
theorem zTv (a b:zG):zH7 a b=some (zOW a b):=by
 obtain ⟨g,a⟩:=a;obtain ⟨g',b⟩:=b
 unfold zH7 zOW vH
 by_cases h1:uN a b=true
 ·have h2:a≠b:=fun e=>by subst e;rw [zJI] at h1;cases h1
  simp [h1,h2]
 ·by_cases h2:a=b
  ·subst h2
   cases g <;> cases g' <;> simp [zJI]
  ·simp [h1,h2]
theorem z4v:OrdF zCR:=by
 have hlt:∀ x y,uK zCR x y=vH x y:=fun x y=>by
  simp only [uK,zNu,zOW,Option.getD_some]
  cases h:vH x y with
  | true=>simp
  | false=>by_cases he:x=y <;> simp [he]
 refine ⟨fun x y=>⟨_,zNu x y⟩,fun x=>by rw [hlt,zSl],fun x y z h1 h2=>?_,fun x y z h1 h2=>?_,fun x y h1 h2=>?_⟩
 ·rw [hlt] at *;exact zLv h1 h2
 ·rw [hlt] at *
  cases h3:vH x z with
  | false=>rfl
  | true =>
   rcases zOt x y with h | rfl | h
   ·rw [h] at h1;cases h1
   ·rw [h3] at h2;cases h2
   ·have:=zLv h h3;rw [this] at h2;cases h2
 ·rw [hlt] at *
  rcases zOt x y with h | h | h
  ·rw [h] at h1;cases h1
  ·exact h
  ·rw [h] at h2;cases h2
theorem z6E (x y:zG):uK zCR x y=vH x y:=by
 simp only [uK,zNu,zOW,Option.getD_some]
 cases h:vH x y with
 | true=>simp
 | false=>by_cases he:x=y <;> simp [he]
end
section
theorem zSN:zVK vH:=⟨zSl,fun _ _ _=>zLv,zOt⟩
theorem zX3 {l:List zG} (h:l.length<4294967296):zCu l=some l:=by
 simp [zCu,vY (l:=([]:List zG)) (m:=l) (by simpa using h)]
theorem zZy {l:List zG} (h:l.length<4294967296):zAR l=some (l.mergeSort fun x y=>!vH y x):=by
 simp only [zAR,zWf]
 rw [if_pos ⟨z4v,h⟩]
 simp only [z6E]
theorem zZ8 {l:List zG} (h:l.length<4294967296):zBy l=some (tS l) :=
 (show zBy l=zVs (false,[]) l from rfl).trans (zNl _ l (by omega))
theorem z0j {l:List zG} (h:l.length<4294967296):zDe l=some (xM vH l):=by
 simp only [zDe,zX3 h,zZy h,zob]
 rw [zZ8 (by simpa using h)]
 rfl
theorem zYr {l:List zG} (x:zG) (h:l.length<9223372036854775807):zDr l x=some (decide (x∈l)):=by
 obtain ⟨r,hr,hi⟩:=zUr l x h
 have e:zC0 l x=some r:=(show zC0 l x=z5S l x from rfl).trans hr
 simp only [zDr,zC5,e,zob]
 congr 1
 rw [decide_eq_decide,hi]
 simp
def xG (x:zG):zG:=(!x.1,x.2)
theorem zUw (x:zG):zDk x=some (xG x):=rfl
theorem zTe (x:zG):xG (xG x)=x:=by simp [xG]
def zND (l:List zG):Bool:=l.all fun x=>!decide (xG x∈l)
end
section
theorem zSR {l:List zG} (x:zG) (h:l.length<1073741824) (ha:vZ vH l):∃ r,zHB l x=some r∧vZ vH r∧(∀ y,y∈r↔y=x∨y∈l)∧r.length≤l.length+1:=by
 have hloop:∃ k,zU (zFj l x) 0=some k∧∃ n:Nat,k=n∧n≤l.length∧(∀ j y,j<n->l[j]?=some y->vH y x=true)∧∀ y,l[n]?=some y->vH y x=false:=by
  refine uW (B:=zFj l x) (fun i (_:Unit)=>(i:Int)) l (fun i _=>∀ j y,j<i->l[j]?=some y->vH y x=true) _ ?_ ?_ () (by simp)
  ·intro i y s hy hI
   have hi:=(List.getElem?_eq_some_iff.1 hy).1
   have hlt:decide ((i:Int)<len l)=true:=by simp [len];omega
   unfold zFj
   simp only [hlt,if_true,xL,hy,zob,zTv]
   cases hc:vH y x with
   | true =>
    refine .inl ⟨(),by simp [zOW,hc,yM i (by omega)],fun j z hj hz=>?_⟩
    rcases Nat.lt_succ_iff_lt_or_eq.1 hj with h | rfl
    ·exact hI j z h hz
    ·rw [hy] at hz;cases hz;exact hc
   | false =>
    refine .inr ⟨(i:Int),?_,i,rfl,by omega,hI,fun z hz=>by rw [hy] at hz;cases hz;exact hc⟩
    have:decide (zOW y x<0)=false:=by simp [zOW,hc];split <;> omega
    simp only [this,zbf,if_false]
  ·intro s hI
   refine ⟨(l.length:Int),by unfold zFj;simp [len],l.length,rfl,Nat.le_refl _,hI,fun y hy=>by simp at hy⟩
 obtain ⟨_,hk,n,rfl,hn,hlo,hhi⟩:=hloop
 unfold zHB
 rw [hk]
 simp only [zob]
 by_cases hx:l[n]?=some x
 ·have hlt:decide ((n:Int)<len l)=true:=by have:=(List.getElem?_eq_some_iff.1 hx).1;simp [len];omega
  refine ⟨l,by simp only [hlt,if_true,xL,hx,zob,beq_self_eq_true],ha,fun y=>⟨.inr,fun h=>?_⟩,by omega⟩
  rcases h with rfl | h
  ·exact List.mem_of_getElem? hx
  ·exact h
 ·have hcond:((if decide ((n:Int)<len l)=true then (zF l (n:Int)).bind fun x2=>some (x2==x) else some false:Option Bool))=some false:=by
   by_cases hlt:n<l.length
   ·have hy:l[n]?=some l[n]:=List.getElem?_eq_getElem hlt
    have h1:decide ((n:Int)<len l)=true:=by simp [len];omega
    have h2:(l[n]==x)=false:=beq_eq_false_iff_ne.2 (fun e=>hx (by rw [hy,e]))
    simp only [h1,if_true,xL,hy,zob,h2]
   ·have h1:decide ((n:Int)<len l)=false:=by simp [len];omega
    simp only [h1,zbf,if_false]
  rw [hcond]
  simp only [zob,zbf,if_false]
  rw [zOO (by omega) (by omega),z3W (by omega) (by omega)]
  simp only [zob,Int.toNat_natCast]
  rw [vY (by simp;omega)]
  simp only [zob,List.nil_append]
  rw [vY (by simp;omega)]
  simp only [zob]
  rw [vY (by simp;omega)]
  refine ⟨_,rfl,?_,fun y=>?_,by simp;omega⟩
  ·have hsplit:=List.take_append_drop n l
   rw [←hsplit] at ha
   obtain ⟨h1,h2,h3⟩:=List.pairwise_append.1 ha
   have hlow:∀ y∈l.take n,vH y x=true:=fun y hy=>by
    obtain ⟨j,hj⟩:=List.mem_iff_getElem?.1 hy
    rw [List.getElem?_take] at hj
    split at hj
    ·exact hlo j y ‹_› hj
    ·cases hj
   have hhigh:∀ y∈l.drop n,vH x y=true:=fun y hy=>by
    by_cases hlt:n<l.length
    ·have hfirst:vH x l[n]=true:=by
      rcases zOt x l[n] with h | h | h
      ·exact h
      ·exact absurd (by rw [List.getElem?_eq_getElem hlt,←h]) hx
      ·rw [hhi _ (List.getElem?_eq_getElem hlt)] at h;cases h
     rw [List.drop_eq_getElem_cons hlt] at hy h2
     rcases List.mem_cons.1 hy with rfl | hy
     ·exact hfirst
     ·exact zLv hfirst ((List.pairwise_cons.1 h2).1 y hy)
    ·rw [List.drop_of_length_le (by omega)] at hy;cases hy
   rw [List.append_assoc]
   refine List.pairwise_append.2 ⟨h1,List.pairwise_append.2 ⟨by simp,h2,fun a ha b hb=>?_⟩,fun a ha b hb=>?_⟩
   ·simp at ha;subst ha;exact hhigh b hb
   ·rcases List.mem_append.1 hb with hb | hb
    ·simp at hb;subst hb;exact hlow a ha
    ·exact h3 a ha b hb
  ·rw [List.mem_append,List.mem_append,List.mem_singleton]
   have:y∈l↔y∈l.take n∨y∈l.drop n:=by rw [←List.mem_append,List.take_append_drop]
   rw [this]
   constructor
   ·rintro ((h | h) | h)
    ·exact .inr (.inl h)
    ·exact .inl h
    ·exact .inr (.inr h)
   ·rintro (h | h | h)
    ·exact .inl (.inr h)
    ·exact .inl (.inl h)
    ·exact .inr h
theorem zVm {l:List zG} (h:l.length<1073741824):zKa l=some (xM vH l):=by
 have hh:=uW (B:=zIP l) (fun i (s:List zG)=>(s,(i:Int))) l (fun i s=>vZ vH s∧(∀ y,y∈s↔y∈l.take i)∧s.length≤i) (fun r=>r=xM vH l) ?_ ?_ [] ⟨by simp,by simp,Nat.le_refl _⟩
 ·obtain ⟨r,h1,rfl⟩:=hh;exact h1
 ·rintro i x s hx ⟨h1,h2,h3⟩
  have hi:=(List.getElem?_eq_some_iff.1 hx).1
  have hlt:decide ((i:Int)<len l)=true:=by simp [len];omega
  obtain ⟨r,hr,g1,g2,g3⟩:=zSR x (l:=s) (by omega) h1
  refine .inl ⟨r,?_,g1,fun y=>?_,by omega⟩
  ·unfold zIP
   simp only [hlt,if_true,xL,hx,zob,yM i (by omega),hr]
  ·rw [g2,List.take_add_one,hx,List.mem_append,h2]
   simp only [Option.toList_some,List.mem_singleton]
   exact or_comm
 ·rintro s ⟨h1,h2,_⟩
  refine ⟨s,by unfold zIP;simp [len],?_⟩
  rw [List.take_length] at h2
  exact (zZz zSN h1 h2).symm
theorem zWP {l:List zG} (x:zG) (h:l.length<9223372036854775807):zKS l x=some (decide (x∈l)):=by
 have hh:=uW (B:=zK1 l x) (fun i (_:Unit)=>(i:Int)) l (fun i _=>∀ j,j<i->l[j]?≠some x) (fun r=>r=decide (x∈l)) ?_ ?_ () (by simp)
 ·obtain ⟨r,h1,rfl⟩:=hh;exact h1
 ·intro i y s hy hI
  have hi:=(List.getElem?_eq_some_iff.1 hy).1
  have hlt:decide ((i:Int)<len l)=true:=by simp [len];omega
  unfold zK1
  simp only [hlt,if_true,xL,hy,zob]
  by_cases hxy:y=x
  ·subst hxy
   refine .inr ⟨true,by simp,?_⟩
   simp [List.mem_of_getElem? hy]
  ·refine .inl ⟨(),by simp [hxy,yM i (by omega)],fun j hj=>?_⟩
   rcases Nat.lt_succ_iff_lt_or_eq.1 hj with h | rfl
   ·exact hI j h
   ·rw [hy];simpa using hxy
 ·intro s hI
  refine ⟨false,by unfold zK1;simp [len],?_⟩
  symm
  rw [decide_eq_false_iff_not]
  intro hm
  obtain ⟨j,hj⟩:=List.mem_iff_getElem?.1 hm
  exact hI j (List.getElem?_eq_some_iff.1 hj).1 hj
theorem zVU {l:List zG} (h:l.length<9223372036854775807):zJW l=some (zND l):=by
 have hh:=uW (B:=zEf l) (fun i (_:Unit)=>(i:Int)) l (fun i _=>∀ j x,j<i->l[j]?=some x->xG x∉l) (fun r=>r=zND l) ?_ ?_ () (by simp)
 ·obtain ⟨r,h1,rfl⟩:=hh;exact h1
 ·intro i x s hx hI
  have hi:=(List.getElem?_eq_some_iff.1 hx).1
  have hlt:decide ((i:Int)<len l)=true:=by simp [len];omega
  unfold zEf
  simp only [hlt,if_true,xL,hx,zob,show ∀ z:zG,zD8 z=some (xG z) from fun _=>rfl,zWP _ h]
  by_cases hc:xG x∈l
  ·refine .inr ⟨false,by simp [hc],?_⟩
   symm
   rw [zND,List.all_eq_false]
   exact ⟨x,List.mem_of_getElem? hx,by simp [hc]⟩
  ·refine .inl ⟨(),by simp [hc,yM i (by omega)],fun j y hj hy=>?_⟩
   rcases Nat.lt_succ_iff_lt_or_eq.1 hj with h | rfl
   ·exact hI j y h hy
   ·rw [hx] at hy;cases hy;exact hc
 ·intro s hI
  refine ⟨true,by unfold zEf;simp [len],?_⟩
  symm
  rw [zND,List.all_eq_true]
  intro x hx
  obtain ⟨j,hj⟩:=List.mem_iff_getElem?.1 hx
  simpa using hI j x (List.getElem?_eq_some_iff.1 hj).1 hj
theorem z5B (l m:List zG) (h:l.length<9223372036854775807):zMc l m=some (decide (l=m)) :=
 (show zMc l m=z6d l m from rfl).trans (z06 l m h)
end
section
theorem z34 (l:List Int) (n:Int) (hl:l.length<4294967290):∃ k:Nat,zU (zF8 l n) 0=some (k:Int)∧k≤l.length∧(∀ j x,j<k->l[j]?=some x->x<n)∧∀ x,l[k]?=some x->n≤x:=by
 have h:=uW (B:=zF8 l n) (fun i (_:Unit)=>(i:Int)) l (fun i _=>∀ j x,j<i->l[j]?=some x->x<n)
  (fun r=>∃ k:Nat,r=(k:Int)∧k≤l.length∧(∀ j x,j<k->l[j]?=some x->x<n)∧∀ x,l[k]?=some x->n≤x) ?_ ?_ () (by omega)
 ·obtain ⟨r,h1,k,rfl,h2⟩:=h;exact ⟨k,h1,h2⟩
 ·intro i x s hx hI
  unfold zF8
  simp only [wS hx,if_true,wP hx,zob]
  by_cases hlt:x<n
  ·refine .inl ⟨(),by simp [hlt,wR hx (by omega)],fun j y hj hy=>?_⟩
   rcases Nat.lt_succ_iff_lt_or_eq.1 hj with h | rfl
   ·exact hI j y h hy
   ·rw [hx] at hy;cases hy;exact hlt
  ·exact .inr ⟨i,by simp [hlt],i,rfl,by have:=vF hx;omega,hI,fun y hy=>by rw [hx] at hy;cases hy;omega⟩
 ·intro s hI
  unfold zF8
  exact ⟨(l.length:Int),by simp [len],l.length,rfl,Nat.le_refl _,hI,fun x hx=>by simp at hx⟩
theorem zTj {l:List Int} (n:Int) (hl:l.length<4294967000) (ha:vZ yS l):∃ r,zIh l n=some r∧vZ yS r∧(∀ y,y∈r↔y=n∨y∈l)∧r.length≤l.length+1:=by
 obtain ⟨k,h1,h2,h3,h4⟩:=z34 l n (by omega)
 have hsplit:l=l.take k++l.drop k:=(List.take_append_drop k l).symm
 have hlo:∀ x∈l.take k,x<n:=fun x hx=>by
  obtain ⟨j,hj⟩:=List.mem_iff_getElem?.1 hx
  rw [List.getElem?_take] at hj
  split at hj
  ·rename_i hjk;exact h3 j x hjk hj
  ·cases hj
 have hhi:∀ x∈l.drop k,n≤x:=fun x hx=>by
  obtain ⟨j,hj⟩:=List.mem_iff_getElem?.1 hx
  rw [List.getElem?_drop] at hj
  cases j with
  | zero=>exact h4 x hj
  | succ j =>
   have hk:k<l.length:=by have:=vF hj;omega
   have h5:=h4 l[k] (List.getElem?_eq_getElem hk)
   have h6:=List.pairwise_iff_getElem.1 ha k (k+(j+1)) hk (vF hj) (by omega)
   rw [List.getElem?_eq_getElem (vF hj)] at hj
   have hj:=Option.some.inj hj
   simp at h6;omega
 unfold zIh
 rw [h1]
 simp only [zob]
 by_cases he:∃ x,l[k]?=some x∧x=n
 ·obtain ⟨x,hx,rfl⟩:=he
  refine ⟨l,by simp only [wS hx,if_true,wP hx,zob,beq_self_eq_true],ha,fun y=>⟨.inr,fun h=>by rcases h with rfl | h;exact wZ hx;exact h⟩,by omega⟩
 ·have hc:(if decide ((k:Int)<len l)=true then (zF l (k:Int)).bind fun x2=>some (x2==n) else some false)=some false:=by
   by_cases hk:k<l.length
   ·have hx:l[k]?=some l[k]:=List.getElem?_eq_getElem hk
    simp only [wS hx,if_true,wP hx,zob]
    congr 1
    rw [beq_eq_false_iff_ne]
    exact fun e=>he ⟨_,hx,e⟩
   ·have:decide ((k:Int)<len l)=false:=by simp [len];omega
    simp only [this,zbf,if_false]
  rw [hc]
  simp only [zob,zbf,if_false]
  rw [zOO (by omega) (by omega),z3W (by omega) (by omega)]
  simp only [zob,Int.toNat_natCast]
  have l1:(l.take k).length=k:=by simp;omega
  have l2:(l.drop k).length=l.length-k:=by simp
  rw [vY (by simp;omega)]
  simp only [zob,List.nil_append]
  rw [vY (by simp;omega)]
  simp only [zob]
  rw [vY (by simp;omega)]
  refine ⟨_,rfl,?_,fun y=>?_,by simp;omega⟩
  ·rw [List.append_assoc]
   refine List.pairwise_append.2 ⟨ha.sublist (List.take_sublist k l),?_,fun x hx y hy=>?_⟩
   ·refine List.pairwise_append.2 ⟨by simp,ha.sublist (List.drop_sublist k l),fun x hx y hy=>?_⟩
    simp only [List.mem_singleton] at hx
    subst hx
    have h5:=hhi y hy
    have h6:y≠x:=fun e=>by
     subst e
     obtain ⟨j,hj⟩:=List.mem_iff_getElem?.1 hy
     rw [List.getElem?_drop] at hj
     cases j with
     | zero=>exact he ⟨_,hj,rfl⟩
     | succ j =>
      have hk:k<l.length:=by have:=vF hj;omega
      have h5:=h4 l[k] (List.getElem?_eq_getElem hk)
      have h6:=List.pairwise_iff_getElem.1 ha k (k+(j+1)) hk (vF hj) (by omega)
      rw [List.getElem?_eq_getElem (vF hj)] at hj
      have hj:=Option.some.inj hj
      simp at h6;omega
    simp;omega
   ·have h5:=hlo x hx
    rcases List.mem_append.1 hy with h | h
    ·simp at h;subst h;simpa using h5
    ·have:=hhi y h;simp;omega
  ·have hm:y∈l↔y∈l.take k∨y∈l.drop k:=by rw [←List.mem_append,List.take_append_drop]
   rw [hm]
   simp only [List.mem_append,List.mem_singleton]
   constructor
   ·rintro ((h | h) | h)
    ·exact .inr (.inl h)
    ·exact .inl h
    ·exact .inr (.inr h)
   ·rintro (h | h | h)
    ·exact .inl (.inr h)
    ·exact .inl (.inl h)
    ·exact .inr h
theorem z0v {l m:List Int} (hl:l.length+m.length<4294966000) (ha:vZ yS l):∃ r,zNm l m=some r∧vZ yS r∧(∀ y,y∈r↔y∈l∨y∈m)∧r.length≤l.length+m.length:=by
 have h:=uW (B:=zIp m) (fun i (s:List Int)=>(s,(i:Int))) m (fun i s=>vZ yS s∧(∀ y,y∈s↔y∈l∨y∈m.take i)∧s.length≤l.length+i)
  (fun r=>vZ yS r∧(∀ y,y∈r↔y∈l∨y∈m)∧r.length≤l.length+m.length) ?_ ?_ l ⟨ha,by simp,by omega⟩
 ·exact h
 ·rintro i x s hx ⟨h1,h2,h3⟩
  have hi:=vF hx
  obtain ⟨r,e1,e2,e3,e4⟩:=zTj x (by omega) h1
  refine .inl ⟨r,?_,e2,fun y=>?_,by omega⟩
  ·unfold zIp
   simp only [wS hx,if_true,wP hx,zob,e1,wR hx (by omega)]
  ·rw [e3,h2,xA hx]
   simp only [List.mem_append,List.mem_singleton]
   constructor
   ·rintro (h | h | h)
    ·exact .inr (.inr h)
    ·exact .inl h
    ·exact .inr (.inl h)
   ·rintro (h | h | h)
    ·exact .inr (.inl h)
    ·exact .inr (.inr h)
    ·exact .inl h
 ·rintro s ⟨h1,h2,h3⟩
  refine ⟨s,by unfold zIp;simp [len],h1,fun y=>by rw [h2,List.take_length],h3⟩
theorem zXv {l:List Int} (h:l.length<4294967296):zBQ l=some (zTp yS l):=zTf h
theorem zZK {l:List Int} (h:l.length<4294967296):zBV l=some (tS l):=zNl 0 l (by omega)
theorem zT6 {β:Type} {l:List Int} (h:l.length<4294967296) (k:List Int->Option β):((zBQ l).bind fun r3=>(zBV r3).bind fun r4=>k r4)=k (xM yS l):=by
 rw [zXv h]
 simp only [zob]
 rw [zZK (by rw [(zNO l).length_eq];exact h)]
 simp only [zob]
 rw [z0d (zNO l) (zMZ tG l)]
theorem zYm (l:List Int):vZ yS (xM yS l):=(zKd tG l).1
theorem z3I (l:List Int) (x:Int):x∈xM yS l↔x∈l:=(zKd tG l).2 x
inductive xC (l:List zI):Int->Int->Prop
 | self (i:Int):xC l i i
 | step {i k j:Int} {a:zI}:zF l i=some a->k∈a.2.2.1->xC l k j->xC l i j
structure FormA (l:List zI):Prop where
 len:l.length≤100
 nsub:∀ a∈l,a.2.2.1.length≤100
 sub:∀ (i:Nat) a,l[i]?=some a->∀ k∈a.2.2.1,0≤k∧k<i
theorem FormA.at {l:List zI} (h:FormA l) {i:Int} {a:zI} (hi:zF l i=some a):a.2.2.1.length≤100∧0≤i∧i<l.length∧∀ k∈a.2.2.1,0≤k∧k<i:=by
 obtain ⟨n,rfl,hn⟩:=zNG hi
 exact ⟨h.nsub a (wZ hn),by omega,by have:=vF hn;omega,h.sub n a hn⟩
theorem xC.le {l:List zI} (h:FormA l) {i j:Int} (hs:xC l i j):0≤i->0≤j∧j≤i:=by
 induction hs with
 | self i=>intro h0;omega
 | step hi hk _ ih=>intro h0;have:=(h.at hi).2.2.2 _ hk;have:=ih this.1;omega
theorem xC.trans {l:List zI} {i j k:Int} (h:xC l i j) (h2:xC l j k):xC l i k:=by
 induction h with
 | self i=>exact h2
 | step hi hk _ ih=>exact .step hi hk (ih h2)
theorem xC.iff {l:List zI} {i j:Int} {a:zI} (hi:zF l i=some a):xC l i j↔j=i∨∃ k∈a.2.2.1,xC l k j:=by
 constructor
 ·intro h
  cases h with
  | self=>exact .inl rfl
  | step h1 h2 h3=>rw [hi] at h1;cases h1;exact .inr ⟨_,h2,h3⟩
 ·rintro (rfl | ⟨k,h1,h2⟩)
  ·exact .self _
  ·exact .step hi h1 h2
open Classical in
noncomputable def yB (l:List zI) (i:Int):List Int:=((List.range l.length).map Int.ofNat).filter fun j=>decide (xC l i j)
theorem zNh (l:List zI) (i:Int):vZ yS (yB l i):=by
 refine List.Pairwise.filter _ ?_
 rw [List.pairwise_map]
 exact List.pairwise_lt_range.imp fun {a b} h=>by simp;omega
theorem zIe (l:List zI) (i:Int):(yB l i).length≤l.length:=Nat.le_trans (List.length_filter_le _ _) (by simp)
theorem zC4 {l:List zI} (h:FormA l) {i:Int} (h0:0≤i) (h1:i<l.length) (j:Int):j∈yB l i↔xC l i j:=by
 simp only [yB,List.mem_filter,List.mem_map,List.mem_range,decide_eq_true_eq]
 constructor
 ·exact fun h=>h.2
 ·intro hs
  have:=hs.le h h0
  exact ⟨⟨j.toNat,by omega,by simp;omega⟩,hs⟩
theorem z1S {l:List zI} (h:FormA l):∀ (n:Nat) (i:Int),0≤i->i<l.length->i<n->zDM n l i=some (yB l i):=by
 intro n
 induction n with
 | zero=>intro i h0 _ h2;omega
 | succ n ih =>
  intro i h0 h1 h2
  obtain ⟨a,ha⟩:=zIg h0 h1
  obtain ⟨hn,_,_,hsub⟩:=h.at ha
  show zFa (zDM n) l i=_
  have hL:=zDz (B:=zDS a (zDM n) l) a.2.2.1 (fun s k=>s++yB l k) (fun s=>s) (fun q s=>s.length≤1+q*100) [i] (by simp) (fun q k s hk hI=>?_) (fun s hI=>?_)
  ·obtain ⟨e1,e2⟩:=hL
   rw [zHA] at e1 e2
   unfold zFa zBY
   have hin:(decide (0≤i)&&decide (i<len l))=true:=by simp [len];omega
   simp only [hin,zob,Bool.not_true,zbf,if_false,ha,e1]
   have hlen:([i]++a.2.2.1.flatMap (yB l)).length<4294967296:=by omega
   refine (zT6 hlen some).trans ?_
   congr 1
   refine zZz tG (zNh l i) fun j=>?_
   rw [zC4 h h0 h1,xC.iff ha]
   simp only [List.singleton_append,List.mem_cons,List.mem_flatMap]
   refine or_congr Iff.rfl (exists_congr fun k=>and_congr_right fun hk=>?_)
   have:=hsub k hk
   rw [zC4 h this.1 (by omega)]
  ·have hks:=hsub k (wZ hk)
   have hq:=vF hk
   have hsl:=zIe l k
   have hl:=h.len
   unfold zDS
   simp only [wS hk,if_true,wP hk,zob]
   rw [ih k hks.1 (by omega) (by omega)]
   simp only [zob]
   rw [vY (by omega)]
   refine ⟨by simp only [zob,wR hk (by omega)],by rw [List.length_append];omega⟩
  ·unfold zDS
   simp [len]
theorem zT3 {l:List zI} (h:FormA l) {i:Int} (h0:0≤i) (h1:i<l.length):zDN l i=some (yB l i) :=
 zNw (i.toNat+1) fun m hm=>z1S h m i h0 h1 (by omega)
theorem z0i {l:List zI} (h:FormA l):∀ (n:Nat) (i:Int),0≤i->i<l.length->i<n->zHi n l i=some (yB l i):=by
 intro n
 induction n with
 | zero=>intro i h0 _ h2;omega
 | succ n ih =>
  intro i h0 h1 h2
  obtain ⟨a,ha⟩:=zIg h0 h1
  obtain ⟨hn,_,_,hsub⟩:=h.at ha
  have hl:=h.len
  show zMb (zHi n) l i=_
  have hL:=uW (B:=zJ9 l i (zHi n)) (fun q (s:List Int)=>(s,(q:Int))) a.2.2.1 (fun q s=>vZ yS s∧(∀ y,y∈s↔y=i∨∃ k∈a.2.2.1.take q,xC l k y)∧s.length≤1+q*100)
   (fun r=>vZ yS r∧∀ y,y∈r↔xC l i y) (fun q k s hk hI=>?_) (fun s hI=>?_) [i] ⟨by simp,by simp,by simp⟩
  ·obtain ⟨r,e1,e2,e3⟩:=hL
   unfold zMb
   have hin:(decide (i<0)||decide (len l≤i))=false:=by simp [len];omega
   simp only [hin,zbf,if_false]
   exact e1.trans (congrArg some (vZ.ext tG e2 (zNh l i) fun j=>by rw [e3,zC4 h h0 h1]))
  ·obtain ⟨g1,g2,g3⟩:=hI
   have hks:=hsub k (wZ hk)
   have hq:=vF hk
   have hsl:=zIe l k
   obtain ⟨r,e1,e2,e3,e4⟩:=z0v (l:=s) (m:=yB l k) (by omega) g1
   refine .inl ⟨r,?_,e2,fun y=>?_,by omega⟩
   ·unfold zJ9
    simp only [ha,zob,wS hk,if_true,wP hk]
    rw [ih k hks.1 (by omega) (by omega)]
    simp only [zob,e1,wR hk (by omega)]
   ·rw [e3,g2,zC4 h hks.1 (by omega),xA hk]
    simp only [List.mem_append,List.mem_singleton,or_and_right,exists_or,exists_eq_left,or_assoc]
  ·obtain ⟨g1,g2,g3⟩:=hI
   rw [List.take_length] at g2
   refine ⟨s,by unfold zJ9;simp [ha,len],g1,fun y=>by rw [g2,xC.iff ha]⟩
theorem z4C {l:List zI} (h:FormA l) {i:Int} (h0:0≤i) (h1:i<l.length):zPZ l i=some (yB l i) :=
 zNw (i.toNat+1) fun m hm=>z0i h m i h0 h1 (by omega)
structure FormB (b:zO) (l:List zI):Prop extends FormA l where
 np:b.1.length≤100
 nr:b.2.1.length≤100
 kind:∀ (i:Nat) a,l[i]?=some a->(a.1=(i:Int)∧i<b.1.length∧a.2.1=-1)∨(a.1=-1∧0≤a.2.1∧a.2.1<b.2.1.length)
variable {b:zO} {l:List zI}
theorem FormB.prem (h:FormB b l) {j:Int} {a:zI} (hj:zF l j=some a):(0≤a.1->a.1=j∧(∃ p,zF b.1 a.1=some p)∧a.2.1=-1)∧(a.1<0->∃ r,zF b.2.1 a.2.1=some r)∧(0≤a.2.1↔a.1<0):=by
 obtain ⟨n,rfl,hn⟩:=zNG hj
 rcases h.kind n a hn with ⟨h1,h2,h3⟩ | ⟨h1,h2,h3⟩
 ·exact ⟨fun _=>⟨h1,zIg (by omega) (by omega),h3⟩,fun h=>by omega,by omega⟩
 ·exact ⟨fun h=>by omega,fun _=>zIg h2 h3,by omega⟩
noncomputable def zIi (l:List zI) (i:Int):List Int:=(yB l i).filter fun j=>match zF l j with | some a=>decide (0≤a.1) | none=>false
theorem z0q (l:List zI) (i:Int):vZ yS (zIi l i):=(zNh l i).filter _
theorem zPs (l:List zI) (i:Int):(zIi l i).length≤l.length:=Nat.le_trans (List.length_filter_le _ _) (zIe l i)
theorem zPq (h:FormA l) {i:Int} (h0:0≤i) (h1:i<l.length) {j:Int} (hj:j∈yB l i):∃ a,zF l j=some a:=by
 have:=((zC4 h h0 h1 j).1 hj).le h h0
 exact zIg this.1 (by omega)
theorem z2O {m:List Int} (h:vZ yS m):zTp yS m=m:=by
 refine List.Perm.eq_of_pairwise (le:=fun x y=>yS y x=false) (fun a c _ _ h1 h2=>?_) (zMZ tG m) (h.imp fun h=>by simp at h ⊢;omega) (zNO m)
 simp at h1 h2;omega
theorem zYT (h:FormB b l) {i:Int} (h0:0≤i) (h1:i<l.length):∀ (m acc:List Int),(∀ j∈m,j∈yB l i)->
  m.foldl (fun s j=>match zF l j with | some a=>if decide (0≤a.1) then s++[a.1] else s | none=>s) acc=acc++m.filter fun j=>match zF l j with | some a=>decide (0≤a.1) | none=>false
 | [],acc,_=>by simp
 | j::m,acc,hm=>by
  obtain ⟨a,ha⟩:=zPq h.toFormA h0 h1 (hm j List.mem_cons_self)
  rw [List.foldl_cons,zYT h h0 h1 m _ fun q hq=>hm q (List.mem_cons_of_mem _ hq),List.filter_cons]
  simp only [ha]
  by_cases hp:0≤a.1
  ·have:=(((h.prem ha).1 hp).1)
   rw [if_pos (by simpa using hp),if_pos (by simpa using hp),this]
   simp
  ·simp [hp]
theorem zSv (h:FormB b l) {i:Int} (h0:0≤i) (h1:i<l.length):zCe l i=some (zIi l i):=by
 have hl:=h.len
 have hsl:=zIe l i
 have hL:=zDz (B:=zEN (yB l i) l) (yB l i) (fun s j=>match zF l j with | some a=>if decide (0≤a.1) then s++[a.1] else s | none=>s) (fun s=>s) (fun q s=>s.length≤q) [] (by simp) (fun q j s hj hI=>?_) (fun s hI=>?_)
 ·unfold zCe
  rw [zT3 h.toFormA h0 h1]
  simp only [zob]
  rw [hL.1,zYT h h0 h1 _ _ fun j hj=>hj]
  simp only [zob,List.nil_append]
  show (zBQ (zIi l i)).bind _=_
  have:=zPs l i
  rw [zXv (by omega)]
  rw [z2O (z0q l i)]
  rfl
 ·obtain ⟨a,ha⟩:=zPq h.toFormA h0 h1 (wZ hj)
  have hq:=vF hj
  unfold zEN
  simp only [wS hj,if_true,wP hj,zob,ha]
  by_cases hp:0≤a.1
  ·simp only [hp,decide_true,if_true]
   rw [vY (by simp;omega)]
   exact ⟨by simp only [zob,wR hj (by omega)],by simp;omega⟩
  ·simp only [hp,decide_false,zbf,if_false]
   exact ⟨by simp only [wR hj (by omega)],by omega⟩
 ·unfold zEN
  simp [len]
abbrev zPd (b:zO) (a:zI):Bool:=match zF b.2.1 a.2.1 with | some r=>!r.2.1 | none=>false
noncomputable def yG (b:zO) (l:List zI) (i:Int):List Int:=xM yS (((yB l i).filter fun j=>match zF l j with | some a=>decide (0≤a.2.1)&&zPd b a | none=>false).map fun j=>match zF l j with | some a=>a.2.1 | none=>0)
theorem zI7 (h:FormB b l) {i:Int} (h0:0≤i) (h1:i<l.length) (y:Int):y∈yG b l i↔∃ j∈yB l i,∃ a,zF l j=some a∧0≤a.2.1∧zPd b a=true∧y=a.2.1:=by
 rw [yG,z3I]
 simp only [List.mem_map,List.mem_filter]
 constructor
 ·rintro ⟨j,⟨h2,h3⟩,h4⟩
  obtain ⟨a,ha⟩:=zPq h.toFormA h0 h1 h2
  simp only [ha,Bool.and_eq_true,decide_eq_true_eq] at h3 h4
  exact ⟨j,h2,a,ha,h3.1,h3.2,h4.symm⟩
 ·rintro ⟨j,h2,a,ha,h3,h4,rfl⟩
  exact ⟨j,⟨h2,by simp only [ha,Bool.and_eq_true,decide_eq_true_eq];exact ⟨h3,h4⟩⟩,by simp only [ha]⟩
theorem zP5 (b:zO) (l:List zI) (i:Int):(yG b l i).length≤l.length:=by
 refine Nat.le_trans (zS1 yS _) ?_
 rw [List.length_map]
 exact Nat.le_trans (List.length_filter_le _ _) (zIe l i)
theorem zQ6 (h:FormB b l) {i:Int} (h0:0≤i) (h1:i<l.length):zCG b l i=some (yG b l i):=by
 have hl:=h.len
 have hsl:=zIe l i
 have hL:=uW (B:=zD6 (yB l i) l b) (fun q (s:List Int)=>(s,(q:Int))) (yB l i) (fun q s=>s=(((yB l i).take q).filter fun j=>match zF l j with | some a=>decide (0≤a.2.1)&&zPd b a | none=>false).map (fun j=>match zF l j with | some a=>a.2.1 | none=>0)∧s.length≤q)
  (fun r=>r=((yB l i).filter fun j=>match zF l j with | some a=>decide (0≤a.2.1)&&zPd b a | none=>false).map fun j=>match zF l j with | some a=>a.2.1 | none=>0) (fun q j s hj hI=>?_) (fun s hI=>?_) [] (by simp)
 ·obtain ⟨r,e1,rfl⟩:=hL
  unfold zCG
  rw [zT3 h.toFormA h0 h1]
  simp only [zob]
  refine (congrArg (fun o=>Option.bind o _) e1).trans ?_
  simp only [zob]
  refine (zT6 ?_ some).trans rfl
  rw [List.length_map]
  have:=List.length_filter_le (fun j=>match zF l j with | some a=>decide (0≤a.2.1)&&zPd b a | none=>false) (yB l i)
  omega
 ·obtain ⟨g1,g3⟩:=hI
  obtain ⟨a,ha⟩:=zPq h.toFormA h0 h1 (wZ hj)
  have hq:=vF hj
  have hc:(if decide (0≤a.2.1)=true then (zF b.2.1 a.2.1).bind fun x3=>some (!x3.2.1) else some false)=some (decide (0≤a.2.1)&&zPd b a):=by
   by_cases hr:0≤a.2.1
   ·obtain ⟨r,hr2⟩:=(h.prem ha).2.1 ((h.prem ha).2.2.1 hr)
    simp [hr,zPd,hr2]
   ·simp [hr]
  unfold zD6
  simp only [wS hj,if_true,wP hj,zob,ha,hc]
  cases hd:(decide (0≤a.2.1)&&zPd b a) with
  | true =>
   simp only [if_true]
   rw [vY (by simp;omega)]
   refine .inl ⟨s++[a.2.1],by simp only [zob,wR hj (by omega)],?_,by simp;omega⟩
   rw [xA hj,List.filter_append,List.map_append,←g1]
   simp [ha,hd]
  | false =>
   simp only [zbf,if_false]
   refine .inl ⟨s,by simp only [wR hj (by omega)],?_,by omega⟩
   rw [xA hj,List.filter_append,List.map_append,←g1]
   simp [ha,hd]
 ·obtain ⟨g1,g3⟩:=hI
  rw [List.take_length] at g1
  exact ⟨s,by unfold zD6;simp [len],g1⟩
theorem zVC (h:FormB b l) {i:Int} (h0:0≤i) (h1:i<l.length):zEg b l i=some (yG b l i):=by
 have hl:=h.len
 have hsl:=zIe l i
 have hL:=uW (B:=zEt (yB l i) l b) (fun q (s:List Int)=>(s,(q:Int))) (yB l i) (fun q s=>vZ yS s∧(∀ y,y∈s↔∃ j∈(yB l i).take q,∃ a,zF l j=some a∧0≤a.2.1∧zPd b a=true∧y=a.2.1)∧s.length≤q)
  (fun r=>r=yG b l i) (fun q j s hj hI=>?_) (fun s hI=>?_) [] (by simp)
 ·obtain ⟨r,e1,rfl⟩:=hL
  unfold zEg
  rw [z4C h.toFormA h0 h1]
  exact e1
 ·obtain ⟨g1,g2,g3⟩:=hI
  obtain ⟨a,ha⟩:=zPq h.toFormA h0 h1 (wZ hj)
  have hq:=vF hj
  have hc:(if decide (0≤a.2.1)=true then (zF b.2.1 a.2.1).bind fun x3=>some (!x3.2.1) else some false)=some (decide (0≤a.2.1)&&zPd b a):=by
   by_cases hr:0≤a.2.1
   ·obtain ⟨r,hr2⟩:=(h.prem ha).2.1 ((h.prem ha).2.2.1 hr)
    simp [hr,zPd,hr2]
   ·simp [hr]
  unfold zEt
  simp only [wS hj,if_true,wP hj,zob,ha,hc]
  cases hd:(decide (0≤a.2.1)&&zPd b a) with
  | true =>
   obtain ⟨r,e1,e2,e3,e4⟩:=zTj (l:=s) a.2.1 (by omega) g1
   simp only [if_true,e1,zob]
   simp only [Bool.and_eq_true,decide_eq_true_eq] at hd
   refine .inl ⟨r,by simp only [wR hj (by omega)],e2,fun y=>?_,by omega⟩
   rw [e3,g2,xA hj]
   simp only [List.mem_append,List.mem_singleton,or_and_right,exists_or,exists_eq_left]
   rw [or_comm]
   refine or_congr Iff.rfl ⟨fun h=>⟨a,ha,hd.1,hd.2,h⟩,fun ⟨a',h1,_,_,h2⟩=>?_⟩
   rw [ha] at h1;cases h1;exact h2
  | false =>
   simp only [zbf,if_false]
   refine .inl ⟨s,by simp only [wR hj (by omega)],g1,fun y=>?_,by omega⟩
   rw [g2,xA hj]
   simp only [List.mem_append,List.mem_singleton,or_and_right,exists_or,exists_eq_left]
   refine ⟨.inl,fun h=>h.elim (fun h=>h) fun ⟨a',h1,h2,h3,_⟩=>?_⟩
   rw [ha] at h1;cases h1
   simp [h2,h3] at hd
 ·obtain ⟨g1,g2,g3⟩:=hI
  rw [List.take_length] at g2
  refine ⟨s,by unfold zEt;simp [len],vZ.ext tG g1 (zYm _) fun y=>?_⟩
  rw [g2]
  exact (zI7 h h0 h1 y).symm
inductive zMi (b:zO) (l:List zI):Int->Int->Prop
 | here {i:Int} {a:zI} {r:qL}:zF l i=some a->0≤a.2.1->zF b.2.1 a.2.1=some r->r.2.1=false->zMi b l i a.2.1
 | step {i k y:Int} {a:zI} {r:qL}:zF l i=some a->0≤a.2.1->zF b.2.1 a.2.1=some r->r.2.1=true->k∈a.2.2.1->zMi b l k y->zMi b l i y
theorem zMi.rng (_h:FormB b l) {i y:Int} (hs:zMi b l i y):0≤y∧y<b.2.1.length:=by
 induction hs with
 | here h1 h2 h3 h4=>obtain ⟨n,hn,h5⟩:=zNG h3;have:=vF h5;omega
 | step _ _ _ _ _ _ ih=>exact ih
open Classical in
noncomputable def uB (b:zO) (l:List zI) (i:Int):List Int:=((List.range b.2.1.length).map Int.ofNat).filter fun y=>decide (zMi b l i y)
theorem zXC (b:zO) (l:List zI) (i:Int):vZ yS (uB b l i):=by
 refine List.Pairwise.filter _ ?_
 rw [List.pairwise_map]
 exact List.pairwise_lt_range.imp fun {a b} h=>by simp;omega
theorem zRq (b:zO) (l:List zI) (i:Int):(uB b l i).length≤b.2.1.length:=Nat.le_trans (List.length_filter_le _ _) (by simp)
theorem zJj (h:FormB b l) (i y:Int):y∈uB b l i↔zMi b l i y:=by
 simp only [uB,List.mem_filter,List.mem_map,List.mem_range,decide_eq_true_eq]
 exact ⟨fun h=>h.2,fun hs=>by have:=hs.rng h;exact ⟨⟨y.toNat,by omega,by simp;omega⟩,hs⟩⟩
theorem z2J {i:Int} {a:zI} (ha:zF l i=some a) (hr:a.2.1<0):uB b l i=[]:=by
 simp only [uB,List.filter_eq_nil_iff,decide_eq_true_eq]
 intro y _ hy
 cases hy with
 | here h1 h2 _ _=>rw [ha] at h1;cases h1;omega
 | step h1 h2 _ _ _ _=>rw [ha] at h1;cases h1;omega
theorem z4I (h:FormB b l) {i:Int} {a:zI} {r:qL} (ha:zF l i=some a) (h0:0≤a.2.1) (hr:zF b.2.1 a.2.1=some r) (hs:r.2.1=false):uB b l i=[a.2.1]:=by
 refine vZ.ext tG (zXC b l i) (by simp) fun y=>?_
 rw [zJj h,List.mem_singleton]
 constructor
 ·intro hy
  cases hy with
  | here h1 _ _ _=>rw [ha] at h1;cases h1;rfl
  | step h1 _ h3 h4 _ _=>rw [ha] at h1;cases h1;rw [hr] at h3;cases h3;rw [hs] at h4;cases h4
 ·rintro rfl;exact .here ha h0 hr hs
theorem z2n {i y:Int} {a:zI} {r:qL} (ha:zF l i=some a) (h0:0≤a.2.1) (hr:zF b.2.1 a.2.1=some r) (hs:r.2.1=true):zMi b l i y↔∃ k∈a.2.2.1,zMi b l k y:=by
 constructor
 ·intro hy
  cases hy with
  | here h1 _ h3 h4=>rw [ha] at h1;cases h1;rw [hr] at h3;cases h3;rw [hs] at h4;cases h4
  | step h1 _ _ _ h5 h6=>rw [ha] at h1;cases h1;exact ⟨_,h5,h6⟩
 ·rintro ⟨k,h1,h2⟩;exact .step ha h0 hr hs h1 h2
theorem z12 (h:FormB b l):∀ (n:Nat) (i:Int),0≤i->i<l.length->i<n->zDO n b l i=some (uB b l i):=by
 intro n
 induction n with
 | zero=>intro i h0 _ h2;omega
 | succ n ih =>
  intro i h0 h1 h2
  obtain ⟨a,ha⟩:=zIg h0 h1
  obtain ⟨hn,_,_,hsub⟩:=h.toFormA.at ha
  have hin:(decide (0≤i)&&decide (i<len l))=true:=by simp [len];omega
  show zFp (zDO n) b l i=_
  unfold zFp zBY
  simp only [hin,zob,Bool.not_true,zbf,if_false,ha]
  by_cases hr:a.2.1<0
  ·simp only [hr,decide_true,if_true]
   rw [z2J ha hr]
  ·simp only [hr,decide_false,zbf,if_false]
   obtain ⟨r,hr2⟩:=(h.prem ha).2.1 ((h.prem ha).2.2.1 (by omega))
   simp only [hr2,zob]
   cases hs:r.2.1 with
   | false =>
    simp only [Bool.not_false,if_true]
    rw [z4I h ha (by omega) hr2 hs]
   | true =>
    simp only [Bool.not_true,zbf,if_false]
    have hnr:=h.nr
    have hL:=zDz (B:=zD3 a (zDO n) b l) a.2.2.1 (fun s k=>s++uB b l k) (fun s=>s) (fun q s=>s.length≤q*100) [] (by simp) (fun q k s hk hI=>?_) (fun s hI=>?_)
    ·obtain ⟨e1,e2⟩:=hL
     rw [zHA] at e1 e2
     rw [e1]
     simp only [zob]
     refine (zT6 (by omega) some).trans ?_
     congr 1
     refine zZz tG (zXC b l i) fun y=>?_
     rw [zJj h,z2n ha (by omega) hr2 hs]
     simp only [List.nil_append,List.mem_flatMap,zJj h]
    ·have hks:=hsub k (wZ hk)
     have hq:=vF hk
     have hsl:=zRq b l k
     unfold zD3
     simp only [wS hk,if_true,wP hk,zob]
     rw [ih k hks.1 (by omega) (by omega)]
     simp only [zob]
     rw [vY (by omega)]
     refine ⟨by simp only [zob,wR hk (by omega)],by rw [List.length_append];omega⟩
    ·unfold zD3
     simp [len]
theorem z4b (h:FormB b l) {i:Int} (h0:0≤i) (h1:i<l.length):zHp b l i=some (uB b l i) :=
 zNw (i.toNat+1) fun m hm=>z12 h m i h0 h1 (by omega)
end
section
def z5W:List Int->Int
 | []=>0
 | x::r=>r.foldl (fun m y=>if y<m then y else m) x
def z5g:List Int->Int
 | []=>0
 | x::r=>r.foldl (fun m y=>if y > m then y else m) x
def zIz (x y:List Int) (o:Int):Bool:=(o==1||o==2)&&!x.isEmpty&&(y.isEmpty||if o==1 then decide (z5W x<z5W y) else decide (z5g x<z5g y))
theorem zV4 {l:List Int} (h:l≠[]) (hl:l.length<4294967296):zDc l=some (z5W l):=by
 match l,h with
 | x::r,_ =>
  have h1:decide (len (x::r)<1)=false:=by simp [len];omega
  unfold zDc
  simp only [h1,zbf,if_false,zob,show zF (x::r) 0=some x from rfl]
  refine zVo (B:=zGb (x::r)) (x::r) (fun m y=>if y<m then y else m) (fun m=>m) 1 (by simp) x (fun i y s hy=>?_) (fun s=>?_)
  ·unfold zGb
   simp only [wS hy,if_true,wP hy,zob,wR hy hl]
  ·unfold zGb
   simp only [yU,zbf,if_false]
theorem zV9 {l:List Int} (h:l≠[]) (hl:l.length<4294967296):zDi l=some (z5g l):=by
 match l,h with
 | x::r,_ =>
  have h1:decide (len (x::r)<1)=false:=by simp [len];omega
  unfold zDi
  simp only [h1,zbf,if_false,zob,show zF (x::r) 0=some x from rfl]
  refine zVo (B:=zG4 (x::r)) (x::r) (fun m y=>if y > m then y else m) (fun m=>m) 1 (by simp) x (fun i y s hy=>?_) (fun s=>?_)
  ·unfold zG4
   simp only [wS hy,if_true,wP hy,zob,wR hy hl]
  ·unfold zG4
   simp only [yU,zbf,if_false]
theorem len0 {α:Type} (l:List α):((len l)==0)=l.isEmpty:=by
 cases l with
 | nil=>rfl
 | cons x r=>rw [beq_eq_false_iff_ne.2 (by simp [len];omega)];rfl
theorem isE {α:Type} {l:List α} (h:l.isEmpty=false):l≠[]:=fun e=>by subst e;cases h
theorem zP8 {x y:List Int} (o:Int) (hx:x.length<4294967296) (hy:y.length<4294967296):zDs x y o=some (zIz x y o):=by
 unfold zDs zIz
 simp only [len0]
 cases hxe:x.isEmpty with
 | true=>simp
 | false =>
  by_cases h1:o=1
  ·subst h1
   cases hye:y.isEmpty with
   | true=>simp
   | false=>simp [zV4 (isE hxe) hx,zV4 (isE hye) hy]
  ·by_cases h2:o=2
   ·subst h2
    cases hye:y.isEmpty with
    | true=>simp
    | false=>simp [zV9 (isE hxe) hx,zV9 (isE hye) hy]
   ·simp [h1,h2]
variable {b:zO} {l:List zI}
theorem zX7 (h:FormB b l) {i:Int} (h0:0≤i) (h1:i<l.length) {p:Int} (hp:p∈zIi l i):∃ q,zF b.1 p=some q:=by
 obtain ⟨h2,h3⟩:=List.mem_filter.1 hp
 obtain ⟨a,ha⟩:=zPq h.toFormA h0 h1 h2
 simp only [ha,decide_eq_true_eq] at h3
 obtain ⟨e1,⟨q,e2⟩,_⟩:=(h.prem ha).1 h3
 exact ⟨q,by rw [←e1];exact e2⟩
theorem z4e (h:FormB b l) {i:Int} (h0:0≤i) (h1:i<l.length) {y:Int} (hy:y∈yG b l i):∃ q,zF b.2.1 y=some q:=by
 obtain ⟨j,_,a,ha,h3,_,rfl⟩:=(zI7 h h0 h1 y).1 hy
 exact (h.prem ha).2.1 ((h.prem ha).2.2.1 h3)
theorem z4O (h:FormB b l) {i y:Int} (hy:y∈uB b l i):∃ q,zF b.2.1 y=some q:=by
 have:=((zJj h i y).1 hy).rng h
 exact zIg this.1 this.2
def zWu (b:zO) (k p:Int):Bool:=match zF b.1 p with | some q=>q.2.1==k | none=>false
noncomputable def zMg (b:zO) (l:List zI) (i:Int):Bool:=(zIi l i).any (zWu b 3)
def zLY (b:zO) (p:Int):List Int:=match zF b.1 p with | some q=>if q.2.1==2 then [q.2.2.1] else if q.2.1==3 then [-1] else [] | none=>[]
noncomputable def tC (b:zO) (l:List zI) (i:Int):List Int:=(zIi l i).flatMap (zLY b)
def zYS (b:zO) (y:Int):Int:=match zF b.2.1 y with | some q=>q.2.2.1 | none=>0
abbrev xD (b:zO) (rs:List Int):List Int:=rs.map (zYS b)
theorem zV6 {rs:List Int} (hl:rs.length<4294967296) (h:∀ y∈rs,∃ q,zF b.2.1 y=some q):zJH b rs=some (xD b rs):=by
 have hL:=zDz (B:=zJX rs b) rs (fun s y=>s++[zYS b y]) (fun s=>s) (fun q s=>s.length=q) [] rfl (fun i y s hy hI=>?_) (fun s hI=>?_)
 ·obtain ⟨e1,_⟩:=hL
  rw [zJ8] at e1
  exact e1
 ·obtain ⟨q,hq⟩:=h y (wZ hy)
  have:=vF hy
  unfold zJX
  simp only [wS hy,if_true,wP hy,zob,hq]
  rw [vY (by simp;omega)]
  exact ⟨by simp only [zob,wR hy hl,zYS,hq],by simp;omega⟩
 ·unfold zJX
  simp [len]
theorem zK2 (h:FormB b l) {i:Int} (h0:0≤i) (h1:i<l.length):zC8 b l i=some (xD b (uB b l i)):=by
 have hll:=zRq b l i
 have hnr:=h.nr
 unfold zC8
 rw [z4b h h0 h1]
 simp only [zob,zV6 (show (uB b l i).length<4294967296 by omega) fun y hy=>z4O h hy]
theorem zK5 (h:FormB b l) {i:Int} (h0:0≤i) (h1:i<l.length):zCa b l i=some (xD b (yG b l i)):=by
 have hll:=zP5 b l i
 have hnr:=h.len
 unfold zCa
 rw [zQ6 h h0 h1]
 simp only [zob,zV6 (show (yG b l i).length<4294967296 by omega) fun y hy=>z4e h h0 h1 hy]
theorem zSm (b:zO) (p:Int):(zLY b p).length≤1:=by
 unfold zLY
 split
 ·split
  ·simp
  ·split <;> simp
 ·simp
theorem zIL (h:FormB b l) {i:Int} (h0:0≤i) (h1:i<l.length):zBl b l i=some (tC b l i):=by
 have hpl:=zPs l i
 have hl:=h.len
 have hL:=zDz (B:=zEO (zIi l i) b) (zIi l i) (fun s p=>s++zLY b p) (fun s=>s) (fun q s=>s.length≤q) [] (by simp) (fun j p s hp hI=>?_) (fun s hI=>?_)
 ·obtain ⟨e1,_⟩:=hL
  rw [zHA] at e1
  unfold zBl
  rw [zSv h h0 h1]
  exact e1
 ·obtain ⟨q,hq⟩:=zX7 h h0 h1 (wZ hp)
  have:=vF hp
  have hpr:=zSm b p
  unfold zEO
  simp only [wS hp,if_true,wP hp,zob,hq]
  refine ⟨?_,by rw [List.length_append];omega⟩
  unfold zLY
  simp only [hq]
  cases hk2:q.2.1==2 with
  | true =>
   simp only [if_true]
   rw [vY (by simp;omega)]
   simp only [zob,wR hp (by omega)]
  | false =>
   cases hk3:q.2.1==3 with
   | true =>
    simp only [zbf,if_false,if_true]
    rw [vY (by simp;omega)]
    simp only [zob,wR hp (by omega)]
   | false=>simp only [zbf,if_false,List.append_nil,wR hp (by omega)]
 ·unfold zEO
  simp [len]
theorem zXr (h:FormB b l) {i:Int} (h0:0≤i) (h1:i<l.length):zHC b l i=some (zMg b l i):=by
 have hpl:=zPs l i
 have hl:=h.len
 have key:∃ r,zU (zAl (zIi l i) b) 0=some r∧decide (0≤r)=zMg b l i:=by
  have hc:∀ p∈zIi l i,zIt p b=some (zWu b 3 p):=fun p hp=>by
   obtain ⟨q,hq⟩:=zX7 h h0 h1 hp
   simp [zIt,zWu,hq]
  have hL:=uW (B:=zAl (zIi l i) b) (fun q (_:Unit)=>(q:Int)) (zIi l i) (fun q _=>∀ j x,j<q->(zIi l i)[j]?=some x->zWu b 3 x=false) (fun r=>decide (0≤r)=zMg b l i) ?_ ?_ () (by omega)
  ·exact hL
  ·intro q p s hp hI
   unfold zAl
   simp only [wS hp,if_true,wP hp,zob,hc p (wZ hp)]
   cases hk:zWu b 3 p with
   | true =>
    refine .inr ⟨_,by simp only [if_true];rfl,?_⟩
    have:zMg b l i=true:=List.any_eq_true.2 ⟨p,wZ hp,hk⟩
    rw [this];simp
   | false =>
    refine .inl ⟨(),by simp only [zbf,if_false,wR hp (by omega)],fun j x hj hx=>?_⟩
    rcases Nat.lt_succ_iff_lt_or_eq.1 hj with h | rfl
    ·exact hI j x h hx
    ·rw [hp] at hx;cases hx;exact hk
  ·intro s hI
   unfold zAl
   refine ⟨-1,by simp only [yU,zbf,if_false],?_⟩
   have:zMg b l i=false:=by
    rw [zMg,List.any_eq_false]
    intro p hp
    obtain ⟨j,hj⟩:=List.mem_iff_getElem?.1 hp
    simp [hI j p (vF hj) hj]
   rw [this];rfl
 obtain ⟨r,h2,h3⟩:=key
 unfold zHC zAn zBA
 rw [zSv h h0 h1]
 simp only [zob,h2,h3]
noncomputable def zQj (b:zO) (l:List zI) (i k:Int) (o:yN):Bool :=
 decide (0≤i)&&decide (i<l.length)&&decide (0≤k)&&decide (k<l.length)&&!zMg b l k &&
 let pr:=zIz (tC b l i) (tC b l k) o.2
 if o.1==1 then zIz (xD b (uB b l i)) (xD b (uB b l k)) o.2||((uB b l i).isEmpty&&(uB b l k).isEmpty&&pr)
 else if o.1==2 then
  if (yG b l i).isEmpty&&(yG b l k).isEmpty then pr
  else if (tC b l i).isEmpty&&(tC b l k).isEmpty then zIz (xD b (yG b l i)) (xD b (yG b l k)) o.2
  else pr&&zIz (xD b (yG b l i)) (xD b (yG b l k)) o.2
 else false
theorem zR6 (b:zO) (l:List zI) (i:Int):(tC b l i).length≤l.length:=by
 have key:∀ m:List Int,(m.flatMap (zLY b)).length≤m.length:=by
  intro m
  induction m with
  | nil=>simp
  | cons x m ih=>have:=zSm b x;simp only [List.flatMap_cons,List.length_append,List.length_cons];omega
 exact Nat.le_trans (key _) (zPs l i)
theorem zUY {α β:Type} (f:α->β) (l:List α):(l.map f).isEmpty=l.isEmpty:=by cases l <;> rfl
theorem z3K (h:FormB b l) (i k:Int) (o:yN):zKZ b l i k o=some (zQj b l i k o):=by
 have hl:=h.len
 have hnr:=h.nr
 unfold zKZ
 by_cases hr:0≤i∧i<l.length∧0≤k∧k<l.length
 ·obtain ⟨i0,i1,k0,k1⟩:=hr
  have c1:decide ((if k<i then k else i)<0)=false:=by simp;split <;> omega
  have c2:decide (len l≤(if k > i then k else i))=false:=by simp [len];split <;> omega
  simp only [c1,c2,zbf,if_false,zXr h k0 k1,zob]
  have f1:=zR6 b l i
  have f2:=zR6 b l k
  have f3:=zRq b l i
  have f4:=zRq b l k
  have f5:=zP5 b l i
  have f6:=zP5 b l k
  cases ha:zMg b l k with
  | true=>simp [zQj,ha]
  | false =>
   have sP:zAV b l i k o=some (zIz (tC b l i) (tC b l k) o.2):=by
    unfold zAV
    simp only [zIL h i0 i1,zIL h k0 k1,zob,zP8 o.2 (show (tC b l i).length<4294967296 by omega) (show (tC b l k).length<4294967296 by omega)]
   have sL:zB0 b l i k o=some (zIz (xD b (uB b l i)) (xD b (uB b l k)) o.2):=by
    unfold zB0
    simp only [zK2 h i0 i1,zK2 h k0 k1,zob,zP8 o.2 (show (xD b (uB b l i)).length<4294967296 by simp;omega) (show (xD b (uB b l k)).length<4294967296 by simp;omega)]
   have sR:zBH b l i k o=some (zIz (xD b (yG b l i)) (xD b (yG b l k)) o.2):=by
    unfold zBH
    simp only [zK5 h i0 i1,zK5 h k0 k1,zob,zP8 o.2 (show (xD b (yG b l i)).length<4294967296 by simp;omega) (show (xD b (yG b l k)).length<4294967296 by simp;omega)]
   have nL:zBZ b l i k=some ((uB b l i).isEmpty&&(uB b l k).isEmpty):=by
    unfold zBZ
    simp only [zK2 h i0 i1,zK2 h k0 k1,zob,len0,zUY]
    cases (uB b l i).isEmpty <;> simp
   have nP:zBL b l i k=some ((tC b l i).isEmpty&&(tC b l k).isEmpty):=by
    unfold zBL
    simp only [zIL h i0 i1,zIL h k0 k1,zob,len0]
    cases (tC b l i).isEmpty <;> simp
   have nR:zB1 b l i k=some ((yG b l i).isEmpty&&(yG b l k).isEmpty):=by
    unfold zB1
    simp only [zK5 h i0 i1,zK5 h k0 k1,zob,len0,zUY]
    cases (yG b l i).isEmpty <;> simp
   simp only [zbf,if_false,zCV,zCU,sP,sL,sR,nL,nP,nR,zob,zQj,i0,i1,k0,k1,ha,decide_true,Bool.not_false,Bool.true_and]
   by_cases o1:o.1=1
   ·simp only [o1,beq_self_eq_true,if_true]
    cases zIz (xD b (uB b l i)) (xD b (uB b l k)) o.2 <;> cases (uB b l i).isEmpty <;> cases (uB b l k).isEmpty <;> simp
   ·have o1':(o.1==1)=false:=beq_eq_false_iff_ne.2 o1
    simp only [o1',zbf,if_false]
    cases o.1==2
    ·simp
    ·cases (yG b l i).isEmpty <;> cases (yG b l k).isEmpty <;> cases (tC b l i).isEmpty <;> cases (tC b l k).isEmpty <;> cases zIz (tC b l i) (tC b l k) o.2 <;> simp
 ·have hf:zQj b l i k o=false:=by
   unfold zQj
   by_cases a1:0≤i <;> by_cases a2:i<l.length <;> by_cases a3:0≤k <;> by_cases a4:k<l.length <;> simp [a1,a2,a3,a4]
   exact absurd ⟨a1,a2,a3,a4⟩ hr
  rw [hf]
  by_cases c1:(if k<i then k else i)<0
  ·simp [c1]
  ·have c2:len l≤(if k > i then k else i):=by
    simp only [len]
    split at c1 <;> split <;> omega
   simp only [c1,c2,decide_true,decide_false,zbf,if_true,if_false,zob]
end
section
variable {b:zO} {l:List zI}
def z1I (b:zO) (l:List zI) (i c kd:Int):Bool:=match zF l i,zF l c with
 | some x,some a =>
  if decide (a.2.1<0) then kd==1&&x.2.2.2==xG a.2.2.2&&(match zF b.1 a.1 with | some p=>p.2.1 != 1 | none=>false)
  else match zF b.2.1 a.2.1 with
   | some r=>!r.2.1&&((kd==2&&x.2.2.2==xG a.2.2.2)||(kd==3&&x.2.2.2==(true,r.1)))
   | none=>false
 | _,_=>false
theorem zUs (x:zG):zD8 x=some (xG x):=rfl
abbrev zNb (b:zO) (l:List zI) (i c:Int):List Int:=[1,2,3].filter (z1I b l i c)
theorem z3U (h:FormB b l) {i c:Int} (i0:0≤i) (i1:i<l.length) (c0:0≤c) (c1:c<l.length):zK8 b l i c=some (zNb b l i c):=by
 obtain ⟨x,hx⟩:=zIg i0 i1
 obtain ⟨a,ha⟩:=zIg c0 c1
 unfold zK8 zNb
 simp only [hx,ha,zob,zUw]
 by_cases hp:0≤a.1
 ·obtain ⟨_,⟨p,hp2⟩,hr⟩:=(h.prem ha).1 hp
  have hk:∀ kd,z1I b l i c kd=(kd==1&&x.2.2.2==xG a.2.2.2&&p.2.1 != 1):=fun kd=>by
   simp only [z1I,hx,ha,hp2,hr];rfl
  simp only [hp,decide_true,if_true,hp2,zob]
  rw [List.filter_cons,List.filter_cons,List.filter_cons,List.filter_nil,hk,hk,hk]
  cases x.2.2.2==xG a.2.2.2 <;> cases p.2.1 != 1 <;> simp [wE]
 ·obtain ⟨r,hr2⟩:=(h.prem ha).2.1 (by omega)
  have hr:¬ a.2.1<0:=by have:=(h.prem ha).2.2;omega
  have hk:∀ kd,z1I b l i c kd=(!r.2.1&&((kd==2&&x.2.2.2==xG a.2.2.2)||(kd==3&&x.2.2.2==(true,r.1)))):=fun kd=>by
   simp only [z1I,hx,ha,hr2,hr,decide_false,zbf,if_false]
  simp only [hp,decide_false,zbf,if_false,hr2,zob]
  rw [List.filter_cons,List.filter_cons,List.filter_cons,List.filter_nil,hk,hk,hk]
  have hlit:(x.2.2.2==(true,r.1))=(x.2.2.2.1&&x.2.2.2.2==r.1):=by
   obtain ⟨_,_,_,g,nm⟩:=x
   show (g==true&&nm==r.1)=(g&&nm==r.1)
   cases g <;> rfl
  rw [hlit]
  cases hs:r.2.1
  ·cases x.2.2.2==xG a.2.2.2 <;> cases x.2.2.2.1 <;> cases x.2.2.2.2==r.1 <;> simp [wE]
  ·simp
abbrev zWt (b:zO) (l:List zI) (i k c:Int):List wV:=(zNb b l i c).map fun kd=>(i,k,c,kd)
noncomputable def zS3 (b:zO) (l:List zI):List wV:=(wW l.length).flatMap fun i=>(wW l.length).flatMap fun k=>(yB l k).flatMap fun c=>zWt b l i k c
noncomputable def z1T (b:zO) (l:List zI):List wV:=(wW l.length).flatMap fun c=>(wW l.length).flatMap fun i=>((wW l.length).filter fun k=>decide (c∈yB l k)).flatMap fun k=>zWt b l i k c
theorem zX2 (b:zO) (l:List zI) (i c:Int):vZ yS (zNb b l i c):=List.Pairwise.filter _ (by simp)
theorem zXt (b:zO) (l:List zI) (i c:Int):(zNb b l i c).length≤3:=List.length_filter_le _ _
theorem z2W (b:zO) (l:List zI) (i c kd:Int):kd∈zNb b l i c↔(kd=1∨kd=2∨kd=3)∧z1I b l i c kd=true:=by simp [zNb,List.mem_filter]
theorem zPf (y:wV):y∈zS3 b l↔(0≤y.1∧y.1<l.length)∧(0≤y.2.1∧y.2.1<l.length)∧y.2.2.1∈yB l y.2.1∧y.2.2.2∈zNb b l y.1 y.2.2.1:=by
 obtain ⟨i,k,c,kd⟩:=y
 simp only [zS3,List.mem_flatMap,List.mem_map,xJ]
 constructor
 ·rintro ⟨i',h1,k',h2,c',h3,kd',h4,e⟩
  cases e
  exact ⟨h1,h2,h3,h4⟩
 ·rintro ⟨h1,h2,h3,h4⟩
  exact ⟨i,h1,k,h2,c,h3,kd,h4,rfl⟩
theorem z0X {k c:Int} (h:c∈yB l k):0≤c∧c<l.length:=by
 have:=(List.mem_filter.1 h).1
 exact xJ.1 this
theorem z3C (y:wV):y∈z1T b l↔y∈zS3 b l:=by
 rw [zPf]
 obtain ⟨i,k,c,kd⟩:=y
 simp only [z1T,List.mem_flatMap,List.mem_map,xJ,List.mem_filter,decide_eq_true_eq]
 constructor
 ·rintro ⟨c',_,i',h1,k',⟨h2,h3⟩,kd',h4,e⟩
  cases e
  exact ⟨h1,h2,h3,h4⟩
 ·rintro ⟨h1,h2,h3,h4⟩
  exact ⟨c,z0X h3,i,h1,k,⟨h2,h3⟩,kd,h4,rfl⟩
theorem zYK (b:zO) (l:List zI):vZ lt4 (zS3 b l):=by
 refine List.pairwise_flatMap.2 ⟨fun i _=>List.pairwise_flatMap.2 ⟨fun k _=>List.pairwise_flatMap.2 ⟨fun c _=>?_,?_⟩,?_⟩,?_⟩
 ·rw [List.pairwise_map]
  exact (zX2 b l i c).imp fun h=>by simpa [lt4] using h
 ·refine (zNh l k).imp fun {c c'} h x hx y hy=>?_
  obtain ⟨_,_,rfl⟩:=List.mem_map.1 hx
  obtain ⟨_,_,rfl⟩:=List.mem_map.1 hy
  simp at h;simp [lt4];omega
 ·refine (zKO _).imp fun {k k'} h x hx y hy=>?_
  obtain ⟨_,_,hx⟩:=List.mem_flatMap.1 hx
  obtain ⟨_,_,hy⟩:=List.mem_flatMap.1 hy
  obtain ⟨_,_,rfl⟩:=List.mem_map.1 hx
  obtain ⟨_,_,rfl⟩:=List.mem_map.1 hy
  simp at h;simp [lt4];omega
 ·refine (zKO _).imp fun {i i'} h x hx y hy=>?_
  obtain ⟨_,_,hx⟩:=List.mem_flatMap.1 hx
  obtain ⟨_,_,hy⟩:=List.mem_flatMap.1 hy
  obtain ⟨_,_,hx⟩:=List.mem_flatMap.1 hx
  obtain ⟨_,_,hy⟩:=List.mem_flatMap.1 hy
  obtain ⟨_,_,rfl⟩:=List.mem_map.1 hx
  obtain ⟨_,_,rfl⟩:=List.mem_map.1 hy
  simp at h;simp [lt4];omega
theorem zZR (b:zO) (l:List zI):(z1T b l).Nodup:=by
 have key:(z1T b l).Pairwise fun x y=>x.2.2.1<y.2.2.1∨(x.2.2.1=y.2.2.1∧(x.1<y.1∨(x.1=y.1∧(x.2.1<y.2.1∨(x.2.1=y.2.1∧x.2.2.2<y.2.2.2))))):=by
  refine List.pairwise_flatMap.2 ⟨fun c _=>List.pairwise_flatMap.2 ⟨fun i _=>List.pairwise_flatMap.2 ⟨fun k _=>?_,?_⟩,?_⟩,?_⟩
  ·rw [List.pairwise_map]
   exact (zX2 b l i c).imp fun h=>by simpa using h
  ·refine ((zKO _).filter _).imp fun {k k'} h x hx y hy=>?_
   obtain ⟨_,_,rfl⟩:=List.mem_map.1 hx
   obtain ⟨_,_,rfl⟩:=List.mem_map.1 hy
   simp at h;simp;omega
  ·refine (zKO _).imp fun {i i'} h x hx y hy=>?_
   obtain ⟨_,_,hx⟩:=List.mem_flatMap.1 hx
   obtain ⟨_,_,hy⟩:=List.mem_flatMap.1 hy
   obtain ⟨_,_,rfl⟩:=List.mem_map.1 hx
   obtain ⟨_,_,rfl⟩:=List.mem_map.1 hy
   simp at h;simp;omega
  ·refine (zKO _).imp fun {c c'} h x hx y hy=>?_
   obtain ⟨_,_,hx⟩:=List.mem_flatMap.1 hx
   obtain ⟨_,_,hy⟩:=List.mem_flatMap.1 hy
   obtain ⟨_,_,hx⟩:=List.mem_flatMap.1 hx
   obtain ⟨_,_,hy⟩:=List.mem_flatMap.1 hy
   obtain ⟨_,_,rfl⟩:=List.mem_map.1 hx
   obtain ⟨_,_,rfl⟩:=List.mem_map.1 hy
   simp at h;simp;omega
 exact key.imp fun {x y} h e=>by subst e;omega
theorem zYq (b:zO) (l:List zI) (i k c:Int):(zWt b l i k c).length≤3:=by rw [List.length_map];exact zXt b l i c
theorem zU0 (h:l.length≤100):(zS3 b l).length≤3000000:=by
 have h1:∀ i k:Int,((yB l k).flatMap fun c=>zWt b l i k c).length≤300:=fun i k=>by
  have:=zOA (fun c=>zWt b l i k c) 3 (yB l k) fun c _=>zYq b l i k c
  have:=zIe l k
  omega
 have h2:∀ i:Int,((wW l.length).flatMap fun k=>(yB l k).flatMap fun c=>zWt b l i k c).length≤30000:=fun i=>by
  have:=zOA (fun k=>(yB l k).flatMap fun c=>zWt b l i k c) 300 (wW l.length) fun k _=>h1 i k
  rw [tE] at this
  omega
 have:=zOA (fun i=>(wW l.length).flatMap fun k=>(yB l k).flatMap fun c=>zWt b l i k c) 30000 (wW l.length) fun i _=>h2 i
 rw [tE] at this
 show ((wW l.length).flatMap _).length≤_
 omega
theorem zJJ (m:List Int) (x:Int) (hb:m.length<9223372036854775807):zAx m x=some (decide (x∈m)):=by
 obtain ⟨r,h1,h2⟩:=zUr m x hb
 unfold zAx zEr
 rw [show zU (zKk m x) 0=some r from h1]
 simp only [zob]
 congr 1
 rw [decide_eq_decide,h2]
 simp
theorem zZJ (h:FormB b l):zE3 b l=some (zS3 b l):=by
 have hl:=h.len
 have h1:∀ i c:Int,(((wW l.length).filter fun k=>decide (c∈yB l k)).flatMap fun k=>zWt b l i k c).length≤300:=fun i c=>by
  have:=zOA (fun k=>zWt b l i k c) 3 ((wW l.length).filter fun k=>decide (c∈yB l k)) fun k _=>zYq b l i k c
  have:=List.length_filter_le (fun k=>decide (c∈yB l k)) (wW l.length)
  rw [tE] at this
  omega
 have h2:∀ c:Int,((wW l.length).flatMap fun i=>((wW l.length).filter fun k=>decide (c∈yB l k)).flatMap fun k=>zWt b l i k c).length≤30000:=fun c=>by
  have:=zOA (fun i=>((wW l.length).filter fun k=>decide (c∈yB l k)).flatMap fun k=>zWt b l i k c) 300 (wW l.length) fun i _=>h1 i c
  rw [tE] at this
  omega
 have hL:zU (zCd l b) ([],0)=some (z1T b l):=by
  refine zMF (B:=zCd l b) (wW l.length) (fun c=>(wW l.length).flatMap fun i=>((wW l.length).filter fun k=>decide (c∈yB l k)).flatMap fun k=>zWt b l i k c) (fun s=>s) 30000 (fun c _=>h2 c) [] (fun q c s hc hs=>?_) (fun s=>?_)
  ·obtain ⟨rfl,hq⟩:=zQY hc
   have hd:decide ((q:Int)<len l)=true:=by simp [len];omega
   simp only [List.length_nil] at hs
   unfold zCd
   simp only [hd,if_true]
   refine (zMF (B:=zDA l b (s,(q:Int))) (wW l.length) (fun i=>((wW l.length).filter fun k=>decide ((q:Int)∈yB l k)).flatMap fun k=>zWt b l i k (q:Int)) (fun r=>.inl (r,zS ((q:Int)+1))) 300 (fun i _=>h1 i _) s (fun u i s' hi hs'=>?_) (fun s'=>?_)).trans ?_
   ·obtain ⟨rfl,hu⟩:=zQY hi
    have hd:decide ((u:Int)<len l)=true:=by simp [len];omega
    unfold zDA
    simp only [hd,if_true,z3U h (show (0:Int)≤u by omega) (by omega) (show (0:Int)≤q by omega) (by omega),zob,len0]
    cases hk:(zNb b l u q).isEmpty with
    | true =>
     have:zNb b l u q=[]:=List.isEmpty_iff.1 hk
     have hz:(((wW l.length).filter fun k=>decide ((q:Int)∈yB l k)).flatMap fun k=>zWt b l u k (q:Int))=[]:=by
      rw [List.flatMap_eq_nil_iff]
      intro k _
      simp only [zWt,this,List.map_nil]
     simp only [if_true,yM u (by omega),hz,List.append_nil]
    | false =>
     simp only [zbf,if_false]
     rw [zU1]
     refine (zMF (B:=zCx l (s,(q:Int)) (zNb b l u q) (s',(u:Int))) (wW l.length) (fun k=>if decide ((q:Int)∈yB l k) then zWt b l u k (q:Int) else []) (fun r=>.inl (r,zS ((u:Int)+1))) 3 (fun k _=>by
      split
      ·exact zYq b l _ _ _
      ·simp) s' (fun v k s'' hk2 hs''=>?_) (fun s''=>?_)).trans ?_
     ·obtain ⟨rfl,hv⟩:=zQY hk2
      have hd:decide ((v:Int)<len l)=true:=by simp [len];omega
      have hsl:=zIe l v
      unfold zCx
      simp only [hd,if_true,zT3 h.toFormA (show (0:Int)≤v by omega) (by omega),zob,zJJ (yB l v) q (by omega)]
      cases hm:decide ((q:Int)∈yB l v) with
      | false=>simp only [Bool.not_false,if_true,yM v (by omega),zbf,if_false,List.append_nil]
      | true =>
       simp only [Bool.not_true,zbf,if_false,if_true]
       have hkl:=zXt b l u q
       refine (zMF (B:=zGR (zNb b l u q) (s',(u:Int)) (s'',(v:Int)) (s,(q:Int))) (zNb b l u q) (fun kd=>[((u:Int),(v:Int),(q:Int),kd)]) (fun r=>.inl (r,zS ((v:Int)+1))) 1 (fun _ _=>by simp) s'' (fun w kd s3 hw hs3=>?_) (fun s3=>?_)).trans ?_
       ·have:=vF hw
        unfold zGR
        simp only [wS hw,if_true,wP hw,zob]
        rw [vY (by rw [List.length_singleton];omega)]
        simp only [zob,wR hw (by omega)]
       ·unfold zGR
        simp only [yU,zbf,if_false]
       ·simp only [yM v (by omega),zWt,List.map_eq_flatMap]
     ·unfold zCx
      have hd:decide (((wW l.length).length:Int)<len l)=false:=by rw [tE];exact yU l
      simp only [hd,zbf,if_false]
     ·simp only [yM u (by omega)]
   ·unfold zDA
    have hd:decide (((wW l.length).length:Int)<len l)=false:=by rw [tE];exact yU l
    simp only [hd,zbf,if_false]
   ·simp only [yM q (by omega)]
  ·unfold zCd
   have hd:decide (((wW l.length).length:Int)<len l)=false:=by rw [tE];exact yU l
   simp only [hd,zbf,if_false]
 have hPS:(z1T b l).Perm (zS3 b l):=by
  refine (List.perm_ext_iff_of_nodup (zZR b l) ?_).2 fun y=>z3C y
  exact (zYK b l).imp fun {x y} h e=>by subst e;rw [z6u.irrefl] at h;cases h
 unfold zE3
 rw [hL]
 simp only [zob]
 have hlen:=zU0 (b:=b) hl
 rw [zSp (by rw [hPS.length_eq];omega)]
 simp only [zob]
 congr 1
 refine List.Perm.eq_of_pairwise (le:=fun x y=>lt4 y x=false) (fun x y _ _ g1 g2=>?_) (zM5 z6u _) ((zYK b l).imp fun h=>z6u.asymm h) ((List.mergeSort_perm _ _).trans hPS)
 rcases z6u.tri x y with h | h | h
 ·rw [h] at g2;cases g2
 ·exact h
 ·rw [h] at g1;cases g1
noncomputable def z0P (b:zO) (l:List zI) (o:yN) (y:wV):Bool:=y.2.2.2==3||!zQj b l y.1 y.2.2.1 o
noncomputable def zDZ (b:zO) (l:List zI) (o:yN):List wV:=(zS3 b l).filter (z0P b l o)
theorem zUV (h:FormB b l) (o:yN):zDj b l o=some (zDZ b l o):=by
 have hlen:=zU0 (b:=b) h.len
 unfold zDj
 rw [zZJ h]
 simp only [zob]
 have hd:=zWE (fun x=>zCX x b l o) (fun x=>x.2.2.2 != 3&&zQj b l x.1 x.2.2.1 o) (0,0,0,0) (zS3 b l) (by omega) (fun x _=>by
  simp only [zCX]
  cases hx:x.2.2.2 != 3 with
  | true=>simp [z3K h]
  | false=>simp)
 rw [show zA4 (zS3 b l) b l o=zWc (fun x=>zCX x b l o) (0,0,0,0) (zS3 b l) from rfl,hd]
 simp only [zob,zDZ]
 congr 1
 refine List.filter_congr fun x _=>?_
 simp only [z0P]
 cases hx:x.2.2.2==3 <;> simp [bne,hx]
end
section
section
variable {α ρ:Type}
def zXB (q:α->Bool) (l:List α):Int:=if l.any q then (l.findIdx q:Int) else -1
theorem zPg {B:Int->Option (Int⊕ρ)} (q:α->Bool) (l:List α) (no:ρ) (yes:Int->ρ) (hB:∀ (i:Nat) x,l[i]?=some x->B (i:Int)=some (if q x then .inr (yes (i:Int)) else .inl ((i+1:Nat):Int))) (he:B (l.length:Int)=some (.inr no)) :
  zU B 0=some (if l.any q then yes (zXB q l) else no):=by
 have key:∀ (n i:Nat),i+n=l.length->zU B (i:Int)=some (if (l.drop i).any q then yes ((i+(l.drop i).findIdx q:Nat):Int) else no):=by
  intro n
  induction n with
  | zero =>
   intro i h
   rw [Nat.add_zero] at h
   subst h
   rw [yF,he,List.drop_length]
   rfl
  | succ n ih =>
   intro i h
   have hx:l[i]?=some l[i]:=List.getElem?_eq_getElem (by omega)
   rw [yF,hB i _ hx,List.drop_eq_getElem_cons (by omega)]
   cases hp:q l[i] with
   | true=>simp only [if_true,List.any_cons,hp,Bool.true_or,List.findIdx_cons,cond_true,Nat.add_zero]
   | false =>
    simp only [zbf,if_false,List.any_cons,hp,Bool.false_or,List.findIdx_cons,cond_false]
    rw [ih (i+1) (by omega)]
    rw [show i+1+(l.drop (i+1)).findIdx q=i+((l.drop (i+1)).findIdx q+1) by omega]
 have h:=key l.length 0 (by omega)
 simp only [List.drop_zero,Nat.zero_add] at h
 rw [show zU B 0=_ from h,zXB]
 cases l.any q <;> rfl
theorem zWR {q:α->Bool} {l:List α} {i:Nat} {x:α} (hx:l[i]?=some x) (hq:q x=true):0≤zXB q l∧zXB q l≤i:=by
 have ha:l.any q=true:=List.any_eq_true.2 ⟨x,wZ hx,hq⟩
 rw [zXB,if_pos ha]
 refine ⟨by omega,?_⟩
 have hi:=vF hx
 rw [List.getElem?_eq_getElem hi] at hx
 have hq':q l[i]=true:=by rw [Option.some.inj hx];exact hq
 have:l.findIdx q≤i:=by
  refine Nat.le_of_not_lt fun h=>?_
  have:=List.not_of_lt_findIdx h
  rw [hq'] at this;simp at this
 omega
theorem zWn {q:α->Bool} {l:List α} (h:0≤zXB q l):∃ (k:Nat) (x:α),zXB q l=(k:Int)∧l[k]?=some x∧q x=true∧∀ j y,j<k->l[j]?=some y->q y=false:=by
 unfold zXB at h ⊢
 split at h
 ·rename_i ha
  rw [if_pos ha]
  obtain ⟨x,hx,hq⟩:=List.any_eq_true.1 ha
  have hlt:l.findIdx q<l.length:=List.findIdx_lt_length_of_exists ⟨x,hx,hq⟩
  refine ⟨_,l[l.findIdx q],rfl,List.getElem?_eq_getElem hlt,List.findIdx_getElem,fun j y hj hy=>?_⟩
  have hjl:=vF hy
  rw [List.getElem?_eq_getElem hjl] at hy
  have:=List.not_of_lt_findIdx hj
  rw [←Option.some.inj hy]
  simpa using this
 ·omega
theorem zZj {q:α->Bool} {l:List α}:zXB q l<0↔l.any q=false:=by
 unfold zXB
 cases h:l.any q
 ·simp
 ·simp
def tT (e:Nat->α->Int):Nat->List α->Int
 | _,[]=>0
 | i,x::r=>if e i x != 0 then e i x else tT e (i+1) r
theorem zNa {B:Int->Option (Int⊕ρ)} (l:List α) (e:Nat->α->Int) (yes:Int->ρ) (no:ρ) (hB:∀ (i:Nat) x,l[i]?=some x->B (i:Int)=some (if e i x != 0 then .inr (yes (e i x)) else .inl ((i+1:Nat):Int))) (he:B (l.length:Int)=some (.inr no)) :
  zU B 0=some (if tT e 0 l != 0 then yes (tT e 0 l) else no):=by
 have key:∀ (n i:Nat),i+n=l.length->zU B (i:Int)=some (if tT e i (l.drop i) != 0 then yes (tT e i (l.drop i)) else no):=by
  intro n
  induction n with
  | zero =>
   intro i h
   rw [Nat.add_zero] at h
   subst h
   rw [yF,he,List.drop_length]
   rfl
  | succ n ih =>
   intro i h
   have hx:l[i]?=some l[i]:=List.getElem?_eq_getElem (by omega)
   rw [yF,hB i _ hx,List.drop_eq_getElem_cons (by omega)]
   simp only [tT]
   by_cases hp:e i l[i]=0
   ·simp only [hp,bne_self_eq_false,zbf,if_false];exact ih (i+1) (by omega)
   ·have hp':(e i l[i] != 0)=true:=by simpa using hp
    simp only [hp',if_true]
 have h:=key l.length 0 (by omega)
 simpa using h
theorem zU6 {e:Nat->α->Int}:∀ {l:List α} {k:Nat},tT e k l=0↔∀ (i:Nat) x,l[i]?=some x->e (k+i) x=0
 | [],k=>by simp [tT]
 | x::r,k=>by
  simp only [tT]
  constructor
  ·intro h
   cases hx:e k x != 0 with
   | true=>rw [hx] at h;simp only [if_true] at h;rw [h] at hx;simp at hx
   | false =>
    rw [hx] at h
    simp only [zbf,if_false] at h
    intro i y hy
    cases i with
    | zero=>simp at hy;subst hy;simpa using hx
    | succ i=>rw [show k+(i+1)=k+1+i by omega];exact zU6.1 h i y (by simpa using hy)
  ·intro h
   have h0:=h 0 x rfl
   rw [Nat.add_zero] at h0
   rw [h0]
   simp only [bne_self_eq_false,zbf,if_false]
   exact zU6.2 fun i y hy=>by rw [show k+1+i=k+(i+1) by omega];exact h (i+1) y (by simpa using hy)
end
abbrev zIc (n:Int):Bool:=decide (0≤n)&&decide (n≤9)
def tD (p:vT):Int :=
 if p.2.1==1||p.2.1==2||p.2.1==3 then
  if vName p.1.2&&zIc p.2.2.1&&(p.2.1==2||p.2.2.1==0)&&(p.2.2.2==[]||vName p.2.2.2) then 0 else 1
 else 4
def z52:List zG->Bool
 | a::b::r=>vH a b&&z52 (b::r)
 | _=>true
def xZ (r:qL):Int :=
 if 4<r.2.2.2.1.length then 2
 else if vName r.1&&vName r.2.2.2.2.2&&zIc r.2.2.1&&(!r.2.1||r.2.2.1==0)&&r.2.2.2.1.all (fun x=>vName x.2) then (if z52 r.2.2.2.1 then 0 else 8) else 1
def zMt (b:zO) (nm:qD):Int:=zXB (fun r:qL=>r.1==nm) b.2.1
def zU5 (b:zO) (x:zG):Int:=zXB (fun p:vT=>p.1==x) b.1
def zTQ (b:zO) (p:vQ):Int :=
 if zIc p.2.1&&vName p.2.2.2 then (if zMt b p.1<0 then 6 else match zF b.2.1 (zMt b p.1) with | some r=>if r.2.1 then 4 else 0 | none=>0) else 1
def zP4 (b:zO):Int :=
 if 16<b.1.length||24<b.2.1.length||8<b.2.2.length then 2
 else
  let e1:=tT (fun i p=>if tD p != 0 then tD p else if zU5 b p.1<(i:Int) then 5 else 0) 0 b.1
  if e1 != 0 then e1 else
  let e2:=tT (fun i r=>if xZ r != 0 then xZ r else if zMt b r.1<(i:Int) then 5 else 0) 0 b.2.1
  if e2 != 0 then e2 else tT (fun _ p=>zTQ b p) 0 b.2.2
theorem z05 (p:vT):zD9 p=some (tD p):=by
 unfold zD9 zCw zEl tD
 simp only [zRe,zTk,zob]
 by_cases k1:p.2.1=1
 ·by_cases h0:p.2.2.1=0
  ·cases vName p.1.2 <;> cases p.2.2.2==[] <;> cases vName p.2.2.2 <;> simp [k1,h0,yD]
  ·simp [k1,h0,yD]
 ·by_cases k3:p.2.1=3
  ·by_cases h0:p.2.2.1=0
   ·cases vName p.1.2 <;> cases p.2.2.2==[] <;> cases vName p.2.2.2 <;> simp [k3,h0,yD]
   ·simp [k3,h0,yD]
  ·by_cases k2:p.2.1=2
   ·cases hr:zIc p.2.2.1 <;> cases vName p.1.2 <;> cases p.2.2.2==[] <;> cases vName p.2.2.2 <;> simp [k2,yD,hr]
   ·simp [k1,k2,k3,yD]
theorem zZ6 (p:vT):zJg p=some (tD p):=by
 unfold zJg zHo tD
 simp only [zRu,zOK,zob]
 by_cases k1:p.2.1=1
 ·by_cases h0:p.2.2.1=0
  ·cases vName p.1.2 <;> cases p.2.2.2==[] <;> cases vName p.2.2.2 <;> simp [k1,h0]
  ·cases hr:zIc p.2.2.1 <;> cases hv:vName p.1.2 <;> simp [k1,h0,hr]
 ·by_cases k3:p.2.1=3
  ·by_cases h0:p.2.2.1=0
   ·cases vName p.1.2 <;> cases p.2.2.2==[] <;> cases vName p.2.2.2 <;> simp [k3,h0]
   ·cases hr:zIc p.2.2.1 <;> cases hv:vName p.1.2 <;> simp [k3,h0,hr]
  ·by_cases k2:p.2.1=2
   ·cases hr:zIc p.2.2.1 <;> cases vName p.1.2 <;> cases p.2.2.2==[] <;> cases vName p.2.2.2 <;> simp [k2,hr]
   ·have:(decide (p.2.1<1)||decide (3<p.2.1))=true:=by simp;omega
    simp [k1,k2,k3,this]
theorem zXW {B:Int->Option (Int⊕Int)} (l:List zG) (hl:l.length<4294967296)
  (hB:∀ (i:Nat) x y,l[i]?=some x->l[i+1]?=some y->B ((i+1:Nat):Int)=some (if decide (0≤zOW x y) then .inr 8 else .inl ((i+1+1:Nat):Int))) (he:∀ k:Nat,l.length≤k->B (k:Int)=some (.inr 0)) :
  zU B 1=some (if z52 l then 0 else 8):=by
 have key:∀ (n i:Nat),i+1+n=l.length->zU B ((i+1:Nat):Int)=some (if z52 (l.drop i) then 0 else 8):=by
  intro n
  induction n with
  | zero =>
   intro i h
   rw [yF,he (i+1) (by omega),List.drop_eq_getElem_cons (by omega),List.drop_of_length_le (by omega)]
   rfl
  | succ n ih =>
   intro i h
   have hx:l[i]?=some l[i]:=List.getElem?_eq_getElem (by omega)
   have hy:l[i+1]?=some l[i+1]:=List.getElem?_eq_getElem (by omega)
   rw [yF,hB i _ _ hx hy,List.drop_eq_getElem_cons (by omega),List.drop_eq_getElem_cons (by omega)]
   have hc:decide (0≤zOW l[i] l[i+1])=!vH l[i] l[i+1]:=by
    unfold zOW
    cases vH l[i] l[i+1] with
    | true=>simp
    | false =>
     simp only [zbf,if_false]
     split <;> simp
   rw [hc]
   cases hlt:vH l[i] l[i+1] with
   | true =>
    simp only [Bool.not_true,zbf,if_false]
    rw [ih (i+1) (by omega),List.drop_eq_getElem_cons (show i+1<l.length by omega)]
    simp only [z52,hlt,Bool.true_and]
   | false=>simp only [Bool.not_false,if_true,z52,hlt,Bool.false_and,zbf,if_false]
 match l,hl,hB,he,key with
 | [],_,_,he,_=>rw [yF,show (1:Int)=((1:Nat):Int) from rfl,he 1 (by simp)];rfl
 | x::r,_,_,_,key=>exact key r.length 0 (by simp;omega)
theorem z5i (r:qL):zFr r=some (xZ r):=by
 unfold zFr xZ
 by_cases h4:4<r.2.2.2.1.length
 ·have:decide (4<len r.2.2.2.1)=true:=by simp [len];omega
  simp only [this,if_true,h4]
 have hr:r.2.2.2.1.length<4294967296:=by omega
 have:decide (4<len r.2.2.2.1)=false:=by simp [len];omega
 simp only [this,zbf,if_false,h4,zTk,zRe,zCw,zob]
 have hc:(if (!vName r.1)=true then some true else if (!vName r.2.2.2.2.2)=true then some true else if (!(decide (0≤r.2.2.1)&&decide (r.2.2.1≤9)))=true then some true else if r.2.1=true then some (r.2.2.1 != 0) else some false)
   = some (!(vName r.1&&vName r.2.2.2.2.2&&zIc r.2.2.1&&(!r.2.1||r.2.2.1==0))):=by
  cases vName r.1 <;> cases vName r.2.2.2.2.2 <;> cases hk:zIc r.2.2.1 <;> cases r.2.1 <;> simp [hk,bne]
 rw [hc]
 simp only [zob]
 cases hg:(vName r.1&&vName r.2.2.2.2.2&&zIc r.2.2.1&&(!r.2.1||r.2.2.1==0)) with
 | false=>simp
 | true =>
  simp only [Bool.not_true,zbf,if_false,Bool.true_and]
  have h1:=zOq (B:=zD0 r) r.2.2.2.1 (fun x=>!vName x.2) (.inr 1:Unit⊕Int) (.inl ()) (fun i x hx=>by
   unfold zD0
   simp only [wS hx,if_true,wP hx,zob,zRe,wR hx hr]
   cases vName x.2 <;> rfl) (by unfold zD0;simp only [yU,zbf,if_false])
  rw [h1]
  have hall:r.2.2.2.1.all (fun x=>vName x.2)=!r.2.2.2.1.any (fun x=>!vName x.2):=by rw [List.all_eq_not_any_not]
  rw [hall]
  cases r.2.2.2.1.any (fun x=>!vName x.2) with
  | true=>rfl
  | false =>
   simp only [yD,zob,zbf,if_false,Bool.not_false,if_true]
   refine zXW (B:=zHO r) r.2.2.2.1 hr (fun i x y hx hy=>?_) (fun k hk=>?_)
   ·unfold zHO
    have e1:zS (((i+1:Nat):Int)-1)=(i:Int):=by have:=vF hy;rw [xV (by omega) (by omega)];omega
    simp only [wS hy,if_true,wP hy,e1,wP hx,zob,zNu,wR hy hr]
    split <;> rfl
   ·unfold zHO
    have:decide ((k:Int)<len r.2.2.2.1)=false:=by simp [len];omega
    simp only [this,zbf,if_false]
theorem z4g (r:qL):zMa r=some (xZ r):=by
 unfold zMa xZ
 by_cases h4:4<r.2.2.2.1.length
 ·have:decide (4<len r.2.2.2.1)=true:=by simp [len];omega
  simp only [this,if_true,h4]
 have hr:r.2.2.2.1.length<4294967296:=by omega
 have:decide (4<len r.2.2.2.1)=false:=by simp [len];omega
 simp only [this,zbf,if_false,h4,zOK,zRu,zHo,zob]
 have hc:(if vName r.1=true then if (decide (0≤r.2.2.1)&&decide (r.2.2.1≤9))=true then if (!r.2.1)=true then some (vName r.2.2.2.2.2) else if (r.2.2.1==0)=true then some (vName r.2.2.2.2.2) else some false else some false else some false)
   = some (vName r.1&&vName r.2.2.2.2.2&&zIc r.2.2.1&&(!r.2.1||r.2.2.1==0)):=by
  cases vName r.1 <;> cases vName r.2.2.2.2.2 <;> cases hk:zIc r.2.2.1 <;> cases r.2.1 <;> cases hz:r.2.2.1==0 <;> simp [hk]
 rw [hc]
 simp only [zob]
 have h1:=zDz (B:=zJq r) r.2.2.2.1 (fun s x=>s&&vName x.2) (fun s=>s) (fun _ _=>True) (vName r.1&&vName r.2.2.2.2.2&&zIc r.2.2.1&&(!r.2.1||r.2.2.1==0)) trivial (fun i x s hx _=>⟨by
  unfold zJq
  simp only [wS hx,if_true,wP hx,zob,zRu]
  cases s <;> simp only [zbf,if_false,if_true,zob,wR hx hr,Bool.false_and,Bool.true_and],trivial⟩) (fun s _=>by unfold zJq;simp only [yU,zbf,if_false])
 rw [h1.1]
 have hf:∀ (l:List zG) (g:Bool),l.foldl (fun s x=>s&&vName x.2) g=(g&&l.all (fun x=>vName x.2)):=by
  intro l
  induction l with
  | nil=>intro g;simp
  | cons x l ih=>intro g;rw [List.foldl_cons,ih,List.all_cons,Bool.and_assoc]
 rw [hf]
 simp only [zob]
 cases hg:(vName r.1&&vName r.2.2.2.2.2&&zIc r.2.2.1&&(!r.2.1||r.2.2.1==0)&&r.2.2.2.1.all (fun x=>vName x.2)) with
 | false=>rfl
 | true =>
  simp only [Bool.not_true,zbf,if_false,if_true]
  refine zXW (B:=zJZ r) r.2.2.2.1 hr (fun i x y hx hy=>?_) (fun k hk=>?_)
  ·unfold zJZ
   have e1:zS (((i+1:Nat):Int)-1)=(i:Int):=by have:=vF hy;rw [xV (by omega) (by omega)];omega
   simp only [wS hy,if_true,wP hy,e1,wP hx,zob,zTv,wR hy hr]
   split <;> rfl
  ·unfold zJZ
   have:decide ((k:Int)<len r.2.2.2.1)=false:=by simp [len];omega
   simp only [this,zbf,if_false]
theorem zUI {α:Type} (q:α->Bool) (l:List α):(if l.any q then zXB q l else -1)=zXB q l:=by unfold zXB;split <;> rfl
theorem zWV (b:zO) (nm:qD) (h:b.2.1.length<4294967296):zKj b nm=some (zMt b nm):=by
 have:=zPg (B:=zJV b nm) (fun r:qL=>r.1==nm) b.2.1 (-1:Int) (fun i=>i) (fun i x hx=>by
  unfold zJV
  simp only [wS hx,if_true,wP hx,zob,wR hx h]
  split <;> rfl) (by unfold zJV;simp only [yU,zbf,if_false])
 rw [zUI] at this
 exact this
theorem zY5 (b:zO) (x:zG) (h:b.1.length<4294967296):zMA b x=some (zU5 b x):=by
 have:=zPg (B:=zHV b x) (fun r:vT=>r.1==x) b.1 (-1:Int) (fun i=>i) (fun i x hx=>by
  unfold zHV
  simp only [wS hx,if_true,wP hx,zob,wR hx h]
  split <;> rfl) (by unfold zHV;simp only [yU,zbf,if_false])
 rw [zUI] at this
 exact this
theorem z3F (b:zO) (nm:qD) (h:b.2.1.length<4294967296):zEI b nm=some (zMt b nm):=by
 have:=zPg (B:=zBN b.2.1 nm) (fun r:qL=>r.1==nm) b.2.1 (-1:Int) (fun i=>i) (fun i x hx=>by
  unfold zBN zKN
  simp only [wS hx,if_true,wP hx,zob,wR hx h]
  split <;> rfl) (by unfold zBN;simp only [yU,zbf,if_false])
 rw [zUI] at this
 unfold zEI zAr
 rw [this]
 rfl
theorem z1G (b:zO) (x:zG) (h:b.1.length<4294967296):zDQ b x=some (zU5 b x):=by
 have:=zPg (B:=zAj b.1 x) (fun r:vT=>r.1==x) b.1 (-1:Int) (fun i=>i) (fun i x hx=>by
  unfold zAj zIY
  simp only [wS hx,if_true,wP hx,zob,wR hx h]
  split <;> rfl) (by unfold zAj;simp only [yU,zbf,if_false])
 rw [zUI] at this
 unfold zDQ zAZ
 rw [this]
 rfl
theorem zX1 {b:zO} {nm:qD} (h:¬ zMt b nm<0):∃ r,zF b.2.1 (zMt b nm)=some r:=by
 obtain ⟨k,x,h1,h2,_⟩:=zWn (q:=fun r:qL=>r.1==nm) (l:=b.2.1) (by unfold zMt at h;omega)
 exact ⟨x,by rw [zMt,h1];exact wP h2⟩
theorem zXx (b:zO) (p:vQ) (h:b.2.1.length<4294967296):zCn b p=some (zTQ b p):=by
 unfold zCn zTQ zCw
 simp only [zRe,z3F b p.1 h,zob,zIc]
 by_cases hr:(decide (0≤p.2.1)&&decide (p.2.1≤9))=true
 ·simp only [hr,Bool.true_and,Bool.not_true,zbf,if_false]
  cases hv:vName p.2.2.2 with
  | false=>rfl
  | true =>
   simp only [Bool.not_true,zbf,if_false,zob,if_true]
   by_cases hn:zMt b p.1<0
   ·simp [hn]
   ·obtain ⟨r,hr2⟩:=zX1 hn
    simp only [hn,decide_false,zbf,if_false,hr2,zob]
    split <;> rfl
 ·rw [Bool.not_eq_true] at hr
  simp only [hr,Bool.false_and,Bool.not_false,if_true,zob,zbf,if_false]
structure Cnt (b:zO):Prop where
 p:b.1.length<4294967296
 r:b.2.1.length<4294967296
 m:b.2.2.length<4294967296
 q:∀ r∈b.2.1,r.2.2.2.1.length<4294967296
structure Cnt3 (b:zO):Prop where
 p:b.1.length<4294967296
 r:b.2.1.length<4294967296
 m:b.2.2.length<4294967296
theorem Cnt.c3 {b:zO} (h:Cnt b):Cnt3 b:=⟨h.p,h.r,h.m⟩
theorem zRx {b:zO} (h:Cnt3 b):zDb b=some (zP4 b):=by
 unfold zDb zP4
 have h0:(decide (16<len b.1)||(decide (24<len b.2.1)||decide (8<len b.2.2)))=(decide (16<b.1.length)||decide (24<b.2.1.length)||decide (8<b.2.2.length)):=by
  rw [Bool.eq_iff_iff];simp [len];omega
 rw [h0]
 cases hc:(decide (16<b.1.length)||decide (24<b.2.1.length)||decide (8<b.2.2.length)) with
 | true=>simp
 | false =>
  simp only [zbf,if_false]
  rw [zNa (B:=zG9 b) b.1 (fun i p=>if tD p != 0 then tD p else if zU5 b p.1<(i:Int) then 5 else 0) (fun e=>(.inr e:Unit⊕Int)) (.inl ()) (fun i x hx=>by
   unfold zG9
   simp only [wS hx,if_true,wP hx,zob,zZ6,zY5 b x.1 h.p,wR hx h.p]
   cases hp:tD x != 0 with
   | true=>simp only [if_true,hp]
   | false =>
    by_cases hq:zU5 b x.1<(i:Int)
    ·simp [hq]
    ·simp [hq]) (by unfold zG9;simp only [yU,zbf,if_false])]
  cases he:tT (fun i p=>if tD p != 0 then tD p else if zU5 b p.1<(i:Int) then 5 else 0) 0 b.1 != 0 with
  | true=>simp [yD]
  | false =>
   simp only [zbf,if_false,yD,zob]
   rw [zNa (B:=zGU b) b.2.1 (fun i r=>if xZ r != 0 then xZ r else if zMt b r.1<(i:Int) then 5 else 0) (fun e=>(.inr e:Unit⊕Int)) (.inl ()) (fun i x hx=>by
    unfold zGU
    simp only [wS hx,if_true,wP hx,zob,z4g x,zWV b x.1 h.r,wR hx h.r]
    cases hp:xZ x != 0 with
    | true=>simp only [if_true,hp]
    | false =>
     by_cases hq:zMt b x.1<(i:Int)
     ·simp [hq]
     ·simp [hq]) (by unfold zGU;simp only [yU,zbf,if_false])]
   cases he2:tT (fun i r=>if xZ r != 0 then xZ r else if zMt b r.1<(i:Int) then 5 else 0) 0 b.2.1 != 0 with
   | true=>simp
   | false =>
    simp only [zbf,if_false,zob]
    rw [zNa (B:=zGG b) b.2.2 (fun _ p=>zTQ b p) (fun e=>e) 0 (fun i x hx=>by
     unfold zGG zTQ zHo
     simp only [wS hx,if_true,wP hx,zob,zRu,zWV b x.1 h.r,wR hx h.m,zIc]
     by_cases hr:(decide (0≤x.2.1)&&decide (x.2.1≤9))=true
     ·simp only [hr,Bool.true_and,Bool.not_true,zbf,if_false]
      cases hv:vName x.2.2.2 with
      | false=>rfl
      | true =>
       simp only [Bool.not_true,zbf,if_false,zob,if_true]
       by_cases hn:zMt b x.1<0
       ·simp [hn]
       ·obtain ⟨r,hr2⟩:=zX1 hn
        simp only [hn,decide_false,zbf,if_false,hr2,zob]
        cases r.2.1 <;> simp
     ·rw [Bool.not_eq_true] at hr
      simp only [hr,Bool.false_and,Bool.not_false,if_true,zob,zbf,if_false]
      rfl) (by unfold zGG;simp only [yU,zbf,if_false])]
    cases hz:tT (fun _ p=>zTQ b p) 0 b.2.2 != 0 with
    | true=>simp
    | false=>simp only [zbf,if_false];congr 1;exact (by simpa using hz:_=(0:Int)).symm
theorem zXh {b:zO} (h:Cnt3 b):zCC b=some (zP4 b):=by
 unfold zCC zP4
 have h0:(decide (16<len b.1)||(decide (24<len b.2.1)||decide (8<len b.2.2)))=(decide (16<b.1.length)||decide (24<b.2.1.length)||decide (8<b.2.2.length)):=by
  rw [Bool.eq_iff_iff];simp [len];omega
 rw [h0]
 cases hc:(decide (16<b.1.length)||decide (24<b.2.1.length)||decide (8<b.2.2.length)) with
 | true=>simp
 | false =>
  simp only [zbf,if_false]
  rw [zNa (B:=zC2 b) b.1 (fun i p=>if tD p != 0 then tD p else if zU5 b p.1<(i:Int) then 5 else 0) (fun e=>(.inr e:Unit⊕Int)) (.inl ()) (fun i x hx=>by
   unfold zC2
   simp only [wS hx,if_true,wP hx,zob,z05,z1G b x.1 h.p,wR hx h.p]
   cases hp:tD x != 0 with
   | true=>simp only [if_true,hp]
   | false =>
    by_cases hq:zU5 b x.1<(i:Int)
    ·simp [hq]
    ·simp [hq]) (by unfold zC2;simp only [yU,zbf,if_false])]
  cases he:tT (fun i p=>if tD p != 0 then tD p else if zU5 b p.1<(i:Int) then 5 else 0) 0 b.1 != 0 with
  | true=>simp [yD]
  | false =>
   simp only [zbf,if_false,yD,zob]
   rw [zNa (B:=zC1 b) b.2.1 (fun i r=>if xZ r != 0 then xZ r else if zMt b r.1<(i:Int) then 5 else 0) (fun e=>(.inr e:Unit⊕Int)) (.inl ()) (fun i x hx=>by
    unfold zC1
    simp only [wS hx,if_true,wP hx,zob,z5i x,z3F b x.1 h.r,wR hx h.r]
    cases hp:xZ x != 0 with
    | true=>simp only [if_true,hp]
    | false =>
     by_cases hq:zMt b x.1<(i:Int)
     ·simp [hq]
     ·simp [hq]) (by unfold zC1;simp only [yU,zbf,if_false])]
   cases he2:tT (fun i r=>if xZ r != 0 then xZ r else if zMt b r.1<(i:Int) then 5 else 0) 0 b.2.1 != 0 with
   | true=>simp
   | false =>
    simp only [zbf,if_false,zob]
    rw [zNa (B:=zCZ b) b.2.2 (fun _ p=>zTQ b p) (fun e=>e) 0 (fun i x hx=>by
     unfold zCZ
     simp only [wS hx,if_true,wP hx,zob,zXx b x h.r,wR hx h.m]
     split <;> rfl) (by unfold zCZ;simp only [yU,zbf,if_false])]
    cases hz:tT (fun _ p=>zTQ b p) 0 b.2.2 != 0 with
    | true=>simp
    | false=>simp only [zbf,if_false];congr 1;exact (by simpa using hz:_=(0:Int)).symm
theorem zPE {b:zO} (h:Cnt b):zDb b=some (zP4 b):=zRx h.c3
theorem zZW {b:zO} (h:Cnt b):zCC b=some (zP4 b):=zXh h.c3
structure zKI (b:zO):Prop where
 np:b.1.length≤16
 nr:b.2.1.length≤24
 nm:b.2.2.length≤8
 prem:∀ p∈b.1,tD p=0
 rule:∀ r∈b.2.1,xZ r=0
 dp:∀ (i j:Nat) p q,b.1[i]?=some p->b.1[j]?=some q->p.1=q.1->i=j
 dr:∀ (i j:Nat) p q,b.2.1[i]?=some p->b.2.1[j]?=some q->p.1=q.1->i=j
 prom:∀ p∈b.2.2,zTQ b p=0
theorem zVe {α β:Type} [BEq β] [LawfulBEq β] (g:α->β) (l:List α):(∀ (i:Nat) p,l[i]?=some p->¬ zXB (fun x=>g x==g p) l<(i:Int))↔∀ (i j:Nat) p q,l[i]?=some p->l[j]?=some q->g p=g q->i=j:=by
 constructor
 ·intro h i j p q hp hq e
  have h1:=h i p hp
  have h2:=h j q hq
  have h3:=(zWR (q:=fun x=>g x==g p) hq (by simp [e])).2
  have h4:=(zWR (q:=fun x=>g x==g q) hp (by simp [e])).2
  rw [e] at h1 h3
  omega
 ·intro h i p hp hlt
  have h1:=zWR (q:=fun x=>g x==g p) hp (by simp)
  obtain ⟨k,x,e1,e2,e3,_⟩:=zWn h1.1
  have:=h k i x p e2 hp (by simpa using e3)
  omega
theorem zLa {b:zO}:zP4 b=0↔zKI b:=by
 have hcnd:∀ (a c:Int) (p:Prop) [Decidable p],(if a != 0 then a else if p then 5 else 0)=(0:Int)↔a=0∧¬ p:=fun a c p _=>by
  by_cases ha:a=0
  ·by_cases hp:p <;> simp [ha,hp]
  ·simp [ha]
 have h1:tT (fun i p=>if tD p != 0 then tD p else if zU5 b p.1<(i:Int) then 5 else 0) 0 b.1=0↔(∀ p∈b.1,tD p=0)∧∀ (i j:Nat) p q,b.1[i]?=some p->b.1[j]?=some q->p.1=q.1->i=j:=by
  rw [zU6,←zVe (fun p:vT=>p.1)]
  simp only [Nat.zero_add,hcnd _ 0]
  exact ⟨fun h=>⟨fun p hp=>by obtain ⟨i,hi⟩:=List.mem_iff_getElem?.1 hp;exact (h i p hi).1,fun i p hp=>(h i p hp).2⟩,fun h i p hp=>⟨h.1 p (wZ hp),h.2 i p hp⟩⟩
 have h2:tT (fun i r=>if xZ r != 0 then xZ r else if zMt b r.1<(i:Int) then 5 else 0) 0 b.2.1=0↔(∀ p∈b.2.1,xZ p=0)∧∀ (i j:Nat) p q,b.2.1[i]?=some p->b.2.1[j]?=some q->p.1=q.1->i=j:=by
  rw [zU6,←zVe (fun p:qL=>p.1)]
  simp only [Nat.zero_add,hcnd _ 0]
  exact ⟨fun h=>⟨fun p hp=>by obtain ⟨i,hi⟩:=List.mem_iff_getElem?.1 hp;exact (h i p hi).1,fun i p hp=>(h i p hp).2⟩,fun h i p hp=>⟨h.1 p (wZ hp),h.2 i p hp⟩⟩
 have h3:tT (fun _ p=>zTQ b p) 0 b.2.2=0↔∀ p∈b.2.2,zTQ b p=0:=by
  rw [zU6]
  exact ⟨fun h p hp=>by obtain ⟨i,hi⟩:=List.mem_iff_getElem?.1 hp;exact h i p hi,fun h i p hp=>h p (wZ hp)⟩
 unfold zP4
 cases hc:(decide (16<b.1.length)||decide (24<b.2.1.length)||decide (8<b.2.2.length)) with
 | true =>
  simp only [if_true]
  refine ⟨fun h=>(by cases h),fun h=>?_⟩
  simp at hc
  have:=h.np;have:=h.nr;have:=h.nm
  omega
 | false =>
  simp at hc
  simp only [zbf,if_false]
  constructor
  ·intro h
   have e1:tT (fun i p=>if tD p != 0 then tD p else if zU5 b p.1<(i:Int) then 5 else 0) 0 b.1=0:=by
    refine Decidable.byContradiction fun hn=>?_
    rw [if_pos (by simpa using hn)] at h
    exact hn h
   rw [if_neg (by rw [e1];simp)] at h
   have e2:tT (fun i r=>if xZ r != 0 then xZ r else if zMt b r.1<(i:Int) then 5 else 0) 0 b.2.1=0:=by
    refine Decidable.byContradiction fun hn=>?_
    rw [if_pos (by simpa using hn)] at h
    exact hn h
   rw [if_neg (by rw [e2];simp)] at h
   exact ⟨by omega,by omega,by omega,(h1.1 e1).1,(h2.1 e2).1,(h1.1 e1).2,(h2.1 e2).2,h3.1 h⟩
  ·intro h
   rw [if_neg (by rw [h1.2 ⟨h.prem,h.dp⟩];simp),if_neg (by rw [h2.2 ⟨h.rule,h.dr⟩];simp)]
   exact h3.2 h.prom
end
section
variable {b:zO} {l m:List zI}
structure FormC (b:zO) (l:List zI):Prop extends FormB b l where
 l41:l.length≤41
 pr:∀ (i:Nat) a p,l[i]?=some a->0≤a.1->zF b.1 a.1=some p->a.2.2.2=p.1∧a.2.2.1=[]
 ru:∀ (i:Nat) a r,l[i]?=some a->0≤a.2.1->zF b.2.1 a.2.1=some r->a.2.2.2=r.2.2.2.2∧a.2.2.1.length=r.2.2.2.1.length∧∀ (j:Nat) k y,a.2.2.1[j]?=some k->r.2.2.2.1[j]?=some y->∃ a',zF l k=some a'∧a'.2.2.2=y
structure z4B (b:zO) (l:List zI) (a:zI):Prop where
 p:a.1=-1
 r:∃ q,zF b.2.1 a.2.1=some q∧a.2.2.2=q.2.2.2.2∧a.2.2.1.length=q.2.2.2.1.length∧a.2.2.1.length≤100∧∀ (j:Nat) k y,a.2.2.1[j]?=some k->q.2.2.2.1[j]?=some y->∃ a',zF l k=some a'∧a'.2.2.2=y
theorem zQW {α:Type} {l:List α} {i:Int} {x:α} (h:zF l i=some x):0≤i∧i<l.length:=by
 obtain ⟨n,rfl,hn⟩:=zNG h
 exact ⟨by omega,by have:=vF hn;omega⟩
theorem zSi {α:Type} {l m:List α} {i:Int} {x:α} (h:zF l i=some x):zF (l++m) i=some x:=by
 obtain ⟨n,rfl,hn⟩:=zNG h
 rw [xL,List.getElem?_append_left (vF hn)]
 exact hn
theorem zKY {α:Type} {l m:List α} {i:Int} (h1:i<l.length):zF (l++m) i=zF l i:=by
 unfold zF
 split
 ·rw [List.getElem?_append_left (by omega)]
 ·rfl
theorem z4B.sub {a:zI} (h:z4B b l a):∀ k∈a.2.2.1,0≤k∧k<l.length:=by
 intro k hk
 obtain ⟨q,_,_,h3,_,h5⟩:=h.r
 obtain ⟨j,hj⟩:=List.mem_iff_getElem?.1 hk
 have hjl:=vF hj
 obtain ⟨a',h6,_⟩:=h5 j k _ hj (List.getElem?_eq_getElem (by omega))
 exact zQW h6
theorem z4B.more {a:zI} (h:z4B b l a):z4B b (l++m) a:=by
 obtain ⟨q,h1,h2,h3,h4,h5⟩:=h.r
 exact ⟨h.p,q,h1,h2,h3,h4,fun j k y hk hy=>by obtain ⟨a',h6,h7⟩:=h5 j k y hk hy;exact ⟨a',zSi h6,h7⟩⟩
theorem FormC.app (h:FormC b l) (hm:∀ a∈m,z4B b l a) (hl:l.length+m.length≤41):FormC b (l++m):=by
 have hlen:(l++m).length≤41:=by rw [List.length_append];exact hl
 have key:∀ (i:Nat) a,(l++m)[i]?=some a->(l[i]?=some a∧i<l.length)∨(l.length≤i∧a∈m):=fun i a ha=>by
  by_cases hi:i<l.length
  ·rw [List.getElem?_append_left hi] at ha;exact .inl ⟨ha,hi⟩
  ·rw [List.getElem?_append_right (by omega)] at ha;exact .inr ⟨by omega,wZ ha⟩
 refine ⟨⟨⟨by omega,fun a ha=>?_,fun i a ha k hk=>?_⟩,h.np,h.nr,fun i a ha=>?_⟩,hlen,fun i a p ha h0 hp=>?_,fun i a r ha h0 hr=>?_⟩
 ·rcases List.mem_append.1 ha with ha | ha
  ·exact h.nsub a ha
  ·obtain ⟨q,_,_,_,h4,_⟩:=(hm a ha).r;exact h4
 ·rcases key i a ha with ⟨h1,_⟩ | ⟨h1,h2⟩
  ·exact h.sub i a h1 k hk
  ·have:=(hm a h2).sub k hk;omega
 ·rcases key i a ha with ⟨h1,_⟩ | ⟨h1,h2⟩
  ·exact h.kind i a h1
  ·obtain ⟨q,h3,_⟩:=(hm a h2).r
   have:=zQW h3
   exact .inr ⟨(hm a h2).p,this⟩
 ·rcases key i a ha with ⟨h1,_⟩ | ⟨h1,h2⟩
  ·exact h.pr i a p h1 h0 hp
  ·rw [(hm a h2).p] at h0;omega
 ·rcases key i a ha with ⟨h1,_⟩ | ⟨h1,h2⟩
  ·obtain ⟨g1,g2,g3⟩:=h.ru i a r h1 h0 hr
   exact ⟨g1,g2,fun j k y hk hy=>by obtain ⟨a',h6,h7⟩:=g3 j k y hk hy;exact ⟨a',zSi h6,h7⟩⟩
  ·obtain ⟨q,g1,g2,g3,_,g5⟩:=(hm a h2).r
   rw [hr] at g1
   cases g1
   exact ⟨g2,g3,fun j k y hk hy=>by obtain ⟨a',h6,h7⟩:=g5 j k y hk hy;exact ⟨a',zSi h6,h7⟩⟩
theorem z6q (h:FormA l) {i j:Int} (h0:0≤i) (h1:i<l.length):xC (l++m) i j↔xC l i j:=by
 constructor
 ·intro hs
  induction hs with
  | self i=>exact .self i
  | step hi hk _ ih =>
   rw [zKY h1] at hi
   have:=(h.at hi).2.2.2 _ hk
   exact .step hi hk (ih this.1 (by omega))
 ·intro hs
  clear h0 h1
  induction hs with
  | self i=>exact .self i
  | step hi hk _ ih=>exact .step (zSi hi) hk ih
theorem z4T (h:FormA l) (h':FormA (l++m)) {i:Int} (h0:0≤i) (h1:i<l.length):yB (l++m) i=yB l i:=by
 refine vZ.ext tG (zNh _ i) (zNh _ i) fun j=>?_
 rw [zC4 h h0 h1,zC4 h' h0 (by rw [List.length_append];omega),z6q h h0 h1]
theorem z5E (h:FormC b l) (h':FormC b (l++m)) {i:Int} (h0:0≤i) (h1:i<l.length):yG b (l++m) i=yG b l i:=by
 refine vZ.ext tG (zYm _) (zYm _) fun y=>?_
 rw [zI7 h.toFormB h0 h1,zI7 h'.toFormB h0 (by rw [List.length_append];omega),z4T h.toFormA h'.toFormA h0 h1]
 refine exists_congr fun j=>and_congr_right fun hj=>?_
 have:=((zC4 h.toFormA h0 h1 j).1 hj).le h.toFormA h0
 rw [zKY (by omega)]
inductive tM (b:zO) (l:List zI):Int->zG->Prop
 | here {i:Int} {a:zI}:zF l i=some a->tM b l i a.2.2.2
 | step {i k:Int} {a:zI} {r:qL} {y:zG}:zF l i=some a->0≤a.2.1->zF b.2.1 a.2.1=some r->r.2.1=true->k∈a.2.2.1->tM b l k y->tM b l i y
theorem z6m (h:FormA l) {i:Int} {y:zG} (h0:0≤i) (h1:i<l.length):tM b (l++m) i y↔tM b l i y:=by
 constructor
 ·intro hs
  induction hs with
  | here hi=>rw [zKY h1] at hi;exact .here hi
  | step hi hr hq hs hk _ ih =>
   rw [zKY h1] at hi
   have:=(h.at hi).2.2.2 _ hk
   exact .step hi hr hq hs hk (ih this.1 (by omega))
 ·intro hs
  clear h0 h1
  induction hs with
  | here hi=>exact .here (zSi hi)
  | step hi hr hq hs hk _ ih=>exact .step (zSi hi) hr hq hs hk ih
structure z5h (b:zO) (l:List zI):Prop where
 ref:∀ i:Int,0≤i->i<l.length->∃ r,zKQ b l i=some r∧r.length<4294967296∧∀ y,y∈r↔tM b l i y
structure z69 (b:zO) (l:List zI):Prop where
 arg:∀ i:Int,0≤i->i<l.length->∃ r,zFB b l i=some r∧r.length<4294967296∧∀ y,y∈r↔tM b l i y
structure z1q (b:zO) (l:List zI) (sz:Int->Nat):Prop where
 one:∀ i,1≤sz i
 big:∀ i:Int,0≤i->i<l.length->sz i<4294967296
 step:∀ i a r,zF l i=some a->0≤a.2.1->zF b.2.1 a.2.1=some r->r.2.1=true->1+(a.2.2.1.map sz).sum≤sz i
theorem zYb (f:Int->Nat) (l:List Int) (q:Nat):((l.take q).map f).sum≤(l.map f).sum:=by
 have h:=congrArg (fun x=>(x.map f).sum) (List.take_append_drop q l)
 simp only [List.map_append,List.sum_append] at h
 omega
theorem z2H {sz:Int->Nat} (h:FormB b l) (hz:z1q b l sz):∀ (n:Nat) (i:Int),0≤i->i<l.length->i<n->∃ r,zBx n b l i=some r∧r.length≤sz i∧∀ y,y∈r↔tM b l i y:=by
 intro n
 induction n with
 | zero=>intro i h0 _ h2;omega
 | succ n ih =>
  intro i h0 h1 h2
  obtain ⟨a,ha⟩:=zIg h0 h1
  obtain ⟨hn,_,_,hsub⟩:=h.toFormA.at ha
  have h1z:=hz.one i
  show ∃ r,zGa (zBx n) b l i=some r∧_
  unfold zGa
  simp only [ha,zob]
  have hone:∀ (hno:∀ r,0≤a.2.1->zF b.2.1 a.2.1=some r->r.2.1=false) y,y∈[a.2.2.2]↔tM b l i y:=fun hno y=>by
   rw [List.mem_singleton]
   constructor
   ·rintro rfl;exact .here ha
   ·intro hr
    cases hr with
    | here h1=>rw [ha] at h1;cases h1;rfl
    | step h1 h2 h3 h4 _ _=>rw [ha] at h1;cases h1;rw [hno _ h2 h3] at h4;cases h4
  by_cases hr:0≤a.2.1
  ·obtain ⟨r,hr2⟩:=(h.prem ha).2.1 ((h.prem ha).2.2.1 hr)
   simp only [hr,decide_true,if_true,hr2,zob]
   cases hs:r.2.1 with
   | false =>
    exact ⟨_,rfl,by simpa using h1z,hone fun r' _ h3=>by rw [hr2] at h3;cases h3;exact hs⟩
   | true =>
    simp only [if_true]
    have hst:=hz.step i a r ha hr hr2 hs
    have hbig:=hz.big i h0 h1
    refine (uW (B:=zEw l i (zBx n) b) (fun q (s:List zG)=>(s,(q:Int))) a.2.2.1 (fun q s=>s.length≤1+((a.2.2.1.take q).map sz).sum∧∀ y,y∈s↔y=a.2.2.2∨∃ k∈a.2.2.1.take q,tM b l k y)
     (fun r=>r.length≤sz i∧∀ y,y∈r↔tM b l i y) (fun q k s hk hI=>?_) (fun s hI=>?_) [a.2.2.2] (by simp))
    ·obtain ⟨g1,g2⟩:=hI
     have hks:=hsub k (wZ hk)
     obtain ⟨r1,e1,e2,e3⟩:=ih k hks.1 (by omega) (by omega)
     have hq:=zYb sz a.2.2.1 (q+1)
     rw [xA hk,List.map_append,List.sum_append] at hq
     simp only [List.map_cons,List.map_nil,List.sum_cons,List.sum_nil] at hq
     refine .inl ⟨s++r1,?_,?_,fun y=>?_⟩
     ·unfold zEw
      simp only [ha,zob,wS hk,if_true,wP hk,e1]
      rw [vY (by omega)]
      simp only [zob,wR hk (show a.2.2.1.length<4294967296 by omega)]
     ·rw [xA hk,List.map_append,List.sum_append,List.length_append]
      simp only [List.map_cons,List.map_nil,List.sum_cons,List.sum_nil]
      omega
     ·rw [List.mem_append,g2,e3,xA hk]
      simp only [List.mem_append,List.mem_singleton,or_and_right,exists_or,exists_eq_left,or_assoc]
    ·obtain ⟨g1,g2⟩:=hI
     rw [List.take_length] at g1 g2
     refine ⟨s,by unfold zEw;simp only [ha,zob,yU,zbf,if_false],by omega,fun y=>?_⟩
     rw [g2]
     constructor
     ·rintro (rfl | ⟨k,h1,h2⟩)
      ·exact .here ha
      ·exact .step ha hr hr2 hs h1 h2
     ·intro hrun
      cases hrun with
      | here h1=>rw [ha] at h1;cases h1;exact .inl rfl
      | step h1 _ _ _ h5 h6=>rw [ha] at h1;cases h1;exact .inr ⟨_,h5,h6⟩
  ·simp only [hr,decide_false,zbf,if_false,zob]
   exact ⟨_,rfl,by simpa using h1z,hone fun r' h2 _=>absurd h2 hr⟩
theorem zXN {n n':Nat} (b:zO) (l:List zI):n≤n'->∀ i r,zBx n b l i=some r->zBx n' b l i=some r:=by
 intro hn i r h
 have key:∀ n n',n≤n'->∀ i r,zBx n b l i=some r->zBx n' b l i=some r:=by
  intro n
  induction n with
  | zero=>intro n' _ i r h;cases h
  | succ n ih =>
   intro n' hn i r h
   obtain ⟨n',rfl⟩:∃ q,n'=q+1:=⟨n' - 1,by omega⟩
   have hle:Le (zGa (zBx n) b l i) (zGa (zBx n') b l i):=by
    have hrec:∀ x,Le (zBx n b l x) (zBx n' b l x):=fun x=>⟨fun r hr=>ih n' (by omega) x r hr⟩
    unfold zGa
    refine Le.bind (Le.refl _) fun x1=>Le.bind (Le.refl _) fun s1=>?_
    refine Le.ite ?_ (Le.refl _)
    refine ⟨fun r hr=>?_⟩
    obtain ⟨q,hq⟩:=zJM hr
    refine (Le.lp (B:=zEw l i (zBx n) b) (fun s=>?_) q _).el r hq
    unfold zEw
    refine Le.bind (Le.refl _) fun x5=>?_
    refine Le.ite ?_ (Le.refl _)
    refine Le.bind (Le.refl _) fun x6=>Le.bind (Le.refl _) fun x7=>Le.bind (hrec _) fun r1=>Le.refl _
   exact hle.el r h
 exact key n n' hn i r h
theorem z29 {sz:Int->Nat} (h:FormB b l) (hz:z1q b l sz) {i:Int} (h0:0≤i) (h1:i<l.length):∃ r,zKQ b l i=some r∧r.length<4294967296∧∀ y,y∈r↔tM b l i y:=by
 obtain ⟨r,e1,e2,e3⟩:=z2H h hz (i.toNat+1) i h0 h1 (by omega)
 have:=hz.big i h0 h1
 exact ⟨r,zNw (i.toNat+1) fun m hm=>zXN b l hm i r e1,by omega,e3⟩
theorem zXZ (b:zO) (l:List zI) (_h:FormB b l):∀ (n:Nat) (i:Int),zDC n b l i=zBx n b l i:=by
 intro n
 induction n with
 | zero=>intro i;rfl
 | succ n ih =>
  intro i
  have hrec:zDC n=zDC n:=rfl
  show zHD (zDC n) b l i=zGa (zBx n) b l i
  unfold zHD zGa
  cases ha:zF l i with
  | none=>rfl
  | some a =>
   simp only [zob]
   congr 1
   funext s1
   split
   ·congr 1
    funext s
    unfold zIT zEw
    simp only [ha,zob,ih]
   ·rfl
theorem z5t (h:FormB b l) (i:Int):zFB b l i=zKQ b l i:=by
 unfold zFB zKQ
 congr 1
 funext k
 exact zXZ b l h k i
theorem runsB {sz:Int->Nat} (h:FormB b l) (hz:z1q b l sz):z5h b l :=
 ⟨fun _ h0 h1=>z29 h hz h0 h1⟩
theorem z5x {sz:Int->Nat} (h:FormB b l) (hz:z1q b l sz):z69 b l :=
 ⟨fun _ h0 h1=>by rw [z5t h];exact z29 h hz h0 h1⟩
open Classical in
noncomputable def zYe (b:zO) (l:List zI) (q:Int) (r:qL) (k:Int):Bool:=if r.2.1 then decide (tM b l k r.2.2.2.2) else decide (q∈yG b l k)
noncomputable def uV (b:zO) (l:List zI) (q:Int) (r:qL) (subs:List Int):Bool:=!subs.any (zYe b l q r)
theorem zLb (h:FormC b l) (h':FormC b (l++m)) {q:Int} {r:qL} {subs:List Int} (hs:∀ k∈subs,0≤k∧k<l.length):uV b (l++m) q r subs=uV b l q r subs:=by
 unfold uV
 congr 1
 rw [Bool.eq_iff_iff,List.any_eq_true,List.any_eq_true]
 refine exists_congr fun k=>and_congr_right fun hk=>?_
 have:=hs k hk
 unfold zYe
 rw [z5E h h' this.1 this.2]
 split
 ·simp only [decide_eq_true_eq];exact z6m h.toFormA this.1 this.2
 ·exact Iff.rfl
theorem ref_in (m:List Int) (x:Int) (hb:m.length<4294967296):zPz m x=some (decide (x∈m)):=by
 have h:=zWF (B:=zL8 m x) m (fun y=>y==x) (fun i y hy=>by
  unfold zL8
  simp only [wS hy,if_true,wP hy,zob,wR hy hb]
  split <;> rfl) (by unfold zL8;simp only [yU,zbf,if_false])
 refine h.trans ?_
 congr 1
 rw [Bool.eq_iff_iff]
 simp
theorem z0k (h:FormC b l) (hr:z5h b l) {q:Int} {r:qL} {subs:List Int} (hq:zF b.2.1 q=some r) (hs:∀ k∈subs,0≤k∧k<l.length) (hn:subs.length<4294967296):zGz b l q subs=some (uV b l q r subs):=by
 have hl:=h.len
 unfold zGz
 simp only [hq,zob]
 have hL:=zOq (B:=zIN subs r b l q) subs (zYe b l q r) false true (fun i k hk=>?_) (by unfold zIN;simp only [yU,zbf,if_false])
 ·rw [hL]
  unfold uV
  cases subs.any (zYe b l q r) <;> rfl
 ·have hks:=hs k (wZ hk)
  unfold zIN
  simp only [wS hk,if_true,wP hk,zob,wR hk hn]
  unfold zYe
  cases hst:r.2.1 with
  | true =>
   obtain ⟨ru,e1,e2,e3⟩:=hr.ref k hks.1 hks.2
   simp only [if_true,e1,zob,zWP r.2.2.2.2 (show ru.length<9223372036854775807 by omega),Bool.not_true,zbf,if_false]
   by_cases hm:tM b l k r.2.2.2.2
   ·simp [(e3 _).2 hm,hm]
   ·have:¬ r.2.2.2.2∈ru:=fun hc=>hm ((e3 _).1 hc)
    simp [this,hm]
  | false =>
   have hd:=zP5 b l k
   simp only [zbf,if_false,Bool.not_false,if_true,zVC h.toFormB hks.1 hks.2,zob,ref_in (yG b l k) q (by omega)]
   by_cases hm:q∈yG b l k <;> simp [hm]
theorem z0n (h:FormC b l) (hr:z69 b l) {q:Int} {r:qL} {subs:List Int} (hq:zF b.2.1 q=some r) (hs:∀ k∈subs,0≤k∧k<l.length) (hn:subs.length<4294967296):zCz b l q subs=some (uV b l q r subs):=by
 have hl:=h.len
 unfold zCz
 have hL:=zOq (B:=zCp subs b q l) subs (zYe b l q r) false true (fun i k hk=>?_) (by unfold zCp;simp only [yU,zbf,if_false])
 ·rw [hL]
  unfold uV
  cases subs.any (zYe b l q r) <;> rfl
 ·have hks:=hs k (wZ hk)
  unfold zCp
  simp only [wS hk,if_true,wP hk,zob,wR hk hn,hq]
  unfold zYe
  cases hst:r.2.1 with
  | true =>
   obtain ⟨ru,e1,e2,e3⟩:=hr.arg k hks.1 hks.2
   simp only [if_true,e1,zob,zYr r.2.2.2.2 (show ru.length<9223372036854775807 by omega)]
   by_cases hm:tM b l k r.2.2.2.2
   ·simp [(e3 _).2 hm,hm]
   ·have:¬ r.2.2.2.2∈ru:=fun hc=>hm ((e3 _).1 hc)
    simp [this,hm]
  | false =>
   have hd:=zP5 b l k
   simp only [zbf,if_false,zQ6 h.toFormB hks.1 hks.2,zob,zJJ (yG b l k) q (by omega)]
   by_cases hm:q∈yG b l k <;> simp [hm]
def xO (l:List zI) (n:Nat):List zG->List Int->List (List Int)
 | [],sofar=>[sofar]
 | y::ys,sofar=>(wW n).flatMap fun i=>match zF l i with
  | some a=>if a.2.2.2==y then xO l n ys (sofar++[i]) else []
  | none=>[]
theorem zWI (l:List zI) (n:Nat):∀ (ys:List zG) (sofar:List Int),(xO l n ys sofar).length≤n ^ ys.length
 | [],sofar=>by simp [xO]
 | y::ys,sofar=>by
  have:=zOA (fun i=>match zF l i with | some a=>if a.2.2.2==y then xO l n ys (sofar++[i]) else [] | none=>[]) (n ^ ys.length) (wW n) (fun i _=>by
   split
   ·split
    ·exact zWI l n ys _
    ·simp
   ·simp)
  rw [tE] at this
  simp only [xO,List.length_cons,Nat.pow_succ]
  rw [Nat.mul_comm];exact this
theorem zPO (l:List zI) (n:Nat):∀ (ys:List zG) (sofar s:List Int),s∈xO l n ys sofar↔∃ t,s=sofar++t∧t.length=ys.length∧∀ (j:Nat) k y,t[j]?=some k->ys[j]?=some y->0≤k∧k<n∧∃ a,zF l k=some a∧a.2.2.2=y
 | [],sofar,s=>by
  simp only [xO,List.mem_singleton]
  constructor
  ·rintro rfl;exact ⟨[],by simp,rfl,fun j k y h _=>by simp at h⟩
  ·rintro ⟨t,rfl,h2,_⟩;have:=List.eq_nil_of_length_eq_zero h2;subst this;simp
 | y::ys,sofar,s=>by
  simp only [xO,List.mem_flatMap,xJ]
  constructor
  ·rintro ⟨i,hi,hs⟩
   split at hs
   ·rename_i a ha
    split at hs
    ·rename_i hc
     obtain ⟨t,h1,h2,h3⟩:=(zPO l n ys _ s).1 hs
     refine ⟨i::t,by rw [h1];simp,by simp [h2],fun j k z hk hz=>?_⟩
     cases j with
     | zero =>
      simp at hk hz
      subst hk hz
      exact ⟨hi.1,hi.2,a,ha,by simpa using hc⟩
     | succ j=>exact h3 j k z (by simpa using hk) (by simpa using hz)
    ·cases hs
   ·cases hs
  ·rintro ⟨t,h1,h2,h3⟩
   cases t with
   | nil=>simp at h2
   | cons i t =>
    obtain ⟨i0,i1,a,ha,hay⟩:=h3 0 i y rfl rfl
    refine ⟨i,⟨i0,i1⟩,?_⟩
    simp only [ha]
    rw [if_pos (by simp [hay])]
    exact (zPO l n ys _ s).2 ⟨t,by rw [h1];simp,by simpa using h2,fun j k z hk hz=>h3 (j+1) k z (by simpa using hk) (by simpa using hz)⟩
theorem zWo {k:Nat} (hl:l.length≤100) {n:Nat} (hn:n≤l.length) (body:List zG) (hb:body.length≤4):∀ (ys:List zG) (sofar:List Int),ys=body.drop sofar.length->sofar.length≤body.length->ys.length<k->zDB k l (n:Int) body sofar=some (xO l n ys sofar):=by
 induction k with
 | zero=>intro ys _ _ _ h;omega
 | succ k ih =>
  intro ys sofar hys hle hk
  show zIA (zDB k) l n body sofar=_
  unfold zIA
  have hyl:ys.length=body.length-sofar.length:=by rw [hys,List.length_drop]
  cases ys with
  | nil =>
   have:(len sofar==len body)=true:=by simp [len] at hyl ⊢;omega
   simp only [this,if_true]
   rw [vY (by simp;omega)]
   rfl
  | cons y ys =>
   have hlt:sofar.length<body.length:=by simp at hyl;omega
   have:(len sofar==len body)=false:=by rw [beq_eq_false_iff_ne];simp [len];omega
   simp only [this,zbf,if_false]
   have hy:body[sofar.length]?=some y:=by
    have:=congrArg (·[0]?) hys
    simp only [List.getElem?_cons_zero,List.getElem?_drop,Nat.add_zero] at this
    exact this.symm
   have hys2:ys=body.drop (sofar.length+1):=by
    have:=congrArg List.tail hys
    simpa [List.tail_drop] using this
   have hpow:n ^ ys.length≤1000000:=by
    have h1:ys.length≤3:=by simp at hyl;omega
    calc n ^ ys.length≤100 ^ ys.length:=Nat.pow_le_pow_left (by omega) _
     _≤100 ^ 3:=Nat.pow_le_pow_right (by omega) h1
   refine (zMF (B:=zFX n l body sofar (zDB k)) (wW n) (fun i=>match zF l i with | some a=>if a.2.2.2==y then xO l n ys (sofar++[i]) else [] | none=>[]) (fun s=>s) 1000000 (fun i _=>by
    split
    ·split
     ·exact Nat.le_trans (zWI l n ys _) hpow
     ·simp
    ·simp) [] (fun q i s hi hs=>?_) (fun s=>?_))
   ·obtain ⟨rfl,hq⟩:=zQY hi
    obtain ⟨a,ha⟩:=zIg (l:=l) (show (0:Int)≤q by omega) (by omega)
    have hd:decide ((q:Int)<(n:Int))=true:=by simp;omega
    have hw:zS ((q:Int)+1)=((q+1:Nat):Int):=yM q (by omega)
    unfold zFX
    simp only [hd,if_true,ha,zob,show zF body (len sofar)=some y from by rw [show len sofar=((sofar.length:Nat):Int) from rfl,xL];exact hy]
    cases hc:a.2.2.2==y with
    | false=>simp only [zbf,if_false,List.append_nil,hw]
    | true =>
     simp only [if_true]
     rw [zOO (by simp [len]) (by simp [len])]
     simp only [zob,len,Int.toNat_natCast,List.take_length]
     rw [vY (by simp;omega)]
     simp only [zob]
     have hcl:=Nat.le_trans (zWI l n ys (sofar++[(q:Int)])) hpow
     rw [ih ys (sofar++[(q:Int)]) (by simpa using hys2) (by simp;omega) (by simp at hk;omega)]
     simp only [zob]
     simp only [List.length_nil] at hs
     rw [vY (by omega)]
     simp only [zob,hw]
   ·unfold zFX
    have hd:decide (((wW n).length:Int)<(n:Int))=false:=by rw [tE];simp
    simp only [hd,zbf,if_false]
theorem zZH (hl:l.length≤100) {n:Nat} (hn:n≤l.length) (body:List zG) (hb:body.length≤4):zKT l (n:Int) body []=some (xO l n body []) :=
 zNw 5 fun k hk=>zWo hl hn body hb body [] (by simp) (by simp) (by omega)
theorem z2r {n:Nat} (hn:n≤l.length):∀ (ys:List zG) (sofar:List Int),xO (l++m) n ys sofar=xO l n ys sofar
 | [],_=>rfl
 | y::ys,sofar=>by
  simp only [xO]
  have key:∀ is:List Int,(∀ i∈is,0≤i∧i<n)->is.flatMap (fun i=>match zF (l++m) i with | some a=>if a.2.2.2==y then xO (l++m) n ys (sofar++[i]) else [] | none=>[])=is.flatMap (fun i=>match zF l i with | some a=>if a.2.2.2==y then xO l n ys (sofar++[i]) else [] | none=>[]):=by
   intro is
   induction is with
   | nil=>intro _;rfl
   | cons i is ih =>
    intro h
    have h1:=h i List.mem_cons_self
    rw [List.flatMap_cons,List.flatMap_cons,ih fun j hj=>h j (List.mem_cons_of_mem _ hj),zKY (by omega)]
    congr 1
    split
    ·split
     ·exact z2r hn ys _
     ·rfl
    ·rfl
  exact key _ fun i hi=>xJ.1 hi
theorem z0b (subs:List Int) (f:Int) (h:subs.length<4294967296):zNC subs f=some (subs.any fun k=>decide (f≤k)) :=
 zWF (B:=zHx subs f) subs (fun k=>decide (f≤k)) (fun i k hk=>by
  unfold zHx
  simp only [wS hk,if_true,wP hk,zob,wR hk h]
  split <;> rfl) (by unfold zHx;simp only [yU,zbf,if_false])
end
section
variable {b:zO} {l m:List zI}
structure uQ (b:zO) (l:List zI):Prop extends FormC b l where
 cut:∀ (i:Nat) a r,l[i]?=some a->0≤a.2.1->zF b.2.1 a.2.1=some r->uV b l a.2.1 r a.2.2.1=true
structure tQ (b:zO) (D:List zG) (c:Nat):Prop where
 valid:zKI b
 rule:∀ r∈b.2.1,r.2.2.2.2∈D∧r.2.2.2.1.length≤c
 sz:(c+1) ^ D.length<4294967296
theorem zR2 {r:qL} (h:xZ r=0):r.2.2.2.1.length≤4:=by
 unfold xZ at h
 split at h
 ·cases h
 ·omega
theorem tQ.body {D:List zG} {c:Nat} (h:tQ b D c) {q:Int} {r:qL} (hq:zF b.2.1 q=some r):r.2.2.2.1.length≤4:=by
 obtain ⟨n,rfl,hn⟩:=zNG hq
 exact zR2 (h.valid.rule r (wZ hn))
theorem FormC.prI (h:FormC b l) {i:Int} {a:zI} (ha:zF l i=some a) {p:vT} (h0:0≤a.1) (hp:zF b.1 a.1=some p):a.2.2.2=p.1∧a.2.2.1=[]:=by
 obtain ⟨n,rfl,hn⟩:=zNG ha
 exact h.pr n a p hn h0 hp
theorem FormC.ruI (h:FormC b l) {i:Int} {a:zI} (ha:zF l i=some a) {r:qL} (h0:0≤a.2.1) (hr:zF b.2.1 a.2.1=some r):a.2.2.2=r.2.2.2.2∧a.2.2.1.length=r.2.2.2.1.length∧∀ (j:Nat) k y,a.2.2.1[j]?=some k->r.2.2.2.1[j]?=some y->∃ a',zF l k=some a'∧a'.2.2.2=y:=by
 obtain ⟨n,rfl,hn⟩:=zNG ha
 exact h.ru n a r hn h0 hr
theorem uQ.cutI (h:uQ b l) {i:Int} {a:zI} (ha:zF l i=some a) {r:qL} (h0:0≤a.2.1) (hr:zF b.2.1 a.2.1=some r):uV b l a.2.1 r a.2.2.1=true:=by
 obtain ⟨n,rfl,hn⟩:=zNG ha
 exact h.cut n a r hn h0 hr
theorem zWm {α:Type} {p q:α->Bool}:∀ (D:List α),(∀ x,p x=true->q x=true)->∀ x∈D,q x=true->p x=false->(D.filter p).length<(D.filter q).length
 | [],_,x,hx,_,_=>by cases hx
 | d::D,h,x,hx,h1,h2=>by
  have hle:(D.filter p).length≤(D.filter q).length:=by
   rw [←List.countP_eq_length_filter,←List.countP_eq_length_filter]
   exact List.countP_mono_left fun y _=>h y
  rcases List.mem_cons.1 hx with rfl | hx
  ·rw [List.filter_cons_of_neg (by simp [h2]),List.filter_cons_of_pos h1,List.length_cons]
   omega
  ·have ih:=zWm D h x hx h1 h2
   rw [List.filter_cons,List.filter_cons]
   cases hp:p d with
   | true=>simp [h d hp];omega
   | false=>cases hq:q d <;> simp <;> omega
theorem zYL (f:Int->Nat) (c:Nat):∀ (l:List Int),(∀ k∈l,f k≤c)->(l.map f).sum≤l.length*c
 | [],_=>by simp
 | k::l,h=>by
  have h1:=h k List.mem_cons_self
  have h2:=zYL f c l fun j hj=>h j (List.mem_cons_of_mem _ hj)
  simp only [List.map_cons,List.sum_cons,List.length_cons,Nat.add_mul,Nat.one_mul]
  omega
open Classical in
noncomputable def z5V (b:zO) (l:List zI) (D:List zG) (i:Int):Nat:=(D.filter fun y=>decide (tM b l i y)).length
open Classical in
theorem runSz {D:List zG} {c:Nat} (hs:tQ b D c) (h:uQ b l):z1q b l fun i=>(c+1) ^ z5V b l D i:=by
 refine ⟨fun i=>Nat.pow_pos (by omega),fun i _ _=>?_,fun i a r ha h0 hr hst=>?_⟩
 ·refine Nat.lt_of_le_of_lt (Nat.pow_le_pow_right (by omega) ?_) hs.sz
  exact List.length_filter_le _ _
 ·have hcut:=h.cutI ha h0 hr
  obtain ⟨g1,g2,_⟩:=h.toFormC.ruI ha h0 hr
  obtain ⟨n,hn1,hn2⟩:=zNG hr
  obtain ⟨hD,hc⟩:=hs.rule r (wZ hn2)
  have hlt:∀ k∈a.2.2.1,z5V b l D k<z5V b l D i:=fun k hk=>by
   refine zWm D (fun y hy=>?_) r.2.2.2.2 hD ?_ ?_
   ·exact decide_eq_true (tM.step ha h0 hr hst hk (of_decide_eq_true hy))
   ·exact decide_eq_true (by have:=tM.here (b:=b) ha;rwa [g1] at this)
   ·unfold uV at hcut
    have hc2:(a.2.2.1.any (zYe b l a.2.1 r))=false:=by simpa using hcut
    have:=List.any_eq_false.1 hc2 k hk
    simpa [zYe,hst] using this
  cases hv:a.2.2.1 with
  | nil =>
   have:=Nat.pow_pos (n:=z5V b l D i) (show 0<c+1 by omega)
   simp only [List.map_nil,List.sum_nil]
   omega
  | cons k ks =>
   rw [←hv]
   have hpos:0<z5V b l D i:=by have:=hlt k (by rw [hv];exact List.mem_cons_self);omega
   obtain ⟨u,hu⟩:∃ u,z5V b l D i=u+1:=⟨z5V b l D i-1,by omega⟩
   have hsum:=zYL (fun k=>(c+1) ^ z5V b l D k) ((c+1) ^ u) a.2.2.1 fun k hk=>Nat.pow_le_pow_right (by omega) (by have:=hlt k hk;omega)
   have h3:a.2.2.1.length*(c+1) ^ u≤c*(c+1) ^ u:=Nat.mul_le_mul_right _ (by rw [g2];exact hc)
   have h4:0<(c+1) ^ u:=Nat.pow_pos (by omega)
   rw [hu,Nat.pow_succ,Nat.mul_add,Nat.mul_one,Nat.mul_comm ((c+1) ^ u) c]
   omega
theorem uQ.runs {D:List zG} {c:Nat} (h:uQ b l) (hs:tQ b D c):z5h b l:=runsB h.toFormB (runSz hs h)
theorem uQ.app (h:uQ b l) (hm:∀ a∈m,z4B b l a∧∀ r,zF b.2.1 a.2.1=some r->uV b l a.2.1 r a.2.2.1=true) (hl:l.length+m.length≤41):uQ b (l++m):=by
 have h':=h.toFormC.app (fun a ha=>(hm a ha).1) hl
 refine ⟨h',fun i a r ha h0 hr=>?_⟩
 by_cases hi:i<l.length
 ·rw [List.getElem?_append_left hi] at ha
  rw [zLb h.toFormC h' fun k hk=>by have:=h.sub i a ha k hk;omega]
  exact h.cut i a r ha h0 hr
 ·rw [List.getElem?_append_right (by omega)] at ha
  obtain ⟨g1,g2⟩:=hm a (wZ ha)
  rw [zLb h.toFormC h' g1.sub]
  exact g2 r hr
def zLn (f:Int) (first:Bool) (s:List Int):Bool:=s.any (fun k=>decide (f≤k))||(first&&s.isEmpty)
noncomputable def tU (b:zO) (l:List zI) (f:Int) (first:Bool) (q:Int):List zI :=
 match zF b.2.1 q with
 | some r=>((xO l l.length r.2.2.2.1 []).filter fun s=>zLn f first s&&uV b l q r s).map fun s=>(-1,q,s,r.2.2.2.2)
 | none=>[]
noncomputable def uP (b:zO) (l:List zI) (f:Int) (first:Bool):List zI:=(wW b.2.1.length).flatMap (tU b l f first)
noncomputable def zN8 (b:zO):Nat->List zI->Int->Bool->Option (List zI)
 | 0,_,_,_=>none
 | k+1,l,f,first =>
  if 40<(l++uP b l f first).length then none
  else if uP b l f first=[] then some l
  else zN8 b k (l++uP b l f first) l.length false
def zMr (b:zO):List zI:=b.1.mapIdx fun i p=>((i:Int),-1,[],p.1)
theorem zPy {f:Int} {first:Bool} {a:zI}:a∈uP b l f first↔a.1=-1∧∃ r,zF b.2.1 a.2.1=some r∧a.2.2.2=r.2.2.2.2∧zLn f first a.2.2.1=true∧uV b l a.2.1 r a.2.2.1=true∧a.2.2.1.length=r.2.2.2.1.length∧∀ (j:Nat) k y,a.2.2.1[j]?=some k->r.2.2.2.1[j]?=some y->∃ a',zF l k=some a'∧a'.2.2.2=y:=by
 unfold uP tU
 simp only [List.mem_flatMap,xJ]
 constructor
 ·rintro ⟨q,hq,ha⟩
  cases hr:zF b.2.1 q with
  | none=>rw [hr] at ha;cases ha
  | some r =>
   rw [hr] at ha
   obtain ⟨s,hs,rfl⟩:=List.mem_map.1 ha
   obtain ⟨hs1,hs2⟩:=List.mem_filter.1 hs
   rw [Bool.and_eq_true] at hs2
   obtain ⟨t,rfl,ht1,ht2⟩:=(zPO l l.length r.2.2.2.1 [] s).1 hs1
   exact ⟨rfl,r,hr,rfl,hs2.1,hs2.2,ht1,fun j k y hk hy=>(ht2 j k y hk hy).2.2⟩
 ·rintro ⟨h1,r,hr,h2,h3,h4,h5,h6⟩
  refine ⟨a.2.1,by have:=zQW hr;omega,?_⟩
  rw [hr]
  refine List.mem_map.2 ⟨a.2.2.1,List.mem_filter.2 ⟨(zPO l l.length r.2.2.2.1 [] _).2 ⟨a.2.2.1,rfl,h5,fun j k y hk hy=>?_⟩,by rw [h3,h4];rfl⟩,?_⟩
  ·obtain ⟨a',e1,e2⟩:=h6 j k y hk hy
   have:=zQW e1
   exact ⟨this.1,this.2,a',e1,e2⟩
  ·rw [←h1,←h2]
theorem zSG {D:List zG} {c:Nat} (hs:tQ b D c) {f:Int} {first:Bool}:∀ a∈uP b l f first,z4B b l a∧∀ r,zF b.2.1 a.2.1=some r->uV b l a.2.1 r a.2.2.1=true:=fun a ha=>by
 obtain ⟨h1,r,hr,h2,h3,h4,h5,h6⟩:=zPy.1 ha
 refine ⟨⟨h1,r,hr,h2,h5,?_,h6⟩,fun r' hr'=>?_⟩
 ·have:=hs.body hr;omega
 ·rw [hr] at hr';cases hr';exact h4
theorem uQ.round {D:List zG} {c:Nat} (h:uQ b l) (hs:tQ b D c) {f:Int} {first:Bool} (hl:(l++uP b l f first).length≤41):uQ b (l++uP b l f first) :=
 h.app (zSG hs) (by rw [List.length_append] at hl;exact hl)
theorem zJ0 (b:zO):(zMr b).length=b.1.length:=by simp [zMr]
theorem zHU {i:Nat} {a:zI} (h:(zMr b)[i]?=some a):∃ p,b.1[i]?=some p∧a=((i:Int),-1,[],p.1):=by
 unfold zMr at h
 rw [List.getElem?_mapIdx] at h
 cases hp:b.1[i]? with
 | none=>rw [hp] at h;cases h
 | some p=>rw [hp] at h;exact ⟨p,rfl,by cases h;rfl⟩
theorem zQD (h:zKI b):uQ b (zMr b):=by
 have hl:=zJ0 b
 have hn:=h.np
 have hr:=h.nr
 refine ⟨⟨⟨⟨by omega,fun a ha=>?_,fun i a ha=>?_⟩,by omega,by omega,fun i a ha=>?_⟩,by omega,fun i a p ha h0 hp=>?_,fun i a r ha h0 hr=>?_⟩,fun i a r ha h0 hr=>?_⟩
 ·obtain ⟨i,hi⟩:=List.mem_iff_getElem?.1 ha
  obtain ⟨p,_,rfl⟩:=zHU hi
  simp
 ·obtain ⟨p,_,rfl⟩:=zHU ha
  intro k hk
  cases hk
 ·obtain ⟨p,h1,rfl⟩:=zHU ha
  exact .inl ⟨rfl,vF h1,rfl⟩
 ·obtain ⟨p',h1,rfl⟩:=zHU ha
  rw [xL,h1] at hp
  cases hp
  exact ⟨rfl,rfl⟩
 ·obtain ⟨p',h1,rfl⟩:=zHU ha
  exact absurd h0 (by simp)
 ·obtain ⟨p',h1,rfl⟩:=zHU ha
  exact absurd h0 (by simp)
theorem zUE {D:List zG} {c:Nat} (hs:tQ b D c):∀ (k:Nat) (l:List zI) (f:Int) (first:Bool) (x:List zI),uQ b l->l.length≤40->zN8 b k l f first=some x->uQ b x∧x.length≤40
 | 0,_,_,_,_,_,_,h=>by cases h
 | k+1,l,f,first,x,h,hl,hx=>by
  unfold zN8 at hx
  split at hx
  ·cases hx
  ·rename_i hlim
   split at hx
   ·cases hx
    exact ⟨h,hl⟩
   ·exact zUE hs k _ _ _ x (h.round hs (by omega)) (by omega) hx
theorem z0B {α β σ ρ:Type} {B:σ->Option (σ⊕ρ)} (xs:List α) (h:α->List β) (st:List β->Int->σ) (e:ρ) (fin:List β->ρ) (N:Nat) (acc:List β) (h0:acc.length≤N)
  (hB:∀ (q:Nat) x n,xs[q]?=some x->n=(xs.take q).flatMap h->(acc++n).length≤N->B (st (acc++n) q)=some (if N<(acc++(n++h x)).length then .inr e else .inl (st (acc++(n++h x)) ((q+1:Nat):Int))))
  (hE:(acc++xs.flatMap h).length≤N->B (st (acc++xs.flatMap h) (xs.length:Int))=some (.inr (fin (acc++xs.flatMap h)))) :
  zU B (st acc 0)=some (if N<(acc++xs.flatMap h).length then e else fin (acc++xs.flatMap h)):=by
 have key:∀ (n i:Nat),i+n=xs.length->(acc++(xs.take i).flatMap h).length≤N->zU B (st (acc++(xs.take i).flatMap h) (i:Int))=some (if N<(acc++xs.flatMap h).length then e else fin (acc++xs.flatMap h)):=by
  intro n
  induction n with
  | zero =>
   intro i hi hn
   rw [Nat.add_zero] at hi
   subst hi
   rw [List.take_length] at hn ⊢
   rw [yF,hE hn,if_neg (by omega)]
  | succ n ih =>
   intro i hi hn
   have hx:xs[i]?=some xs[i]:=List.getElem?_eq_getElem (by omega)
   have ht:(xs.take (i+1)).flatMap h=(xs.take i).flatMap h++h xs[i]:=by rw [xA hx,List.flatMap_append,List.flatMap_singleton]
   rw [yF,hB i _ _ hx rfl hn,←ht]
   by_cases hN:N<(acc++(xs.take (i+1)).flatMap h).length
   ·rw [if_pos hN]
    have:(acc++(xs.take (i+1)).flatMap h).length≤(acc++xs.flatMap h).length:=by
     conv=>rhs;rw [←List.take_append_drop (i+1) xs,List.flatMap_append]
     simp only [List.length_append]
     omega
    rw [if_pos (by omega)]
   ·rw [if_neg hN]
    exact ih (i+1) (by omega) (by omega)
 have:=key xs.length 0 (by omega) (by simpa using h0)
 simpa using this
end
section
variable {b:zO} {l:List zI} {D:List zG} {c:Nat}
def ansB:Option (List zI)->List zI×Int
 | some x=>(x,0)
 | none=>([],2)
theorem zXF (h:zKI b):zU (zGr b) (([]:List zI),0)=some (zMr b):=by
 have hn:=h.np
 have:=zMF (B:=zGr b) (zMr b) (fun a=>[a]) (fun s=>s) 1 (fun _ _=>by simp) [] (fun i a s hi hs=>by
  obtain ⟨p,hp,rfl⟩:=zHU hi
  have hlt:=vF hp
  unfold zGr
  simp only [wS hp,if_true,wP hp,zob]
  rw [vY (by simp at hs ⊢;omega)]
  simp only [zob,wR hp (by omega)]) (fun s=>by
  unfold zGr
  rw [zJ0]
  simp only [yU,zbf,if_false])
 rw [this]
 simp
theorem zWx (hs:tQ b D c) (h:uQ b l) (hl:l.length≤40) {f:Int} {r:Nat} {q:Nat} (hq:q<b.2.1.length) (n:List zI) (hn:(l++n).length≤40) (hf:uQ b (l++n))
  {ru:qL} (hr:zF b.2.1 (q:Int)=some ru) :
  zU (zGk (xO l l.length ru.2.2.2.1 []) (l,f,(r:Int)) b (l++n,(q:Int))) (l++n,0) =
   some (if 40<(l++(n++tU b l f (decide (r≤1)) q)).length then .inr (.inr (([]:List zI),2)) else .inl (l++(n++tU b l f (decide (r≤1)) q),((q+1:Nat):Int))):=by
 have hb:=hs.body hr
 have hcl:(xO l l.length ru.2.2.2.1 []).length<4294967296:=by
  have h1:=zWI l l.length ru.2.2.2.1 []
  have h2:l.length ^ ru.2.2.2.1.length≤100 ^ 4:=Nat.le_trans (Nat.pow_le_pow_left (by omega) _) (Nat.pow_le_pow_right (by omega) hb)
  have h3:(100:Nat) ^ 4=100000000:=rfl
  omega
 have hnr:=hs.valid.nr
 have key:=z0B (B:=zGk (xO l l.length ru.2.2.2.1 []) (l,f,(r:Int)) b (l++n,(q:Int))) (xO l l.length ru.2.2.2.1 [])
  (fun s=>if zLn f (decide (r≤1)) s&&uV b l q ru s then [((-1:Int),(q:Int),s,ru.2.2.2.2)] else []) (fun s i=>(s,i))
  (.inr (.inr (([]:List zI),2))) (fun s=>.inl (s,((q+1:Nat):Int))) 40 (l++n) hn (fun i s acc hi hacc hlen=>?_) (fun _=>?_)
 ·rw [key]
  have:(xO l l.length ru.2.2.2.1 []).flatMap (fun s=>if zLn f (decide (r≤1)) s&&uV b l q ru s then [((-1:Int),(q:Int),s,ru.2.2.2.2)] else [])=tU b l f (decide (r≤1)) q:=by
   unfold tU
   rw [hr]
   rw [←zU1]
   rw [←List.map_eq_flatMap]
  rw [this,List.append_assoc]
 ·have hs1:=(zPO l l.length ru.2.2.2.1 [] s).1 (wZ hi)
  obtain ⟨t,ht,htl,htm⟩:=hs1
  rw [List.nil_append] at ht
  subst ht
  have hsub:∀ k∈s,0≤k∧k<l.length:=fun k hk=>by
   obtain ⟨j,hj⟩:=List.mem_iff_getElem?.1 hk
   have:=vF hj
   have:=htm j k _ hj (List.getElem?_eq_getElem (by omega))
   omega
  have hnow:uQ b (l++n++acc):=by
   refine hf.app (fun a ha=>?_) (by rw [List.length_append] at hlen;omega)
   rw [hacc] at ha
   obtain ⟨s',hs',ha⟩:=List.mem_flatMap.1 ha
   split at ha
   ·rename_i hc
    rw [Bool.and_eq_true] at hc
    simp only [List.mem_singleton] at ha
    subst ha
    obtain ⟨t,ht,htl,htm⟩:=(zPO l l.length ru.2.2.2.1 [] s').1 (List.mem_of_mem_take hs')
    rw [List.nil_append] at ht
    subst ht
    have hg:z4B b l ((-1:Int),(q:Int),s',ru.2.2.2.2):=⟨rfl,ru,hr,rfl,htl,by simp only;omega,fun j k y hk hy=>(htm j k y hk hy).2.2⟩
    refine ⟨hg.more,fun r' hr'=>?_⟩
    rw [hr] at hr'
    cases hr'
    rw [zLb h.toFormC hf.toFormC hg.sub]
    exact hc.2
   ·cases ha
  have hw:zGz b (l++n++acc) q s=some (uV b l q ru s):=by
   rw [z0k hnow.toFormC (hnow.runs hs) hr (fun k hk=>by have:=hsub k hk;simp only [List.length_append];omega) (by omega)]
   rw [List.append_assoc,zLb h.toFormC (by rw [←List.append_assoc];exact hnow.toFormC) hsub]
  unfold zGk
  simp only [wS hi,if_true,wP hi,zob,wR hi hcl]
  rw [z0b s f (by omega)]
  simp only [zob,hw,hr]
  have hdec:(if (!s.any fun k=>decide (f≤k))=true then (if decide (1<(r:Int))=true then some true else if decide (0<len s)=true then some true else some (!uV b l q ru s)) else some (!uV b l q ru s))=some (!(zLn f (decide (r≤1)) s&&uV b l q ru s)):=by
   unfold zLn
   cases ha:s.any fun k=>decide (f≤k) with
   | true=>simp
   | false =>
    by_cases h1:r≤1
    ·have:¬ (1<(r:Int)):=by omega
     cases s with
     | nil=>simp [this,h1,len]
     | cons k s=>simp [this,h1,len]
    ·have:1<(r:Int):=by omega
     simp [this,h1]
  rw [hdec]
  simp only [zob]
  cases hc:zLn f (decide (r≤1)) s&&uV b l q ru s with
  | false =>
   simp only [Bool.not_false,if_true,zbf,if_false,List.append_nil]
   rw [if_neg (by omega)]
  | true =>
   simp only [Bool.not_true,zbf,if_false,if_true]
   rw [vY (by simp only [List.length_singleton];omega)]
   simp only [zob,List.append_assoc,len]
   by_cases h40:40<(l++(n++(acc++[((-1:Int),(q:Int),s,ru.2.2.2.2)]))).length
   ·rw [if_pos (by simpa using (by omega:(40:Int)<((l++(n++(acc++[((-1:Int),(q:Int),s,ru.2.2.2.2)]))).length:Int))),if_pos h40]
   ·rw [if_neg (by simpa using (by omega:¬ (40:Int)<((l++(n++(acc++[((-1:Int),(q:Int),s,ru.2.2.2.2)]))).length:Int))),if_neg h40]
 ·unfold zGk
  simp only [yU,zbf,if_false,yM q (by omega)]
theorem zYV (hs:tQ b D c) (h:uQ b l) (hl:l.length≤40) {f:Int} {r:Nat} (hr:r<1000) :
  zU (zGh b (l,f,(r:Int))) (l,0) =
   some (if 40<(l++uP b l f (decide (r≤1))).length then .inr (([]:List zI),2) else .inl (l++uP b l f (decide (r≤1)),(l.length:Int),((r+1:Nat):Int))):=by
 have hnr:=hs.valid.nr
 refine z0B (B:=zGh b (l,f,(r:Int))) (wW b.2.1.length) (tU b l f (decide (r≤1))) (fun s i=>(s,i)) (.inr (([]:List zI),2)) (fun s=>.inl (s,(l.length:Int),((r+1:Nat):Int))) 40 l hl (fun q x n hq hn hlen=>?_) (fun _=>?_)
 ·obtain ⟨rfl,hqn⟩:=zQY hq
  obtain ⟨ru,hru⟩:=zIg (l:=b.2.1) (j:=(q:Int)) (by omega) (by omega)
  have hd:decide ((q:Int)<len b.2.1)=true:=by simp [len];omega
  have hf:uQ b (l++n):=by
   refine h.app (fun a ha=>zSG hs a ?_ (f:=f) (first:=decide (r≤1))) (by rw [List.length_append] at hlen;omega)
   rw [hn] at ha
   obtain ⟨q',hq',ha⟩:=List.mem_flatMap.1 ha
   exact List.mem_flatMap.2 ⟨q',List.mem_of_mem_take hq',ha⟩
  unfold zGh
  simp only [hd,if_true,hru,zob]
  have hch:=zZH (l:=l++n) (n:=l.length) (by omega) (by simp) ru.2.2.2.1 (hs.body hru)
  rw [show len l=((l.length:Nat):Int) from rfl,hch]
  simp only [zob]
  rw [z2r (Nat.le_refl _),zWx hs h hl hqn n hlen hf hru]
 ·unfold zGh
  have hd:decide (((wW b.2.1.length).length:Int)<len b.2.1)=false:=by rw [tE];simp [len]
  simp only [hd,zbf,if_false,yM r (by omega)]
theorem zWw (hs:tQ b D c):∀ (k:Nat) (l:List zI) (f:Int) (r:Nat),uQ b l->l.length≤40->41≤l.length+k->r+k≤900->1≤r->(r=1∨f<l.length)->
  zU (zE5 b) (l,f,(r:Int))=some (ansB (zN8 b k l f (decide (r≤1)))):=by
 intro k
 induction k with
 | zero=>intros;omega
 | succ k ih =>
  intro l f r h hl hk hr h1 hgo
  have hc:(((r:Int)==1)||decide (f<len l))=true:=by
   rw [Bool.or_eq_true]
   rcases hgo with rfl | hgo
   ·exact .inl rfl
   ·exact .inr (by simpa [len] using hgo)
  have hstep:zE5 b (l,f,(r:Int))=some (if 40<(l++uP b l f (decide (r≤1))).length then .inr (([]:List zI),2) else .inl (l++uP b l f (decide (r≤1)),(l.length:Int),((r+1:Nat):Int))):=by
   unfold zE5
   simp only [hc,if_true]
   exact zYV hs h hl (by omega)
  rw [yF,hstep]
  unfold zN8
  by_cases hlim:40<(l++uP b l f (decide (r≤1))).length
  ·simp only [if_pos hlim]
   rfl
  ·simp only [if_neg hlim]
   by_cases hn:uP b l f (decide (r≤1))=[]
   ·rw [if_pos hn,hn,List.append_nil]
    have hstep2:zE5 b (l,(l.length:Int),((r+1:Nat):Int))=some (.inr (l,0)):=by
     unfold zE5
     have hc2:((((r+1:Nat):Int)==1)||decide ((l.length:Int)<len l))=false:=by
      rw [Bool.or_eq_false_iff]
      exact ⟨by simp only [beq_eq_false_iff_ne];omega,by simp [len]⟩
     simp only [hc2,zbf,if_false]
    rw [yF,hstep2]
    rfl
   ·rw [if_neg hn]
    have hpos:0<(uP b l f (decide (r≤1))).length:=List.length_pos_iff.2 hn
    have:=ih (l++uP b l f (decide (r≤1))) l.length (r+1) (h.round hs (by omega)) (by omega) (by rw [List.length_append];omega) (by omega) (by omega) (.inr (by rw [List.length_append];omega))
    rw [show decide (r+1≤1)=false from by simp;omega] at this
    exact this
theorem zOw (h:zKI b):Cnt b:=by
 have h1:=h.np
 have h2:=h.nr
 have h3:=h.nm
 exact ⟨by omega,by omega,by omega,fun r hr=>by have:=zR2 (h.rule r hr);omega⟩
noncomputable def zRh (b:zO):Option (List zI):=zN8 b 50 (zMr b) 0 true
theorem z2L (hs:tQ b D c):zDp b=some (ansB (zRh b)):=by
 unfold zDp
 rw [zPE (zOw hs.valid),zLa.2 hs.valid]
 simp only [zob,bne_self_eq_false,zbf,if_false]
 rw [zXF hs.valid]
 have hn:=hs.valid.np
 exact zWw hs 50 (zMr b) 0 1 (zQD hs.valid) (by rw [zJ0];omega) (by omega) (by omega) (by omega) (.inl rfl)
theorem zVV (hc:Cnt3 b) (h:¬ zKI b):zDp b=some ([],zP4 b):=by
 unfold zDp
 rw [zRx hc]
 have:(zP4 b != 0)=true:=by
  rw [bne_iff_ne]
  exact fun h'=>h (zLa.1 h')
 simp only [zob,this,if_true]
theorem zWG (hc:Cnt b) (h:¬ zKI b):zDp b=some ([],zP4 b):=zVV hc.c3 h
end
section
theorem z3B {s:uO} {m n:Int} (h:uS s) (h0:0≤m) (hm:m≤1000000) (h1:1≤n) (h2:n≤26):∃ (l:List zG) (k:Int),zGS s m n=some (l,k)∧(l.length:Int)≤m∧(∀ x∈l,∃ j:Nat,(j:Int)<n∧x.2=zOg j)∧uS (s.1,k):=by
 obtain ⟨v,k,hr,hv0,hv1,hk⟩:=zLT (n:=m+1) h (by omega) (by omega)
 unfold zGS
 rw [xV (x:=m+1) (by omega) (by omega),hr]
 simp only [zob]
 obtain ⟨r,h3,h4⟩:=zN2 (B:=zHE s n) (fun t=>0≤t.2.1∧(t.1.length:Int)+t.2.1=v∧(∀ x∈t.1,∃ j:Nat,(j:Int)<n∧x.2=zOg j)∧uS (s.1,t.2.2)) (fun t=>t.2.1.toNat)
  (fun r=>(r.1.length:Int)≤m∧(∀ x∈r.1,∃ j:Nat,(j:Int)<n∧x.2=zOg j)∧uS (s.1,r.2)) (fun t ht=>by
   obtain ⟨l,q,k⟩:=t
   obtain ⟨t1,t2,t3,t4⟩:=ht
   dsimp only at t1 t2 t3 t4
   unfold zHE
   by_cases hq:0<q
   ·obtain ⟨g,j,k',h5,hj,hk'⟩:=zMd t4 h1 h2
    refine .inl ⟨(l++[(g,zOg j)],q-1,k'),?_,⟨by show 0≤q-1;omega,by simp;omega,fun x hx=>?_,hk'⟩,by show (q-1).toNat<q.toNat;omega⟩
    ·simp only [hq,decide_true,if_true,h5,zob]
     rw [vY (by simp;omega),xV (by omega) (by omega)]
     rfl
    ·rcases List.mem_append.1 hx with hx | hx
     ·exact t3 x hx
     ·simp at hx;subst hx;exact ⟨j,hj,rfl⟩
   ·refine .inr ⟨(l,k),by simp [hq],by dsimp only;omega,t3,t4⟩) (([]:List zG),v,k) ⟨hv0,by simp,by simp,hk⟩
 obtain ⟨l,k'⟩:=r
 exact ⟨l,k',h3,h4.1,h4.2.1,h4.2.2⟩
theorem z2P (s:List zG) (hs:s.length<1000000) (x:zG) (n:Int):∃ k:Nat,zU (zGm (s,n) x) 0=some (k:Int)∧k≤s.length∧(∀ j y,j<k->s[j]?=some y->vH y x=true)∧∀ y,s[k]?=some y->vH y x=false:=by
 obtain ⟨r,h1,k,h2,h3⟩:=uW (B:=zGm (s,n) x) (fun i (_:Unit)=>(i:Int)) s (fun i _=>∀ j y,j<i->s[j]?=some y->vH y x=true)
  (fun r=>∃ k:Nat,r=(k:Int)∧k≤s.length∧(∀ j y,j<k->s[j]?=some y->vH y x=true)∧∀ y,s[k]?=some y->vH y x=false) (fun i y _ hi hI=>by
  have hlt:=vF hi
  unfold zGm
  simp only [wS hi,if_true,wP hi,zob,wR hi (show s.length<4294967296 by omega)]
  have hcond:(if uN y.2 x.2=true then some true else if (y.2==x.2)=true then if (!y.1)=true then some x.1 else some false else some false)=some (vH y x):=by
   unfold vH
   cases uN y.2 x.2 <;> cases y.2==x.2 <;> cases y.1 <;> cases x.1 <;> rfl
  rw [hcond]
  simp only [zob]
  cases hc:vH y x with
  | true =>
   simp only [if_true]
   exact .inl ⟨(),by trivial,fun j z hj hz=>by
    by_cases hji:j=i
    ·subst hji;rw [hi] at hz;cases hz;exact hc
    ·exact hI j z (by omega) hz⟩
  | false =>
   simp only [zbf,if_false]
   exact .inr ⟨_,rfl,i,rfl,by omega,hI,fun z hz=>by rw [hi] at hz;cases hz;exact hc⟩) (fun _ hI=>⟨_,by
  unfold zGm
  simp only [yU,zbf,if_false,zob],s.length,rfl,Nat.le_refl _,hI,fun y hy=>by have:=vF hy;omega⟩) () (fun j y hj=>by omega)
 rw [show ((0:Nat):Int)=0 from rfl] at h1
 subst h2
 exact ⟨k,h1,h3⟩
theorem z5q {s:List zG} (hs:vZ vH s) {k:Nat} {x:zG} (h1:∀ j y,j<k->s[j]?=some y->vH y x=true) (h2:∀ y,s[k]?=some y->vH x y=true):vZ vH (s.take k++x::s.drop k):=by
 have hsplit:=List.take_append_drop k s
 rw [←hsplit] at hs
 obtain ⟨p1,p2,p3⟩:=List.pairwise_append.1 hs
 refine List.pairwise_append.2 ⟨p1,List.pairwise_cons.2 ⟨fun y hy=>?_,p2⟩,fun y hy z hz=>?_⟩
 ·cases hd:s.drop k with
  | nil=>rw [hd] at hy;cases hy
  | cons z r =>
   have hz:s[k]?=some z:=by
    have:=congrArg (fun l=>l[0]?) hd
    simpa using this
   rw [hd] at hy p2
   rcases List.mem_cons.1 hy with rfl | hy
   ·exact h2 _ hz
   ·exact zLv (h2 _ hz) ((List.pairwise_cons.1 p2).1 y hy)
 ·have hyx:vH y x=true:=by
   obtain ⟨j,hj⟩:=List.mem_iff_getElem?.1 hy
   rw [List.getElem?_take] at hj
   split at hj
   ·rename_i hjk;exact h1 j y hjk hj
   ·cases hj
  rcases List.mem_cons.1 hz with rfl | hz
  ·exact hyx
  ·exact p3 y hy z hz
theorem z4X {α:Type} (s:List α) (z x:α) (k:Nat) (hk:k≤s.length):(zJF (s++[z]) (((k+1:Nat)):Int) ((s++[z]).drop k)).set k x=s.take k++x::s.drop k:=by
 have h1:(s++[z]).drop k=s.drop k++[z]:=List.drop_append_of_le_length hk
 unfold zJF
 rw [h1,Int.toNat_natCast]
 have h2:(s.drop k++[z]).take ((s++[z]).length-(k+1))=s.drop k:=by
  rw [show (s++[z]).length-(k+1)=(s.drop k).length by simp,List.take_left']
  rfl
 have h3:(s++[z]).drop (k+1+(s.drop k++[z]).length)=[]:=List.drop_eq_nil_of_le (by simp;omega)
 rw [h2,h3,List.append_nil]
 cases hd:s.drop k with
 | nil =>
  have:k=s.length:=by
   have:=congrArg List.length hd
   simp at this
   omega
  subst this
  rw [List.take_of_length_le (l:=s++[z]) (by simp),List.append_nil,List.set_append_right _ _ (by simp)]
  simp
 | cons y r =>
  have hk2:k<s.length:=by
   have:=congrArg List.length hd
   simp at this
   omega
  have h4:(s++[z]).take (k+1)=s.take k++[s[k]]:=by
   rw [List.take_append_of_le_length (by omega),List.take_add_one,List.getElem?_eq_getElem hk2]
   rfl
  rw [h4,List.append_assoc,List.set_append_right _ _ (by rw [List.length_take];omega)]
  simp [Nat.min_eq_left (Nat.le_of_lt hk2)]
theorem zVS (l:List zG) (hl:l.length≤1000):∃ r,zLZ l=some r∧r.length≤l.length∧vZ vH r∧∀ y∈r,y∈l:=by
 unfold zLZ
 refine uW (B:=zIq l) (fun i s=>(s,(i:Int))) l (fun i s=>s.length≤i∧vZ vH s∧∀ y∈s,y∈l) (fun r=>r.length≤l.length∧vZ vH r∧∀ y∈r,y∈l) (fun i x s hi hs=>.inl ?_) (fun s hs=>⟨s,?_,hs⟩) [] ⟨by simp,List.Pairwise.nil,by simp⟩
 ·have hlt:=vF hi
  obtain ⟨hs1,hs2,hs3⟩:=hs
  unfold zIq
  obtain ⟨k,h1,h2,h3,h4⟩:=z2P s (by omega) x i
  simp only [wS hi,if_true,wP hi,zob,h1,wR hi (show l.length<4294967296 by omega)]
  by_cases hex:s[k]?=some x
  ·simp only [wS hex,if_true,wP hex,zob,beq_self_eq_true]
   exact ⟨s,rfl,by omega,hs2,hs3⟩
  ·have hc:(if decide ((k:Int)<len s)=true then (zF s (k:Int)).bind fun x5=>some (x5==x) else some false)=some false:=by
    by_cases hk:k<s.length
    ·have hx:s[k]?=some s[k]:=List.getElem?_eq_getElem hk
     simp only [wS hx,if_true,wP hx,zob]
     congr 1
     rw [beq_eq_false_iff_ne]
     intro e
     rw [e] at hx
     exact hex hx
    ·have:decide ((k:Int)<len s)=false:=by simp [len];omega
     simp only [this,zbf,if_false]
   rw [hc]
   simp only [zob,zbf,if_false]
   rw [vY (by simp;omega)]
   have hr1:zS ((k:Int)+1)=((k+1:Nat):Int):=yM k (by omega)
   have hc1:(decide (0≤((k+1:Nat):Int))&&decide (((k+1:Nat):Int)≤len (s++[((false,[]):zG)])))=true:=by simp [len];omega
   have hc2:(decide (0≤(k:Int))&&decide ((k:Int)≤len (s++[((false,[]):zG)])))=true:=by simp [len];omega
   obtain ⟨z,hz⟩:=zIg (l:=zJF (s++[((false,[]):zG)]) ((k+1:Nat):Int) (List.drop k (s++[((false,[]):zG)]))) (j:=(k:Int)) (by omega) (by rw [zOI];simp;omega)
   simp only [zob,hr1,yC,hc1,hc2,if_true,Int.toNat_natCast,hz,z4X s _ x k h2]
   refine ⟨_,rfl,?_,z5q hs2 h3 fun y hy=>?_,fun y hy=>?_⟩
   ·simp;omega
   ·rcases zOt y x with h | h | h
    ·rw [h4 y hy] at h;cases h
    ·subst h;exact absurd hy hex
    ·exact h
   ·rcases List.mem_append.1 hy with hy | hy
    ·exact hs3 y (List.mem_of_mem_take hy)
    ·rcases List.mem_cons.1 hy with rfl | hy
     ·exact wZ hi
     ·exact hs3 y (List.mem_of_mem_drop hy)
 ·unfold zIq
  simp only [yU,zbf,if_false]
theorem z3V:∀ {l:List zG},vZ vH l->z52 l=true
 | [],_=>rfl
 | [_],_=>rfl
 | x::y::r,h=>by
  obtain ⟨h1,h2⟩:=List.pairwise_cons.1 h
  unfold z52
  rw [h1 y List.mem_cons_self,z3V h2]
  rfl
theorem z00 {s:uO} {l:List Int} (h:uS s) (h0:l≠[]) (h1:l.length≤1000):∃ x k,zJm s l=some (x,k)∧x∈l∧uS (s.1,k):=by
 have hp:=List.length_pos_iff.2 h0
 obtain ⟨v,k,hr,h2,h3,hk⟩:=zLT (n:=len l) h (by simp [len];omega) (by simp [len];omega)
 obtain ⟨x,hx,hx2⟩:=zRE h2 h3
 exact ⟨x,k,by simp [zJm,hr,hx],List.mem_of_getElem? hx2,hk⟩
theorem zPn {j:Nat} (h:j<26):vName (zOg j)=true:=by
 have:∀ j,j<26->vName (zOg j)=true:=by decide
 exact this j h
def zUd (n:Nat):qD:=[114,UInt8.ofNat (97+n)]
theorem zUG {n:Nat} (h:n<26):vName (zUd n)=true:=by
 have:∀ n,n<26->vName (zUd n)=true:=by decide
 exact this n h
theorem z3S {n m:Nat} (h:n<26) (h':m<26) (he:zUd n=zUd m):n=m:=by
 have:∀ n,n<26->∀ m,m<26->zUd n=zUd m->n=m:=by decide
 exact this n h m h' he
theorem zRn {n:Nat} (h:n<26):zFc (n:Int)=some (zUd n):=by
 have:∀ n:Nat,n<26->zFc (n:Int)=some (zUd n):=by decide
 exact this n h
theorem z5l {α β:Type} (g:α->β) {l:List α} {y:α} (h:∀ (i j:Nat) p q,l[i]?=some p->l[j]?=some q->g p=g q->i=j) (hy:∀ x∈l,g x≠g y):∀ (i j:Nat) p q,(l++[y])[i]?=some p->(l++[y])[j]?=some q->g p=g q->i=j:=by
 intro i j p q hp hq he
 have key:∀ (i:Nat) p,(l++[y])[i]?=some p->(l[i]?=some p)∨(i=l.length∧p=y):=fun i p hp=>by
  by_cases hi:i<l.length
  ·rw [List.getElem?_append_left hi] at hp;exact .inl hp
  ·rw [List.getElem?_append_right (by omega)] at hp
   have hi2:=vF hp
   simp at hi2
   have:i=l.length:=by omega
   subst this
   simp at hp
   exact .inr ⟨rfl,hp.symm⟩
 rcases key i p hp with h1 | ⟨h1,h2⟩ <;> rcases key j q hq with h3 | ⟨h3,h4⟩
 ·exact h i j p q h1 h3 he
 ·subst h4;exact absurd he (hy p (wZ h1))
 ·subst h2;exact absurd he.symm (hy q (wZ h3))
 ·omega
structure z3d (n:Int) (l:List vT):Prop where
 ok:∀ p∈l,tD p=0
 at_:∀ p∈l,∃ j:Nat,(j:Int)<n∧p.1.2=zOg j
 inj:∀ (i j:Nat) p q,l[i]?=some p->l[j]?=some q->p.1=q.1->i=j
theorem z6D {s:uO} {n:Int} (h1:1≤n) (h2:n≤26) {v k:Int} (hv0:0≤v) (hv1:v≤100) (hk:uS (s.1,k)):∃ r,zU (zHM s n) (v,k,[])=some r∧uS (s.1,r.1)∧(r.2.length:Int)≤v∧z3d n r.2:=by
 refine zN2 (B:=zHM s n) (fun t=>0≤t.1∧(t.2.2.length:Int)+t.1≤v∧uS (s.1,t.2.1)∧z3d n t.2.2) (fun t=>t.1.toNat) (fun r=>uS (s.1,r.1)∧(r.2.length:Int)≤v∧z3d n r.2) (fun t ht=>?_) _ ⟨hv0,by simp,hk,by simp,by simp,by simp⟩
 obtain ⟨q,k,l⟩:=t
 obtain ⟨t1,t2,t3,t4⟩:=ht
 dsimp only at t1 t2 t3 t4
 unfold zHM
 by_cases hq:0<q
 ·obtain ⟨g,j,k1,e1,hj,hk1⟩:=zMd t3 h1 h2
  obtain ⟨p,k2,e2,hp,hk2⟩:=z00 (l:=[1,2,2,2,3]) hk1 (by simp) (by simp)
  obtain ⟨x,k3,e3,hx,hk3⟩:=z2V (l:=[[],[],[97,110,110],[98,111,98]]) hk2 (by simp) (by simp)
  obtain ⟨u,k4,e4,hu0,hu1,hk4⟩:=zLT (n:=4) hk3 (by omega) (by omega)
  have hr:zU (zEc (q,k,l) ((g,zOg j),k1)) (false,0)=some (l.any fun p=>p.1==(g,zOg j)):=by
   obtain ⟨r,hr,hr2⟩:=uW (B:=zEc (q,k,l) ((g,zOg j),k1)) (fun i s=>(s,(i:Int))) l (fun i s=>s=(l.take i).any fun p=>p.1==(g,zOg j)) (fun r=>r=l.any fun p=>p.1==(g,zOg j)) (fun i x s hi hs=>.inl (by
    unfold zEc
    simp only [wS hi,if_true,wP hi,zob,wR hi (show l.length<4294967296 by omega)]
    exact ⟨_,rfl,by rw [xA hi,List.any_append,←hs];simp⟩)) (fun s hs=>by
    unfold zEc
    simp only [yU,zbf,if_false]
    exact ⟨_,rfl,by rw [hs,List.take_length]⟩) false (by simp)
   rw [←hr2]
   exact hr
  dsimp only at e2 e3 e4 hk2 hk3 hk4
  have hq1:zS (q-1)=q-1:=xV (by omega) (by omega)
  have hmid:∃ w z,(if (p==2)=true then (tF (s.1,k3) 4).bind fun r5=>some (r5.2,r5.1) else some (k3,0):Option (Int×Int))=some (w,z)∧uS (s.1,w)∧zIc z=true∧(p==2||z==0)=true:=by
   split
   ·rename_i hp2
    exact ⟨k4,u,by rw [e4];rfl,hk4,by simp;omega,by simp [hp2]⟩
   ·exact ⟨k3,0,rfl,hk3,by simp,by simp⟩
  obtain ⟨w,z,hm,hw,hz1,hz2⟩:=hmid
  simp only [hq,decide_true,if_true,e1,zob,e2,e3,hm,hr,hq1]
  cases hany:l.any fun p=>p.1==(g,zOg j) with
  | true=>exact .inl ⟨_,rfl,⟨by show 0≤q-1;omega,by show (l.length:Int)+(q-1)≤v;omega,hw,t4⟩,by show (q-1).toNat<q.toNat;omega⟩
  | false =>
   simp only [Bool.not_false,if_true]
   rw [vY (by simp;omega)]
   refine .inl ⟨_,rfl,⟨by show 0≤q-1;omega,by show ((l++[((g,zOg j),p,z,x)]).length:Int)+(q-1)≤v;simp;omega,hw,fun p' hp'=>?_,fun p' hp'=>?_,z5l _ t4.inj fun p' hp' he=>?_⟩,by show (q-1).toNat<q.toNat;omega⟩
   ·rcases List.mem_append.1 hp' with hp' | hp'
    ·exact t4.ok p' hp'
    ·simp only [List.mem_singleton] at hp'
     subst hp'
     have hpk:(p==1||p==2||p==3)=true:=by
      simp only [List.mem_cons,List.not_mem_nil,or_false] at hp
      rcases hp with rfl | rfl | rfl | rfl | rfl <;> rfl
     have hsx:(x==([]:qD)||vName x)=true:=by
      simp only [List.mem_cons,List.not_mem_nil,or_false] at hx
      rcases hx with rfl | rfl | rfl | rfl <;> decide
     unfold tD
     dsimp only
     rw [if_pos hpk,zPn (by omega),hz1,hz2,hsx]
     rfl
   ·rcases List.mem_append.1 hp' with hp' | hp'
    ·exact t4.at_ p' hp'
    ·simp only [List.mem_singleton] at hp'
     subst hp'
     exact ⟨j,hj,rfl⟩
   ·rw [List.any_eq_false] at hany
    exact hany p' hp' (by rw [beq_iff_eq];exact he)
 ·simp only [hq,decide_false,zbf,if_false]
  exact .inr ⟨_,rfl,t3,by show (l.length:Int)≤v;omega,t4⟩
structure z2y (l:List qL):Prop where
 bd:∀ r∈l,r.2.2.2.1.length≤2
 ok:∀ r∈l,xZ r=0
 nm:∀ (i:Nat) r,l[i]?=some r->r.1=zUd i
theorem z5s {s:uO} {n m:Int} (h1:1≤n) (h2:n≤26) (hm:1≤m) (hm2:m≤26) {v k:Int} (hv0:0≤v) (hv1:v≤24) (hk:uS (s.1,k)):∃ r,zU (zHS s n m) (v,k,[])=some r∧uS (s.1,r.1)∧(r.2.length:Int)≤v∧z2y r.2:=by
 refine zN2 (B:=zHS s n m) (fun t=>0≤t.1∧(t.2.2.length:Int)+t.1≤v∧uS (s.1,t.2.1)∧z2y t.2.2) (fun t=>t.1.toNat) (fun r=>uS (s.1,r.1)∧(r.2.length:Int)≤v∧z2y r.2) (fun t ht=>?_) _ ⟨hv0,by simp,hk,by simp,by simp,by simp⟩
 obtain ⟨q,k,l⟩:=t
 obtain ⟨t1,t2,t3,t4⟩:=ht
 dsimp only at t1 t2 t3 t4
 unfold zHS
 by_cases hq:0<q
 ·have e0:=zRn (n:=l.length) (by omega)
  obtain ⟨u,k1,e1,_,_,hk1⟩:=zLT (n:=3) t3 (by omega) (by omega)
  obtain ⟨bd,k2,e2,hb2,hbn,hk2⟩:=z3B (m:=2) hk1 (by omega) (by omega) h1 h2
  obtain ⟨bs,e3,hb3,hb4,hb5⟩:=zVS bd (by omega)
  obtain ⟨g,j,k3,e4,hj,hk3⟩:=zMd hk2 h1 h2
  obtain ⟨u5,k5,e5,hu5,hu5',hk5⟩:=zLT (n:=4) hk3 (by omega) (by omega)
  dsimp only at e1 e2 e3 e4 e5 hk1 hk2 hk3 hk5
  have hmid:∃ w z,(if (!(u==0))=true then (tF (s.1,k3) 4).bind fun r12=>some (r12.2,r12.1) else some (k3,0):Option (Int×Int))=some (w,z)∧uS (s.1,w)∧zIc z=true∧(!(u==0)||z==0)=true:=by
   split
   ·rename_i hu
    exact ⟨k5,u5,by rw [e5];rfl,hk5,by simp;omega,by rw [hu];rfl⟩
   ·exact ⟨k3,0,rfl,hk3,by simp,by simp⟩
  obtain ⟨w,z,hmm,hw,hz1,hz2⟩:=hmid
  obtain ⟨u6,k6,e6,_,_,hk6⟩:=zLT (n:=6) hw (by omega) (by omega)
  obtain ⟨u7,k7,e7,_,_,hk7⟩:=zLT (n:=4) hk6 (by omega) (by omega)
  obtain ⟨u8,k8,e8,hu8,hu8',hk8⟩:=zLT (n:=m) hk7 (by omega) (by omega)
  obtain ⟨n8,rfl⟩:=Int.eq_ofNat_of_zero_le hu8
  have e9:=zRn (n:=n8) (by omega)
  dsimp only at e6 e7 e8 hk6 hk7 hk8
  have hend:∃ w2 z2 y2,((tF (s.1,w) 6).bind fun r13=>if (r13.1==5)=true then (tF (s.1,r13.2) 4).bind fun r14=>(tF (s.1,r14.2) m).bind fun r15=>(zFc r15.1).bind fun r16=>some (r15.2,decide (0<r14.1),r16) else some (r13.2,g,zOg j):Option (Int×Bool×qD))=some (w2,z2,y2)∧uS (s.1,w2)∧vName y2=true:=by
   rw [e6]
   simp only [zob]
   split
   ·exact ⟨k8,decide (0<u7),zUd n8,by rw [e7];simp only [zob,e8,e9],hk8,zUG (by omega)⟩
   ·exact ⟨k6,g,zOg j,rfl,hk6,zPn (by omega)⟩
  obtain ⟨w2,z2,y2,he,hw2,hy2⟩:=hend
  have hq1:zS (q-1)=q-1:=xV (by omega) (by omega)
  rw [show len l=((l.length:Nat):Int) from rfl]
  simp only [hq,decide_true,if_true,e0,e1,zob,e2,e3,e4,hmm,he,hq1]
  rw [vY (by simp;omega)]
  refine .inl ⟨_,rfl,⟨by show 0≤q-1;omega,by show ((l++[_]).length:Int)+(q-1)≤v;simp;omega,hw2,fun r hr=>?_,fun r hr=>?_,fun i r hr=>?_⟩,by show (q-1).toNat<q.toNat;omega⟩
  ·rcases List.mem_append.1 hr with hr | hr
   ·exact t4.bd r hr
   ·simp only [List.mem_singleton] at hr
    subst hr
    show bs.length≤2
    omega
  ·rcases List.mem_append.1 hr with hr | hr
   ·exact t4.ok r hr
   ·simp only [List.mem_singleton] at hr
    subst hr
    unfold xZ
    dsimp only
    have hall:(bs.all fun x=>vName x.2)=true:=List.all_eq_true.2 fun x hx=>by
     obtain ⟨j,hj,hx2⟩:=hbn x (hb5 x hx)
     rw [hx2]
     exact zPn (by omega)
    rw [if_neg (by omega),zUG (by omega),hy2,hz1,hz2,hall,z3V hb4]
    rfl
  ·by_cases hi:i<l.length
   ·rw [List.getElem?_append_left hi] at hr
    exact t4.nm i r hr
   ·rw [List.getElem?_append_right (by omega)] at hr
    have:=vF hr
    simp at this
    have hi2:i=l.length:=by omega
    subst hi2
    simp at hr
    rw [←hr]
 ·simp only [hq,decide_false,zbf,if_false]
  exact .inr ⟨_,rfl,t3,by show (l.length:Int)≤v;omega,t4⟩
theorem z5y {s:uO} {n:Int} (h1:1≤n) (h2:n≤26) (o:Int) (rs:List qL) (hrs:rs.length≤100) {v k:Int} (hv0:0≤v) (hv1:v≤100) (hk:uS (s.1,k)):∃ r,zU (zHP (o,rs) s n) (v,k,[])=some r∧uS (s.1,r.1)∧(r.2.length:Int)≤v∧∀ p∈r.2,zIc p.2.1=true∧vName p.2.2.2=true∧∃ q∈rs,q.1=p.1∧q.2.1=false:=by
 refine zN2 (B:=zHP (o,rs) s n) (fun t=>0≤t.1∧(t.2.2.length:Int)+t.1≤v∧uS (s.1,t.2.1)∧∀ p∈t.2.2,zIc p.2.1=true∧vName p.2.2.2=true∧∃ q∈rs,q.1=p.1∧q.2.1=false) (fun t=>t.1.toNat) (fun r=>uS (s.1,r.1)∧(r.2.length:Int)≤v∧∀ p∈r.2,zIc p.2.1=true∧vName p.2.2.2=true∧∃ q∈rs,q.1=p.1∧q.2.1=false) (fun t ht=>?_) _ ⟨hv0,by simp,hk,by simp⟩
 obtain ⟨q,k,l⟩:=t
 obtain ⟨t1,t2,t3,t4⟩:=ht
 dsimp only at t1 t2 t3 t4
 unfold zHP
 by_cases hq:0<q∧0<rs.length
 ·have hc:(decide (0<q)&&decide (0<len rs))=true:=by simp [len];omega
  obtain ⟨u,k1,e1,hu0,hu1,hk1⟩:=zLT (n:=len rs) t3 (by simp [len];omega) (by simp [len];omega)
  obtain ⟨r,hr⟩:=zIg (l:=rs) hu0 hu1
  obtain ⟨u2,k2,e2,hu2,hu2',hk2⟩:=zLT (n:=10) hk1 (by omega) (by omega)
  obtain ⟨g,j,k3,e3,hj,hk3⟩:=zMd hk2 h1 h2
  dsimp only at e1 e2 e3 hk1 hk2 hk3
  have hq1:zS (q-1)=q-1:=xV (by omega) (by omega)
  simp only [hc,if_true,e1,zob,hr,hq1]
  cases hst:r.2.1 with
  | true =>
   simp only [Bool.not_true,zbf,if_false]
   exact .inl ⟨_,rfl,⟨by show 0≤q-1;omega,by show (l.length:Int)+(q-1)≤v;omega,hk1,t4⟩,by show (q-1).toNat<q.toNat;omega⟩
  | false =>
   simp only [Bool.not_false,if_true,e2,e3,zob]
   rw [vY (by simp;omega)]
   refine .inl ⟨_,rfl,⟨by show 0≤q-1;omega,by show ((l++[_]).length:Int)+(q-1)≤v;simp;omega,hk3,fun p hp=>?_⟩,by show (q-1).toNat<q.toNat;omega⟩
   rcases List.mem_append.1 hp with hp | hp
   ·exact t4 p hp
   ·simp only [List.mem_singleton] at hp
    subst hp
    obtain ⟨i,_,hi⟩:=zNG hr
    exact ⟨by simp;omega,zPn (by omega),r,wZ hi,rfl,hst⟩
 ·have hc:(decide (0<q)&&decide (0<len rs))=false:=by
   rw [Bool.and_eq_false_iff]
   by_cases h:0<q
   ·have h0:¬ 0<rs.length:=fun h3=>hq ⟨h,h3⟩
    exact .inr (decide_eq_false (by show ¬ (0:Int)<(rs.length:Int);omega))
   ·exact .inl (by simpa using h)
  simp only [hc,zbf,if_false]
  exact .inr ⟨_,rfl,t3,by show (l.length:Int)≤v;omega,t4⟩
structure z6c (b:zO) (n p q:Int):Prop where
 np:(b.1.length:Int)≤p
 nr:(b.2.1.length:Int)≤q
 nm:b.2.2.length≤2
 bd:∀ r∈b.2.1,r.2.2.2.1.length≤2
 valid:zKI b
 names:∀ (i:Nat) r,b.2.1[i]?=some r->r.1=zUd i
 at_:∀ p∈b.1,∃ j:Nat,(j:Int)<n∧p.1.2=zOg j
theorem z3T {s:uO} (h:uS s) {n p q:Int} (h1:1≤n) (h2:n≤26) (hp:0≤p) (hp2:p≤16) (hq:1≤q) (hq2:q≤24):∃ b k,zJi s n p q=some (b,k)∧uS (s.1,k)∧z6c b n p q:=by
 unfold zJi
 obtain ⟨u1,k1,e1,a1,b1,hk1⟩:=zLT (n:=p+1) h (by omega) (by omega)
 obtain ⟨⟨o1,ps⟩,e2,hk2,hl2,hp2'⟩:=z6D (s:=s) h1 h2 a1 (by omega) hk1
 obtain ⟨u3,k3,e3,a3,b3,hk3⟩:=zLT (n:=q+1) hk2 (by omega) (by omega)
 obtain ⟨⟨o4,rs⟩,e4,hk4,hl4,hb4⟩:=z5s (s:=s) h1 h2 hq (by omega) a3 (by omega) hk3
 obtain ⟨u5,k5,e5,a5,b5,hk5⟩:=zLT (n:=3) hk4 (by omega) (by omega)
 dsimp only at hl2 hl4 hb4 hp2'
 obtain ⟨⟨o6,ms⟩,e6,hk6,hl6,hm6⟩:=z5y (s:=s) h1 h2 o4 rs (by omega) a5 (by omega) hk5
 dsimp only at e3 e5 hl6 hm6
 rw [xV (x:=p+1) (by omega) (by omega),xV (x:=q+1) (by omega) (by omega)]
 have hinj:∀ (i j:Nat) p q,rs[i]?=some p->rs[j]?=some q->p.1=q.1->i=j:=fun i j p q hp hq he=>by
  have:=vF hp
  have:=vF hq
  rw [hb4.nm i p hp,hb4.nm j q hq] at he
  exact z3S (by omega) (by omega) he
 refine ⟨(ps,rs,ms),o6,?_,hk6,by show (ps.length:Int)≤p;omega,by show (rs.length:Int)≤q;omega,by show ms.length≤2;omega,hb4.bd,⟨by show ps.length≤16;omega,by show rs.length≤24;omega,by show ms.length≤8;omega,hp2'.ok,hb4.ok,hp2'.inj,hinj,fun m hm=>?_⟩,hb4.nm,hp2'.at_⟩
 ·simp only [e1,zob,e2,e3,e4,e5,e6]
 ·obtain ⟨g1,g2,r,g3,g4,g5⟩:=hm6 m hm
  obtain ⟨i,hi⟩:=List.mem_iff_getElem?.1 g3
  have hf:=zWR (q:=fun r:qL=>r.1==m.1) hi (by simp [g4])
  obtain ⟨k,r',f1,f2,f3,_⟩:=zWn hf.1
  have hki:=hinj k i r' r f2 hi (by rw [g4];simpa using f3)
  subst hki
  rw [f2] at hi
  cases hi
  unfold zTQ zMt
  dsimp only
  rw [g1,g2,f1]
  have:¬ ((k:Int)<0):=by omega
  simp [this,xL,f2,g5]
end
section
def Ok {α:Type} (x:Option α) (Q:α->Prop):Prop:=∃ a,x=some a∧Q a
section
variable {α β:Type}
theorem Ok.ret {a:α} {Q:α->Prop} (h:Q a):Ok (some a) Q:=⟨a,rfl,h⟩
theorem Ok.bind {x:Option α} {f:α->Option β} {I:α->Prop} {Q:β->Prop} (h:Ok x I) (k:∀ a,I a->Ok (f a) Q):Ok (x.bind f) Q:=by
 obtain ⟨a,rfl,ha⟩:=h;exact k a ha
theorem Ok.ite {c:Bool} {x y:Option α} {Q:α->Prop} (hx:c=true->Ok x Q) (hy:c=false->Ok y Q):Ok (if c=true then x else y) Q:=by
 cases c with
 | true=>exact hx rfl
 | false=>exact hy rfl
theorem Ok.imp {x:Option α} {I Q:α->Prop} (h:Ok x I) (k:∀ a,I a->Q a):Ok x Q:=by
 obtain ⟨a,h1,h2⟩:=h;exact ⟨a,h1,k a h2⟩
theorem Ok.of {x:Option α} {a:α} (h:x=some a):Ok x fun b=>b=a:=⟨a,h,rfl⟩
theorem Ok.idx {l:List α} {i:Int} (h0:0≤i) (h1:i<l.length):Ok (zF l i) fun x=>x∈l∧l[i.toNat]?=some x:=by
 obtain ⟨x,h2,h3⟩:=zRE h0 h1
 exact ⟨x,h2,List.mem_of_getElem? h3,h3⟩
theorem Ok.app {l m:List α} (h:l.length+m.length<4294967296):Ok (wE l m) fun z=>z=l++m:=⟨_,vY h,rfl⟩
theorem Ok.cat {l m:qD} (h:l.length+m.length<4294967296):Ok (cat l m) fun z=>z=l++m:=⟨_,z0I h,rfl⟩
end
section
variable {s:uO}
theorem Ok.N {n:Int} (h:uS s) (h0:0≤n) (h1:n≤4611686018427387904):Ok (tF s n) fun r=>0≤r.1∧(1≤n->r.1<n)∧uS (s.1,r.2):=by
 by_cases hn:1≤n
 ·obtain ⟨v,k,e,a,b,c⟩:=zLT h hn h1
  exact ⟨_,e,a,fun _=>b,c⟩
 ·obtain ⟨v,k,hr,hk⟩:=zZp h
  have hn1:n<1:=by omega
  refine ⟨(0,k),?_,Int.le_refl _,fun h=>absurd h hn,hk⟩
  simp [tF,hr,zLc,hn1]
end
section
variable {α β σ τ ρ:Type}
def Nx (mk:Nat->σ->τ) (I:Nat->σ->Prop) (Q:ρ->Prop) (i:Nat):τ⊕ρ->Prop
 | .inl t=>∃ s,t=mk i s∧I i s
 | .inr r=>Q r
def Fin (Q:ρ->Prop):τ⊕ρ->Prop
 | .inl _=>False
 | .inr r=>Q r
theorem Ok.forI {B:τ->Option (τ⊕ρ)} (mk:Nat->σ->τ) (l:List α) (I:Nat->σ->Prop) (Q:ρ->Prop) (hB:∀ i x s,l[i]?=some x->I i s->Ok (B (mk i s)) (Nx mk I Q (i+1)))
  (he:∀ s,I l.length s->Ok (B (mk l.length s)) (Fin Q)) (s:σ) (h:I 0 s):Ok (zU B (mk 0 s)) Q:=by
 refine uW mk l I Q (fun i x s hx hI=>?_) (fun s hI=>?_) s h
 ·obtain ⟨o,h1,h2⟩:=hB i x s hx hI
  cases o with
  | inl t=>obtain ⟨s',rfl,h3⟩:=h2;exact .inl ⟨s',h1,h3⟩
  | inr r=>exact .inr ⟨r,h1,h2⟩
 ·obtain ⟨o,h1,h2⟩:=he s hI
  cases o with
  | inl t=>exact h2.elim
  | inr r=>exact ⟨r,h1,h2⟩
theorem Ok.seqE {x:Option (σ⊕α)} {f:σ->Option α} {I:σ⊕α->Prop} {Q:α->Prop} (h:Ok x I) (k:∀ a,I (.inl a)->Ok (f a) Q) (k2:∀ r,I (.inr r)->Q r):Ok (yD x f) Q:=by
 obtain ⟨a,rfl,ha⟩:=h
 cases a with
 | inl a=>exact k a ha
 | inr r=>exact ⟨r,rfl,k2 r ha⟩
theorem Ok.nat {B:τ->Option (τ⊕ρ)} (μ:τ->Nat) (I:τ->Prop) (Q:ρ->Prop) (hB:∀ s,I s->Ok (B s) (fun o=>match o with | .inl t=>I t∧μ t<μ s | .inr r=>Q r)) (s:τ) (h:I s):Ok (zU B s) Q:=by
 refine zVr μ I Q (fun s hs=>?_) s h
 obtain ⟨o,h1,h2⟩:=hB s hs
 cases o with
 | inl t=>exact .inl ⟨t,h1,h2⟩
 | inr r=>exact .inr ⟨r,h1,h2⟩
end
theorem z3G {α:Type} {l:List α} {i:Nat} {x:α} (h:l[i]?=some x):decide ((i:Int)<len l)=true:=decide_eq_true (show (i:Int)<(l.length:Int) by have:=(List.getElem?_eq_some_iff.1 h).1;omega)
theorem zZ1 {α:Type} {l:List α}:decide ((l.length:Int)<len l)=false:=decide_eq_false (show ¬ (l.length:Int)<(l.length:Int) by omega)
structure Bnd (B:qL->Prop) (b:zO) (p r t:Nat):Prop where
 np:b.1.length≤p
 nr:b.2.1.length≤r
 nt:b.2.2.length≤t
 bd:∀ x∈b.2.1,B x
theorem zL9 {α:Type} {l:List α} (h:l.length<4294967296):wE ([]:List α) l=some l:=by rw [vY (by simpa using h),List.nil_append]
theorem zV5 {α:Type}:∀ (l m:List α),l.foldl (fun s x=>s++[x]) m=m++l
 | [],m=>by simp
 | x::l,m=>by rw [List.foldl_cons,zV5 l];simp
theorem Bnd.cnt {b:zO} {k p r t:Nat} (h:Bnd (fun x=>x.2.2.2.1.length≤k) b p r t) (hk:k≤1000) (hp:p≤1000) (hr:r≤1000) (ht:t≤1000):Cnt b :=
 ⟨by have:=h.np;omega,by have:=h.nr;omega,by have:=h.nt;omega,fun r hr=>by have:=h.bd r hr;omega⟩
theorem z6c.bnd {b:zO} {n p q:Int} (h:z6c b n p q):Bnd (fun x=>x.2.2.2.1.length≤5) b 16 24 2:=⟨h.valid.np,h.valid.nr,h.nm,fun r hr=>by have:=h.bd r hr;omega⟩
end
section
theorem wrapU {x:Int} (h0:0≤x) (h1:x<18446744073709551616):IntKind.u64.wrap x=x:=by
 unfold IntKind.wrap
 simp only [IntKind.bits,IntKind.signed,Bool.false_and,zbf,if_false]
 omega
theorem zJe {n:Nat} (h:n<18446744073709551616):IntKind.u64.wrap (n:Int)=(n:Int):=wrapU (by omega) (by omega)
theorem z2f (n:Nat):IntKind.u64.wrap (n:Int)=((n % 18446744073709551616:Nat):Int):=by
 unfold IntKind.wrap
 simp only [IntKind.bits,IntKind.signed,Bool.false_and,zbf,if_false]
 omega
theorem zV3 (n:Nat):BitVec.ofInt IntKind.u64.bits (n:Int)=BitVec.ofNat 64 n:=by
 show BitVec.ofInt 64 (n:Int)=_
 exact BitVec.ofInt_natCast 64 n
theorem zZu {a b:Nat} (ha:a<18446744073709551616):a &&& b<18446744073709551616:=Nat.lt_of_le_of_lt Nat.and_le_left ha
theorem z61 {a b:Nat} (ha:a<18446744073709551616) (hb:b<18446744073709551616):a ||| b<18446744073709551616:=Nat.or_lt_two_pow (n:=64) ha hb
theorem zR0 {a b:Nat} (ha:a<18446744073709551616) (hb:b<18446744073709551616):yE .u64 (a:Int) (b:Int)=((a &&& b:Nat):Int):=by
 unfold yE
 rw [zV3,zV3]
 have h:(BitVec.ofNat 64 a &&& BitVec.ofNat 64 b).toNat=a &&& b:=by
  rw [BitVec.toNat_and,BitVec.toNat_ofNat,BitVec.toNat_ofNat,Nat.mod_eq_of_lt ha,Nat.mod_eq_of_lt hb]
 exact (congrArg (fun z:Nat=>IntKind.u64.wrap (z:Int)) h).trans (zJe (zZu ha))
theorem zWq {a b:Nat} (ha:a<18446744073709551616) (hb:b<18446744073709551616):bor .u64 (a:Int) (b:Int)=((a ||| b:Nat):Int):=by
 unfold bor
 rw [zV3,zV3]
 have h:(BitVec.ofNat 64 a ||| BitVec.ofNat 64 b).toNat=a ||| b:=by
  rw [BitVec.toNat_or,BitVec.toNat_ofNat,BitVec.toNat_ofNat,Nat.mod_eq_of_lt ha,Nat.mod_eq_of_lt hb]
 exact (congrArg (fun z:Nat=>IntKind.u64.wrap (z:Int)) h).trans (zJe (z61 ha hb))
def z60 (a b:Nat):Nat:=a ^^^ (a &&& b)
theorem zM6 (a b i:Nat):(z60 a b).testBit i=(a.testBit i&&!b.testBit i):=by
 unfold z60
 rw [Nat.testBit_xor,Nat.testBit_and]
 cases a.testBit i <;> cases b.testBit i <;> rfl
theorem zY7 {a b:Nat} (ha:a<18446744073709551616):z60 a b<18446744073709551616:=Nat.xor_lt_two_pow (n:=64) ha (zZu ha)
theorem zUA {a b:Nat} (ha:a<18446744073709551616) (_hb:b<18446744073709551616):zMy .u64 (a:Int) (b:Int)=((z60 a b:Nat):Int):=by
 unfold zMy
 rw [zV3,zV3]
 have h:(BitVec.ofNat 64 a &&& ~~~(BitVec.ofNat 64 b)).toNat=z60 a b:=by
  apply Nat.eq_of_testBit_eq
  intro i
  rw [zM6,←BitVec.getLsbD,BitVec.getLsbD_and,BitVec.getLsbD_not,BitVec.getLsbD_ofNat,BitVec.getLsbD_ofNat]
  by_cases hi:i<64
  ·simp [hi]
  ·have:a.testBit i=false:=Nat.testBit_lt_two_pow (Nat.lt_of_lt_of_le ha (Nat.pow_le_pow_right (by decide) (by omega):2 ^ 64≤2 ^ i))
   simp [hi,this]
 exact (congrArg (fun z:Nat=>IntKind.u64.wrap (z:Int)) h).trans (zJe (zY7 ha))
theorem z4j {i:Nat} (h:i<64):z3b .u64 1 (IntKind.u64.wrap (i:Int))=some ((2 ^ i:Nat):Int):=by
 rw [zJe (by omega)]
 unfold z3b shl
 have h2:(2:Nat) ^ i<18446744073709551616:=Nat.pow_lt_pow_right (a:=2) (by decide) (show i<64 from h)
 have h3:min ((i:Int).toNat) IntKind.u64.bits=i:=by simp [IntKind.bits];omega
 have h4:(1:Int)*2 ^ i=((2 ^ i:Nat):Int):=by rw [Int.one_mul];norm_cast
 rw [if_neg (by omega),h3,h4,zJe h2]
theorem shrK_u {m i:Nat} (h:i<64):shrK .u64 (m:Int) (IntKind.u64.wrap (i:Int))=some ((m / 2 ^ i:Nat):Int):=by
 rw [zJe (by omega)]
 unfold shrK xH
 have h3:min ((i:Int).toNat) IntKind.u64.bits=i:=by simp [IntKind.bits];omega
 rw [if_neg (by omega),h3]
 congr 1
 rw [Int.fdiv_eq_ediv_of_nonneg _ (by exact Int.le_of_lt (Int.pow_pos (by decide)))]
 norm_cast
theorem bit_eq (m i:Nat):(((m / 2 ^ i) &&& 1:Nat)==1)=m.testBit i:=by
 rw [Nat.testBit_eq_decide_div_mod_eq,Nat.and_one_is_mod,Bool.eq_iff_iff]
 simp
theorem z6r {m i:Nat} (hm:m<18446744073709551616):m / 2 ^ i<18446744073709551616:=Nat.lt_of_le_of_lt (Nat.div_le_self _ _) hm
theorem zOB {i:Nat} (h:i<64):2 ^ i<18446744073709551616:=Nat.pow_lt_pow_right (a:=2) (by decide) (show i<64 from h)
theorem zYJ {m i:Nat} (hm:m<18446744073709551616) (h:64≤i):m.testBit i=false :=
 Nat.testBit_lt_two_pow (Nat.lt_of_lt_of_le hm (Nat.pow_le_pow_right (by decide) h:2 ^ 64≤2 ^ i))
def zPR (m:Nat):List Int:=(wW 64).filter fun x=>m.testBit x.toNat
theorem zMI {m:Nat} {x:Int}:x∈zPR m↔∃ i:Nat,x=(i:Int)∧i<64∧m.testBit i=true:=by
 unfold zPR
 rw [List.mem_filter,xJ]
 constructor
 ·rintro ⟨⟨h1,h2⟩,h3⟩
  exact ⟨x.toNat,by omega,by omega,h3⟩
 ·rintro ⟨i,rfl,h1,h2⟩
  exact ⟨⟨by omega,by omega⟩,by simpa using h2⟩
theorem zVj {m:Nat} (hm:m<18446744073709551616) {i:Nat}:(i:Int)∈zPR m↔m.testBit i=true:=by
 rw [zMI]
 constructor
 ·rintro ⟨j,h1,h2,h3⟩
  have:i=j:=by omega
  rw [this];exact h3
 ·intro h
  refine ⟨i,rfl,Nat.lt_of_not_le fun hge=>?_,h⟩
  rw [zYJ hm hge] at h;cases h
theorem zTs (m:Nat):vZ yS (zPR m):=(zKO 64).filter _
theorem zXX (m:Nat):(zPR m).length≤64:=Nat.le_trans (List.length_filter_le _ _) (by rw [tE];exact Nat.le_refl _)
theorem zT8 (q k j:Nat):(2 ^ k*(2*q+1)).testBit j=(decide (j=k)||(decide (k<j)&&q.testBit (j-k-1))):=by
 have e:2 ^ k*(2*q+1)=2 ^ (k+1)*q+2 ^ k:=by rw [Nat.mul_add,Nat.mul_one,Nat.pow_succ,Nat.mul_assoc]
 rw [e,Nat.testBit_two_pow_mul_add _ (Nat.pow_lt_pow_right (by decide) (Nat.lt_succ_self k))]
 by_cases hj:j<k+1
 ·rw [if_pos hj,Nat.testBit_two_pow]
  have h1:decide (k<j)=false:=by simp;omega
  rw [h1,Bool.false_and,Bool.or_false]
  by_cases h2:j=k <;> simp [h2]
  exact fun h=>h2 h.symm
 ·rw [if_neg hj]
  have h1:decide (k<j)=true:=by simp;omega
  have h2:decide (j=k)=false:=by simp;omega
  rw [h1,h2,Bool.true_and,Bool.false_or]
  congr 1
theorem z1A (q k:Nat):(2 ^ k*(2*q+1)) &&& (2 ^ k*(2*q+1)-1)=2 ^ (k+1)*q:=by
 have hp:0<2 ^ k:=Nat.pow_pos (by decide)
 have e:2 ^ k*(2*q+1)-1=2 ^ (k+1)*q+(2 ^ k-1):=by rw [Nat.mul_add,Nat.mul_one,Nat.pow_succ,Nat.mul_assoc];omega
 apply Nat.eq_of_testBit_eq
 intro j
 rw [Nat.testBit_and,zT8,e,Nat.testBit_two_pow_mul_add _ (by rw [Nat.pow_succ];omega)]
 have e2:2 ^ (k+1)*q=2 ^ (k+1)*q+0:=rfl
 rw [e2,Nat.testBit_two_pow_mul_add _ (Nat.pow_pos (by decide))]
 by_cases hj:j<k+1
 ·rw [if_pos hj,if_pos hj,Nat.testBit_two_pow_sub_one,Nat.zero_testBit]
  have h1:decide (k<j)=false:=by simp;omega
  rw [h1,Bool.false_and,Bool.or_false]
  by_cases h2:j=k
  ·simp [h2]
  ·simp [h2]
 ·rw [if_neg hj,if_neg hj]
  have h1:decide (k<j)=true:=by simp;omega
  have h2:decide (j=k)=false:=by simp;omega
  rw [h1,h2,Bool.true_and,Bool.false_or]
  have h3:j-(k+1)=j-k-1:=by omega
  rw [h3,Bool.and_self]
theorem tz_nat {m:Nat} (h0:m≠0) (h:m<18446744073709551616):∃ k q:Nat,zCB (m:Int)=some (k:Int)∧k<64∧m=2 ^ k*(2*q+1):=by
 have hc:Lib.ctz 64 m=Lib.ctzFrom 64 m:=by unfold Lib.ctz;rw [if_neg h0]
 obtain ⟨q,hq,hk⟩:=Lib.ctzFrom_spec 64 m (by omega) h
 obtain ⟨hl,_⟩:=Lib.lowest_bit 64 m h0 h
 rw [hc] at hl
 generalize Lib.ctzFrom 64 m=k at hq hk hl
 refine ⟨k,q,?_,hk,hq⟩
 unfold zCB
 have hne:((m:Int)==0)=false:=by simp;omega
 have hw:IntKind.u64.wrap (0-(m:Int))=((2 ^ 64-m:Nat):Int):=by
  unfold IntKind.wrap
  simp only [IntKind.bits,IntKind.signed,Bool.false_and,zbf,if_false]
  omega
 rw [hne,hw,zR0 h (by omega),hl]
 obtain ⟨d1,d2⟩:=Lib.deBruijn64_at k hk
 have hmul:IntKind.u64.wrap (((2 ^ k:Nat):Int)*285870213051353865)=((2 ^ k*285870213051353865 % 18446744073709551616:Nat):Int):=by
  have e:((2 ^ k:Nat):Int)*285870213051353865=((2 ^ k*285870213051353865:Nat):Int):=by rw [Int.natCast_mul];rfl
  rw [e,z2f]
 have hs:xH .u64 ((2 ^ k*285870213051353865 % 18446744073709551616:Nat):Int) 58=((2 ^ k*285870213051353865 % 18446744073709551616 / 288230376151711744:Nat):Int):=by
  unfold xH
  have h3:min ((58:Int).toNat) IntKind.u64.bits=58:=by decide
  rw [h3,Int.fdiv_eq_ediv_of_nonneg _ (by decide)]
  norm_cast
 simp only [zbf,if_false]
 rw [hmul,hs,xL]
 generalize 2 ^ k*285870213051353865 % 18446744073709551616 / 288230376151711744=z at d1 d2
 have ht:∀ z,z<64->yW[z]?=some ((Lib.deBruijn64tab.getD z 0:Nat):Int):=by decide +kernel
 rw [ht z d1,d2]
 simp only [zob]
 rw [xV (by omega) (by omega)]
def zPl (l:List Int):Nat:=l.foldl (fun m x=>m ||| 2 ^ x.toNat) 0
theorem z3e (l:List Int):∀ (m i:Nat),(l.foldl (fun m x=>m ||| 2 ^ x.toNat) m).testBit i=(m.testBit i||l.any fun x=>decide (x.toNat=i)):=by
 induction l with
 | nil=>intro m i;simp
 | cons x l ih =>
  intro m i
  rw [List.foldl_cons,ih,Nat.testBit_or,Nat.testBit_two_pow,List.any_cons,Bool.or_assoc]
theorem zYQ {l:List Int} (hl:∀ x∈l,0≤x) (i:Nat):(zPl l).testBit i=decide ((i:Int)∈l):=by
 unfold zPl
 rw [z3e,Nat.zero_testBit,Bool.false_or,Bool.eq_iff_iff,List.any_eq_true]
 simp only [decide_eq_true_eq]
 constructor
 ·rintro ⟨x,hx,h⟩
  have:=hl x hx
  rw [show (i:Int)=x by omega];exact hx
 ·intro h
  exact ⟨i,h,by simp⟩
theorem z4M (l:List Int) (hl:∀ x∈l,x<64):∀ m,m<18446744073709551616->(l.foldl (fun m x=>m ||| 2 ^ x.toNat) m)<18446744073709551616:=by
 induction l with
 | nil=>intro m hm;exact hm
 | cons x l ih =>
  intro m hm
  have:=hl x (by simp)
  exact ih (fun y hy=>hl y (by simp [hy])) _ (z61 hm (zOB (by omega)))
theorem zW4 {l:List Int} (hl:∀ x∈l,x<64):zPl l<18446744073709551616:=z4M l hl 0 (by decide)
end
section
def ed (L:List wD) (a b:Int):Bool:=L.any fun p=>p.1==a&&p.2==b
theorem zSq {L:List wD} {a b:Int}:ed L a b=true↔(a,b)∈L:=by
 unfold ed
 rw [List.any_eq_true]
 constructor
 ·rintro ⟨⟨x,y⟩,h1,h2⟩
  simp at h2
  obtain ⟨rfl,rfl⟩:=h2
  exact h1
 ·intro h;exact ⟨_,h,by simp⟩
def atk (L:List wD) (s:List Int) (a:Int):Bool:=s.any fun x=>ed L x a
def freeS (L:List wD) (s:List Int):Bool:=s.all fun x=>!atk L s x
theorem z4w {α:Type} {B:Int->Option (Int⊕Bool)} (l:List α) (p:α->Bool) (hB:∀ (i:Nat) x,l[i]?=some x->B (i:Int)=some (if p x then .inl ((i+1:Nat):Int) else .inr false)) (he:B (l.length:Int)=some (.inr true)) :
  zU B 0=some (l.all p):=by
 have h:=zOq (B:=B) l (fun x=>!p x) false true (fun i x hx=>by rw [hB i x hx];cases p x <;> rfl) he
 rw [h]
 congr 1
 rw [List.all_eq_not_any_not]
 cases l.any fun x=>!p x <;> rfl
def admS (L:List wD) (s:List Int):Bool:=(L.all fun p=>!(decide (p.2∈s)&&!atk L s p.1))&&freeS L s
end
section
def att (R:Nat->Nat->Prop) (S:Nat->Prop) (j:Nat):Prop:=∃ m,S m∧R m j
def gr (D:Nat->Prop) (R:Nat->Nat->Prop):Nat->Nat->Prop
 | 0,_=>False
 | k+1,i=>D i∧∀ j,R j i->att R (gr D R k) j
section
variable {D:Nat->Prop} {R:Nat->Nat->Prop}
theorem zV1 {k i:Nat} (h:gr D R k i):D i:=by
 cases k with
 | zero=>exact h.elim
 | succ k=>exact h.1
theorem zPh:∀ {k i:Nat},gr D R k i->gr D R (k+1) i
 | 0,_,h=>h.elim
 | k+1,i,h=>⟨h.1,fun j hj=>by obtain ⟨m,h1,h2⟩:=h.2 j hj;exact ⟨m,zPh h1,h2⟩⟩
theorem z6Z {k m i:Nat} (h:k≤m) (hk:gr D R k i):gr D R m i:=by
 induction m with
 | zero =>
      have:k=0:=by omega
      subst this;exact hk
 | succ m ih =>
  by_cases he:k=m+1
  ·subst he;exact hk
  ·exact zPh (ih (by omega))
theorem z2D:∀ {k i j:Nat},gr D R k i->gr D R k j->¬ R i j
 | 0,_,_,h,_,_=>h.elim
 | k+1,i,j,hi,hj,hr=>by
  obtain ⟨m,hm,hmi⟩:=hj.2 i hr
  obtain ⟨m',hm',hmm⟩:=hi.2 m hmi
  exact z2D hm' hm hmm
theorem z1d {k:Nat} (h:∀ i,gr D R (k+1) i->gr D R k i):∀ m,k≤m->∀ i,gr D R m i->gr D R k i:=by
 intro m
 induction m with
 | zero=>intro hk i hi;exact hi.elim
 | succ m ih =>
  intro hk i hi
  by_cases he:k=m+1
  ·subst he;exact hi
  ·exact h i ⟨hi.1,fun j hj=>by obtain ⟨q,h1,h2⟩:=hi.2 j hj;exact ⟨q,ih (by omega) q h1,h2⟩⟩
open Classical in
theorem z5C {N:Nat} (hD:∀ i,D i->i<N):∃ k,k≤N∧∀ i,gr D R (k+1) i->gr D R k i:=by
 apply Classical.byContradiction
 intro hno
 have hstep:∀ k,k≤N->∃ i,gr D R (k+1) i∧¬ gr D R k i:=fun k hk=>by
  apply Classical.byContradiction
  intro h
  exact hno ⟨k,hk,fun i hi=>Classical.byContradiction fun hn=>h ⟨i,hi,hn⟩⟩
 let c:Nat->Nat:=fun k=>((List.range N).filter fun i=>decide (gr D R k i)).length
 have hc:∀ k,k≤N->c k<c (k+1):=by
  intro k hk
  obtain ⟨i,h1,h2⟩:=hstep k hk
  have hi:=hD i (zV1 h1)
  have hsub:∀ l:List Nat,(l.filter fun i=>decide (gr D R k i)).length≤(l.filter fun i=>decide (gr D R (k+1) i)).length∧(i∈l->(l.filter fun i=>decide (gr D R k i)).length<(l.filter fun i=>decide (gr D R (k+1) i)).length):=by
   intro l
   induction l with
   | nil=>simp
   | cons x l ih =>
    obtain ⟨ih1,ih2⟩:=ih
    by_cases hx:gr D R k x
    ·have hx':=zPh hx
     simp only [List.filter_cons,hx,hx',decide_true,if_true,List.length_cons]
     refine ⟨by omega,fun hm=>?_⟩
     rcases List.mem_cons.1 hm with rfl | hm
     ·exact absurd hx h2
     ·have:=ih2 hm;omega
    ·by_cases hx':gr D R (k+1) x
     ·simp only [List.filter_cons,hx,hx',decide_true,decide_false,if_true,zbf,if_false,List.length_cons]
      exact ⟨by omega,fun _=>by omega⟩
     ·simp only [List.filter_cons,hx,hx',decide_false,zbf,if_false]
      refine ⟨ih1,fun hm=>?_⟩
      rcases List.mem_cons.1 hm with rfl | hm
      ·exact absurd h1 hx'
      ·exact ih2 hm
  exact (hsub (List.range N)).2 (List.mem_range.2 hi)
 have hbig:∀ k,k≤N+1->k≤c k:=by
  intro k
  induction k with
  | zero=>intro _;exact Nat.zero_le _
  | succ k ih=>intro hk;have h1:=ih (by omega);have h2:=hc k (by omega);omega
 have h1:=hbig (N+1) (Nat.le_refl _)
 have h2:c (N+1)≤N:=Nat.le_trans (List.length_filter_le _ _) (by simp)
 omega
theorem z6Q {N:Nat} (hD:∀ i,D i->i<N) {m i:Nat} (h:gr D R m i):gr D R N i:=by
 obtain ⟨k,hk,hs⟩:=z5C (R:=R) hD
 by_cases hm:m≤k
 ·exact z6Z (by omega) h
 ·exact z6Z hk (z1d hs m (by omega) i h)
end
def qU (N:Nat) (f:Nat->Int):List Int:=(List.range N).map f
theorem zG5 (N:Nat) (f:Nat->Int):(qU N f).length=N:=by simp [qU]
theorem zQA {N i:Nat} (f:Nat->Int) (h:i<N):zF (qU N f) (i:Int)=some (f i):=by
 rw [xL]
 simp [qU,h]
theorem zRG {N i:Nat} (f:Nat->Int) (v:Int):List.set (qU N f) i v=qU N fun j=>if j=i then v else f j:=by
 unfold qU
 apply List.ext_getElem?
 intro j
 rw [List.getElem?_set,List.getElem?_map,List.getElem?_map]
 by_cases hj:j<N
 ·rw [List.getElem?_range hj]
  by_cases he:i=j
  ·subst he;simp [hj]
  ·have:¬ j=i:=fun h=>he h.symm
   simp [he,this]
 ·have h0:(List.range N)[j]?=none:=List.getElem?_eq_none (by simp;omega)
  rw [h0]
  by_cases he:i=j
  ·subst he;simp;omega
  ·simp [he]
theorem zBk {N:Nat} {f g:Nat->Int} (h:∀ i,i<N->f i=g i):qU N f=qU N g:=by
 unfold qU
 exact List.map_congr_left fun i hi=>h i (List.mem_range.1 hi)
theorem z2j {N:Nat} (hN:N≤4294967296) (v:Int):mkS (N:Int) (N:Int) v=some (qU N fun _=>v):=by
 unfold mkS
 rw [if_pos ⟨by omega,by omega,by omega⟩]
 congr 1
 unfold qU
 rw [Int.toNat_natCast]
 apply List.ext_getElem?
 intro i
 by_cases h:i<N <;> simp [h]
theorem z1U {σ τ ρ:Type} {B:τ->Option (τ⊕ρ)} (mk:σ->Nat->τ) (M:Nat) (I:Nat->σ->Prop) (Q:ρ->Prop)
  (hB:∀ i s,i<M->I i s->(∃ s',B (mk s i)=some (.inl (mk s' (i+1)))∧I (i+1) s')∨∃ r,B (mk s i)=some (.inr r)∧Q r)
  (he:∀ s,I M s->∃ r,B (mk s M)=some (.inr r)∧Q r):∀ s,I 0 s->∃ r,zU B (mk s 0)=some r∧Q r:=by
 have key:∀ n i s,i+n=M->I i s->∃ r,zU B (mk s i)=some r∧Q r:=by
  intro n
  induction n with
  | zero =>
   intro i s h hi
   rw [Nat.add_zero] at h
   subst h
   obtain ⟨r,h1,h2⟩:=he s hi
   exact ⟨r,by rw [yF,h1],h2⟩
  | succ n ih =>
   intro i s h hi
   rcases hB i s (by omega) hi with ⟨s',h1,h2⟩ | ⟨r,h1,h2⟩
   ·obtain ⟨r,h3,h4⟩:=ih (i+1) s' (by omega) h2
    exact ⟨r,by rw [yF,h1];exact h3,h4⟩
   ·exact ⟨r,by rw [yF,h1],h2⟩
 exact fun s hi=>key M 0 s (by omega) hi
section
variable (N:Nat) (L:List wD)
abbrev yJ (i j:Nat):Prop:=ed L (i:Int) (j:Int)=true
abbrev uR (k i:Nat):Prop:=gr (· < N) (yJ L) k i
open Classical in
noncomputable def vD (k i:Nat):Int:=if uR N L k i then 1 else if att (yJ L) (uR N L k) i then 2 else 3
def tP (k i:Nat):Prop:=uR N L (k+1) i∧¬ uR N L k i
theorem z5r {k i:Nat}:vD N L k i=3↔¬ uR N L k i∧¬ att (yJ L) (uR N L k) i:=by
 unfold vD
 by_cases h1:uR N L k i
 ·simp [h1]
 ·by_cases h2:att (yJ L) (uR N L k) i <;> simp [h1,h2]
theorem lab2 {k i:Nat}:vD N L k i=2↔¬ uR N L k i∧att (yJ L) (uR N L k) i:=by
 unfold vD
 by_cases h1:uR N L k i
 ·simp [h1]
 ·by_cases h2:att (yJ L) (uR N L k) i <;> simp [h1,h2]
theorem z5K {k i:Nat}:vD N L k i=1↔uR N L k i:=by
 unfold vD
 by_cases h1:uR N L k i
 ·simp [h1]
 ·by_cases h2:att (yJ L) (uR N L k) i <;> simp [h1,h2]
theorem zSY {k i:Nat} (h:uR N L k i):¬ att (yJ L) (uR N L k) i:=fun ⟨m,h1,h2⟩=>z2D h1 h h2
theorem zVF {k i:Nat}:vD N L k i=2↔att (yJ L) (uR N L k) i:=by
 rw [lab2]
 exact ⟨fun h=>h.2,fun h=>⟨fun hg=>zSY N L hg h,h⟩⟩
theorem z6e {k i:Nat} (hi:i<N) (hR:∀ a b:Int,ed L a b=true->∃ m,m<N∧a=(m:Int)):(vD N L k i=3∧∀ b,b<N->yJ L b i->vD N L k b=2)↔tP N L k i:=by
 constructor
 ·rintro ⟨h1,h2⟩
  rw [z5r] at h1
  refine ⟨⟨hi,fun j hj=>?_⟩,h1.1⟩
  obtain ⟨m,hm,he⟩:=hR _ _ hj
  have:j=m:=by omega
  subst this
  exact (zVF N L).1 (h2 j hm hj)
 ·rintro ⟨h1,h2⟩
  refine ⟨(z5r N L).2 ⟨h2,fun ⟨m,h3,h4⟩=>?_⟩,fun b _ hb=>(zVF N L).2 (h1.2 b hb)⟩
  exact zSY N L h3 (h1.2 m h4)
theorem z3s {k i:Nat}:vD N L (k+1) i=(open Classical in if tP N L k i then 1 else if vD N L k i=3∧att (yJ L) (tP N L k) i then 2 else vD N L k i):=by
 by_cases hn:tP N L k i
 ·rw [if_pos hn];exact (z5K N L).2 hn.1
 ·rw [if_neg hn]
  by_cases h1:uR N L k i
  ·have h2:uR N L (k+1) i:=zPh h1
   have h3:vD N L k i=1:=(z5K N L).2 h1
   rw [(z5K N L).2 h2,if_neg (by rw [h3];simp),h3]
  ·have h2:¬ uR N L (k+1) i:=fun h=>hn ⟨h,h1⟩
   by_cases h3:att (yJ L) (uR N L k) i
   ·have h4:vD N L k i=2:=(zVF N L).2 h3
    have h5:att (yJ L) (uR N L (k+1)) i:=by obtain ⟨m,h6,h7⟩:=h3;exact ⟨m,zPh h6,h7⟩
    rw [(zVF N L).2 h5,if_neg (by rw [h4];simp),h4]
   ·have h4:vD N L k i=3:=(z5r N L).2 ⟨h1,h3⟩
    by_cases h5:att (yJ L) (tP N L k) i
    ·rw [if_pos ⟨h4,h5⟩]
     obtain ⟨m,h6,h7⟩:=h5
     exact (zVF N L).2 ⟨m,h6.1,h7⟩
    ·rw [if_neg (fun h=>h5 h.2),h4]
     refine (z5r N L).2 ⟨h2,fun ⟨m,h6,h7⟩=>?_⟩
     by_cases h8:uR N L k m
     ·exact h3 ⟨m,h8,h7⟩
     ·exact h5 ⟨m,⟨h6,h8⟩,h7⟩
variable {N L} (hN:N≤64) (hL:L.length<4294967296) (hR:∀ a b:Int,ed L a b=true->∃ m,m<N∧a=(m:Int))
include hN hL
end
end
section
def inN (N:Nat) (L:List wD):Prop:=∀ a b:Int,ed L a b=true->∃ i j:Nat,i<N∧j<N∧a=(i:Int)∧b=(j:Int)
theorem inN.nat {N:Nat} {L:List wD} (h:inN N L) {i j:Nat} (he:yJ L i j):i<N∧j<N:=by
 obtain ⟨i',j',h1,h2,h3,h4⟩:=h _ _ he
 exact ⟨by omega,by omega⟩
section
variable {N:Nat} {L:List wD} (hV:inN N L) {X:Nat} (hX:X<18446744073709551616)
include hV hX
end
abbrev left (N:Nat) (gone:List Int) (i:Nat):Prop:=i<N∧(i:Int)∉gone
section
variable {N:Nat} (hN:N≤40) {L:List wD} (hV:inN N L) (hL:L.length<4294967296) {gone:List Int} (hg:∀ x∈gone,0≤x∧x<N) (hgl:gone.length<4294967296)
include hV
include hN hg
end
end
end Go.GD
