/- A part. Conditions: none. -/
import Derived.Test.YtgjdojihimkgcaaGreatDoorBase
import Derived.Test.YtgjdojihimkgcaaGreatDoorModels
import Derived.Lib.TrailingZeros
import Derived.Shelf.Strings.FieldsAny
namespace Go.GD
set_option autoImplicit false
set_option linter.unusedVariables false
section
noncomputable def zHl (y0:qE)(s1:Int): Option (Int⊕Int) :=
 if decide (s1<(len y0.2)) then
  (zC y0.2 s1).bind λx1 =>
  if(decide (x1.1<0))||((decide (y0.1≤x1.1))||((decide (x1.2<0))||(decide (y0.1≤x1.2)))) then
   some (.inr 1)
  else
   (
    if decide (0<s1) then
     (zC y0.2 (zH (s1-1))).bind λx2 =>
     if decide (x1.1<x2.1) then
      some true
     else
      (zC y0.2 (zH (s1-1))).bind λx3 =>
      if x3.1==x1.1 then
       (zC y0.2 (zH (s1-1))).bind λx4 =>
       some (decide (x1.2≤x4.2))
      else
       some false
    else
     some false:Option Bool).bind λs2 =>
   if s2 then
    some (.inr 8)
   else
    some (.inl (zH (s1+1)))
 else
  some (.inr 0)
noncomputable def zNb (y0:qE): Option Int :=
 if(decide (y0.1<0))||(decide (40<y0.1)) then
  some 1
 else
  zN (zHl y0) 0
end
section
theorem vJ{x:Int}(h1:-9223372036854775808≤x)(h2:x<9223372036854775808): zH x=x:=by
 simp only[zH,IntKind.wrap,IntKind.signed,IntKind.bits]
 simp;omega
theorem z6i (n:Nat)(h:n<9223372036854775808): zH (n:Int)=n:=vJ (by omega) (by omega)
theorem yJ (n:Nat)(h:n+1<9223372036854775808): zH ((n:Int)+1)=((n+1:Nat):Int):=by rw[vJ (by omega) (by omega)];omega
theorem tC{α:Type}(l:List α)(i:Nat): zC l (i:Int)=l[i]?:=by simp[zC]
theorem z8M (l:zD)(i:Nat): xX l (i:Int)=(l[i]?).map (λb=>(b.toNat:Int)):=by simp[xX]
theorem zZW{α:Type}{l:List α}{i:Int}(h0:0≤i)(h1:i<l.length): ∃ x,zC l i=some x∧l[i.toNat]?=some x:=by
 have:l[i.toNat]?=some l[i.toNat]:=Qh (by omega)
 grind [zC]
theorem wD{α:Type}{l m:List α}(h:l.length+m.length<4294967296): qF l m=some (l++m):=by simp[qF,h]
theorem zWN{l m:zD}(h:l.length+m.length<4294967296): cat l m=some (l++m):=by simp[cat,h]
theorem zNJ{α:Type}{l:List α}{j:Int}(h1:0≤j)(h2:j≤l.length): sub l 0 j=some (l.take j.toNat):=by simp[sub,h1,h2]
theorem zX9{α:Type}{l:List α}{i:Int}(h1:0≤i)(h2:i≤l.length): sub l i (len l)=some (l.drop i.toNat):=by simp[sub,h1,h2]
def z5T{σ ρ α:Type}(step:Nat->σ->α->Option (σ⊕ρ))(fin:σ->Option ρ): Nat->List α->σ->Option ρ
 | _,[],s=>fin s
 | i,x::l,s=>match step i s x with
  | none=>none
  | some (.inl s')=>z5T step fin (i+1) l s'
  | some (.inr r)=>some r
theorem loop_runL{σ ρ α τ:Type}{B:τ->Option (τ⊕ρ)}(mk:Nat->σ->τ)(l:List α)(step:Nat->σ->α->Option (σ⊕ρ))(fin:σ->Option ρ)
  (hB:∀ i x s,l[i]?=some x->B (mk i s)=(step i s x).map λo=>match o with | .inl s'=>.inl (mk (i+1) s') | .inr r=>.inr r)
  (he:∀ s,B (mk l.length s)=(fin s).map .inr):∀(n i:Nat) (s:σ),i+n=l.length->zN B (mk i s)=z5T step fin i (l.drop i) s:=by
 intro n
 induction n with
 | zero =>
  intro i s h
  subst h
  rw[yF,he,List.drop_length]
  cases hf:fin s <;> simp[z5T,hf]
 | succ n ih =>
  grind [yF,List.drop_eq_getElem_cons,z5T]
theorem zT2{σ ρ α τ:Type}{B:τ->Option (τ⊕ρ)}(mk:Nat->σ->τ)(l:List α)(step:Nat->σ->α->Option (σ⊕ρ))(fin:σ->Option ρ)
  (hB:∀ i x s,l[i]?=some x->B (mk i s)=(step i s x).map λo=>match o with | .inl s'=>.inl (mk (i+1) s') | .inr r=>.inr r)
  (he:∀ s,B (mk l.length s)=(fin s).map .inr) (s:σ):zN B (mk 0 s)=z5T step fin 0 l s:=by
 have:=loop_runL mk l step fin hB he l.length 0 s (by omega)
 grind
theorem zZO{ρ α:Type}{B:Int->Option (Int⊕ρ)}{l:List α}{r:ρ}(hB:∀(i:Nat) (x:α),l[i]?=some x->B (i:Int)=some (.inl ((i+1:Nat):Int)))
  (he:B (l.length:Int)=some (.inr r)):zN B 0=some r:=by
 have h:=zT2 (B:=B) (λi (_:Unit)=>(i:Int)) l (λ_ _ _=>some (.inl ())) (λ_=>some r) (λi x s hx=>by grind) (λs=>by simp[he]) ()
 have key:∀(l:List α) (i:Nat),z5T (λ_ (_:Unit) (_:α)=>some (.inl ())) (λ_=>some r) i l ()=some r:=by
  intro l
  induction l with
  | nil=>intro i;rfl
  | cons x l ih=>intro i;exact ih (i+1)
 grind
theorem uP{ρ α σ τ:Type}{B:τ->Option (τ⊕ρ)}(mk:Nat->σ->τ)(l:List α)(I:Nat->σ->Prop)(Q:ρ->Prop)
  (hB:∀ i x s,l[i]?=some x->I i s->(∃ s',B (mk i s)=some (.inl (mk (i+1) s'))∧I (i+1) s')∨∃ r,B (mk i s)=some (.inr r)∧Q r)
  (he:∀ s,I l.length s->∃ r,B (mk l.length s)=some (.inr r)∧Q r):∀ s,I 0 s->∃ r,zN B (mk 0 s)=some r∧Q r:=by
 have key:∀ n i s,i+n=l.length->I i s->∃ r,zN B (mk i s)=some r∧Q r:=by
  intro n
  induction n with
  | zero =>
   intro i s h hI
   grind [yF]
  | succ n ih =>
   intro i s h hI
   have hx:l[i]?=some l[i]:=Qh (by omega)
   grind [yF]
 simp_all
theorem z7k{ρ τ:Type}{B:τ->Option (τ⊕ρ)}(μ:τ->Nat)(I:τ->Prop)(Q:ρ->Prop)
  (step:∀ s,I s->(∃ s',B s=some (.inl s')∧I s'∧μ s' < μ s)∨(∃ r,B s=some (.inr r)∧Q r)) (s:τ) (h:I s):∃ r,zN B s=some r∧Q r:=zO5 I μ Q step s h
end
section
structure uX (s:uU): Prop where
 lo:0≤s.2
 hi:s.2≤s.1.length
 small:s.1.length≤2000
theorem keep_New (l:List Int): zT8 l=some (l.take 2000,0):=by
 unfold zT8
 by_cases h:2000<len l
 ·rw[Ql h,zNJ (by omega) (by grind)];rfl
 ·rw[Qi h,zNJ (by simp) (by simp)]
  simp only[zob]
  rw[Qx (by simp),Qx (by grind)]
theorem srcOk_New (l:List Int): uX (l.take 2000,0):=⟨Int.le_refl _,by simp,by simp;omega⟩
theorem z7c{s:uU}(h:uX s): ∃ v k,zM7 s=some (v,k)∧uX (s.1,k):=by
 obtain⟨h1,h2,h3⟩:=h
 unfold zM7
 by_cases hk:len s.1≤s.2
 ·exact⟨0,s.2,by simp[hk],h1,h2,h3⟩
 ·have hk':s.2<s.1.length:=by simpa [len] using hk
  obtain⟨x,hx,_⟩:=zZW h1 hk'
  refine⟨x,s.2+1,?_,by grind,by grind,h3⟩
  simp[hk]
  rw[vJ (x:=s.2+1) (by omega) (by omega),show s.2+1-1=s.2 by omega,vJ (by omega) (by omega),hx];rfl
theorem keep_Mod{x n:Int}(h0:1≤n)(h1:n≤4611686018427387904): ∃ v,zOA x n=some v∧0≤v∧v<n:=by
 unfold zOA
 simp[remK]
 have ha:=Int.tmod_lt_of_pos x (show 0<n by omega)
 have hb:-n<x.tmod n:=by
  have:=Int.lt_tmod_of_pos x (show 0<n by omega)
  exact this
 by_cases hx:x.tmod n<0
 ·grind [vJ]
 grind
theorem zNf{s:uU}{n:Int}(h:uX s)(h0:1≤n)(h1:n≤4611686018427387904): ∃ v k,tB s n=some (v,k)∧0≤v∧v<n∧uX (s.1,k):=by
 obtain⟨v,k,hr,hk⟩:=z7c h
 obtain⟨u,hu,h2,h3⟩:=keep_Mod (x:=v) h0 h1
 grind [tB]
theorem keep_Text{s:uU}{l:List zD}(h:uX s)(h0:l≠[])(h1:l.length≤1000): ∃ x k,zL0 s l=some (x,k)∧x∈l∧uX (s.1,k):=by
 have hp:=QY.2 h0
 obtain⟨v,k,hr,h2,h3,hk⟩:=zNf (n:=len l) h (by grind) (by grind)
 obtain⟨x,hx,hx2⟩:=zZW h2 h3
 exact⟨x,k,by simp[zL0,hr,hx],UP hx2,hk⟩
def zTK (k:Nat): zD:=[UInt8.ofNat (97+k)]
theorem zPH{s:uU}{n:Int}(h:uX s)(h0:1≤n)(h1:n≤26): ∃(g:Bool) (j:Nat) (k:Int),zD3 s n=some ((g,zTK j),k)∧(j:Int)<n∧uX (s.1,k):=by
 obtain⟨v,k,hr,h2,h3,hk⟩:=zNf (n:=2*n) h (by omega) (by omega)
 obtain⟨m,rfl⟩:=QH h2
 refine⟨yI .i64 m 1==1,m / 2,k,?_,by omega,hk⟩
 unfold zD3
 rw[vJ (x:=2*n) (by omega) (by omega),hr]
 have hq:quoK .i64 (m:Int) 2=some ((m / 2:Nat):Int):=by
  simp only[quoK]
  rw[Qi (by omega)]
  show some (zH _)=_
  have:(m:Int).tdiv 2=((m / 2:Nat):Int):=by
   rw[Int.tdiv_eq_ediv_of_nonneg (by omega)];omega
  rw[this,vJ (by omega) (by omega)]
 simp only[zob,hq]
 have hw:IntKind.u8.wrap (zH (97+((m / 2:Nat):Int)))=((97+m / 2:Nat):Int):=by
  rw[vJ (by omega) (by omega)]
  simp only[IntKind.wrap,IntKind.signed,IntKind.bits]
  simp;omega
 rw[hw]
 rfl
end
section
theorem idxV_nat{α:Type}(l:List α)(i k:Nat): z1W l (i:Int) (k:Int)=l[i+k]?:=by
 simp only[z1W]
 rw[Ql (by omega),show((i:Int)+(k:Int))=((i+k:Nat):Int) by omega,tC]
section
variable {α:Type}[BEq α]
noncomputable def zS9 (y0:List α)(s1:Int)(s3:(List α)×Int×Int): Option (((List α)×Int×Int)⊕((List α)×Int)) :=
 if decide (s3.2.2<((Int.toNat (((List.length y0:Nat):Int)-s1):Nat):Int)) then
  (z1W s3.1 s1 s3.2.2).bind λx3 =>
  (z1W s3.1 s1 (zH (s3.2.2-1))).bind λx4 =>
  if !(x3==x4) then
   (z1W s3.1 s1 s3.2.2).bind λx5 =>
   (zC s3.1 s3.2.1).bind λ_ =>
   some (.inl (List.set s3.1 (Int.toNat s3.2.1) x5,zH (s3.2.1+1),zH (s3.2.2+1)))
  else
   some (.inl (s3.1,s3.2.1,zH (s3.2.2+1)))
 else
  some (.inr (s3.1,s3.2.1))
noncomputable def zWD (z:α)(y0:List α)(s1:Int): Option (Int⊕(List α)) :=
 if decide (s1<(len y0)) then
  (zC y0 s1).bind λx1 =>
  (zC y0 (zH (s1-1))).bind λx2 =>
  if x1==x2 then
   (vT (decide (0≤s1)&&decide (s1≤len y0))).bind λ_ =>
   (zN (zS9 y0 s1) (y0,s1,1):Option ((List α)×Int)).bind λs2 =>
   (vT (decide (0≤s2.2)&&decide (s2.2≤len s2.1))).bind λ_ =>
   (sub (zEQ s2.1 s2.2 z) 0 s2.2).bind λx7 =>
   some (.inr x7)
  else
   some (.inl (zH (s1+1)))
 else
  some (.inr y0)
noncomputable def z2o (z:α)(y0:List α): Option (List α) :=
 if decide ((len y0)<2) then
  some y0
 else
  zN (zWD z y0) 1
def dd (a:α): List α->List α
 | []=>[]
 | b::r=>if a==b then dd b r else b::dd b r
def zOW:List α->List α
 | []=>[]
 | a::r=>a::dd a r
theorem z4z:∀(r s:List α) (a:α),dd a (r++s)=dd a r++dd (r.getLastD a) s
 | [],s,a=>rfl
 | b::r,s,a=>by
  simp[dd,z4z r s b]
  grind
theorem z1x{l:List α}{j:Nat}{y x:α}(h1:l[j]?=some y)(h2:l[j+1]?=some x): zOW (l.take (j+2))=zOW (l.take (j+1))++if y==x then[] else[x]:=by
 have e1:l.take (j+2)=l.take (j+1)++[x]:=by
  rw[Um (i:=j+1),h2];rfl
 have e2:l.take (j+1)=l.take j++[y]:=by rw[Um,h1];rfl
 cases hl:l.take (j+1) with
 | nil=>simp_all
 | cons a r =>
  have hlast:r.getLastD a=y:=by
   have:(a::r).getLast?=some y:=by rw[←hl,e2];simp
   rw[←List.getLastD_cons (a:=a) (b:=a) (l:=r),List.getLastD_eq_getLast?,this];rfl
  grind [zOW,z4z,dd]
theorem dd_len:∀(r:List α) (a:α),(dd a r).length≤r.length
 | [],_=>Qr _
 | b::r,a=>by
  simp[dd]
  have:=dd_len r b
  grind
theorem dedup_len (l:List α): (zOW l).length≤l.length:=by
 cases l with
 | nil=>simp[zOW]
 | cons a r=>grind [dd_len,zOW]
theorem z1e[LawfulBEq α](l:List α)(i0:Nat)(h0:1≤i0)(hi:i0<l.length)(hbig:l.length<9223372036854775807)(hd:zOW (l.take (i0+1))=zOW (l.take i0))(hk:zOW (l.take i0)=l.take i0):
  ∃ c k,zN (zS9 l (i0:Int)) (l,(i0:Int),1)=some (c,((k:Nat):Int))∧c.length=l.length∧k≤l.length∧c.take k=zOW l:=by
 have key:∀ n k2 (c:List α) (k:Nat),i0+k2+n=l.length->1≤k2->c.length=l.length->k+1≤i0+k2->(∀ j,i0+k2≤j+1->c[j]?=l[j]?)->c.take k=zOW (l.take (i0+k2))->
   ∃ c' k',zN (zS9 l (i0:Int)) (c,(k:Int),(k2:Int))=some (c',((k':Nat):Int))∧c'.length=l.length∧k'≤l.length∧c'.take k'=zOW l:=by
  intro n
  induction n with
  | zero =>
   intro k2 c k hn h1 hc hk1 hsame htake
   refine⟨c,k,?_,hc,by omega,?_⟩
   ·rw[yF]
    unfold zS9
    have:decide ((k2:Int)<((Int.toNat (((List.length l:Nat):Int)-(i0:Int)):Nat):Int))=false:=by simp;omega
    grind
   grind
  | succ n ih =>
   intro k2 c k hn h1 hc hk1 hsame htake
   have hx:l[i0+k2]?=some l[i0+k2]:=Qh (by omega)
   have hy:l[i0+k2-1]?=some l[i0+k2-1]:=Qh (by omega)
   have hcx:c[i0+k2]?=some l[i0+k2]:=by rw[hsame _ (by omega)];exact hx
   have hcy:c[i0+(k2-1)]?=some l[i0+k2-1]:=by rw[hsame _ (by omega),←hy];congr 1;omega
   have hlt:decide ((k2:Int)<((Int.toNat (((List.length l:Nat):Int)-(i0:Int)):Nat):Int))=true:=by simp;omega
   have hw1:zH ((k2:Int)-1)=((k2-1:Nat):Int):=by rw[vJ (by omega) (by omega)];omega
   have hdt:=z1x (l:=l) (j:=i0+k2-1) (y:=l[i0+k2-1]) (x:=l[i0+k2]) hy (by rw[show i0+k2-1+1=i0+k2 by omega];exact hx)
   rw[show i0+k2-1+2=i0+(k2+1) by omega,show i0+k2-1+1=i0+k2 by omega] at hdt
   have hklt:k<c.length:=by omega
   rw[yF]
   unfold zS9
   simp only[hlt,Qf,idxV_nat,hcx,zob,hw1,hcy]
   rw[BEq.comm]
   have hklt':zC c (k:Int)=some c[k]:=by rw[tC];exact Qh hklt
   cases hb:l[i0+k2-1]==l[i0+k2] with
   | true =>
    rw[yJ k2 (by omega)]
    have:=ih (k2+1) c k (by omega) (by omega) hc (by omega) (λj hj=>hsame j (by omega)) (by grind)
    exact this
   | false =>
    simp only[Ul,Qf,hklt',zob]
    rw[yJ k2 (by omega),yJ k (by omega),Qj]
    refine ih (k2+1) (c.set k l[i0+k2]) (k+1) (by omega) (by omega) (by simp[hc]) (by omega) (λj hj=>?_) ?_
    ·grind [List.getElem?_set_ne]
    ·rw[hdt,hb,←htake]
     rw[Um,List.getElem?_set_self hklt,List.take_set_of_le (Qr _)]
     rfl
 refine key (l.length-(i0+1)) 1 l i0 (by omega) (Qr _) rfl (by omega) (λj _=>rfl) ?_
 rw[hd,hk]
theorem zQg[LawfulBEq α](z:α)(l:List α)(hbig:l.length<9223372036854775807): z2o z l=some (zOW l):=by
 unfold z2o
 by_cases h2:l.length<2
 ·have:decide (len l<2)=true:=by simp[len];omega
  match l,h2 with
  | [],_=>rfl
  | [a],_=>rfl
 ·have:decide (len l<2)=false:=by simp[len];omega
  simp only[this,zbf,Qc]
  have key:∀ n k,k+n=l.length->1≤k->zOW (l.take k)=l.take k->zN (zWD z l) (k:Int)=some (zOW l):=by
   intro n
   induction n with
   | zero =>
    intro k hn h1 hp
    rw[yF]
    unfold zWD
    grind
   | succ n ih =>
    intro k hn h1 hp
    have hx:l[k]?=some l[k]:=Qh (by omega)
    have hy:l[k-1]?=some l[k-1]:=Qh (by omega)
    have hlt:decide ((k:Int)<len l)=true:=by simp[len];omega
    have hw1:zH ((k:Int)-1)=((k-1:Nat):Int):=by rw[vJ (by omega) (by omega)];omega
    have hdt:=z1x (l:=l) (j:=k-1) (y:=l[k-1]) (x:=l[k]) hy (by grind)
    rw[show k-1+2=k+1 by omega,show k-1+1=k by omega,hp] at hdt
    rw[yF]
    unfold zWD
    simp only[hlt,Qf,tC,hx,hw1,hy,zob]
    rw[BEq.comm]
    cases hb:l[k-1]==l[k] with
    | true =>
     have hc1:(decide (0≤(k:Int))&&decide ((k:Int)≤len l))=true:=by simp[len];omega
     obtain⟨c,q,hl,hcl,hq,htk⟩:=z1e l k h1 (by omega) hbig (by grind) hp
     have hc2:(decide (0≤((q:Nat):Int))&&decide (((q:Nat):Int)≤len c))=true:=by simp[len];omega
     simp only[Qf,hc1,vT,zob,hl,hc2]
     grind [zNJ,zNX,Int.toNat_natCast,zEQ,List.length_take]
    | false =>
     rw[yJ k (by omega)]
     refine ih (k+1) (by omega) (by omega) ?_
     simp_all
  exact key (l.length-1) 1 (by omega) (Qr _) (by match l,h2 with | a::r,_=>rfl)
end
section
variable {α:Type}{lt:α->α->Bool}
structure z0U (lt:α->α->Bool): Prop where
 irrefl:∀ x,lt x x=false
 trans:∀ x y z,lt x y=true->lt y z=true->lt x z=true
 tri:∀ x y,lt x y=true∨x=y∨lt y x=true
abbrev yA (lt:α->α->Bool)(l:List α): Prop:=l.Pairwise λx y=>lt x y=true
theorem z0U.asymm (O:z0U lt){x y:α}(h:lt x y=true): lt y x=false:=by
 cases hb:lt y x with
 | false=>rfl
 | true=>have:=O.trans _ _ _ h hb;rw[O.irrefl] at this;cases this
theorem yA.ext (O:z0U lt): ∀ {l m:List α},yA lt l->yA lt m->(∀ x,x∈l↔x∈m)->l=m
 | [],[],_,_,_=>rfl
 | [],y::m,_,_,h=>by grind [List.mem_cons_self]
 | x::l,[],_,_,h=>by grind [List.mem_cons_self]
 | x::l,y::m,hl,hm,h=>by
  obtain⟨h1,h2⟩:=QP.1 hl
  obtain⟨h3,h4⟩:=QP.1 hm
  have hxy:x=y:=by
   rcases Qw.1 ((h x).1 (Qq)) with h5 | h5
   ·exact h5
   ·rcases Qw.1 ((h y).2 (Qq)) with h6 | h6
    ·grind
    ·have:=O.asymm (h3 x h5);grind
  subst hxy
  congr 1
  refine yA.ext O h2 h4 λz=>⟨λhz=>?_,λhz=>?_⟩
  ·rcases Qw.1 ((h z).1 (Qo _ hz)) with rfl | h5
   ·have:=h1 z hz;rw[O.irrefl] at this;cases this
   ·exact h5
  ·rcases Qw.1 ((h z).2 (Qo _ hz)) with rfl | h5
   ·have:=h3 z hz;rw[O.irrefl] at this;cases this
   ·exact h5
theorem z5m[BEq α][LawfulBEq α](O:z0U lt): ∀ {l:List α},l.Pairwise (λx y=>lt y x=false)->yA lt (zOW l)∧∀ x,x∈zOW l↔x∈l:=by
 have key:∀(r:List α) (a:α),(a::r).Pairwise (λx y=>lt y x=false)->yA lt (a::dd a r)∧∀ x,x∈a::dd a r↔x∈a::r:=by
  intro r
  induction r with
  | nil=>intro a _;simp[dd]
  | cons b r ih =>
   intro a h
   obtain⟨h1,h2⟩:=QP.1 h
   obtain⟨i1,i2⟩:=ih b h2
   by_cases hab:a=b
   ·subst hab
    simp only[dd,Ue,Qf]
    grind
   ·have hb:(a==b)=false:=QU.2 hab
    simp only[dd,hb,zbf,Qc]
    have hlt:lt a b=true:=by
     rcases O.tri a b with h | h | h
     ·exact h
     ·grind
     ·grind
    refine⟨QP.2 ⟨λy hy=>?_,i1⟩,λx=>?_⟩
    ·rcases Qw.1 hy with rfl | hy
     ·exact hlt
     ·exact O.trans _ _ _ hlt ((QP.1 i1).1 y hy)
    grind
 intro l h
 cases l with
 | nil=>simp[zOW]
 | cons a r=>exact key r a h
theorem zPF (O:z0U lt)(l:List α): (l.mergeSort λx y=>!lt y x).Pairwise (λx y=>lt y x=false):=by
 have h:=List.pairwise_mergeSort (le:=λx y=>!lt y x) (λa b c h1 h2=>?_) (λa b=>?_) l
 ·grind
 ·cases h3:lt c a with
  | false=>rfl
  | true =>
   rcases O.tri a b with h | rfl | h
   ·have:=O.trans _ _ _ h3 h;grind
   ·grind
   grind
 ·cases h:lt b a with
  | false=>simp
  | true=>simp[O.asymm h]
def xR[BEq α](lt:α->α->Bool)(l:List α): List α:=zOW (l.mergeSort λx y=>!lt y x)
theorem zLV[BEq α][LawfulBEq α](O:z0U lt)(l:List α): yA lt (xR lt l)∧∀ x,x∈xR lt l↔x∈l:=by
 obtain⟨h1,h2⟩:=z5m O (zPF O l)
 exact⟨h1,λx=>by rw[xR,h2,List.mem_mergeSort]⟩
theorem z2S[BEq α][LawfulBEq α](O:z0U lt){l m:List α}(h1:yA lt m)(h2:∀ x,x∈m↔x∈l): xR lt l=m:=by
 grind [zLV,yA.ext]
theorem zWm[BEq α](lt:α->α->Bool)(l:List α): (xR lt l).length≤l.length:=by
 have:=dedup_len (l.mergeSort λx y=>!lt y x)
 simpa [xR] using this
end
section
variable {α:Type}[BEq α]
noncomputable def z88 (y0:List α)(y1:α)(s1:Int): Option (Int⊕Int) :=
 if decide (s1<(len y0)) then
  (zC y0 s1).bind λx1 =>
  if y1==x1 then
   some (.inr s1)
  else
   some (.inl (zH (s1+1)))
 else
  some (.inr (-1))
noncomputable def indexM (y0:List α)(y1:α): Option Int:=zN (z88 y0 y1) 0
theorem z0x (l:List α)(x:α)(hb:l.length<9223372036854775807): ∃ r,indexM l x=some r∧(0≤r↔∃ y∈l,x==y):=by
 have h:=uP (B:=z88 l x) (λi (_:Unit)=>(i:Int)) l (λi _=>∀ j y,j<i->l[j]?=some y->(x==y)=false) (λr=>(0≤r↔∃ y∈l,x==y)) ?_ ?_ () (by simp)
 ·exact h
 ·intro i y s hy hI
  have hi:=(Qe.1 hy).1
  have hlt:decide ((i:Int)<len l)=true:=by simp[len];omega
  unfold z88
  simp only[hlt,Qf,tC,hy,zob]
  cases hxy:x==y with
  | true=>exact .inr ⟨_,rfl,⟨λ_=>⟨y,UP hy,hxy⟩,λ_=>by omega⟩⟩
  | false =>
   refine .inl ⟨(),by simp[yJ i (by omega)],λj z hj hz=>?_⟩
   rcases Uh.1 hj with h | rfl
   ·exact hI j z h hz
   ·rw[hy] at hz;cases hz;exact hxy
 ·intro s hI
  unfold z88
  refine⟨-1,by simp,⟨λh=>by omega,λ⟨y,hy,hxy⟩=>?_⟩⟩
  obtain⟨j,hj⟩:=Qp.1 hy
  rw[hI j y (Qe.1 hj).1 hj] at hxy
  cases hxy
noncomputable def sameL (y0:List α)(y1:List α)(s1:Int): Option (Int⊕Bool) :=
 if decide (s1<(len y0)) then
  (zC y0 s1).bind λx1 =>
  (zC y1 s1).bind λx2 =>
  if !(x1==x2) then
   some (.inr false)
  else
   some (.inl (zH (s1+1)))
 else
  some (.inr true)
noncomputable def sameM (y0:List α)(y1:List α): Option Bool :=
 if(len y0) != (len y1) then
  some false
 else
  zN (sameL y0 y1) 0
theorem z8x[DecidableEq α][LawfulBEq α](l m:List α)(hb:l.length<9223372036854775807): sameM l m=some (decide (l=m)):=by
 unfold sameM
 by_cases hl:l.length=m.length
 ·have h0:(len l != len m)=false:=by simp[len,hl]
  simp[h0]
  have h:=uP (B:=sameL l m) (λi (_:Unit)=>(i:Int)) l (λi _=>∀ j,j<i->l[j]?=m[j]?) (λr=>r=decide (l=m)) ?_ ?_ () (by simp)
  ·obtain⟨r,h1,rfl⟩:=h;exact h1
  ·intro i x s hx hI
   have hi:=(Qe.1 hx).1
   have hy:m[i]?=some m[i]:=Qh (by omega)
   have hlt:decide ((i:Int)<len l)=true:=by simp[len];omega
   unfold sameL
   simp only[hlt,Qf,tC,hx,hy,zob]
   by_cases he:x=m[i]
   ·refine .inl ⟨(),by simp[he,yJ i (by omega)],λj hj=>?_⟩
    rcases Uh.1 hj with h | rfl
    ·exact hI j h
    ·rw[hx,hy,he]
   ·refine .inr ⟨false,by simp[he],?_⟩
    symm
    rw[QV]
    intro h;subst h
    rw[hx] at hy;cases hy;exact he rfl
  ·intro s hI
   refine⟨true,by unfold sameL;simp,?_⟩
   symm
   rw[decide_eq_true_iff]
   apply QN
   intro j
   by_cases hj:j<l.length
   ·exact hI j hj
   ·rw[UZ (by omega),UZ (by omega)]
 ·have h0:(len l != len m)=true:=by simp[len];omega
  simp only[h0,Qf]
  congr 1;symm
  rw[QV]
  intro h;subst h;exact hl rfl
end
end
section
structure Le{α:Type}(a b:Option α): Prop where
 el:∀ r,a=some r->b=some r
theorem Le.refl{α:Type}(a:Option α): Le a a:=⟨λ_ h=>h⟩
theorem Le.bind{α β:Type}{a b:Option α}{f g:α->Option β}(h:Le a b)(k:∀ x,Le (f x) (g x)): Le (a.bind f) (b.bind g):=⟨λr hr=>by
 cases a with
 | none=>cases hr
 | some x=>rw[h.el x rfl];exact(k x).el r hr⟩
theorem Le.ite{α:Type}{c:Prop}[Decidable c]{a b a' b':Option α}(h:Le a b)(k:Le a' b'): Le (if c then a else a') (if c then b else b'):=by grind
theorem Le.seqE{σ α:Type}{a b:Option (σ⊕α)}{f g:σ->Option α}(h:Le a b)(k:∀ x,Le (f x) (g x)): Le (vH a f) (vH b g) :=
 by grind [Le.bind,Le.refl,vH]
theorem Le.none{α:Type}(b:Option α): Le none b:=⟨λ_ h=>nomatch h⟩
abbrev lp{σ ρ:Type}(n:Nat)(B:σ->Option (σ⊕ρ))(s:σ): Option ρ:=zZK B n s
theorem Le.lp{σ ρ:Type}{B C:σ->Option (σ⊕ρ)}(h:∀ s,Le (B s) (C s))(n:Nat)(s:σ): Le (lp n B s) (zN C s):=by
 refine⟨λr hr=>?_⟩
 refine zMx (n:=n) ?_
 revert s
 induction n with
 | zero=>intro s hr;cases hr
 | succ n ih =>
  grind [zZK,el]
theorem Le.lim{α:Type}{a:Option α}{f:Nat->Option α}(n:Nat)(h:∀ m,n≤m->Le a (f m)): Le a (z6A f):=⟨λr hr=>zQf n λm hm=>(h m hm).el r hr⟩
def ins{α:Type}(lt:α->α->Bool)(x:α): List α->List α
 | []=>[x]
 | y::r=>if lt y x then y::ins lt x r else x::y::r
def zYa{α:Type}(lt:α->α->Bool): List α->List α
 | []=>[]
 | x::r=>ins lt x (zYa lt r)
end
section
abbrev uC (x y:Int): Bool:=decide (x<y)
abbrev z3h (x y:Int): Int:=if x<y then -1 else if y<x then 1 else 0
def orF:List Int->Int
 | []=>0
 | x::r=>if x != 0 then x else orF r
abbrev z5U{α β:Type}[BEq α](lt1:α->α->Bool)(tY:β->β->Bool)(x y:α×β): Bool:=lt1 x.1 y.1||(x.1==y.1&&tY x.2 y.2)
theorem xP:z0U uC:=⟨λx=>by simp,λx y z h1 h2=>by grind,λx y=>by simp;omega⟩
theorem zVJ{α β:Type}[BEq α][LawfulBEq α]{lt1:α->α->Bool}{tY:β->β->Bool}(O1:z0U lt1)(O2:z0U tY): z0U (z5U lt1 tY):=by
 refine⟨λx=>by simp[O1.irrefl,O2.irrefl],λx y z h1 h2=>?_,λx y=>?_⟩
 ·simp at *
  rcases h1 with h1 | ⟨h1,h1'⟩ <;> rcases h2 with h2 | ⟨h2,h2'⟩
  ·exact .inl (O1.trans _ _ _ h1 h2)
  ·grind
  ·grind
  ·exact .inr ⟨h1.trans h2,O2.trans _ _ _ h1' h2'⟩
 ·obtain⟨a,b⟩:=x;obtain⟨c,d⟩:=y
  rcases O1.tri a c with h | rfl | h
  ·grind
  ·rcases O2.tri b d with h | rfl | h
   ·grind
   ·grind
   grind
  grind
theorem OrdF.of{α:Type}{f:α->α->Option Int}{lt:α->α->Bool}(O:z0U lt)(ht:∀ x y,∃ n,f x y=some n)(h:∀ x y,yL f x y=lt x y): OrdF f:=by
 refine⟨ht,λx=>by rw[h,O.irrefl],λx y z h1 h2=>?_,λx y z h1 h2=>?_,λx y h1 h2=>?_⟩
 ·rw[h] at *;exact O.trans _ _ _ h1 h2
 ·rw[h] at *
  cases h3:lt x z with
  | false=>rfl
  | true =>
   rcases O.tri x y with h4 | rfl | h4
   ·rw[h4] at h1;cases h1
   ·rw[h3] at h2;cases h2
   ·have:=O.trans _ _ _ h4 h3;rw[this] at h2;cases h2
 ·rw[h] at *
  rcases O.tri x y with h4 | h4 | h4
  ·rw[h4] at h1;cases h1
  ·exact h4
  ·rw[h4] at h2;cases h2
theorem z2g{α:Type}{f:α->α->Option Int}{lt:α->α->Bool}(O:z0U lt)(ht:∀ x y,∃ n,f x y=some n)(h:∀ x y,yL f x y=lt x y){l:List α}(hl:l.length<4294967296):
  z3A f l=some (l.mergeSort λx y=>!lt y x):=by
 unfold z3A
 rw[Ql ⟨OrdF.of O ht h,hl⟩]
 have:(λx y=>!yL f y x)=λx y=>!lt y x:=by funext x y;rw[h]
 rw[this]
noncomputable def orL (y0:List Int)(s1:Int): Option (Int⊕Int) :=
 if decide (s1<(len y0)) then
  (zC y0 s1).bind λx1 =>
  if x1 != 0 then
   some (.inr x1)
  else
   some (.inl (zH (s1+1)))
 else
  some (.inr 0)
theorem orL_spec (l:List Int)(hb:l.length<9223372036854775807): zN (orL l) 0=some (orF l):=by
 have h:=zT2 (B:=orL l) (λi (_:Unit)=>(i:Int)) l (λ_ _ x=>if x != 0 then some (.inr x) else some (.inl ())) (λ_=>some 0) (λi x s hx=>?_) (λs=>by simp[orL,len]) ()
 ·have key:∀(l:List Int) (i:Nat),z5T (λ_ (_:Unit) (x:Int)=>if x != 0 then some (Sum.inr x) else some (.inl ())) (λ_=>some 0) i l ()=some (orF l):=by
   intro l
   induction l with
   | nil=>intro i;rfl
   | cons x l ih =>
    grind [z5T,orF]
  grind
 ·have hi:=(Qe.1 hx).1
  unfold orL
  simp[tC]
  by_cases h0:x=0
  ·grind [yJ]
  grind
section
variable {α:Type}{lt:α->α->Bool}
theorem z3G (x:α): ∀ l:List α,(ins lt x l).Perm (x::l)
 | []=>List.Perm.refl _
 | y::r=>by
  unfold ins
  split
  ·exact((z3G x r).cons y).trans (List.Perm.swap x y r)
  simp_all
theorem zPj:∀ l:List α,(zYa lt l).Perm l
 | []=>List.Perm.refl _
 | x::r=>(z3G x _).trans ((zPj r).cons x)
theorem z2Q (O:z0U lt)(x:α): ∀ l:List α,l.Pairwise (λx y=>lt y x=false)->(ins lt x l).Pairwise (λx y=>lt y x=false)
 | [],_=>by simp[ins]
 | y::r,h=>by
  obtain⟨h1,h2⟩:=QP.1 h
  unfold ins
  split
  ·rename_i hlt
   refine QP.2 ⟨λz hz=>?_,z2Q O x r h2⟩
   rcases Qw.1 ((z3G x r).mem_iff.1 hz) with rfl | hz
   ·exact O.asymm hlt
   grind
  ·rename_i hlt
   have hyx:lt y x=false:=by simpa using hlt
   refine QP.2 ⟨λz hz=>?_,h⟩
   rcases Qw.1 hz with rfl | hz
   ·exact hyx
   ·cases hzx:lt z x with
    | false=>rfl
    | true =>
     have hzy:=h1 z hz
     rcases O.tri x y with h3 | rfl | h3
     ·rw[O.trans _ _ _ hzx h3] at hzy;cases hzy
     ·grind
     grind
theorem zPC (O:z0U lt): ∀ l:List α,(zYa lt l).Pairwise (λx y=>lt y x=false)
 | []=>List.Pairwise.nil
 | x::r=>z2Q O x _ (zPC O r)
theorem zOP (O:z0U lt)(l:List α): (l.mergeSort λx y=>!lt y x)=zYa lt l:=by
 refine List.Perm.eq_of_pairwise (le:=λx y=>lt y x=false) (λa b _ _ h1 h2=>?_) (zPF O l) (zPC O l) ((UU _ _).trans (zPj l).symm)
 rcases O.tri a b with h | h | h
 ·grind
 ·exact h
 grind
end
theorem zZ7{l:List Int}(h:l.length<4294967296): sortI l=some (zYa uC l):=by
 unfold sortI
 rw[Ql h,←zOP xP]
 grind
end
section
section
variable {α:Type}{l:List α}{i:Nat}{x:α}
theorem vM (h:l[i]?=some x): i<l.length:=by grind
theorem wL (h:l[i]?=some x): decide ((i:Int)<len l)=true:=by grind
theorem uH (l:List α): decide (((l.length:Nat):Int)<len l)=false:=by simp
theorem qQ (h:l[i]?=some x): zC l (i:Int)=some x:=by exact h
theorem qV (h:l[i]?=some x)(hl:l.length<4294967296): zH ((i:Int)+1)=((i+1:Nat):Int):=yJ i (by grind)
theorem zTC{j:Int}(h:zC l j=some x): ∃ n:Nat,j=(n:Int)∧l[n]?=some x:=by grind [zC]
theorem zMJ{j:Int}(h0:0≤j)(h1:j<l.length): ∃ x,zC l j=some x:=by obtain⟨x,h,_⟩:=zZW h0 h1;grind
theorem uL (h:l[i]?=some x): l.take (i+1)=l.take i++[x]:=by rw[Um,h];rfl
theorem wG (h:l[i]?=some x): x∈l:=by grind
end
section
variable {α σ ρ:Type}
theorem zEs{B:σ×Int->Option ((σ×Int)⊕ρ)}(l:List α)(f:σ->α->σ)(fin:σ->ρ)(I:Nat->σ->Prop)(s:σ)(h0:I 0 s)
  (hB:∀(i:Nat) x s,l[i]?=some x->I i s->B (s,(i:Int))=some (.inl (f s x,((i+1:Nat):Int)))∧I (i+1) (f s x))
  (he:∀ s,I l.length s->B (s,(l.length:Int))=some (.inr (fin s))):zN B (s,0)=some (fin (l.foldl f s))∧I l.length (l.foldl f s):=by
 have key:∀(n i:Nat) (s:σ),i+n=l.length->I i s->zN B (s,(i:Int))=some (fin ((l.drop i).foldl f s))∧I l.length ((l.drop i).foldl f s):=by
  intro n
  induction n with
  | zero =>
   intro i s h hI
   subst h
   rw[yF,he s hI,List.drop_length]
   grind
  | succ n ih =>
   grind [yF,List.drop_eq_getElem_cons]
 have:=key l.length 0 s (by omega) h0
 grind
theorem z2C{B:σ×Int->Option ((σ×Int)⊕ρ)}(l:List α)(f:σ->α->σ)(fin:σ->ρ)(k:Nat)(hk:k≤l.length)(s:σ)
  (hB:∀(i:Nat) x s,l[i]?=some x->B (s,(i:Int))=some (.inl (f s x,((i+1:Nat):Int))))
  (he:∀ s,B (s,(l.length:Int))=some (.inr (fin s))):zN B (s,(k:Int))=some (fin ((l.drop k).foldl f s)):=by
 have key:∀(n i:Nat) (s:σ),i+n=l.length->zN B (s,(i:Int))=some (fin ((l.drop i).foldl f s)):=by
  intro n
  induction n with
  | zero =>
   intro i s h
   rw[QM] at h
   subst h
   rw[yF,he s,List.drop_length]
   rfl
  | succ n ih =>
   intro i s h
   have hx:l[i]?=some l[i]:=Qh (by omega)
   rw[yF,hB i _ s hx,Qv (by omega)]
   exact ih (i+1) _ (by omega)
 exact key (l.length-k) k s (by omega)
theorem zWp{B:Int×σ->Option ((Int×σ)⊕ρ)}(l:List α)(f:σ->α->σ)(fin:σ->ρ)(I:Nat->σ->Prop)(s:σ)(h0:I 0 s)
  (hB:∀(i:Nat) x s,l[i]?=some x->I i s->B ((i:Int),s)=some (.inl (((i+1:Nat):Int),f s x))∧I (i+1) (f s x))
  (he:∀ s,I l.length s->B ((l.length:Int),s)=some (.inr (fin s))):zN B (0,s)=some (fin (l.foldl f s))∧I l.length (l.foldl f s):=by
 have key:∀(n i:Nat) (s:σ),i+n=l.length->I i s->zN B ((i:Int),s)=some (fin ((l.drop i).foldl f s))∧I l.length ((l.drop i).foldl f s):=by
  intro n
  induction n with
  | zero =>
   intro i s h hI
   subst h
   rw[yF,he s hI,List.drop_length]
   grind
  | succ n ih =>
   grind [yF,List.drop_eq_getElem_cons]
 have:=key l.length 0 s (by omega) h0
 grind
theorem zW5{B:Int->Option (Int⊕ρ)}(l:List α)(p:α->Bool)(yes no:ρ)
  (hB:∀(i:Nat) x,l[i]?=some x->B (i:Int)=some (if p x then .inr yes else .inl ((i+1:Nat):Int))) (he:B (l.length:Int)=some (.inr no)) :
  zN B 0=some (if l.any p then yes else no):=by
 have key:∀(n i:Nat),i+n=l.length->zN B (i:Int)=some (if(l.drop i).any p then yes else no):=by
  intro n
  induction n with
  | zero =>
   intro i h
   grind [yF]
  | succ n ih =>
   intro i h
   have hx:l[i]?=some l[i]:=Qh (by omega)
   rw[yF,hB i _ hx,Qv (by omega)]
   cases hp:p l[i] with
   | true=>grind
   | false =>
    grind
 have:=key l.length 0 (by omega)
 grind
theorem z8L{B:Int->Option (Int⊕Bool)}(l:List α)(p:α->Bool)(hB:∀(i:Nat) x,l[i]?=some x->B (i:Int)=some (if p x then .inr true else .inl ((i+1:Nat):Int)))(he:B (l.length:Int)=some (.inr false)):
  zN B 0=some (l.any p):=by
 rw[zW5 l p true false hB he]
 grind
end
theorem zHx{α β:Type}(p:α->Bool)(g:α->β): ∀(l:List α) (acc:List β),l.foldl (λs x=>if p x then s++[g x] else s) acc=acc++(l.filter p).map g
 | [],acc=>by simp
 | x::l,acc=>by
  simp[zHx p g l]
  grind
theorem zH5{α β:Type}(g:α->β): ∀(l:List α) (acc:List β),l.foldl (λs x=>s++[g x]) acc=acc++l.map g
 | [],acc=>by simp
 | x::l,acc=>by simp only[UT,zH5 g l];simp
theorem zKY{α β:Type}(g:α->List β): ∀(l:List α) (acc:List β),l.foldl (λs x=>s++g x) acc=acc++l.flatMap g
 | [],acc=>by simp
 | x::l,acc=>by simp only[UT,zKY g l];simp
theorem z9S{l r:List Int}(h:r.Perm l)(hs:r.Pairwise (λx y=>uC y x=false)): zOW r=xR uC l:=by
 obtain⟨h1,h2⟩:=z5m xP hs
 exact(z2S xP h1 (λx=>by grind)).symm
end
section
def wC (n:Nat): List Int:=(List.range n).map Int.ofNat
theorem tN (n:Nat): (wC n).length=n:=by simp[wC]
theorem zS2{n i:Nat}{x:Int}(h:(wC n)[i]?=some x): x=(i:Int)∧i<n:=by grind [wC]
theorem xW{n:Nat}{x:Int}: x∈wC n↔0≤x∧x<n:=by
 simp[wC]
 exact⟨λ⟨a,h1,h2⟩=>by grind,λh=>⟨x.toNat,by omega,by simp;omega⟩⟩
theorem zNF (n:Nat): yA uC (wC n):=by
 rw[wC,yA,Q8]
 exact List.pairwise_lt_range.imp λ{a b} h=>by simp;omega
theorem zOC{α β ρ:Type}{B:List β×Int->Option ((List β×Int)⊕ρ)}(l:List α)(g:α->List β)(fin:List β->ρ)(c:Nat)(hg:∀ x∈l,(g x).length≤c)(acc:List β)
  (hB:∀(i:Nat) x s,l[i]?=some x->s.length≤acc.length+c*i->B (s,(i:Int))=some (.inl (s++g x,((i+1:Nat):Int))))
  (he:∀ s,B (s,(l.length:Int))=some (.inr (fin s))):zN B (acc,0)=some (fin (acc++l.flatMap g)):=by
 have h:=zEs (B:=B) l (λs x=>s++g x) fin (λi s=>s.length≤acc.length+c*i) acc (by simp) (λi x s hx hI=>⟨hB i x s hx hI,by
  grind⟩) (λs _=>he s)
 rw[zKY] at h
 exact h.1
theorem zO0{α β:Type}(g:α->List β)(c:Nat): ∀(l:List α),(∀ x∈l,(g x).length≤c)->(l.flatMap g).length≤l.length*c
 | [],_=>by simp
 | x::l,h=>by
  have h1:=zO0 g c l λy hy=>h y (Qo _ hy)
  have h2:=h x Qq
  simp only[Wr,Qd,QK,Q1,Nat.one_mul]
  omega
theorem zZw{α β:Type}(p:α->Bool)(g:α->List β)(l:List α): (l.filter p).flatMap g=l.flatMap λx=>if p x then g x else[]:=by
 induction l with
 | nil=>rfl
 | cons x l ih =>
  grind
section
variable {α:Type}
noncomputable def zUi (p:α->Option Bool)(y0:List α)(s1:Int): Option (Int⊕Int) :=
 if decide (s1<(len y0)) then
  (zC y0 s1).bind λx1 =>
  (p x1).bind λr1 =>
  if r1 then
   some (.inr s1)
  else
   some (.inl (zH (s1+1)))
 else
  some (.inr (-1))
theorem zYK (p:α->Option Bool)(q:α->Bool)(l:List α)(hb:l.length<4294967296)(hp:∀ x∈l,p x=some (q x)):
  (l.any q=false∧zN (zUi p l) 0=some (-1))∨∃(k:Nat) (x:α),zN (zUi p l) 0=some (k:Int)∧l[k]?=some x∧q x=true∧∀ j y,j<k->l[j]?=some y->q y=false:=by
 have h:=uP (B:=zUi p l) (λi (_:Unit)=>(i:Int)) l (λi _=>∀ j y,j<i->l[j]?=some y->q y=false)
  (λr=>(l.any q=false∧r=-1)∨∃(k:Nat) (x:α),r=(k:Int)∧l[k]?=some x∧q x=true∧∀ j y,j<k->l[j]?=some y->q y=false) ?_ ?_ () (by omega)
 ·obtain⟨r,h1,⟨h2,rfl⟩ | ⟨k,x,rfl,h2⟩⟩:=h
  ·exact .inl ⟨h2,h1⟩
  ·exact .inr ⟨k,x,h1,h2⟩
 ·intro i x s hx hI
  unfold zUi
  simp only[wL hx,Qf,qQ hx,zob,hp x (wG hx)]
  cases hq:q x with
  | true=>exact .inr ⟨_,by simp only[Qf],.inr ⟨i,x,rfl,hx,hq,hI⟩⟩
  | false =>
   refine .inl ⟨(),by simp only[zbf,Qc,qV hx hb],λj y hj hy=>?_⟩
   rcases Uh.1 hj with h | rfl
   ·exact hI j y h hy
   ·rw[hx] at hy;cases hy;exact hq
 ·intro s hI
  unfold zUi
  refine⟨-1,by simp only[uH,zbf,Qc],.inl ⟨?_,rfl⟩⟩
  rw[Us]
  intro x hx
  obtain⟨j,hj⟩:=Qp.1 hx
  simp[hI j x (vM hj) hj]
theorem zTI (p:α->Option Bool)(q:α->Bool)(l:List α)(hb:l.length<4294967296)(hp:∀ x∈l,p x=some (q x)): ((zN (zUi p l) 0).bind λr1=>some (decide (0≤r1)))=some (l.any q):=by
 rcases zYK p q l hb hp with⟨h1,h2⟩ | ⟨k,x,h1,h2,h3,_⟩
 ·rw[h2,h1];rfl
 ·rw[h1,Q6.2 ⟨x,wG h2,h3⟩];simp
noncomputable def zZJ (p:α->Option Bool)(y0:List α)(s2:(List α)×Int×Int): Option (((List α)×Int×Int)⊕((List α)×Int)) :=
 if decide (s2.2.2<(len y0)) then
  (zC s2.1 s2.2.2).bind λx1 =>
  (p x1).bind λr2 =>
  if !r2 then
   (zC s2.1 s2.2.1).bind λ_ =>
   some (.inl (List.set s2.1 (Int.toNat s2.2.1) x1,zH (s2.2.1+1),zH (s2.2.2+1)))
  else
   some (.inl (s2.1,s2.2.1,zH (s2.2.2+1)))
 else
  some (.inr (s2.1,s2.2.1))
noncomputable def z2n (p:α->Option Bool)(z:α)(y0:List α): Option (List α) :=
 (zN (zUi p y0) 0).bind λr1 =>
 if r1==(-1) then
  some y0
 else
  (zN (zZJ p y0) (y0,r1,zH (r1+1)):Option ((List α)×Int)).bind λs1 =>
  (vT (decide (0≤s1.2)&&decide (s1.2≤len s1.1))).bind λ_ =>
  (sub (zEQ s1.1 s1.2 z) 0 s1.2).bind λx3 =>
  some x3
theorem zVa (p:α->Option Bool)(q:α->Bool)(z:α)(l:List α)(hb:l.length<4294967296)(hp:∀ x∈l,p x=some (q x)): z2n p z l=some (l.filter λx=>!q x):=by
 unfold z2n
 rcases zYK p q l hb hp with⟨h1,h2⟩ | ⟨k,x,h1,h2,h3,h4⟩
 ·rw[h2]
  simp only[zob,Ue,Qf]
  congr 1
  symm
  rw[UH]
  intro y hy
  have:=Us.1 h1 y hy
  simpa using this
 ·rw[h1]
  have hne:((k:Int)==-1)=false:=QU.2 (by omega)
  have hkl:=vM h2
  simp only[zob,hne,zbf,Qc,yJ k (by omega)]
  have key:∀ n i j (c:List α),i+n=l.length->j<i->c.length=l.length->(∀ u,i≤u->c[u]?=l[u]?)->c.take j=(l.take i).filter (λx=>!q x)->
    ∃ c' j',zN (zZJ p l) (c,(j:Int),(i:Int))=some (c',((j':Nat):Int))∧c'.length=l.length∧j'≤l.length∧c'.take j'=l.filter λx=>!q x:=by
   intro n
   induction n with
   | zero =>
    intro i j c hn hj hc hs ht
    rw[QM] at hn
    subst hn
    rw[QC] at ht
    refine⟨c,j,?_,hc,by omega,ht⟩
    rw[yF]
    unfold zZJ
    simp only[uH,zbf,Qc]
   | succ n ih =>
    intro i j c hn hj hc hs ht
    have hx:l[i]?=some l[i]:=Qh (by omega)
    have hcx:zC c (i:Int)=some l[i]:=by rw[tC,hs i (Qr _)];exact hx
    rw[yF]
    unfold zZJ
    simp only[wL hx,Qf,hcx,zob,hp _ (wG hx)]
    cases hq:q l[i] with
    | true =>
     simp only[QO,zbf,Qc,qV hx hb]
     refine ih (i+1) j c (by omega) (by omega) hc (λu hu=>hs u (by omega)) ?_
     rw[uL hx,Uo,ht]
     simp[hq]
    | false =>
     have hcj:zC c (j:Int)=some c[j]:=by rw[tC];exact Qh (by omega)
     simp only[Ul,Qf,hcj,zob,qV hx hb,Qj]
     rw[yJ j (by omega)]
     refine ih (i+1) (j+1) (c.set j l[i]) (by omega) (by omega) (by simp[hc]) (λu hu=>?_) ?_
     ·rw[List.getElem?_set_ne (by omega)];exact hs u (by omega)
     ·rw[uL hx,Uo,←ht,Um,List.getElem?_set_self (by omega),List.take_set_of_le (Qr _)]
      simp[hq]
  obtain⟨c,j,e1,e2,e3,e4⟩:=key (l.length-(k+1)) (k+1) k l (by omega) (by omega) rfl (λu _=>rfl) (by
   rw[uL h2,Uo]
   have:(l.take k).filter (λx=>!q x)=l.take k:=by
    rw[UH]
    intro y hy
    obtain⟨u,hu⟩:=Qp.1 hy
    rw[QX] at hu
    split at hu
    ·rename_i huk;simp[h4 u y huk hu]
    ·cases hu
   simp[this,h3])
  rw[e1]
  have hc1:(decide (0≤((j:Nat):Int))&&decide (((j:Nat):Int)≤len c))=true:=by simp[len];omega
  simp only[zob,hc1,vT,Qf]
  rw[zNJ (by omega) (by rw[zNX,e2];omega)]
  simp only[zob,Qj,zEQ,e4]
  have hdl:(l.filter λx=>!q x).length=j:=by rw[←e4,QB];omega
  rw[←hdl,UX]
end
end
section
theorem zP0 (x y:Int): zBB x y=some (z3h x y):=by
 unfold zBB z3h
 grind [zLh]
theorem z7h (l:List Int)(hb:l.length<9223372036854775807): zHW l=some (orF l):=orL_spec l hb
abbrev tY:qG->qG->Bool:=z5U uC uC
abbrev lt4:qX->qX->Bool:=z5U uC (z5U uC (z5U uC uC))
theorem ord2:z0U tY:=zVJ xP xP
theorem ord4:z0U lt4:=zVJ xP (zVJ xP (zVJ xP xP))
theorem graph_1 (x y:qG): zFg x y=some (orF [z3h x.1 y.1,z3h x.2 y.2]):=by
 unfold zFg
 rw[zP0,zP0]
 simp only[zob]
 rw[z7h _ (by simp)]
 rfl
theorem z5j (x y:qX): zE0 x y=some (orF [z3h x.1 y.1,z3h x.2.1 y.2.1,z3h x.2.2.1 y.2.2.1,z3h x.2.2.2 y.2.2.2]):=by
 unfold zE0
 rw[zP0,zP0,zP0,zP0]
 simp only[zob]
 rw[z7h _ (by simp)]
 rfl
theorem zRX{x y:Int}{r:List Int}{b:Bool}(h:decide (orF r<0)=b): decide (orF (z3h x y::r)<0)=(uC x y||(x==y&&b)):=by
 unfold orF z3h
 grind
theorem z8m (x y:qG): yL zFg x y=tY x y:=by
 simp only[yL,graph_1,Ux]
 exact zRX (by rw[zRX (r:=[]) (b:=false) (by simp[orF])];simp)
theorem z4M (x y:qX): yL zE0 x y=lt4 x y:=by
 simp only[yL,z5j,Ux]
 exact zRX (zRX (zRX (by rw[zRX (r:=[]) (b:=false) (by simp[orF])];simp)))
theorem z2L{l:List qG}(hl:l.length<4294967296): zAc l=some (l.mergeSort λx y=>!tY y x) :=
 z2g ord2 (λx y=>⟨_,graph_1 x y⟩) z8m hl
theorem z3X{l:List qG}(hl:l.length<9223372036854775807): zER l=some (zOW l):=zQg (0,0) l hl
theorem zXu{l:List qX}(hl:l.length<4294967296): zA0 l=some (l.mergeSort λx y=>!lt4 y x) :=
 z2g ord4 (λx y=>⟨_,z5j x y⟩) z4M hl
def z90 (n:Int)(a:qX): Bool:=decide (a.1<0)||decide (n≤a.1)||decide (a.2.1<0)||decide (n≤a.2.1)
def zKL (l:List qX): List qG:=l.map λa=>(a.1,a.2.1)
def zZ5 (n:Int)(l:List qX): qE×Int :=
 if decide (n<0)||decide (40<n) then((0,[]),1) else if l.any (z90 n) then((0,[]),1) else((n,xR tY (zKL l)),0)
theorem z9c (n:Int)(x:qX): (decide ((if x.2.1<x.1 then x.2.1 else x.1)<0)||decide (n≤(if x.2.1 > x.1 then x.2.1 else x.1)))=z90 n x:=by
 rw[QZ]
 simp only[z90,Uv,Qm]
 split <;> split <;> omega
theorem z2b{α:Type}{l:List α}{i:Nat}{x:α}(p:α->Bool)(hx:l[i]?=some x): (l.take (i+1)).any p=((l.take i).any p||p x):=by
 rw[Um,hx];simp
theorem z6I (n:Int)(l:List qX)(hl:l.length<4294967000):
  zN (zHF l n) (0,[])=some (if l.any (z90 n) then .inr ((0,[]),1) else .inl (zKL l)):=by
 have h:=uP (B:=zHF l n) (λi (s:List qG)=>((i:Int),s)) l (λi s=>s=zKL (l.take i)∧(l.take i).any (z90 n)=false)
  (λr=>r=if l.any (z90 n) then .inr ((0,[]),1) else .inl (zKL l)) ?_ ?_ [] (by simp[zKL])
 ·obtain⟨r,h1,rfl⟩:=h;exact h1
 ·rintro i x s hx ⟨rfl,hI⟩
  have hi:=(Qe.1 hx).1
  unfold zHF
  have hlt:decide ((i:Int)<len l)=true:=by simp[len];omega
  simp only[hlt,Qf,tC,hx,zob,z9c]
  cases hb:z90 n x with
  | true =>
   refine .inr ⟨_,by simp;rfl,?_⟩
   have:l.any (z90 n)=true:=Q6.2 ⟨x,UP hx,hb⟩
   simp[this]
  | false =>
   refine .inl ⟨zKL (l.take (i+1)),?_,rfl,by rw[z2b _ hx,hI,hb];rfl⟩
   have hp:zKL (l.take (i+1))=zKL (l.take i)++[(x.1,x.2.1)]:=by unfold zKL;rw[Um,hx];simp
   rw[wD (by simp[zKL];omega)]
   simp[hp,yJ i (by omega)]
 ·rintro s ⟨rfl,hI⟩
  unfold zHF
  rw[QC] at hI
  simp[hI,len]
theorem zYH (n:Int)(l:List qX)(hl:l.length<4294967000): zGK n l=some (zZ5 n l):=by
 unfold zGK zZ5
 cases h0:(decide (n<0)||decide (40<n)) with
 | true=>simp
 | false =>
  simp only[zbf,Qc]
  rw[z6I n l hl]
  cases hb:l.any (z90 n) with
  | true=>simp[vH]
  | false =>
   have hlen:(zKL l).length<4294967296:=by simp[zKL];omega
   simp only[zbf,Qc,vH,zob]
   rw[z2L hlen]
   simp only[zob]
   rw[z3X (by simp[zKL];omega)]
   rfl
end
section
theorem zNA:∀ a:zD,uV a a=false
 | []=>rfl
 | a::x=>by simp[uV,zNA x,UInt8.lt_irrefl]
theorem zZs:∀ {a b c:zD},uV a b=true->uV b c=true->uV a c=true
 | _,_,[],_,h=>by simp[uV] at h
 | _,[],_::_,h,_=>by simp[uV] at h
 | [],_::_,_::_,_,_=>rfl
 | a::x,b::y,c::z,h1,h2=>by
  simp[uV] at *
  rcases h1 with h1 | ⟨rfl,h1⟩ <;> rcases h2 with h2 | ⟨rfl,h2⟩
  ·grind
  ·grind
  ·grind
  ·exact .inr ⟨rfl,zZs h1 h2⟩
theorem z5Z:∀ a b:zD,uV a b=true∨a=b∨uV b a=true
 | [],[]=>.inr (.inl rfl)
 | [],_::_=>.inl rfl
 | _::_,[]=>.inr (.inr rfl)
 | a::x,b::y=>by
  simp[uV]
  rcases UInt8.lt_or_lt_of_ne (a:=a) (b:=b) |> λf=>(Classical.em (a=b)).imp id f with rfl | h | h
  ·rcases z5Z x y with h | rfl | h
   ·grind
   ·grind
   grind
  ·grind
  grind
theorem z9L (a b:zD): zG5 a b=some (if uV a b then -1 else if a=b then 0 else 1):=by
 have hn:∀ x:zD,zGF x=some false:=λx=>by simp[zGF]
 simp only[zG5,hn,zob,zbf,Qc]
 by_cases h1:uV a b=true
 ·simp[h1]
 ·by_cases h2:a=b
  ·simp[h2,zNA]
  ·simp[h1,h2]
def loB (b:UInt8): Bool:=decide (97≤(b.toNat:Int))&&decide ((b.toNat:Int)≤122)
def okB (b:UInt8): Bool:=loB b||(if decide (48≤(b.toNat:Int)) then decide ((b.toNat:Int)≤57)||(b.toNat:Int)==95 else(b.toNat:Int)==95)
def vName:zD->Bool
 | []=>false
 | c::r=>decide (r.length+1≤12)&&loB c&&r.all okB
theorem zSw (s:zD): zBo s=some (vName s):=by
 unfold zBo
 cases s with
 | nil=>rfl
 | cons c r =>
  have h0:((len (c::r))==0)=false:=by rw[QU];simp[len];omega
  by_cases hl:r.length+1≤12
  ·have h1:decide (12<len (c::r))=false:=by simp[len];omega
   rw[h0,h1]
   simp only[Bool.or_self,zbf,Qc]
   have h:=zT2 (B:=zFV (c::r)) (λi (_:Unit)=>(i:Int)) (c::r)
    (λi _ b=>some (if loB b then .inl () else if decide (0<(i:Int))&&okB b then .inl () else .inr false)) (λ_=>some true) ?_ ?_ ()
   ·rw[show((0:Nat):Int)=0 from rfl] at h
    rw[h]
    have key:∀(l:List UInt8) (i:Nat),0<i->z5T (λ(i:Nat) (_:Unit) (b:UInt8)=>some (if loB b then .inl () else if decide (0<(i:Int))&&okB b then .inl () else .inr false)) (λ_=>some true) i l ()=some (l.all okB):=by
     intro l
     induction l with
     | nil=>intro i _;rfl
     | cons b l ih =>
      intro i hi
      by_cases hb:okB b=true
      ·by_cases hlo:loB b=true
       ·simp only[z5T,hlo,Qf];grind
       ·simp[z5T,hb];grind
      grind [okB,z5T]
    by_cases hlo:loB c=true
    ·simp[z5T]
     grind [vName]
    ·simp[z5T,hlo,vName]
   ·intro i x s hx
    have hi:=(Qe.1 hx).1
    unfold zFV
    rw[z8M,hx,yJ i (by grind)]
    simp
    by_cases hlo:loB x=true
    ·have hlo':=hlo
     unfold loB at hlo'
     grind
    ·have hlo':=hlo
     unfold loB at hlo'
     by_cases hc:(decide (0<(i:Int))&&okB x)=true
     ·have hc':=hc
      unfold okB at hc'
      grind
     ·have hc':=hc
      unfold okB at hc'
      grind
   ·unfold zFV
    simp[len]
  ·have h1:decide (12<len (c::r))=true:=by simp[len];omega
   rw[h1]
   simp[vName,hl]
theorem zRU (s:zD): zDy s=some (vName s):=by
 unfold zDy
 cases s with
 | nil=>rfl
 | cons c r =>
  have h0:decide ((len (c::r))<1)=false:=by simp[len];omega
  have hs0:xX (c::r) 0=some (c.toNat:Int):=rfl
  rw[h0]
  by_cases hl:r.length+1≤12
  ·have h1:decide (12<len (c::r))=false:=by simp[len];omega
   rw[h1]
   simp only[zbf,Qc,hs0,zob]
   by_cases hlo:loB c=true
   ·have ha:decide ((c.toNat:Int)<97)=false:=by simp[loB] at hlo ⊢;omega
    have hb:decide (122<(c.toNat:Int))=false:=by simp[loB] at hlo ⊢;omega
    simp only[ha,hb,zbf,Qc,zob]
    have h:=zT2 (B:=zG9 (c::r)) (λi (_:Unit)=>(i:Int)) (c::r)
     (λ_ _ b=>some (if okB b then .inl () else .inr false)) (λ_=>some true) ?_ ?_ ()
    ·rw[show((0:Nat):Int)=0 from rfl] at h
     have key:∀(l:List UInt8) (i:Nat),z5T (λ(_:Nat) (_:Unit) (b:UInt8)=>some (if okB b then .inl () else .inr false)) (λ_=>some true) i l ()=some (l.all okB):=by
      intro l
      induction l with
      | nil=>intro i;rfl
      | cons b l ih =>
       by_cases hb:okB b=true
       ·simp[z5T];grind
       ·simp[z5T,hb]
     grind [vName,okB]
    ·intro i x s hx
     have hi:=(Qe.1 hx).1
     unfold zG9
     rw[z8M,hx,yJ i (by grind)]
     simp
     have hok:okB x=!(if decide ((x.toNat:Int)<97) then(if decide ((x.toNat:Int)<48) then((x.toNat:Int) != 95) else if decide (57<(x.toNat:Int)) then((x.toNat:Int) != 95) else false)
       else if decide (122<(x.toNat:Int)) then(if decide ((x.toNat:Int)<48) then((x.toNat:Int) != 95) else if decide (57<(x.toNat:Int)) then((x.toNat:Int) != 95) else false) else false):=by
      unfold okB loB
      generalize (x.toNat:Int)=n
      rw[QZ]
      simp
      constructor
      ·grind
      ·grind
     grind
    ·unfold zG9
     simp[len]
   ·have hor:(decide ((c.toNat:Int)<97)||decide (122<(c.toNat:Int)))=true:=by simp[loB] at hlo ⊢;omega
    have hv:vName (c::r)=false:=by simp[vName,hlo]
    grind
  ·have h1:decide (12<len (c::r))=true:=by simp[len];omega
   rw[h1]
   simp[vName,hl]
theorem zMd (x:zI): zCP x=some (vName x.2):=by simp[zCP,zSw]
theorem zW0 (x:zI): zFs x=some (vName x.2):=by simp[zFs,zRU]
theorem zLZ{s:zD}(h:vName s=true): 1≤s.length∧s.length≤12:=by
 cases s with
 | nil=>simp[vName] at h
 | cons c r=>grind [vName]
def zFe (x:zI): zD:=if vName x.2 then(if x.1 then 126::x.2 else x.2) else[]
theorem zQW (x:zI): zEk x=some (zFe x):=by
 unfold zEk zFe
 rw[zMd]
 cases h:vName x.2 with
 | false=>rfl
 | true =>
  have:=zLZ h
  cases hx:x.1 <;> simp[zWN (l:=[126]) (m:=x.2) (by simp;omega)]
theorem zGN (x:zI): (zFe x).length≤13:=by grind [zFe,zLZ]
def zRE (s:zD): zI×Int :=
 let x:zI:=match s with
  | 126::r=>(true,r)
  | _=>(false,s)
 if vName x.2 then(x,0) else((false,[]),3)
theorem zPZ (r:zD): zRE (126::r)=if vName r then((true,r),0) else((false,[]),3):=rfl
theorem zM3{s:zD}(h:∀ r,s≠126::r): zRE s=if vName s then((false,s),0) else((false,[]),3):=by
 unfold zRE
 grind
theorem z4Q (s:zD): zLk s=some (zRE s):=by
 unfold zLk
 cases s with
 | nil=>simp[len,zMd,zM3,vName]
 | cons c r =>
  have hs0:xX (c::r) 0=some (c.toNat:Int):=rfl
  by_cases hc:c=126
  ·subst hc
   have hs:=zX9 (l:=(126::r:zD)) (i:=1) (by omega) (by simp;omega)
   simp[zMd]
   rw[zPZ]
   grind
  ·have h1:((c.toNat:Int)==126)=false:=by
    rw[QU]
    intro h;exact hc (UInt8.toNat_inj.1 (by grind))
   simp[zMd]
   rw[zM3 (λr' h=>hc (by grind))]
   grind
def vA (a b:zI): Bool:=uV a.2 b.2||(a.2==b.2&&(!a.1&&b.1))
def zRZ (a b:zI): Int:=if vA a b then -1 else if a=b then 0 else 1
theorem zYI (a:zI): vA a a=false:=by simp[vA,zNA]
theorem zOO{a b c:zI}(h1:vA a b=true)(h2:vA b c=true): vA a c=true:=by
 obtain⟨g,a⟩:=a;obtain⟨g',b⟩:=b;obtain⟨g'',c⟩:=c
 simp only[vA,Uv,QA,Q5,Bool.not_eq_true'] at *
 rcases h1 with h1 | ⟨rfl,h1,h1'⟩ <;> rcases h2 with h2 | ⟨rfl,h2,h2'⟩
 ·exact .inl (zZs h1 h2)
 ·grind
 ·grind
 grind
theorem zSG (a b:zI): vA a b=true∨a=b∨vA b a=true:=by
 obtain⟨g,a⟩:=a;obtain⟨g',b⟩:=b
 simp[vA]
 rcases z5Z a b with h | rfl | h
 ·grind
 ·grind
 grind
theorem zRN (a b:zI): zCZ a b=some (zRZ a b):=by
 obtain⟨g,a⟩:=a;obtain⟨g',b⟩:=b
 unfold zCZ zRZ vA
 rw[z9L]
 by_cases h1:uV a b=true
 ·simp[h1]
 ·by_cases h2:a=b
  ·subst h2
   cases g <;> cases g' <;> simp[zNA]
  ·simp[h1,h2]
theorem z0S (a b:zI): zJ5 a b=some (zRZ a b):=by grind [zJ5,zRZ,vA,zNA]
theorem ordF_lit:OrdF zCZ:=by
 have hlt:∀ x y,yL zCZ x y=vA x y:=λx y=>by
  simp only[yL,zRN,zRZ,Ux]
  cases h:vA x y with
  | true=>simp
  | false=>by_cases he:x=y <;> simp[he]
 refine⟨λx y=>⟨_,zRN x y⟩,λx=>by rw[hlt,zYI],λx y z h1 h2=>?_,λx y z h1 h2=>?_,λx y h1 h2=>?_⟩
 ·rw[hlt] at *;exact zOO h1 h2
 ·rw[hlt] at *
  cases h3:vA x z with
  | false=>rfl
  | true =>
   rcases zSG x y with h | rfl | h
   ·rw[h] at h1;cases h1
   ·rw[h3] at h2;cases h2
   ·have:=zOO h h3;rw[this] at h2;cases h2
 ·rw[hlt] at *
  rcases zSG x y with h | h | h
  ·rw[h] at h1;cases h1
  ·exact h
  ·rw[h] at h2;cases h2
theorem ltF_lit (x y:zI): yL zCZ x y=vA x y:=by
 simp only[yL,zRN,zRZ,Ux]
 cases h:vA x y with
 | true=>simp
 | false=>by_cases he:x=y <;> simp[he]
end
section
theorem zSb:z0U vA:=⟨zYI,λ_ _ _=>zOO,zSG⟩
theorem z5X{l:List zI}(h:l.length<4294967296): zDl l=some l:=by
 simp[zDl,wD (l:=([]:List zI)) (m:=l) (by simpa using h)]
theorem z7f{l:List zI}(h:l.length<4294967296): zAJ l=some (l.mergeSort λx y=>!vA y x):=by
 simp only[zAJ,z3A]
 rw[Ql ⟨ordF_lit,h⟩]
 simp only[ltF_lit]
theorem z6z{l:List zI}(h:l.length<4294967296): zCI l=some (zOW l) :=
 (show zCI l=z2o (false,[]) l from rfl).trans (zQg _ l (by omega))
theorem z2H{l:List zI}(h:l.length<4294967296): zEi l=some (xR vA l):=by
 simp only[zEi,z5X h,z7f h,zob]
 rw[z6z (by simpa using h)]
 rfl
theorem z6s{l:List zI}(x:zI)(h:l.length<9223372036854775807): zFy l x=some (decide (x∈l)):=by
 obtain⟨r,hr,hi⟩:=z0x l x h
 have e:zCi l x=some r:=(show zCi l x=indexM l x from rfl).trans hr
 simp only[zFy,zCs,e,zob]
 congr 1
 rw[Wg,hi]
 simp
def z7Q (x:zI): zI:=(!x.1,x.2)
theorem z17 (x:zI): zKP x=some (z7Q x):=rfl
end
section
theorem z4l{α:Type}[BEq α][LawfulBEq α]{lt:α->α->Bool}(O:z0U lt){l m:List α}(h:∀ x,x∈l↔x∈m): xR lt l=xR lt m:=by
 obtain⟨h1,h2⟩:=zLV O m
 exact z2S O h1 λx=>by rw[h2,h]
theorem z9p{l:List zI}(x:zI)(h:l.length<1073741824)(ha:yA vA l): ∃ r,zM9 l x=some r∧yA vA r∧(∀ y,y∈r↔y=x∨y∈l)∧r.length≤l.length+1:=by
 have hloop:∃ k,zN (zHC l x) 0=some k∧∃ n:Nat,k=n∧n≤l.length∧(∀ j y,j<n->l[j]?=some y->vA y x=true)∧∀ y,l[n]?=some y->vA y x=false:=by
  refine uP (B:=zHC l x) (λi (_:Unit)=>(i:Int)) l (λi _=>∀ j y,j<i->l[j]?=some y->vA y x=true) _ ?_ ?_ () (by simp)
  ·intro i y s hy hI
   have hi:=(Qe.1 hy).1
   have hlt:decide ((i:Int)<len l)=true:=by simp[len];omega
   unfold zHC
   simp only[hlt,Qf,tC,hy,zob,z0S]
   cases hc:vA y x with
   | true =>
    refine .inl ⟨(),by simp[zRZ,hc,yJ i (by omega)],λj z hj hz=>?_⟩
    grind
   | false =>
    have:decide (zRZ y x<0)=false:=by simp[zRZ,hc];split <;> omega
    grind
  ·intro s hI
   refine⟨(l.length:Int),by unfold zHC;simp,l.length,rfl,Qr _,hI,λy hy=>by simp at hy⟩
 obtain⟨_,hk,n,rfl,hn,hlo,hhi⟩:=hloop
 unfold zM9
 rw[hk]
 simp only[zob]
 by_cases hx:l[n]?=some x
 ·have hlt:decide ((n:Int)<len l)=true:=by have:=(Qe.1 hx).1;simp[len];omega
  refine⟨l,by simp only[hlt,Qf,tC,hx,zob,Ue],ha,λy=>⟨.inr,λh=>?_⟩,by omega⟩
  grind
 ·have hcond:((if decide ((n:Int)<len l)=true then(zC l (n:Int)).bind λx2=>some (x2==x) else some false:Option Bool))=some false:=by
   by_cases hlt:n<l.length
   ·have hy:l[n]?=some l[n]:=Qh hlt
    have h1:decide ((n:Int)<len l)=true:=by simp[len];omega
    have h2:(l[n]==x)=false:=QU.2 (λe=>hx (by rw[hy,e]))
    simp[tC,hy,h2]
   ·grind
  rw[hcond]
  simp only[zob,zbf,Qc]
  rw[zNJ (by omega) (by omega),zX9 (by omega) (by omega)]
  simp only[zob,Qj]
  rw[wD (by simp;omega)]
  simp only[zob,QI]
  rw[wD (by simp;omega)]
  simp only[zob]
  rw[wD (by simp;omega)]
  refine⟨_,rfl,?_,λy=>?_,by simp;omega⟩
  ·have hsplit:=QG n l
   rw[←hsplit] at ha
   obtain⟨h1,h2,h3⟩:=Ut.1 ha
   have hlow:∀ y∈l.take n,vA y x=true:=λy hy=>by
    obtain⟨j,hj⟩:=Qp.1 hy
    grind
   have hhigh:∀ y∈l.drop n,vA x y=true:=λy hy=>by
    by_cases hlt:n<l.length
    ·have hfirst:vA x l[n]=true:=by
      rcases zSG x l[n] with h | h | h
      ·exact h
      ·grind
      ·grind
     rw[Qv hlt] at hy h2
     rcases Qw.1 hy with rfl | hy
     ·grind
     grind [zOO,List.pairwise_cons]
    grind
   rw[Qs]
   refine Ut.2 ⟨h1,Ut.2 ⟨by simp,h2,λa ha b hb=>?_⟩,λa ha b hb=>?_⟩
   ·grind
   grind
  ·rw[Qb,Qb,Qa]
   grind [List.take_append_drop]
theorem z1o{l:List zI}(h:l.length<1073741824): zK4 l=some (xR vA l):=by
 have hh:=uP (B:=zJf l) (λi (s:List zI)=>(s,(i:Int))) l (λi s=>yA vA s∧(∀ y,y∈s↔y∈l.take i)∧s.length≤i) (λr=>r=xR vA l) ?_ ?_ [] ⟨by simp,by simp,Qr _⟩
 ·obtain⟨r,h1,rfl⟩:=hh;exact h1
 ·rintro i x s hx ⟨h1,h2,h3⟩
  have hi:=(Qe.1 hx).1
  have hlt:decide ((i:Int)<len l)=true:=by simp[len];omega
  obtain⟨r,hr,g1,g2,g3⟩:=z9p x (l:=s) (by omega) h1
  refine .inl ⟨r,?_,g1,λy=>?_,by omega⟩
  ·unfold zJf
   simp only[hlt,Qf,tC,hx,zob,yJ i (by omega),hr]
  ·rw[g2,Um,hx,Qb,h2]
   simp only[Option.toList_some,Qa]
   exact or_comm
 ·rintro s ⟨h1,h2,_⟩
  refine⟨s,by unfold zJf;simp[len],?_⟩
  rw[QC] at h2
  exact(z2S zSb h1 h2).symm
theorem ref_has{l:List zI}(x:zI)(h:l.length<9223372036854775807): zU7 l x=some (decide (x∈l)):=by
 have hh:=uP (B:=zM6 l x) (λi (_:Unit)=>(i:Int)) l (λi _=>∀ j,j<i->l[j]?≠some x) (λr=>r=decide (x∈l)) ?_ ?_ () (by simp)
 ·obtain⟨r,h1,rfl⟩:=hh;exact h1
 ·intro i y s hy hI
  have hi:=(Qe.1 hy).1
  have hlt:decide ((i:Int)<len l)=true:=by simp[len];omega
  unfold zM6
  simp only[hlt,Qf,tC,hy,zob]
  by_cases hxy:y=x
  ·grind
  ·refine .inl ⟨(),by simp[hxy,yJ i (by omega)],λj hj=>?_⟩
   grind
 ·intro s hI
  refine⟨false,by unfold zM6;simp,?_⟩
  grind [List.mem_iff_getElem?]
theorem z7a (l m:List zI)(h:l.length<9223372036854775807): zMj l m=some (decide (l=m)) :=
 (show zMj l m=sameM l m from rfl).trans (z8x l m h)
end
section
theorem insert_at (l:List Int)(n:Int)(hl:l.length<4294967290): ∃ k:Nat,zN (zGj l n) 0=some (k:Int)∧k≤l.length∧(∀ j x,j<k->l[j]?=some x->x<n)∧∀ x,l[k]?=some x->n≤x:=by
 have h:=uP (B:=zGj l n) (λi (_:Unit)=>(i:Int)) l (λi _=>∀ j x,j<i->l[j]?=some x->x<n)
  (λr=>∃ k:Nat,r=(k:Int)∧k≤l.length∧(∀ j x,j<k->l[j]?=some x->x<n)∧∀ x,l[k]?=some x->n≤x) ?_ ?_ () (by omega)
 ·grind
 ·intro i x s hx hI
  unfold zGj
  simp only[wL hx,Qf,qQ hx,zob]
  by_cases hlt:x<n
  ·refine .inl ⟨(),by simp[hlt,qV hx (by omega)],λj y hj hy=>?_⟩
   grind
  grind
 ·unfold zGj
  grind
theorem zZg{l:List Int}(n:Int)(hl:l.length<4294967000)(ha:yA uC l): ∃ r,zKV l n=some r∧yA uC r∧(∀ y,y∈r↔y=n∨y∈l)∧r.length≤l.length+1:=by
 obtain⟨k,h1,h2,h3,h4⟩:=insert_at l n (by omega)
 have hsplit:l=l.take k++l.drop k:=(QG k l).symm
 have hlo:∀ x∈l.take k,x<n:=λx hx=>by
  grind [List.mem_iff_getElem?]
 have hhi:∀ x∈l.drop k,n≤x:=λx hx=>by
  obtain⟨j,hj⟩:=Qp.1 hx
  rw[UC] at hj
  cases j with
  | zero=>grind
  | succ j =>
   have hk:k<l.length:=by have:=vM hj;omega
   grind [List.pairwise_iff_getElem]
 unfold zKV
 rw[h1]
 simp only[zob]
 by_cases he:∃ x,l[k]?=some x∧x=n
 ·obtain⟨x,hx,rfl⟩:=he
  refine⟨l,by simp only[wL hx,Qf,qQ hx,zob,Ue],ha,λy=>⟨.inr,λh=>by grind⟩,by omega⟩
 ·have hc:(if decide ((k:Int)<len l)=true then(zC l (k:Int)).bind λx2=>some (x2==n) else some false)=some false:=by
   by_cases hk:k<l.length
   ·have hx:l[k]?=some l[k]:=Qh hk
    simp[qQ hx]
    grind
   ·grind
  rw[hc]
  simp only[zob,zbf,Qc]
  rw[zNJ (by omega) (by omega),zX9 (by omega) (by omega)]
  simp only[zob,Qj]
  have l1:(l.take k).length=k:=by simp;omega
  have l2:(l.drop k).length=l.length-k:=by simp
  rw[wD (by simp;omega)]
  simp only[zob,QI]
  rw[wD (by simp;omega)]
  simp only[zob]
  rw[wD (by simp;omega)]
  refine⟨_,rfl,?_,λy=>?_,by simp;omega⟩
  ·rw[Qs]
   refine Ut.2 ⟨ha.sublist (List.take_sublist k l),?_,λx hx y hy=>?_⟩
   ·refine Ut.2 ⟨by simp,ha.sublist (List.drop_sublist k l),λx hx y hy=>?_⟩
    simp at hx
    have h5:=hhi y hy
    have h6:y≠x:=λe=>by
     obtain⟨j,hj⟩:=Qp.1 hy
     rw[UC] at hj
     cases j with
     | zero=>grind
     | succ j =>
      have hk:k<l.length:=by have:=vM hj;omega
      grind [List.pairwise_iff_getElem]
    simp;omega
   grind
  ·have hm:y∈l↔y∈l.take k∨y∈l.drop k:=by rw[←Qb,QG]
   simp
   constructor
   ·grind
   grind
theorem z95{l m:List Int}(hl:l.length+m.length<4294966000)(ha:yA uC l): ∃ r,zRK l m=some r∧yA uC r∧(∀ y,y∈r↔y∈l∨y∈m)∧r.length≤l.length+m.length:=by
 have h:=uP (B:=zKf m) (λi (s:List Int)=>(s,(i:Int))) m (λi s=>yA uC s∧(∀ y,y∈s↔y∈l∨y∈m.take i)∧s.length≤l.length+i)
  (λr=>yA uC r∧(∀ y,y∈r↔y∈l∨y∈m)∧r.length≤l.length+m.length) ?_ ?_ l ⟨ha,by simp,by omega⟩
 ·exact h
 ·rintro i x s hx ⟨h1,h2,h3⟩
  have hi:=vM hx
  obtain⟨r,e1,e2,e3,e4⟩:=zZg x (by omega) h1
  refine .inl ⟨r,?_,e2,λy=>?_,by omega⟩
  ·unfold zKf
   simp only[wL hx,Qf,qQ hx,zob,e1,qV hx (by omega)]
  ·rw[e3,h2,uL hx]
   grind
 ·rintro s ⟨h1,h2,h3⟩
  refine⟨s,by unfold zKf;simp,h1,λy=>by grind,h3⟩
theorem z5Y{l:List Int}(h:l.length<4294967296): zBw l=some (zYa uC l):=zZ7 h
theorem z0n{l:List Int}(h:l.length<4294967296): zAq l=some (zOW l):=zQg 0 l (by omega)
theorem z3W{β:Type}{l:List Int}(h:l.length<4294967296)(k:List Int->Option β): ((zBw l).bind λr3=>(zAq r3).bind λr4=>k r4)=k (xR uC l):=by
 rw[z5Y h]
 simp
 rw[z0n (by rw[(zPj l).length_eq];exact h)]
 simp
 rw[z9S (zPj l) (zPC xP l)]
theorem z6p (l:List Int): yA uC (xR uC l):=(zLV xP l).1
theorem nrm_mem (l:List Int)(x:Int): x∈xR uC l↔x∈l:=(zLV xP l).2 x
inductive zUC (l:List zF): Int->Int->Prop
 | self (i:Int):zUC l i i
 | step {i k j:Int} {a:zF}:zC l i=some a->k∈a.2.2.1->zUC l k j->zUC l i j
structure FormA (l:List zF): Prop where
 len:l.length≤100
 nsub:∀ a∈l,a.2.2.1.length≤100
 sub:∀(i:Nat) a,l[i]?=some a->∀ k∈a.2.2.1,0≤k∧k<i
theorem FormA.at{l:List zF}(h:FormA l){i:Int}{a:zF}(hi:zC l i=some a): a.2.2.1.length≤100∧0≤i∧i<l.length∧∀ k∈a.2.2.1,0≤k∧k<i:=by
 obtain⟨n,rfl,hn⟩:=zTC hi
 exact⟨h.nsub a (wG hn),by omega,by grind,h.sub n a hn⟩
theorem zUC.le{l:List zF}(h:FormA l){i j:Int}(hs:zUC l i j): 0≤i->0≤j∧j≤i:=by
 induction hs with
 | self i=>grind
 | step hi hk _ ih=>have:=(h.at hi).2.2.2 _ hk;grind
theorem zUC.iff{l:List zF}{i j:Int}{a:zF}(hi:zC l i=some a): zUC l i j↔j=i∨∃ k∈a.2.2.1,zUC l k j:=by
 constructor
 ·intro h
  cases h with
  | self=>grind
  | step h1 h2 h3=>grind
 ·rintro (rfl | ⟨k,h1,h2⟩)
  ·exact .self _
  ·exact .step hi h1 h2
open Classical in
noncomputable def yP (l:List zF)(i:Int): List Int:=((List.range l.length).map Int.ofNat).filter λj=>decide (zUC l i j)
theorem zS7 (l:List zF)(i:Int): yA uC (yP l i):=by
 refine List.Pairwise.filter _ ?_
 rw[Q8]
 exact List.pairwise_lt_range.imp λ{a b} h=>by simp;omega
theorem zLP (l:List zF)(i:Int): (yP l i).length≤l.length:=QD (Qz _ _) (by simp)
theorem zQO{l:List zF}(h:FormA l){i:Int}(h0:0≤i)(h1:i<l.length)(j:Int): j∈yP l i↔zUC l i j:=by
 simp only[yP,Qk,Qn,Ua,Qm]
 constructor
 ·grind
 ·intro hs
  have:=hs.le h h0
  exact⟨⟨j.toNat,by omega,by simp;omega⟩,hs⟩
theorem z9n{l:List zF}(h:FormA l): ∀(n:Nat) (i:Int),0≤i->i<l.length->i<n->zEN n l i=some (yP l i):=by
 intro n
 induction n with
 | zero=>grind
 | succ n ih =>
  intro i h0 h1 h2
  obtain⟨a,ha⟩:=zMJ h0 h1
  obtain⟨hn,_,_,hsub⟩:=h.at ha
  show zGf (zEN n) l i=_
  have hL:=zEs (B:=zE6 a (zEN n) l) a.2.2.1 (λs k=>s++yP l k) (λs=>s) (λq s=>s.length≤1+q*100) [i] (by simp) (λq k s hk hI=>?_) (λs hI=>?_)
  ·obtain⟨e1,e2⟩:=hL
   rw[zKY] at e1 e2
   unfold zGf zBQ
   have hin:(decide (0≤i)&&decide (i<len l))=true:=by simp[len];omega
   simp only[hin,zob,QO,zbf,Qc,ha,e1]
   have hlen:([i]++a.2.2.1.flatMap (yP l)).length<4294967296:=by omega
   refine(z3W hlen some).trans ?_
   grind [z2S,xP,zS7,zQO,zUC.iff]
  ·have hks:=hsub k (wG hk)
   have hq:=vM hk
   have hsl:=zLP l k
   have hl:=h.len
   unfold zE6
   simp only[wL hk,Qf,qQ hk,zob]
   rw[ih k hks.1 (by omega) (by omega)]
   simp only[zob]
   rw[wD (by omega)]
   refine⟨by simp[qV hk (by omega)],by grind⟩
  ·unfold zE6
   simp
theorem z3C{l:List zF}(h:FormA l){i:Int}(h0:0≤i)(h1:i<l.length): zFT l i=some (yP l i) :=
 zQf (i.toNat+1) λm hm=>z9n h m i h0 h1 (by omega)
theorem z9H{l:List zF}(h:FormA l): ∀(n:Nat) (i:Int),0≤i->i<l.length->i<n->zJF n l i=some (yP l i):=by
 intro n
 induction n with
 | zero=>grind
 | succ n ih =>
  intro i h0 h1 h2
  obtain⟨a,ha⟩:=zMJ h0 h1
  obtain⟨hn,_,_,hsub⟩:=h.at ha
  have hl:=h.len
  show zOz (zJF n) l i=_
  have hL:=uP (B:=zLj l i (zJF n)) (λq (s:List Int)=>(s,(q:Int))) a.2.2.1 (λq s=>yA uC s∧(∀ y,y∈s↔y=i∨∃ k∈a.2.2.1.take q,zUC l k y)∧s.length≤1+q*100)
   (λr=>yA uC r∧∀ y,y∈r↔zUC l i y) (λq k s hk hI=>?_) (λs hI=>?_) [i] ⟨by simp,by simp,by simp⟩
  ·obtain⟨r,e1,e2,e3⟩:=hL
   unfold zOz
   have hin:(decide (i<0)||decide (len l≤i))=false:=by simp[len];omega
   simp[hin]
   exact e1.trans (congrArg some (yA.ext xP e2 (zS7 l i) λj=>by rw[e3,zQO h h0 h1]))
  ·obtain⟨g1,g2,g3⟩:=hI
   have hks:=hsub k (wG hk)
   have hq:=vM hk
   have hsl:=zLP l k
   obtain⟨r,e1,e2,e3,e4⟩:=z95 (l:=s) (m:=yP l k) (by omega) g1
   refine .inl ⟨r,?_,e2,λy=>?_,by omega⟩
   ·unfold zLj
    simp only[ha,zob,wL hk,Qf,qQ hk]
    rw[ih k hks.1 (by omega) (by omega)]
    simp[e1,qV hk (by omega)]
   ·rw[e3,g2,zQO h hks.1 (by omega),uL hk]
    grind
  ·obtain⟨g1,g2,g3⟩:=hI
   rw[QC] at g2
   refine⟨s,by unfold zLj;grind,g1,λy=>by rw[g2,zUC.iff ha]⟩
theorem ref_Subs{l:List zF}(h:FormA l){i:Int}(h0:0≤i)(h1:i<l.length): zS1 l i=some (yP l i) :=
 zQf (i.toNat+1) λm hm=>z9H h m i h0 h1 (by omega)
structure FormB (b:zM)(l:List zF): Prop extends FormA l where
 np:b.1.length≤100
 nr:b.2.1.length≤100
 kind:∀(i:Nat) a,l[i]?=some a->(a.1=(i:Int)∧i<b.1.length∧a.2.1=-1)∨(a.1=-1∧0≤a.2.1∧a.2.1<b.2.1.length)
variable {b:zM}{l:List zF}
theorem FormB.prem (h:FormB b l){j:Int}{a:zF}(hj:zC l j=some a): (0≤a.1->a.1=j∧(∃ p,zC b.1 a.1=some p)∧a.2.1=-1)∧(a.1<0->∃ r,zC b.2.1 a.2.1=some r)∧(0≤a.2.1↔a.1<0):=by
 obtain⟨n,rfl,hn⟩:=zTC hj
 rcases h.kind n a hn with⟨h1,h2,h3⟩ | ⟨h1,h2,h3⟩
 ·exact⟨λ_=>⟨h1,zMJ (by omega) (by omega),h3⟩,λh=>by omega,by omega⟩
 ·exact⟨λh=>by omega,λ_=>zMJ h2 h3,by omega⟩
noncomputable def zPE (l:List zF)(i:Int): List Int:=(yP l i).filter λj=>match zC l j with | some a=>decide (0≤a.1) | none=>false
theorem z8z (l:List zF)(i:Int): yA uC (zPE l i):=(zS7 l i).filter _
theorem zXA (l:List zF)(i:Int): (zPE l i).length≤l.length:=QD (Qz _ _) (zLP l i)
theorem zT9 (h:FormA l){i:Int}(h0:0≤i)(h1:i<l.length){j:Int}(hj:j∈yP l i): ∃ a,zC l j=some a:=by
 have:=((zQO h h0 h1 j).1 hj).le h h0
 exact zMJ this.1 (by omega)
theorem isort_asc{m:List Int}(h:yA uC m): zYa uC m=m:=by
 refine List.Perm.eq_of_pairwise (le:=λx y=>uC y x=false) (λa c _ _ h1 h2=>?_) (zPC xP m) (h.imp λh=>by grind) (zPj m)
 grind
theorem z3m (h:FormB b l){i:Int}(h0:0≤i)(h1:i<l.length): ∀(m acc:List Int),(∀ j∈m,j∈yP l i)->
  m.foldl (λs j=>match zC l j with | some a=>if decide (0≤a.1) then s++[a.1] else s | none=>s) acc=acc++m.filter λj=>match zC l j with | some a=>decide (0≤a.1) | none=>false
 | [],acc,_=>by simp
 | j::m,acc,hm=>by
  obtain⟨a,ha⟩:=zT9 h.toFormA h0 h1 (hm j Qq)
  rw[UT,z3m h h0 h1 m _ λq hq=>hm q (Qo _ hq),Q3]
  by_cases hp:0≤a.1
  ·have:=(((h.prem ha).1 hp).1)
   grind
  grind
theorem zXz (h:FormB b l){i:Int}(h0:0≤i)(h1:i<l.length): zDF l i=some (zPE l i):=by
 have hl:=h.len
 have hsl:=zLP l i
 have hL:=zEs (B:=zFX (yP l i) l) (yP l i) (λs j=>match zC l j with | some a=>if decide (0≤a.1) then s++[a.1] else s | none=>s) (λs=>s) (λq s=>s.length≤q) [] (by simp) (λq j s hj hI=>?_) (λs hI=>?_)
 ·unfold zDF
  rw[z3C h.toFormA h0 h1]
  simp only[zob]
  rw[hL.1,z3m h h0 h1 _ _ λj hj=>hj]
  grind [z5Y,isort_asc,z8z,zPE]
 ·obtain⟨a,ha⟩:=zT9 h.toFormA h0 h1 (wG hj)
  have hq:=vM hj
  unfold zFX
  simp only[wL hj,Qf,qQ hj,zob,ha]
  by_cases hp:0≤a.1
  ·simp only[hp,decide_true,Qf]
   rw[wD (by simp;omega)]
   exact⟨by simp[qV hj (by omega)],by simp;omega⟩
  ·simp only[hp,decide_false,zbf,Qc]
   exact⟨by simp[qV hj (by omega)],by omega⟩
 ·unfold zFX
  simp
abbrev z0c (b:zM)(a:zF): Bool:=match zC b.2.1 a.2.1 with | some r=>!r.2.1 | none=>false
noncomputable def xN (b:zM)(l:List zF)(i:Int): List Int:=xR uC (((yP l i).filter λj=>match zC l j with | some a=>decide (0≤a.2.1)&&z0c b a | none=>false).map λj=>match zC l j with | some a=>a.2.1 | none=>0)
theorem zV2 (h:FormB b l){i:Int}(h0:0≤i)(h1:i<l.length)(y:Int): y∈xN b l i↔∃ j∈yP l i,∃ a,zC l j=some a∧0≤a.2.1∧z0c b a=true∧y=a.2.1:=by
 rw[xN,nrm_mem]
 simp only[Qn,Qk]
 constructor
 ·rintro ⟨j,⟨h2,h3⟩,h4⟩
  obtain⟨a,ha⟩:=zT9 h.toFormA h0 h1 h2
  simp[ha] at h3 h4
  exact⟨j,h2,a,ha,h3.1,h3.2,h4.symm⟩
 ·rintro ⟨j,h2,a,ha,h3,h4,rfl⟩
  exact⟨j,⟨h2,by simp[ha];exact⟨h3,h4⟩⟩,by simp[ha]⟩
theorem zSY (b:zM)(l:List zF)(i:Int): (xN b l i).length≤l.length:=by
 refine QD (zWm uC _) ?_
 grind [zLP]
theorem zUO (h:FormB b l){i:Int}(h0:0≤i)(h1:i<l.length): zCW b l i=some (xN b l i):=by
 have hl:=h.len
 have hsl:=zLP l i
 have hL:=uP (B:=zE9 (yP l i) l b) (λq (s:List Int)=>(s,(q:Int))) (yP l i) (λq s=>s=(((yP l i).take q).filter λj=>match zC l j with | some a=>decide (0≤a.2.1)&&z0c b a | none=>false).map (λj=>match zC l j with | some a=>a.2.1 | none=>0)∧s.length≤q)
  (λr=>r=((yP l i).filter λj=>match zC l j with | some a=>decide (0≤a.2.1)&&z0c b a | none=>false).map λj=>match zC l j with | some a=>a.2.1 | none=>0) (λq j s hj hI=>?_) (λs hI=>?_) [] (by simp)
 ·obtain⟨r,e1,rfl⟩:=hL
  unfold zCW
  rw[z3C h.toFormA h0 h1]
  simp only[zob]
  refine(congrArg (λo=>Option.bind o _) e1).trans ?_
  simp only[zob]
  refine(z3W ?_ some).trans rfl
  rw[QJ]
  have:=Qz (λj=>match zC l j with | some a=>decide (0≤a.2.1)&&z0c b a | none=>false) (yP l i)
  omega
 ·obtain⟨g1,g3⟩:=hI
  obtain⟨a,ha⟩:=zT9 h.toFormA h0 h1 (wG hj)
  have hq:=vM hj
  have hc:(if decide (0≤a.2.1)=true then(zC b.2.1 a.2.1).bind λx3=>some (!x3.2.1) else some false)=some (decide (0≤a.2.1)&&z0c b a):=by
   by_cases hr:0≤a.2.1
   ·obtain⟨r,hr2⟩:=(h.prem ha).2.1 ((h.prem ha).2.2.1 hr)
    simp[hr,z0c,hr2]
   ·simp[hr]
  unfold zE9
  simp only[wL hj,Qf,qQ hj,zob,ha,hc]
  cases hd:(decide (0≤a.2.1)&&z0c b a) with
  | true =>
   simp only[Qf]
   rw[wD (by simp;omega)]
   refine .inl ⟨s++[a.2.1],by simp only[zob,qV hj (by omega)],?_,by simp;omega⟩
   rw[uL hj,Uo,UL,←g1]
   simp[ha,hd]
  | false =>
   simp only[zbf,Qc]
   refine .inl ⟨s,by simp only[qV hj (by omega)],?_,by omega⟩
   rw[uL hj,Uo,UL,←g1]
   simp[ha,hd]
 ·obtain⟨g1,g3⟩:=hI
  rw[QC] at g1
  exact⟨s,by unfold zE9;simp[len],g1⟩
theorem z1H (h:FormB b l){i:Int}(h0:0≤i)(h1:i<l.length): zFx b l i=some (xN b l i):=by
 have hl:=h.len
 have hsl:=zLP l i
 have hL:=uP (B:=zFk (yP l i) l b) (λq (s:List Int)=>(s,(q:Int))) (yP l i) (λq s=>yA uC s∧(∀ y,y∈s↔∃ j∈(yP l i).take q,∃ a,zC l j=some a∧0≤a.2.1∧z0c b a=true∧y=a.2.1)∧s.length≤q)
  (λr=>r=xN b l i) (λq j s hj hI=>?_) (λs hI=>?_) [] (by simp)
 ·obtain⟨r,e1,rfl⟩:=hL
  unfold zFx
  rw[ref_Subs h.toFormA h0 h1]
  exact e1
 ·obtain⟨g1,g2,g3⟩:=hI
  obtain⟨a,ha⟩:=zT9 h.toFormA h0 h1 (wG hj)
  have hq:=vM hj
  have hc:(if decide (0≤a.2.1)=true then(zC b.2.1 a.2.1).bind λx3=>some (!x3.2.1) else some false)=some (decide (0≤a.2.1)&&z0c b a):=by
   by_cases hr:0≤a.2.1
   ·obtain⟨r,hr2⟩:=(h.prem ha).2.1 ((h.prem ha).2.2.1 hr)
    grind
   ·simp[hr]
  unfold zFk
  simp only[wL hj,Qf,qQ hj,zob,ha,hc]
  cases hd:(decide (0≤a.2.1)&&z0c b a) with
  | true =>
   obtain⟨r,e1,e2,e3,e4⟩:=zZg (l:=s) a.2.1 (by omega) g1
   simp only[Qf,e1,zob]
   refine .inl ⟨r,by simp[qV hj (by omega)],e2,λy=>?_,by omega⟩
   rw[e3,g2,uL hj]
   simp only[Qb,Qa,or_and_right,exists_or,exists_eq_left]
   grind
  | false =>
   simp only[zbf,Qc]
   refine .inl ⟨s,by simp[qV hj (by omega)],g1,λy=>?_,by omega⟩
   rw[g2,uL hj]
   simp only[Qb,Qa,or_and_right,exists_or,exists_eq_left]
   grind
 ·obtain⟨g1,g2,g3⟩:=hI
  refine⟨s,by unfold zFk;simp,yA.ext xP g1 (z6p _) λy=>?_⟩
  grind [zV2]
inductive zWJ (b:zM)(l:List zF): Int->Int->Prop
 | here {i:Int} {a:zF} {r:qH}:zC l i=some a->0≤a.2.1->zC b.2.1 a.2.1=some r->r.2.1=false->zWJ b l i a.2.1
 | step {i k y:Int} {a:zF} {r:qH}:zC l i=some a->0≤a.2.1->zC b.2.1 a.2.1=some r->r.2.1=true->k∈a.2.2.1->zWJ b l k y->zWJ b l i y
theorem zWJ.rng (_h:FormB b l){i y:Int}(hs:zWJ b l i y): 0≤y∧y<b.2.1.length:=by
 induction hs with
 | here h1 h2 h3 h4=>grind [zTC]
 | step _ _ _ _ _ _ ih=>exact ih
open Classical in
noncomputable def xZ (b:zM)(l:List zF)(i:Int): List Int:=((List.range b.2.1.length).map Int.ofNat).filter λy=>decide (zWJ b l i y)
theorem z4J (b:zM)(l:List zF)(i:Int): yA uC (xZ b l i):=by
 refine List.Pairwise.filter _ ?_
 rw[Q8]
 exact List.pairwise_lt_range.imp λ{a b} h=>by simp;omega
theorem zVZ (b:zM)(l:List zF)(i:Int): (xZ b l i).length≤b.2.1.length:=QD (Qz _ _) (by simp)
theorem zWd (h:FormB b l)(i y:Int): y∈xZ b l i↔zWJ b l i y:=by
 simp only[xZ,Qk,Qn,Ua,Qm]
 exact⟨λh=>h.2,λhs=>by have:=hs.rng h;exact⟨⟨y.toNat,by omega,by simp;omega⟩,hs⟩⟩
theorem last_none{i:Int}{a:zF}(ha:zC l i=some a)(hr:a.2.1<0): xZ b l i=[]:=by
 simp only[xZ,UV,Qm]
 intro y _ hy
 cases hy with
 | here h1 h2 _ _=>grind
 | step h1 h2 _ _ _ _=>grind
theorem last_one (h:FormB b l){i:Int}{a:zF}{r:qH}(ha:zC l i=some a)(h0:0≤a.2.1)(hr:zC b.2.1 a.2.1=some r)(hs:r.2.1=false): xZ b l i=[a.2.1]:=by
 refine yA.ext xP (z4J b l i) (by simp) λy=>?_
 rw[zWd h,Qa]
 constructor
 ·intro hy
  cases hy with
  | here h1 _ _ _=>grind
  | step h1 _ h3 h4 _ _=>grind
 ·rintro rfl;exact .here ha h0 hr hs
theorem last_more{i y:Int}{a:zF}{r:qH}(ha:zC l i=some a)(h0:0≤a.2.1)(hr:zC b.2.1 a.2.1=some r)(hs:r.2.1=true): zWJ b l i y↔∃ k∈a.2.2.1,zWJ b l k y:=by
 constructor
 ·intro hy
  cases hy with
  | here h1 _ h3 h4=>grind
  | step h1 _ _ _ h5 h6=>grind
 ·rintro ⟨k,h1,h2⟩;exact .step ha h0 hr hs h1 h2
theorem z9k (h:FormB b l): ∀(n:Nat) (i:Int),0≤i->i<l.length->i<n->zEW n b l i=some (xZ b l i):=by
 intro n
 induction n with
 | zero=>intro i h0 _ h2;omega
 | succ n ih =>
  intro i h0 h1 h2
  obtain⟨a,ha⟩:=zMJ h0 h1
  obtain⟨hn,_,_,hsub⟩:=h.toFormA.at ha
  have hin:(decide (0≤i)&&decide (i<len l))=true:=by simp[len];omega
  show zGa (zEW n) b l i=_
  unfold zGa zBQ
  simp only[hin,zob,QO,zbf,Qc,ha]
  by_cases hr:a.2.1<0
  ·simp only[hr,decide_true,Qf]
   rw[last_none ha hr]
  ·simp only[hr,decide_false,zbf,Qc]
   obtain⟨r,hr2⟩:=(h.prem ha).2.1 ((h.prem ha).2.2.1 (by omega))
   simp only[hr2,zob]
   cases hs:r.2.1 with
   | false =>
    simp only[Ul,Qf]
    rw[last_one h ha (by omega) hr2 hs]
   | true =>
    simp only[QO,zbf,Qc]
    have hnr:=h.nr
    have hL:=zEs (B:=zEc a (zEW n) b l) a.2.2.1 (λs k=>s++xZ b l k) (λs=>s) (λq s=>s.length≤q*100) [] (by simp) (λq k s hk hI=>?_) (λs hI=>?_)
    ·obtain⟨e1,e2⟩:=hL
     rw[zKY] at e1 e2
     rw[e1]
     simp only[zob]
     refine(z3W (by omega) some).trans ?_
     congr 1
     refine z2S xP (z4J b l i) λy=>?_
     rw[zWd h,last_more ha (by omega) hr2 hs]
     simp only[QI,QL,zWd h]
    ·have hks:=hsub k (wG hk)
     have hq:=vM hk
     have hsl:=zVZ b l k
     unfold zEc
     simp only[wL hk,Qf,qQ hk,zob]
     rw[ih k hks.1 (by omega) (by omega)]
     simp only[zob]
     rw[wD (by omega)]
     refine⟨by simp only[zob,qV hk (by omega)],by rw[Qd];omega⟩
    ·unfold zEc
     simp[len]
theorem arg_Last (h:FormB b l){i:Int}(h0:0≤i)(h1:i<l.length): zJR b l i=some (xZ b l i) :=
 zQf (i.toNat+1) λm hm=>z9k h m i h0 h1 (by omega)
end
section
def minF:List Int->Int
 | []=>0
 | x::r=>r.foldl (λm y=>if y<m then y else m) x
def maxF:List Int->Int
 | []=>0
 | x::r=>r.foldl (λm y=>if y > m then y else m) x
def zOZ (x y:List Int)(o:Int): Bool:=(o==1||o==2)&&!x.isEmpty&&(y.isEmpty||if o==1 then decide (minF x<minF y) else decide (maxF x<maxF y))
theorem z1t{l:List Int}(h:l≠[])(hl:l.length<4294967296): zEl l=some (minF l):=by
 match l,h with
 | x::r,_ =>
  have h1:decide (len (x::r)<1)=false:=by simp[len];omega
  unfold zEl
  simp only[h1,zbf,Qc,zob,show zC (x::r) 0=some x from rfl]
  refine z2C (B:=zHZ (x::r)) (x::r) (λm y=>if y<m then y else m) (λm=>m) 1 (by simp) x (λi y s hy=>?_) (λs=>?_)
  ·unfold zHZ
   simp only[wL hy,Qf,qQ hy,zob,qV hy hl]
  ·unfold zHZ
   simp only[uH,zbf,Qc]
theorem z2G{l:List Int}(h:l≠[])(hl:l.length<4294967296): zEj l=some (maxF l):=by
 match l,h with
 | x::r,_ =>
  have h1:decide (len (x::r)<1)=false:=by simp[len];omega
  unfold zEj
  simp only[h1,zbf,Qc,zob,show zC (x::r) 0=some x from rfl]
  refine z2C (B:=zHf (x::r)) (x::r) (λm y=>if y > m then y else m) (λm=>m) 1 (by simp) x (λi y s hy=>?_) (λs=>?_)
  ·unfold zHf
   simp only[wL hy,Qf,qQ hy,zob,qV hy hl]
  ·unfold zHf
   simp only[uH,zbf,Qc]
theorem len0{α:Type}(l:List α): ((len l)==0)=l.isEmpty:=by
 cases l with
 | nil=>rfl
 | cons x r=>grind
theorem isE{α:Type}{l:List α}(h:l.isEmpty=false): l≠[]:=by grind
theorem zS5{x y:List Int}(o:Int)(hx:x.length<4294967296)(hy:y.length<4294967296): zFB x y o=some (zOZ x y o):=by
 unfold zFB zOZ
 simp only[len0]
 cases hxe:x.isEmpty with
 | true=>simp
 | false =>
  by_cases h1:o=1
  ·subst h1
   cases hye:y.isEmpty with
   | true=>simp
   | false=>simp[z1t (isE hxe) hx,z1t (isE hye) hy]
  ·by_cases h2:o=2
   ·subst h2
    cases hye:y.isEmpty with
    | true=>simp
    | false=>simp[z2G (isE hxe) hx,z2G (isE hye) hy]
   ·simp[h1,h2]
variable {b:zM}{l:List zF}
theorem z4S (h:FormB b l){i:Int}(h0:0≤i)(h1:i<l.length){p:Int}(hp:p∈zPE l i): ∃ q,zC b.1 p=some q:=by
 obtain⟨h2,h3⟩:=Qk.1 hp
 obtain⟨a,ha⟩:=zT9 h.toFormA h0 h1 h2
 simp[ha] at h3
 obtain⟨e1,⟨q,e2⟩,_⟩:=(h.prem ha).1 h3
 grind
theorem defs_idx (h:FormB b l){i:Int}(h0:0≤i)(h1:i<l.length){y:Int}(hy:y∈xN b l i): ∃ q,zC b.2.1 y=some q:=by
 obtain⟨j,_,a,ha,h3,_,rfl⟩:=(zV2 h h0 h1 y).1 hy
 grind
theorem last_idx (h:FormB b l){i y:Int}(hy:y∈xZ b l i): ∃ q,zC b.2.1 y=some q:=by
 have:=((zWd h i y).1 hy).rng h
 exact zMJ this.1 this.2
def z5f (b:zM)(k p:Int): Bool:=match zC b.1 p with | some q=>q.2.1==k | none=>false
noncomputable def zPR (b:zM)(l:List zF)(i:Int): Bool:=(zPE l i).any (z5f b 3)
def zT4 (b:zM)(p:Int): List Int:=match zC b.1 p with | some q=>if q.2.1==2 then[q.2.2.1] else if q.2.1==3 then[-1] else[] | none=>[]
noncomputable def zCl (b:zM)(l:List zF)(i:Int): List Int:=(zPE l i).flatMap (zT4 b)
def rankOf (b:zM)(y:Int): Int:=match zC b.2.1 y with | some q=>q.2.2.1 | none=>0
abbrev zLY (b:zM)(rs:List Int): List Int:=rs.map (rankOf b)
theorem z2P{rs:List Int}(hl:rs.length<4294967296)(h:∀ y∈rs,∃ q,zC b.2.1 y=some q): zLE b rs=some (zLY b rs):=by
 have hL:=zEs (B:=zL6 rs b) rs (λs y=>s++[rankOf b y]) (λs=>s) (λq s=>s.length=q) [] rfl (λi y s hy hI=>?_) (λs hI=>?_)
 ·obtain⟨e1,_⟩:=hL
  rw[zH5] at e1
  exact e1
 ·obtain⟨q,hq⟩:=h y (wG hy)
  have:=vM hy
  unfold zL6
  simp only[wL hy,Qf,qQ hy,zob,hq]
  rw[wD (by simp;omega)]
  exact⟨by simp[qV hy hl,rankOf,hq],by simp;omega⟩
 ·unfold zL6
  simp
theorem zM2 (h:FormB b l){i:Int}(h0:0≤i)(h1:i<l.length): zCy b l i=some (zLY b (xZ b l i)):=by
 have hll:=zVZ b l i
 have hnr:=h.nr
 unfold zCy
 rw[arg_Last h h0 h1]
 simp only[zob,z2P (show(xZ b l i).length<4294967296 by omega) λy hy=>last_idx h hy]
theorem zMb (h:FormB b l){i:Int}(h0:0≤i)(h1:i<l.length): zDA b l i=some (zLY b (xN b l i)):=by
 have hll:=zSY b l i
 have hnr:=h.len
 unfold zDA
 rw[zUO h h0 h1]
 simp only[zob,z2P (show(xN b l i).length<4294967296 by omega) λy hy=>defs_idx h h0 h1 hy]
theorem zXy (b:zM)(p:Int): (zT4 b p).length≤1:=by grind [zT4]
theorem zJt (h:FormB b l){i:Int}(h0:0≤i)(h1:i<l.length): zBp b l i=some (zCl b l i):=by
 have hpl:=zXA l i
 have hl:=h.len
 have hL:=zEs (B:=zFY (zPE l i) b) (zPE l i) (λs p=>s++zT4 b p) (λs=>s) (λq s=>s.length≤q) [] (by simp) (λj p s hp hI=>?_) (λs hI=>?_)
 ·grind [zKY,zBp,zXz,zCl]
 ·obtain⟨q,hq⟩:=z4S h h0 h1 (wG hp)
  have:=vM hp
  have hpr:=zXy b p
  unfold zFY
  simp only[wL hp,Qf,qQ hp,zob,hq]
  refine⟨?_,by grind⟩
  unfold zT4
  simp only[hq]
  cases hk2:q.2.1==2 with
  | true =>
   simp only[Qf]
   rw[wD (by simp;omega)]
   simp[qV hp (by omega)]
  | false =>
   cases hk3:q.2.1==3 with
   | true =>
    simp only[zbf,Qc,Qf]
    rw[wD (by simp;omega)]
    simp[qV hp (by omega)]
   | false=>simp[qV hp (by omega)]
 ·unfold zFY
  simp
theorem z4L (h:FormB b l){i:Int}(h0:0≤i)(h1:i<l.length): zI1 b l i=some (zPR b l i):=by
 have hpl:=zXA l i
 have hl:=h.len
 have key:∃ r,zN (zA4 (zPE l i) b) 0=some r∧decide (0≤r)=zPR b l i:=by
  have hc:∀ p∈zPE l i,zK7 p b=some (z5f b 3 p):=λp hp=>by
   obtain⟨q,hq⟩:=z4S h h0 h1 hp
   simp[zK7,z5f,hq]
  have hL:=uP (B:=zA4 (zPE l i) b) (λq (_:Unit)=>(q:Int)) (zPE l i) (λq _=>∀ j x,j<q->(zPE l i)[j]?=some x->z5f b 3 x=false) (λr=>decide (0≤r)=zPR b l i) ?_ ?_ () (by omega)
  ·exact hL
  ·intro q p s hp hI
   unfold zA4
   simp only[wL hp,Qf,qQ hp,zob,hc p (wG hp)]
   cases hk:z5f b 3 p with
   | true =>
    refine .inr ⟨_,by simp only[Qf];rfl,?_⟩
    have:zPR b l i=true:=Q6.2 ⟨p,wG hp,hk⟩
    rw[this];simp
   | false =>
    refine .inl ⟨(),by simp only[zbf,Qc,qV hp (by omega)],λj x hj hx=>?_⟩
    rcases Uh.1 hj with h | rfl
    ·exact hI j x h hx
    ·rw[hp] at hx;cases hx;exact hk
  ·intro s hI
   unfold zA4
   refine⟨-1,by simp only[uH,zbf,Qc],?_⟩
   have:zPR b l i=false:=by
    rw[zPR,Us]
    intro p hp
    obtain⟨j,hj⟩:=Qp.1 hp
    simp[hI j p (vM hj) hj]
   rw[this];rfl
 obtain⟨r,h2,h3⟩:=key
 unfold zI1 zA2 zAd
 rw[zXz h h0 h1]
 simp only[zob,h2,h3]
noncomputable def z7C (b:zM)(l:List zF)(i k:Int)(o:yZ): Bool :=
 decide (0≤i)&&decide (i<l.length)&&decide (0≤k)&&decide (k<l.length)&&!zPR b l k &&
 let pr:=zOZ (zCl b l i) (zCl b l k) o.2
 if o.1==1 then zOZ (zLY b (xZ b l i)) (zLY b (xZ b l k)) o.2||((xZ b l i).isEmpty&&(xZ b l k).isEmpty&&pr)
 else if o.1==2 then
  if(xN b l i).isEmpty&&(xN b l k).isEmpty then pr
  else if(zCl b l i).isEmpty&&(zCl b l k).isEmpty then zOZ (zLY b (xN b l i)) (zLY b (xN b l k)) o.2
  else pr&&zOZ (zLY b (xN b l i)) (zLY b (xN b l k)) o.2
 else false
theorem zWc (b:zM)(l:List zF)(i:Int): (zCl b l i).length≤l.length:=by
 have key:∀ m:List Int,(m.flatMap (zT4 b)).length≤m.length:=by
  intro m
  induction m with
  | nil=>simp
  | cons x m ih=>grind [zXy]
 exact QD (key _) (zXA l i)
theorem z0E{α β:Type}(f:α->β)(l:List α): (l.map f).isEmpty=l.isEmpty:=by cases l <;> rfl
theorem lift_Less (h:FormB b l)(i k:Int)(o:yZ): zMV b l i k o=some (z7C b l i k o):=by
 have hl:=h.len
 have hnr:=h.nr
 unfold zMV
 by_cases hr:0≤i∧i<l.length∧0≤k∧k<l.length
 ·obtain⟨i0,i1,k0,k1⟩:=hr
  have c1:decide ((if k<i then k else i)<0)=false:=by simp;split <;> omega
  have c2:decide (len l≤(if k > i then k else i))=false:=by simp[len];split <;> omega
  simp only[c1,c2,zbf,Qc,z4L h k0 k1,zob]
  have f1:=zWc b l i
  have f2:=zWc b l k
  have f3:=zVZ b l i
  have f4:=zVZ b l k
  have f5:=zSY b l i
  have f6:=zSY b l k
  cases ha:zPR b l k with
  | true=>simp[z7C,ha]
  | false =>
   have sP:zAO b l i k o=some (zOZ (zCl b l i) (zCl b l k) o.2):=by
    unfold zAO
    simp only[zJt h i0 i1,zJt h k0 k1,zob,zS5 o.2 (show(zCl b l i).length<4294967296 by omega) (show(zCl b l k).length<4294967296 by omega)]
   have sL:zBS b l i k o=some (zOZ (zLY b (xZ b l i)) (zLY b (xZ b l k)) o.2):=by
    unfold zBS
    simp only[zM2 h i0 i1,zM2 h k0 k1,zob,zS5 o.2 (show(zLY b (xZ b l i)).length<4294967296 by simp;omega) (show(zLY b (xZ b l k)).length<4294967296 by simp;omega)]
   have sR:zAj b l i k o=some (zOZ (zLY b (xN b l i)) (zLY b (xN b l k)) o.2):=by
    unfold zAj
    simp only[zMb h i0 i1,zMb h k0 k1,zob,zS5 o.2 (show(zLY b (xN b l i)).length<4294967296 by simp;omega) (show(zLY b (xN b l k)).length<4294967296 by simp;omega)]
   have nL:zBP b l i k=some ((xZ b l i).isEmpty&&(xZ b l k).isEmpty):=by
    unfold zBP
    simp only[zM2 h i0 i1,zM2 h k0 k1,zob,len0,z0E]
    cases (xZ b l i).isEmpty <;> simp
   have nP:zAt b l i k=some ((zCl b l i).isEmpty&&(zCl b l k).isEmpty):=by
    unfold zAt
    simp only[zJt h i0 i1,zJt h k0 k1,zob,len0]
    cases (zCl b l i).isEmpty <;> simp
   have nR:zBT b l i k=some ((xN b l i).isEmpty&&(xN b l k).isEmpty):=by
    unfold zBT
    simp only[zMb h i0 i1,zMb h k0 k1,zob,len0,z0E]
    cases (xN b l i).isEmpty <;> simp
   simp only[zbf,Qc,zC8,zC5,sP,sL,sR,nL,nP,nR,zob,z7C,i0,i1,k0,k1,ha,decide_true,Ul,Uw]
   by_cases o1:o.1=1
   ·simp only[o1,Ue,Qf]
    cases zOZ (zLY b (xZ b l i)) (zLY b (xZ b l k)) o.2 <;> cases (xZ b l i).isEmpty <;> cases (xZ b l k).isEmpty <;> simp
   ·have o1':(o.1==1)=false:=QU.2 o1
    simp only[o1',zbf,Qc]
    cases o.1==2
    ·simp
    ·cases (xN b l i).isEmpty <;> cases (xN b l k).isEmpty <;> cases (zCl b l i).isEmpty <;> cases (zCl b l k).isEmpty <;> cases zOZ (zCl b l i) (zCl b l k) o.2 <;> simp
 ·have hf:z7C b l i k o=false:=by
   unfold z7C
   by_cases a1:0≤i <;> by_cases a2:i<l.length <;> by_cases a3:0≤k <;> by_cases a4:k<l.length <;> simp[a1,a2,a3,a4]
   exact absurd ⟨a1,a2,a3,a4⟩ hr
  rw[hf]
  by_cases c1:(if k<i then k else i)<0
  ·simp[c1]
  ·have c2:len l≤(if k > i then k else i):=by
    simp only[len]
    split at c1 <;> split <;> omega
   simp only[c1,c2,decide_true,decide_false,zbf,Qf,Qc,zob]
end
section
variable {b:zM}{l:List zF}
def hits (b:zM)(l:List zF)(i c kd:Int): Bool:=match zC l i,zC l c with
 | some x,some a =>
  if decide (a.2.1<0) then kd==1&&x.2.2.2==z7Q a.2.2.2&&(match zC b.1 a.1 with | some p=>p.2.1 != 1 | none=>false)
  else match zC b.2.1 a.2.1 with
   | some r=>!r.2.1&&((kd==2&&x.2.2.2==z7Q a.2.2.2)||(kd==3&&x.2.2.2==(true,r.1)))
   | none=>false
 | _,_=>false
abbrev zSQ (b:zM)(l:List zF)(i c:Int): List Int:=[1,2,3].filter (hits b l i c)
theorem att_kinds (h:FormB b l){i c:Int}(i0:0≤i)(i1:i<l.length)(c0:0≤c)(c1:c<l.length): zM8 b l i c=some (zSQ b l i c):=by
 obtain⟨x,hx⟩:=zMJ i0 i1
 obtain⟨a,ha⟩:=zMJ c0 c1
 unfold zM8 zSQ
 simp only[hx,ha,zob,z17]
 by_cases hp:0≤a.1
 ·obtain⟨_,⟨p,hp2⟩,hr⟩:=(h.prem ha).1 hp
  have hk:∀ kd,hits b l i c kd=(kd==1&&x.2.2.2==z7Q a.2.2.2&&p.2.1 != 1):=λkd=>by
   simp only[hits,hx,ha,hp2,hr];rfl
  simp only[hp,decide_true,Qf,hp2,zob]
  rw[Q3,Q3,Q3,List.filter_nil,hk,hk,hk]
  cases x.2.2.2==z7Q a.2.2.2 <;> cases p.2.1 != 1 <;> simp[qF]
 ·obtain⟨r,hr2⟩:=(h.prem ha).2.1 (by omega)
  have hr:¬ a.2.1<0:=by have:=(h.prem ha).2.2;omega
  have hk:∀ kd,hits b l i c kd=(!r.2.1&&((kd==2&&x.2.2.2==z7Q a.2.2.2)||(kd==3&&x.2.2.2==(true,r.1)))):=λkd=>by
   simp only[hits,hx,ha,hr2,hr,decide_false,zbf,Qc]
  simp only[hp,decide_false,zbf,Qc,hr2,zob]
  rw[Q3,Q3,Q3,List.filter_nil,hk,hk,hk]
  have hlit:(x.2.2.2==(true,r.1))=(x.2.2.2.1&&x.2.2.2.2==r.1):=by
   obtain⟨_,_,_,g,nm⟩:=x
   show(g==true&&nm==r.1)=(g&&nm==r.1)
   cases g <;> rfl
  rw[hlit]
  cases hs:r.2.1
  ·cases x.2.2.2==z7Q a.2.2.2 <;> cases x.2.2.2.1 <;> cases x.2.2.2.2==r.1 <;> simp[qF]
  ·simp
abbrev z3g (b:zM)(l:List zF)(i k c:Int): List qX:=(zSQ b l i c).map λkd=>(i,k,c,kd)
noncomputable def zYx (b:zM)(l:List zF): List qX:=(wC l.length).flatMap λi=>(wC l.length).flatMap λk=>(yP l k).flatMap λc=>z3g b l i k c
noncomputable def z9Q (b:zM)(l:List zF): List qX:=(wC l.length).flatMap λc=>(wC l.length).flatMap λi=>((wC l.length).filter λk=>decide (c∈yP l k)).flatMap λk=>z3g b l i k c
theorem z4r (b:zM)(l:List zF)(i c:Int): yA uC (zSQ b l i c):=List.Pairwise.filter _ (by simp)
theorem kinds_len (b:zM)(l:List zF)(i c:Int): (zSQ b l i c).length≤3:=by grind
theorem z5I (y:qX): y∈zYx b l↔(0≤y.1∧y.1<l.length)∧(0≤y.2.1∧y.2.1<l.length)∧y.2.2.1∈yP l y.2.1∧y.2.2.2∈zSQ b l y.1 y.2.2.1:=by
 simp[zYx,xW]
 grind
theorem subs_rng{k c:Int}(h:c∈yP l k): 0≤c∧c<l.length:=by grind [yP]
theorem attsP_mem (y:qX): y∈z9Q b l↔y∈zYx b l:=by
 rw[z5I]
 obtain⟨i,k,c,kd⟩:=y
 simp only[z9Q,QL,Qn,xW,Qk,Qm]
 constructor
 ·rintro ⟨c',_,i',h1,k',⟨h2,h3⟩,kd',h4,e⟩
  cases e
  exact⟨h1,h2,h3,h4⟩
 ·rintro ⟨h1,h2,h3,h4⟩
  exact⟨c,subs_rng h3,i,h1,k,⟨h2,h3⟩,kd,h4,rfl⟩
theorem z5o (b:zM)(l:List zF): yA lt4 (zYx b l):=by
 refine UM.2 ⟨λi _=>UM.2 ⟨λk _=>UM.2 ⟨λc _=>?_,?_⟩,?_⟩,?_⟩
 ·rw[Q8]
  exact(z4r b l i c).imp λh=>by simpa [lt4] using h
 ·refine(zS7 l k).imp λ{c c'} h x hx y hy=>?_
  obtain⟨_,_,rfl⟩:=Qn.1 hx
  obtain⟨_,_,rfl⟩:=Qn.1 hy
  simp at h;simp[lt4];omega
 ·refine(zNF _).imp λ{k k'} h x hx y hy=>?_
  obtain⟨_,_,hx⟩:=QL.1 hx
  obtain⟨_,_,hy⟩:=QL.1 hy
  obtain⟨_,_,rfl⟩:=Qn.1 hx
  obtain⟨_,_,rfl⟩:=Qn.1 hy
  simp at h;simp[lt4];omega
 ·refine(zNF _).imp λ{i i'} h x hx y hy=>?_
  obtain⟨_,_,hx⟩:=QL.1 hx
  obtain⟨_,_,hy⟩:=QL.1 hy
  obtain⟨_,_,hx⟩:=QL.1 hx
  obtain⟨_,_,hy⟩:=QL.1 hy
  obtain⟨_,_,rfl⟩:=Qn.1 hx
  obtain⟨_,_,rfl⟩:=Qn.1 hy
  simp at h;simp[lt4];omega
theorem z6P (b:zM)(l:List zF): (z9Q b l).Nodup:=by
 have key:(z9Q b l).Pairwise λx y=>x.2.2.1<y.2.2.1∨(x.2.2.1=y.2.2.1∧(x.1<y.1∨(x.1=y.1∧(x.2.1<y.2.1∨(x.2.1=y.2.1∧x.2.2.2<y.2.2.2))))):=by
  refine UM.2 ⟨λc _=>UM.2 ⟨λi _=>UM.2 ⟨λk _=>?_,?_⟩,?_⟩,?_⟩
  ·rw[Q8]
   exact(z4r b l i c).imp λh=>by simpa using h
  ·refine((zNF _).filter _).imp λ{k k'} h x hx y hy=>?_
   obtain⟨_,_,rfl⟩:=Qn.1 hx
   obtain⟨_,_,rfl⟩:=Qn.1 hy
   simp at h;simp;omega
  ·refine(zNF _).imp λ{i i'} h x hx y hy=>?_
   obtain⟨_,_,hx⟩:=QL.1 hx
   obtain⟨_,_,hy⟩:=QL.1 hy
   obtain⟨_,_,rfl⟩:=Qn.1 hx
   obtain⟨_,_,rfl⟩:=Qn.1 hy
   simp at h;simp;omega
  ·refine(zNF _).imp λ{c c'} h x hx y hy=>?_
   obtain⟨_,_,hx⟩:=QL.1 hx
   obtain⟨_,_,hy⟩:=QL.1 hy
   obtain⟨_,_,hx⟩:=QL.1 hx
   obtain⟨_,_,hy⟩:=QL.1 hy
   obtain⟨_,_,rfl⟩:=Qn.1 hx
   obtain⟨_,_,rfl⟩:=Qn.1 hy
   simp at h;simp;omega
 exact key.imp λ{x y} h e=>by subst e;omega
theorem z6w (b:zM)(l:List zF)(i k c:Int): (z3g b l i k c).length≤3:=by grind
theorem zZf (h:l.length≤100): (zYx b l).length≤3000000:=by
 have h1:∀ i k:Int,((yP l k).flatMap λc=>z3g b l i k c).length≤300:=λi k=>by
  have:=zO0 (λc=>z3g b l i k c) 3 (yP l k) λc _=>z6w b l i k c
  have:=zLP l k
  omega
 have h2:∀ i:Int,((wC l.length).flatMap λk=>(yP l k).flatMap λc=>z3g b l i k c).length≤30000:=λi=>by
  have:=zO0 (λk=>(yP l k).flatMap λc=>z3g b l i k c) 300 (wC l.length) λk _=>h1 i k
  rw[tN] at this
  omega
 have:=zO0 (λi=>(wC l.length).flatMap λk=>(yP l k).flatMap λc=>z3g b l i k c) 30000 (wC l.length) λi _=>h2 i
 grind [wC,zYx]
theorem zGC (m:List Int)(x:Int)(hb:m.length<9223372036854775807): zAK m x=some (decide (x∈m)):=by
 obtain⟨r,h1,h2⟩:=z0x m x hb
 unfold zAK zFz
 rw[show zN (zMp m x) 0=some r from h1]
 simp only[zob]
 congr 1
 rw[Wg,h2]
 simp
theorem z7U (h:FormB b l): zFi b l=some (zYx b l):=by
 have hl:=h.len
 have h1:∀ i c:Int,(((wC l.length).filter λk=>decide (c∈yP l k)).flatMap λk=>z3g b l i k c).length≤300:=λi c=>by
  have:=zO0 (λk=>z3g b l i k c) 3 ((wC l.length).filter λk=>decide (c∈yP l k)) λk _=>z6w b l i k c
  have:=Qz (λk=>decide (c∈yP l k)) (wC l.length)
  rw[tN] at this
  omega
 have h2:∀ c:Int,((wC l.length).flatMap λi=>((wC l.length).filter λk=>decide (c∈yP l k)).flatMap λk=>z3g b l i k c).length≤30000:=λc=>by
  have:=zO0 (λi=>((wC l.length).filter λk=>decide (c∈yP l k)).flatMap λk=>z3g b l i k c) 300 (wC l.length) λi _=>h1 i c
  rw[tN] at this
  omega
 have hL:zN (zDG l b) ([],0)=some (z9Q b l):=by
  refine zOC (B:=zDG l b) (wC l.length) (λc=>(wC l.length).flatMap λi=>((wC l.length).filter λk=>decide (c∈yP l k)).flatMap λk=>z3g b l i k c) (λs=>s) 30000 (λc _=>h2 c) [] (λq c s hc hs=>?_) (λs=>?_)
  ·obtain⟨rfl,hq⟩:=zS2 hc
   have hd:decide ((q:Int)<len l)=true:=by simp[len];omega
   simp only[Uq] at hs
   unfold zDG
   simp only[hd,Qf]
   refine(zOC (B:=zDx l b (s,(q:Int))) (wC l.length) (λi=>((wC l.length).filter λk=>decide ((q:Int)∈yP l k)).flatMap λk=>z3g b l i k (q:Int)) (λr=>.inl (r,zH ((q:Int)+1))) 300 (λi _=>h1 i _) s (λu i s' hi hs'=>?_) (λs'=>?_)).trans ?_
   ·obtain⟨rfl,hu⟩:=zS2 hi
    have hd:decide ((u:Int)<len l)=true:=by simp[len];omega
    unfold zDx
    simp only[hd,Qf,att_kinds h (show(0:Int)≤u by omega) (by omega) (show(0:Int)≤q by omega) (by omega),zob,len0]
    cases hk:(zSQ b l u q).isEmpty with
    | true =>
     have:zSQ b l u q=[]:=List.isEmpty_iff.1 hk
     have hz:(((wC l.length).filter λk=>decide ((q:Int)∈yP l k)).flatMap λk=>z3g b l u k (q:Int))=[]:=by
      rw[List.flatMap_eq_nil_iff]
      intro k _
      simp only[z3g,this,List.map_nil]
     simp only[Qf,yJ u (by omega),hz,QF]
    | false =>
     simp only[zbf,Qc]
     rw[zZw]
     refine(zOC (B:=zEA l (s,(q:Int)) (zSQ b l u q) (s',(u:Int))) (wC l.length) (λk=>if decide ((q:Int)∈yP l k) then z3g b l u k (q:Int) else[]) (λr=>.inl (r,zH ((u:Int)+1))) 3 (λk _=>by
      split
      ·exact z6w b l _ _ _
      ·simp) s' (λv k s'' hk2 hs''=>?_) (λs''=>?_)).trans ?_
     ·obtain⟨rfl,hv⟩:=zS2 hk2
      have hd:decide ((v:Int)<len l)=true:=by simp[len];omega
      have hsl:=zLP l v
      unfold zEA
      simp only[hd,Qf,z3C h.toFormA (show(0:Int)≤v by omega) (by omega),zob,zGC (yP l v) q (by omega)]
      cases hm:decide ((q:Int)∈yP l v) with
      | false=>simp only[Ul,Qf,yJ v (by omega),zbf,Qc,QF]
      | true =>
       simp only[QO,zbf,Qc,Qf]
       have hkl:=kinds_len b l u q
       refine(zOC (B:=zHr (zSQ b l u q) (s',(u:Int)) (s'',(v:Int)) (s,(q:Int))) (zSQ b l u q) (λkd=>[((u:Int),(v:Int),(q:Int),kd)]) (λr=>.inl (r,zH ((v:Int)+1))) 1 (λ_ _=>by simp) s'' (λw kd s3 hw hs3=>?_) (λs3=>?_)).trans ?_
       ·have:=vM hw
        unfold zHr
        simp only[wL hw,Qf,qQ hw,zob]
        rw[wD (by rw[Qt];omega)]
        simp only[zob,qV hw (by omega)]
       ·unfold zHr
        simp only[uH,zbf,Qc]
       ·simp only[yJ v (by omega),z3g,List.map_eq_flatMap]
     ·unfold zEA
      have hd:decide (((wC l.length).length:Int)<len l)=false:=by rw[tN];exact uH l
      simp only[hd,zbf,Qc]
     ·simp only[yJ u (by omega)]
   ·unfold zDx
    have hd:decide (((wC l.length).length:Int)<len l)=false:=by rw[tN];exact uH l
    simp only[hd,zbf,Qc]
   ·simp only[yJ q (by omega)]
  ·unfold zDG
   have hd:decide (((wC l.length).length:Int)<len l)=false:=by rw[tN];exact uH l
   simp only[hd,zbf,Qc]
 have hPS:(z9Q b l).Perm (zYx b l):=by
  refine(List.perm_ext_iff_of_nodup (z6P b l) ?_).2 λy=>attsP_mem y
  exact(z5o b l).imp λ{x y} h e=>by subst e;rw[ord4.irrefl] at h;cases h
 unfold zFi
 rw[hL]
 simp only[zob]
 have hlen:=zZf (b:=b) hl
 rw[zXu (by rw[hPS.length_eq];omega)]
 simp only[zob]
 congr 1
 refine List.Perm.eq_of_pairwise (le:=λx y=>lt4 y x=false) (λx y _ _ g1 g2=>?_) (zPF ord4 _) ((z5o b l).imp λh=>ord4.asymm h) ((UU _ _).trans hPS)
 rcases ord4.tri x y with h | h | h
 ·rw[h] at g2;cases g2
 ·exact h
 ·rw[h] at g1;cases g1
noncomputable def z7l (b:zM)(l:List zF)(o:yZ)(y:qX): Bool:=y.2.2.2==3||!z7C b l y.1 y.2.2.1 o
noncomputable def zPD (b:zM)(l:List zF)(o:yZ): List qX:=(zYx b l).filter (z7l b l o)
theorem z0h (h:FormB b l)(o:yZ): zEe b l o=some (zPD b l o):=by
 have hlen:=zZf (b:=b) h.len
 unfold zEe
 rw[z7U h]
 simp only[zob]
 have hd:=zVa (λx=>zCg x b l o) (λx=>x.2.2.2 != 3&&z7C b l x.1 x.2.2.1 o) (0,0,0,0) (zYx b l) (by omega) (λx _=>by
  simp only[zCg]
  cases hx:x.2.2.2 != 3 with
  | true=>simp[lift_Less h]
  | false=>simp)
 rw[show zAV (zYx b l) b l o=z2n (λx=>zCg x b l o) (0,0,0,0) (zYx b l) from rfl,hd]
 simp only[zob,zPD]
 congr 1
 refine U5 λx _=>?_
 simp only[z7l]
 cases hx:x.2.2.2==3 <;> simp[bne,hx]
end
section
section
variable {α ρ:Type}
def z3s (q:α->Bool)(l:List α): Int:=if l.any q then(l.findIdx q:Int) else -1
theorem zSH{B:Int->Option (Int⊕ρ)}(q:α->Bool)(l:List α)(no:ρ)(yes:Int->ρ)(hB:∀(i:Nat) x,l[i]?=some x->B (i:Int)=some (if q x then .inr (yes (i:Int)) else .inl ((i+1:Nat):Int)))(he:B (l.length:Int)=some (.inr no)):
  zN B 0=some (if l.any q then yes (z3s q l) else no):=by
 have key:∀(n i:Nat),i+n=l.length->zN B (i:Int)=some (if(l.drop i).any q then yes ((i+(l.drop i).findIdx q:Nat):Int) else no):=by
  intro n
  induction n with
  | zero =>
   intro i h
   grind [yF]
  | succ n ih =>
   intro i h
   have hx:l[i]?=some l[i]:=Qh (by omega)
   rw[yF,hB i _ hx,Qv (by omega)]
   cases hp:q l[i] with
   | true=>grind
   | false =>
    simp only[zbf,Qc,List.any_cons,hp,UO,List.findIdx_cons,cond_false]
    grind
 have h:=key l.length 0 (by omega)
 grind [z3s]
theorem z2w{q:α->Bool}{l:List α}{i:Nat}{x:α}(hx:l[i]?=some x)(hq:q x=true): 0≤z3s q l∧z3s q l≤i:=by
 have ha:l.any q=true:=Q6.2 ⟨x,wG hx,hq⟩
 rw[z3s,Ql ha]
 grind
theorem z3U{q:α->Bool}{l:List α}(h:0≤z3s q l): ∃(k:Nat) (x:α),z3s q l=(k:Int)∧l[k]?=some x∧q x=true∧∀ j y,j<k->l[j]?=some y->q y=false:=by
 unfold z3s at h ⊢
 split at h
 ·rename_i ha
  rw[Ql ha]
  grind
 ·omega
theorem z8c{q:α->Bool}{l:List α}: z3s q l<0↔l.any q=false:=by
 unfold z3s
 cases h:l.any q
 ·simp
 ·simp
def z0L (e:Nat->α->Int): Nat->List α->Int
 | _,[]=>0
 | i,x::r=>if e i x != 0 then e i x else z0L e (i+1) r
theorem zPw{B:Int->Option (Int⊕ρ)}(l:List α)(e:Nat->α->Int)(yes:Int->ρ)(no:ρ)(hB:∀(i:Nat) x,l[i]?=some x->B (i:Int)=some (if e i x != 0 then .inr (yes (e i x)) else .inl ((i+1:Nat):Int)))(he:B (l.length:Int)=some (.inr no)):
  zN B 0=some (if z0L e 0 l != 0 then yes (z0L e 0 l) else no):=by
 have key:∀(n i:Nat),i+n=l.length->zN B (i:Int)=some (if z0L e i (l.drop i) != 0 then yes (z0L e i (l.drop i)) else no):=by
  intro n
  induction n with
  | zero =>
   intro i h
   grind [yF,z0L]
  | succ n ih =>
   intro i h
   have hx:l[i]?=some l[i]:=Qh (by omega)
   rw[yF,hB i _ hx,Qv (by omega)]
   simp[z0L]
   grind
 have h:=key l.length 0 (by omega)
 grind
theorem z0J{e:Nat->α->Int}: ∀ {l:List α} {k:Nat},z0L e k l=0↔∀(i:Nat) x,l[i]?=some x->e (k+i) x=0
 | [],k=>by simp[z0L]
 | x::r,k=>by
  simp only[z0L]
  constructor
  ·intro h
   cases hx:e k x != 0 with
   | true=>grind
   | false =>
    rw[hx] at h
    intro i y hy
    cases i with
    | zero=>grind
    | succ i=>rw[show k+(i+1)=k+1+i by omega];exact z0J.1 h i y (by grind)
  ·intro h
   have h0:=h 0 x rfl
   rw[QM] at h0
   rw[h0]
   exact z0J.2 λi y hy=>by rw[show k+1+i=k+(i+1) by omega];simp_all
end
abbrev zL9 (n:Int): Bool:=decide (0≤n)&&decide (n≤9)
def tW (p:vE): Int :=
 if p.2.1==1||p.2.1==2||p.2.1==3 then
  if vName p.1.2&&zL9 p.2.2.1&&(p.2.1==2||p.2.2.1==0)&&(p.2.2.2==[]||vName p.2.2.2) then 0 else 1
 else 4
def ascB:List zI->Bool
 | a::b::r=>vA a b&&ascB (b::r)
 | _=>true
def tG (r:qH): Int :=
 if 4<r.2.2.2.1.length then 2
 else if vName r.1&&vName r.2.2.2.2.2&&zL9 r.2.2.1&&(!r.2.1||r.2.2.1==0)&&r.2.2.2.1.all (λx=>vName x.2) then(if ascB r.2.2.2.1 then 0 else 8) else 1
def zPy (b:zM)(nm:zD): Int:=z3s (λr:qH=>r.1==nm) b.2.1
def z1i (b:zM)(x:zI): Int:=z3s (λp:vE=>p.1==x) b.1
def zXl (b:zM)(p:wW): Int :=
 if zL9 p.2.1&&vName p.2.2.2 then(if zPy b p.1<0 then 6 else match zC b.2.1 (zPy b p.1) with | some r=>if r.2.1 then 4 else 0 | none=>0) else 1
def zNj (b:zM): Int :=
 if 16<b.1.length||24<b.2.1.length||8<b.2.2.length then 2
 else
  let e1:=z0L (λi p=>if tW p != 0 then tW p else if z1i b p.1<(i:Int) then 5 else 0) 0 b.1
  if e1 != 0 then e1 else
  let e2:=z0L (λi r=>if tG r != 0 then tG r else if zPy b r.1<(i:Int) then 5 else 0) 0 b.2.1
  if e2 != 0 then e2 else z0L (λ_ p=>zXl b p) 0 b.2.2
theorem z98 (p:vE): zE4 p=some (tW p):=by
 unfold zE4 zDz zFl tW
 simp only[zMd,zSw,zob]
 by_cases k1:p.2.1=1
 ·by_cases h0:p.2.2.1=0
  ·cases vName p.1.2 <;> cases p.2.2.2==[] <;> cases vName p.2.2.2 <;> simp[k1,h0,vH]
  ·simp[k1,h0,vH]
 ·by_cases k3:p.2.1=3
  ·by_cases h0:p.2.2.1=0
   ·cases vName p.1.2 <;> cases p.2.2.2==[] <;> cases vName p.2.2.2 <;> simp[k3,h0,vH]
   ·simp[k3,h0,vH]
  ·by_cases k2:p.2.1=2
   ·cases hr:zL9 p.2.2.1 <;> cases vName p.1.2 <;> cases p.2.2.2==[] <;> cases vName p.2.2.2 <;> simp[k2,vH,hr]
   ·simp[k1,k2,k3,vH]
theorem z6L (p:vE): zLd p=some (tW p):=by
 unfold zLd zJY tW
 simp[zW0,zRU]
 grind
theorem z3t{B:Int->Option (Int⊕Int)}(l:List zI)(hl:l.length<4294967296)
  (hB:∀(i:Nat) x y,l[i]?=some x->l[i+1]?=some y->B ((i+1:Nat):Int)=some (if decide (0≤zRZ x y) then .inr 8 else .inl ((i+1+1:Nat):Int))) (he:∀ k:Nat,l.length≤k->B (k:Int)=some (.inr 0)) :
  zN B 1=some (if ascB l then 0 else 8):=by
 have key:∀(n i:Nat),i+1+n=l.length->zN B ((i+1:Nat):Int)=some (if ascB (l.drop i) then 0 else 8):=by
  intro n
  induction n with
  | zero =>
   intro i h
   rw[yF,he (i+1) (by omega),Qv (by omega),Uf (by omega)]
   rfl
  | succ n ih =>
   intro i h
   have hx:l[i]?=some l[i]:=Qh (by omega)
   have hy:l[i+1]?=some l[i+1]:=Qh (by omega)
   rw[yF,hB i _ _ hx hy,Qv (by omega),Qv (by omega)]
   have hc:decide (0≤zRZ l[i] l[i+1])=!vA l[i] l[i+1]:=by
    unfold zRZ
    cases vA l[i] l[i+1] with
    | true=>simp
    | false =>
     grind
   rw[hc]
   cases hlt:vA l[i] l[i+1] with
   | true =>
    simp only[QO,zbf,Qc]
    rw[ih (i+1) (by omega),Qv (show i+1<l.length by omega)]
    simp[ascB,hlt]
   | false=>simp[ascB,hlt]
 match l,hl,hB,he,key with
 | [],_,_,he,_=>rw[yF,show(1:Int)=((1:Nat):Int) from rfl,he 1 (by simp)];rfl
 | x::r,_,_,_,key=>exact key r.length 0 (by simp;omega)
theorem rb_rule (r:qH): zGz r=some (tG r):=by
 unfold zGz tG
 by_cases h4:4<r.2.2.2.1.length
 ·have:decide (4<len r.2.2.2.1)=true:=by simp[len];omega
  simp only[this,Qf,h4]
 have hr:r.2.2.2.1.length<4294967296:=by omega
 have:decide (4<len r.2.2.2.1)=false:=by simp[len];omega
 simp only[this,zbf,Qc,h4,zSw,zMd,zDz,zob]
 have hc:(if(!vName r.1)=true then some true else if(!vName r.2.2.2.2.2)=true then some true else if(!(decide (0≤r.2.2.1)&&decide (r.2.2.1≤9)))=true then some true else if r.2.1=true then some (r.2.2.1 != 0) else some false)
   = some (!(vName r.1&&vName r.2.2.2.2.2&&zL9 r.2.2.1&&(!r.2.1||r.2.2.1==0))):=by
  cases vName r.1 <;> cases vName r.2.2.2.2.2 <;> cases hk:zL9 r.2.2.1 <;> cases r.2.1 <;> simp[hk,bne]
 rw[hc]
 simp only[zob]
 cases hg:(vName r.1&&vName r.2.2.2.2.2&&zL9 r.2.2.1&&(!r.2.1||r.2.2.1==0)) with
 | false=>simp
 | true =>
  simp only[QO,zbf,Qc,Uw]
  have h1:=zW5 (B:=zE3 r) r.2.2.2.1 (λx=>!vName x.2) (.inr 1:Unit⊕Int) (.inl ()) (λi x hx=>by
   unfold zE3
   simp only[wL hx,Qf,qQ hx,zob,zMd,qV hx hr]
   cases vName x.2 <;> rfl) (by unfold zE3;simp only[uH,zbf,Qc])
  rw[h1]
  have hall:r.2.2.2.1.all (λx=>vName x.2)=!r.2.2.2.1.any (λx=>!vName x.2):=by rw[List.all_eq_not_any_not]
  rw[hall]
  cases r.2.2.2.1.any (λx=>!vName x.2) with
  | true=>rfl
  | false =>
   simp only[vH,zob,zbf,Qc,Ul,Qf]
   refine z3t (B:=zIs r) r.2.2.2.1 hr (λi x y hx hy=>?_) (λk hk=>?_)
   ·unfold zIs
    have e1:zH (((i+1:Nat):Int)-1)=(i:Int):=by have:=vM hy;rw[vJ (by omega) (by omega)];omega
    simp only[wL hy,Qf,qQ hy,e1,qQ hx,zob,zRN,qV hy hr]
    split <;> rfl
   ·unfold zIs
    have:decide ((k:Int)<len r.2.2.2.1)=false:=by simp[len];omega
    simp only[this,zbf,Qc]
theorem ref_rule (r:qH): zPN r=some (tG r):=by
 unfold zPN tG
 by_cases h4:4<r.2.2.2.1.length
 ·grind
 have hr:r.2.2.2.1.length<4294967296:=by omega
 have:decide (4<len r.2.2.2.1)=false:=by simp[len];omega
 simp only[this,zbf,Qc,h4,zRU,zW0,zJY,zob]
 have hc:(if vName r.1=true then if(decide (0≤r.2.2.1)&&decide (r.2.2.1≤9))=true then if(!r.2.1)=true then some (vName r.2.2.2.2.2) else if(r.2.2.1==0)=true then some (vName r.2.2.2.2.2) else some false else some false else some false)
   = some (vName r.1&&vName r.2.2.2.2.2&&zL9 r.2.2.1&&(!r.2.1||r.2.2.1==0)):=by
  cases vName r.1 <;> cases vName r.2.2.2.2.2 <;> cases hk:zL9 r.2.2.1 <;> cases r.2.1 <;> cases hz:r.2.2.1==0 <;> simp[hk]
 rw[hc]
 simp
 have h1:=zEs (B:=zL3 r) r.2.2.2.1 (λs x=>s&&vName x.2) (λs=>s) (λ_ _=>True) (vName r.1&&vName r.2.2.2.2.2&&zL9 r.2.2.1&&(!r.2.1||r.2.2.1==0)) trivial (λi x s hx _=>⟨by
  unfold zL3
  simp only[wL hx,Qf,qQ hx,zob,zW0]
  cases s <;> simp only[zbf,Qc,Qf,zob,qV hx hr,UA,Uw],trivial⟩) (λs _=>by unfold zL3;grind)
 rw[h1.1]
 have hf:∀(l:List zI) (g:Bool),l.foldl (λs x=>s&&vName x.2) g=(g&&l.all (λx=>vName x.2)):=by
  intro l
  induction l with
  | nil=>grind
  | cons x l ih=>grind
 rw[hf]
 cases hg:(vName r.1&&vName r.2.2.2.2.2&&zL9 r.2.2.1&&(!r.2.1||r.2.2.1==0)&&r.2.2.2.1.all (λx=>vName x.2)) with
 | false=>rfl
 | true =>
  refine z3t (B:=zLf r) r.2.2.2.1 hr (λi x y hx hy=>?_) (λk hk=>?_)
  ·unfold zLf
   have e1:zH (((i+1:Nat):Int)-1)=(i:Int):=by have:=vM hy;rw[vJ (by omega) (by omega)];omega
   simp only[wL hy,Qf,qQ hy,e1,qQ hx,zob,z0S,qV hy hr]
   split <;> rfl
  ·unfold zLf
   grind
theorem z09{α:Type}(q:α->Bool)(l:List α): (if l.any q then z3s q l else -1)=z3s q l:=by grind [z3s]
theorem z74 (b:zM)(nm:zD)(h:b.2.1.length<4294967296): zOx b nm=some (zPy b nm):=by
 have:=zSH (B:=zLM b nm) (λr:qH=>r.1==nm) b.2.1 (-1:Int) (λi=>i) (λi x hx=>by
  unfold zLM
  simp[qQ hx,qV hx h]
  grind) (by unfold zLM;grind)
 rw[z09] at this
 exact this
theorem z6e (b:zM)(x:zI)(h:b.1.length<4294967296): zO2 b x=some (z1i b x):=by
 have:=zSH (B:=zIr b x) (λr:vE=>r.1==x) b.1 (-1:Int) (λi=>i) (λi x hx=>by
  unfold zIr
  simp[qQ hx,qV hx h]
  grind) (by unfold zIr;grind)
 rw[z09] at this
 exact this
theorem rb_Find (b:zM)(nm:zD)(h:b.2.1.length<4294967296): zFJ b nm=some (zPy b nm):=by
 have:=zSH (B:=zAv b.2.1 nm) (λr:qH=>r.1==nm) b.2.1 (-1:Int) (λi=>i) (λi x hx=>by
  unfold zAv zMS
  simp only[wL hx,Qf,qQ hx,zob,qV hx h]
  split <;> rfl) (by unfold zAv;simp only[uH,zbf,Qc])
 rw[z09] at this
 unfold zFJ zA7
 rw[this]
 rfl
theorem z9D (b:zM)(x:zI)(h:b.1.length<4294967296): zE8 b x=some (z1i b x):=by
 have:=zSH (B:=zA1 b.1 x) (λr:vE=>r.1==x) b.1 (-1:Int) (λi=>i) (λi x hx=>by
  unfold zA1 zKD
  simp only[wL hx,Qf,qQ hx,zob,qV hx h]
  split <;> rfl) (by unfold zA1;simp only[uH,zbf,Qc])
 rw[z09] at this
 unfold zE8 zAQ
 rw[this]
 rfl
theorem z3q{b:zM}{nm:zD}(h:¬ zPy b nm<0): ∃ r,zC b.2.1 (zPy b nm)=some r:=by
 obtain⟨k,x,h1,h2,_⟩:=z3U (q:=λr:qH=>r.1==nm) (l:=b.2.1) (by unfold zPy at h;omega)
 grind [zPy,zC]
theorem z5W (b:zM)(p:wW)(h:b.2.1.length<4294967296): zD4 b p=some (zXl b p):=by
 unfold zD4 zXl zDz
 simp only[zMd,rb_Find b p.1 h,zob,zL9]
 by_cases hr:(decide (0≤p.2.1)&&decide (p.2.1≤9))=true
 ·simp only[hr,Uw,QO,zbf,Qc]
  cases hv:vName p.2.2.2 with
  | false=>rfl
  | true =>
   simp only[QO,zbf,Qc,zob,Qf]
   by_cases hn:zPy b p.1<0
   ·simp[hn]
   ·obtain⟨r,hr2⟩:=z3q hn
    simp only[hn,decide_false,zbf,Qc,hr2,zob]
    split <;> rfl
 ·rw[Bool.not_eq_true] at hr
  simp only[hr,UA,Ul,Qf,zob,zbf,Qc]
structure Cnt (b:zM): Prop where
 p:b.1.length<4294967296
 r:b.2.1.length<4294967296
 m:b.2.2.length<4294967296
 q:∀ r∈b.2.1,r.2.2.2.1.length<4294967296
structure Cnt3 (b:zM): Prop where
 p:b.1.length<4294967296
 r:b.2.1.length<4294967296
 m:b.2.2.length<4294967296
theorem Cnt.c3{b:zM}(h:Cnt b): Cnt3 b:=⟨h.p,h.r,h.m⟩
theorem z3H{b:zM}(h:Cnt3 b): zIL b=some (zNj b):=by
 unfold zIL zNj
 have h0:(decide (16<len b.1)||(decide (24<len b.2.1)||decide (8<len b.2.2)))=(decide (16<b.1.length)||decide (24<b.2.1.length)||decide (8<b.2.2.length)):=by
  rw[QZ];simp[len];omega
 rw[h0]
 cases hc:(decide (16<b.1.length)||decide (24<b.2.1.length)||decide (8<b.2.2.length)) with
 | true=>simp
 | false =>
  simp only[zbf,Qc]
  rw[zPw (B:=zHo b) b.1 (λi p=>if tW p != 0 then tW p else if z1i b p.1<(i:Int) then 5 else 0) (λe=>(.inr e:Unit⊕Int)) (.inl ()) (λi x hx=>by
   unfold zHo
   simp[qQ hx,z6L,z6e b x.1 h.p,qV hx h.p]
   grind) (by unfold zHo;grind)]
  cases he:z0L (λi p=>if tW p != 0 then tW p else if z1i b p.1<(i:Int) then 5 else 0) 0 b.1 != 0 with
  | true=>simp[vH]
  | false =>
   simp only[zbf,Qc,vH,zob]
   rw[zPw (B:=zHk b) b.2.1 (λi r=>if tG r != 0 then tG r else if zPy b r.1<(i:Int) then 5 else 0) (λe=>(.inr e:Unit⊕Int)) (.inl ()) (λi x hx=>by
    unfold zHk
    simp[qQ hx,ref_rule x,z74 b x.1 h.r,qV hx h.r]
    grind) (by unfold zHk;grind)]
   cases he2:z0L (λi r=>if tG r != 0 then tG r else if zPy b r.1<(i:Int) then 5 else 0) 0 b.2.1 != 0 with
   | true=>simp
   | false =>
    rw[zPw (B:=zH9 b) b.2.2 (λ_ p=>zXl b p) (λe=>e) 0 (λi x hx=>by
     unfold zH9 zXl zJY
     simp only[wL hx,Qf,qQ hx,zob,zW0,z74 b x.1 h.r,qV hx h.m,zL9]
     by_cases hr:(decide (0≤x.2.1)&&decide (x.2.1≤9))=true
     ·simp[hr]
      cases hv:vName x.2.2.2 with
      | false=>rfl
      | true =>
       by_cases hn:zPy b x.1<0
       ·simp[hn]
       ·obtain⟨r,hr2⟩:=z3q hn
        grind
     grind) (by unfold zH9;grind)]
    grind
theorem zYE{b:zM}(h:Cnt3 b): zCU b=some (zNj b):=by
 unfold zCU zNj
 have h0:(decide (16<len b.1)||(decide (24<len b.2.1)||decide (8<len b.2.2)))=(decide (16<b.1.length)||decide (24<b.2.1.length)||decide (8<b.2.2.length)):=by
  rw[QZ];simp[len];omega
 rw[h0]
 cases hc:(decide (16<b.1.length)||decide (24<b.2.1.length)||decide (8<b.2.2.length)) with
 | true=>simp
 | false =>
  simp only[zbf,Qc]
  rw[zPw (B:=zCj b) b.1 (λi p=>if tW p != 0 then tW p else if z1i b p.1<(i:Int) then 5 else 0) (λe=>(.inr e:Unit⊕Int)) (.inl ()) (λi x hx=>by
   unfold zCj
   simp only[wL hx,Qf,qQ hx,zob,z98,z9D b x.1 h.p,qV hx h.p]
   cases hp:tW x != 0 with
   | true=>simp only[Qf,hp]
   | false =>
    by_cases hq:z1i b x.1<(i:Int)
    ·simp[hq]
    ·simp[hq]) (by unfold zCj;simp only[uH,zbf,Qc])]
  cases he:z0L (λi p=>if tW p != 0 then tW p else if z1i b p.1<(i:Int) then 5 else 0) 0 b.1 != 0 with
  | true=>simp[vH]
  | false =>
   simp only[zbf,Qc,vH,zob]
   rw[zPw (B:=zCm b) b.2.1 (λi r=>if tG r != 0 then tG r else if zPy b r.1<(i:Int) then 5 else 0) (λe=>(.inr e:Unit⊕Int)) (.inl ()) (λi x hx=>by
    unfold zCm
    simp only[wL hx,Qf,qQ hx,zob,rb_rule x,rb_Find b x.1 h.r,qV hx h.r]
    cases hp:tG x != 0 with
    | true=>simp only[Qf,hp]
    | false =>
     by_cases hq:zPy b x.1<(i:Int)
     ·simp[hq]
     ·simp[hq]) (by unfold zCm;simp only[uH,zbf,Qc])]
   cases he2:z0L (λi r=>if tG r != 0 then tG r else if zPy b r.1<(i:Int) then 5 else 0) 0 b.2.1 != 0 with
   | true=>simp
   | false =>
    simp only[zbf,Qc,zob]
    rw[zPw (B:=zCk b) b.2.2 (λ_ p=>zXl b p) (λe=>e) 0 (λi x hx=>by
     unfold zCk
     simp only[wL hx,Qf,qQ hx,zob,z5W b x h.r,qV hx h.m]
     split <;> rfl) (by unfold zCk;simp only[uH,zbf,Qc])]
    cases hz:z0L (λ_ p=>zXl b p) 0 b.2.2 != 0 with
    | true=>simp
    | false=>simp only[zbf,Qc];congr 1;exact(by simpa using hz:_=(0:Int)).symm
theorem z56{b:zM}(h:Cnt b): zIL b=some (zNj b):=z3H h.c3
theorem zZZ{b:zM}(h:Cnt b): zCU b=some (zNj b):=zYE h.c3
structure tR (b:zM): Prop where
 np:b.1.length≤16
 nr:b.2.1.length≤24
 nm:b.2.2.length≤8
 prem:∀ p∈b.1,tW p=0
 rule:∀ r∈b.2.1,tG r=0
 dp:∀(i j:Nat) p q,b.1[i]?=some p->b.1[j]?=some q->p.1=q.1->i=j
 dr:∀(i j:Nat) p q,b.2.1[i]?=some p->b.2.1[j]?=some q->p.1=q.1->i=j
 prom:∀ p∈b.2.2,zXl b p=0
theorem z1v{α β:Type}[BEq β][LawfulBEq β](g:α->β)(l:List α): (∀(i:Nat) p,l[i]?=some p->¬ z3s (λx=>g x==g p) l<(i:Int))↔∀(i j:Nat) p q,l[i]?=some p->l[j]?=some q->g p=g q->i=j:=by
 constructor
 ·intro h i j p q hp hq e
  have h3:=(z2w (q:=λx=>g x==g p) hq (by simp[e])).2
  have h4:=(z2w (q:=λx=>g x==g q) hp (by simp[e])).2
  grind
 ·intro h i p hp hlt
  have h1:=z2w (q:=λx=>g x==g p) hp (by simp)
  grind [z3U]
theorem zOB{b:zM}: zNj b=0↔tR b:=by
 have hcnd:∀(a c:Int) (p:Prop) [Decidable p],(if a != 0 then a else if p then 5 else 0)=(0:Int)↔a=0∧¬ p:=λa c p _=>by
  grind
 have h1:z0L (λi p=>if tW p != 0 then tW p else if z1i b p.1<(i:Int) then 5 else 0) 0 b.1=0↔(∀ p∈b.1,tW p=0)∧∀(i j:Nat) p q,b.1[i]?=some p->b.1[j]?=some q->p.1=q.1->i=j:=by
  rw[z0J,←z1v (λp:vE=>p.1)]
  simp only[UB,hcnd _ 0]
  exact⟨λh=>⟨λp hp=>by grind [List.mem_iff_getElem?],λi p hp=>(h i p hp).2⟩,λh i p hp=>⟨h.1 p (wG hp),h.2 i p hp⟩⟩
 have h2:z0L (λi r=>if tG r != 0 then tG r else if zPy b r.1<(i:Int) then 5 else 0) 0 b.2.1=0↔(∀ p∈b.2.1,tG p=0)∧∀(i j:Nat) p q,b.2.1[i]?=some p->b.2.1[j]?=some q->p.1=q.1->i=j:=by
  rw[z0J,←z1v (λp:qH=>p.1)]
  simp only[UB,hcnd _ 0]
  exact⟨λh=>⟨λp hp=>by grind [List.mem_iff_getElem?],λi p hp=>(h i p hp).2⟩,λh i p hp=>⟨h.1 p (wG hp),h.2 i p hp⟩⟩
 have h3:z0L (λ_ p=>zXl b p) 0 b.2.2=0↔∀ p∈b.2.2,zXl b p=0:=by
  rw[z0J]
  exact⟨λh p hp=>by grind [List.mem_iff_getElem?],λh i p hp=>h p (wG hp)⟩
 unfold zNj
 cases hc:(decide (16<b.1.length)||decide (24<b.2.1.length)||decide (8<b.2.2.length)) with
 | true =>
  refine⟨λh=>(by cases h),λh=>?_⟩
  simp at hc
  have:=h.np;have:=h.nr;have:=h.nm
  omega
 | false =>
  simp at hc
  simp only[zbf,Qc]
  constructor
  ·intro h
   have e1:z0L (λi p=>if tW p != 0 then tW p else if z1i b p.1<(i:Int) then 5 else 0) 0 b.1=0:=by
    refine Decidable.byContradiction λhn=>?_
    rw[Ql (by grind)] at h
    exact hn h
   rw[Qi (by grind)] at h
   have e2:z0L (λi r=>if tG r != 0 then tG r else if zPy b r.1<(i:Int) then 5 else 0) 0 b.2.1=0:=by
    refine Decidable.byContradiction λhn=>?_
    rw[Ql (by grind)] at h
    exact hn h
   rw[Qi (by grind)] at h
   exact⟨by omega,by omega,by omega,(h1.1 e1).1,(h2.1 e2).1,(h1.1 e1).2,(h2.1 e2).2,h3.1 h⟩
  ·intro h
   rw[Qi (by rw[h1.2 ⟨h.prem,h.dp⟩];simp),Qi (by rw[h2.2 ⟨h.rule,h.dr⟩];simp)]
   exact h3.2 h.prom
end
section
variable {b:zM}{l m:List zF}
structure FormC (b:zM)(l:List zF): Prop extends FormB b l where
 l41:l.length≤41
 pr:∀(i:Nat) a p,l[i]?=some a->0≤a.1->zC b.1 a.1=some p->a.2.2.2=p.1∧a.2.2.1=[]
 ru:∀(i:Nat) a r,l[i]?=some a->0≤a.2.1->zC b.2.1 a.2.1=some r->a.2.2.2=r.2.2.2.2∧a.2.2.1.length=r.2.2.2.1.length∧∀(j:Nat) k y,a.2.2.1[j]?=some k->r.2.2.2.1[j]?=some y->∃ a',zC l k=some a'∧a'.2.2.2=y
structure Good (b:zM)(l:List zF)(a:zF): Prop where
 p:a.1=-1
 r:∃ q,zC b.2.1 a.2.1=some q∧a.2.2.2=q.2.2.2.2∧a.2.2.1.length=q.2.2.2.1.length∧a.2.2.1.length≤100∧∀(j:Nat) k y,a.2.2.1[j]?=some k->q.2.2.2.1[j]?=some y->∃ a',zC l k=some a'∧a'.2.2.2=y
theorem idx_lt{α:Type}{l:List α}{i:Int}{x:α}(h:zC l i=some x): 0≤i∧i<l.length:=by
 obtain⟨n,rfl,hn⟩:=zTC h
 grind
theorem zXB{α:Type}{l m:List α}{i:Int}{x:α}(h:zC l i=some x): zC (l++m) i=some x:=by
 obtain⟨n,rfl,hn⟩:=zTC h
 rw[tC,Q4 (vM hn)]
 exact hn
theorem zQG{α:Type}{l m:List α}{i:Int}(h1:i<l.length): zC (l++m) i=zC l i:=by grind [zC]
theorem Good.sub{a:zF}(h:Good b l a): ∀ k∈a.2.2.1,0≤k∧k<l.length:=by
 intro k hk
 obtain⟨q,_,_,h3,_,h5⟩:=h.r
 obtain⟨j,hj⟩:=Qp.1 hk
 have hjl:=vM hj
 obtain⟨a',h6,_⟩:=h5 j k _ hj (Qh (by omega))
 exact idx_lt h6
theorem Good.more{a:zF}(h:Good b l a): Good b (l++m) a:=by
 obtain⟨q,h1,h2,h3,h4,h5⟩:=h.r
 exact⟨h.p,q,h1,h2,h3,h4,λj k y hk hy=>by grind [zXB]⟩
theorem FormC.app (h:FormC b l)(hm:∀ a∈m,Good b l a)(hl:l.length+m.length≤41): FormC b (l++m):=by
 have hlen:(l++m).length≤41:=by rw[Qd];exact hl
 have key:∀(i:Nat) a,(l++m)[i]?=some a->(l[i]?=some a∧i<l.length)∨(l.length≤i∧a∈m):=λi a ha=>by
  grind
 refine⟨⟨⟨by omega,λa ha=>?_,λi a ha k hk=>?_⟩,h.np,h.nr,λi a ha=>?_⟩,hlen,λi a p ha h0 hp=>?_,λi a r ha h0 hr=>?_⟩
 ·rcases Qb.1 ha with ha | ha
  ·exact h.nsub a ha
  ·obtain⟨q,_,_,_,h4,_⟩:=(hm a ha).r;exact h4
 ·rcases key i a ha with⟨h1,_⟩ | ⟨h1,h2⟩
  ·exact h.sub i a h1 k hk
  ·have:=(hm a h2).sub k hk;omega
 ·rcases key i a ha with⟨h1,_⟩ | ⟨h1,h2⟩
  ·exact h.kind i a h1
  ·obtain⟨q,h3,_⟩:=(hm a h2).r
   have:=idx_lt h3
   exact .inr ⟨(hm a h2).p,this⟩
 ·rcases key i a ha with⟨h1,_⟩ | ⟨h1,h2⟩
  ·exact h.pr i a p h1 h0 hp
  ·rw[(hm a h2).p] at h0;omega
 ·rcases key i a ha with⟨h1,_⟩ | ⟨h1,h2⟩
  ·obtain⟨g1,g2,g3⟩:=h.ru i a r h1 h0 hr
   grind [zXB]
  ·obtain⟨q,g1,g2,g3,_,g5⟩:=(hm a h2).r
   grind [zXB]
theorem sub_app (h:FormA l){i j:Int}(h0:0≤i)(h1:i<l.length): zUC (l++m) i j↔zUC l i j:=by
 constructor
 ·intro hs
  induction hs with
  | self i=>exact .self i
  | step hi hk _ ih =>
   rw[zQG h1] at hi
   have:=(h.at hi).2.2.2 _ hk
   exact .step hi hk (ih this.1 (by omega))
 ·intro hs
  clear h0 h1
  induction hs with
  | self i=>exact .self i
  | step hi hk _ ih=>exact .step (zXB hi) hk ih
theorem subs_app (h:FormA l)(h':FormA (l++m)){i:Int}(h0:0≤i)(h1:i<l.length): yP (l++m) i=yP l i:=by grind [yA.ext,xP,zS7,zQO,sub_app]
theorem defs_app (h:FormC b l)(h':FormC b (l++m)){i:Int}(h0:0≤i)(h1:i<l.length): xN b (l++m) i=xN b l i:=by
 refine yA.ext xP (z6p _) (z6p _) λy=>?_
 rw[zV2 h.toFormB h0 h1,zV2 h'.toFormB h0 (by grind),subs_app h.toFormA h'.toFormA h0 h1]
 refine exists_congr λj=>and_congr_right λhj=>?_
 have:=((zQO h.toFormA h0 h1 j).1 hj).le h.toFormA h0
 rw[zQG (by omega)]
inductive zSU (b:zM)(l:List zF): Int->zI->Prop
 | here {i:Int} {a:zF}:zC l i=some a->zSU b l i a.2.2.2
 | step {i k:Int} {a:zF} {r:qH} {y:zI}:zC l i=some a->0≤a.2.1->zC b.2.1 a.2.1=some r->r.2.1=true->k∈a.2.2.1->zSU b l k y->zSU b l i y
theorem run_app (h:FormA l){i:Int}{y:zI}(h0:0≤i)(h1:i<l.length): zSU b (l++m) i y↔zSU b l i y:=by
 constructor
 ·intro hs
  induction hs with
  | here hi=>rw[zQG h1] at hi;exact .here hi
  | step hi hr hq hs hk _ ih =>
   rw[zQG h1] at hi
   have:=(h.at hi).2.2.2 _ hk
   exact .step hi hr hq hs hk (ih this.1 (by omega))
 ·intro hs
  clear h0 h1
  induction hs with
  | here hi=>exact .here (zXB hi)
  | step hi hr hq hs hk _ ih=>exact .step (zXB hi) hr hq hs hk ih
structure RunsB (b:zM)(l:List zF): Prop where
 ref:∀ i:Int,0≤i->i<l.length->∃ r,zMQ b l i=some r∧r.length<4294967296∧∀ y,y∈r↔zSU b l i y
structure RunsA (b:zM)(l:List zF): Prop where
 arg:∀ i:Int,0≤i->i<l.length->∃ r,zGG b l i=some r∧r.length<4294967296∧∀ y,y∈r↔zSU b l i y
structure RunSz (b:zM)(l:List zF)(sz:Int->Nat): Prop where
 one:∀ i,1≤sz i
 big:∀ i:Int,0≤i->i<l.length->sz i<4294967296
 step:∀ i a r,zC l i=some a->0≤a.2.1->zC b.2.1 a.2.1=some r->r.2.1=true->1+(a.2.2.1.map sz).sum≤sz i
theorem z6R (f:Int->Nat)(l:List Int)(q:Nat): ((l.take q).map f).sum≤(l.map f).sum:=by
 have h:=congrArg (λx=>(x.map f).sum) (QG q l)
 grind
theorem ref_Run_k{sz:Int->Nat}(h:FormB b l)(hz:RunSz b l sz): ∀(n:Nat) (i:Int),0≤i->i<l.length->i<n->∃ r,zBz n b l i=some r∧r.length≤sz i∧∀ y,y∈r↔zSU b l i y:=by
 intro n
 induction n with
 | zero=>grind
 | succ n ih =>
  intro i h0 h1 h2
  obtain⟨a,ha⟩:=zMJ h0 h1
  obtain⟨hn,_,_,hsub⟩:=h.toFormA.at ha
  have h1z:=hz.one i
  show ∃ r,zHb (zBz n) b l i=some r∧_
  unfold zHb
  simp only[ha,zob]
  have hone:∀(hno:∀ r,0≤a.2.1->zC b.2.1 a.2.1=some r->r.2.1=false) y,y∈[a.2.2.2]↔zSU b l i y:=λhno y=>by
   rw[Qa]
   constructor
   ·rintro rfl;exact .here ha
   ·intro hr
    cases hr with
    | here h1=>grind
    | step h1 h2 h3 h4 _ _=>grind
  by_cases hr:0≤a.2.1
  ·obtain⟨r,hr2⟩:=(h.prem ha).2.1 ((h.prem ha).2.2.1 hr)
   simp only[hr,decide_true,Qf,hr2,zob]
   cases hs:r.2.1 with
   | false =>
    grind
   | true =>
    simp only[Qf]
    have hst:=hz.step i a r ha hr hr2 hs
    have hbig:=hz.big i h0 h1
    refine(uP (B:=zGL l i (zBz n) b) (λq (s:List zI)=>(s,(q:Int))) a.2.2.1 (λq s=>s.length≤1+((a.2.2.1.take q).map sz).sum∧∀ y,y∈s↔y=a.2.2.2∨∃ k∈a.2.2.1.take q,zSU b l k y)
     (λr=>r.length≤sz i∧∀ y,y∈r↔zSU b l i y) (λq k s hk hI=>?_) (λs hI=>?_) [a.2.2.2] (by simp))
    ·obtain⟨g1,g2⟩:=hI
     have hks:=hsub k (wG hk)
     obtain⟨r1,e1,e2,e3⟩:=ih k hks.1 (by omega) (by omega)
     have hq:=z6R sz a.2.2.1 (q+1)
     rw[uL hk,UL,List.sum_append] at hq
     simp only[Ug,List.map_nil,List.sum_cons,List.sum_nil] at hq
     refine .inl ⟨s++r1,?_,?_,λy=>?_⟩
     ·unfold zGL
      simp only[ha,zob,wL hk,Qf,qQ hk,e1]
      rw[wD (by omega)]
      simp[qV hk (show a.2.2.1.length<4294967296 by omega)]
     ·rw[uL hk,UL,List.sum_append,Qd]
      grind
     ·rw[Qb,g2,e3,uL hk]
      grind
    ·obtain⟨g1,g2⟩:=hI
     rw[QC] at g1 g2
     refine⟨s,by unfold zGL;grind,by omega,λy=>?_⟩
     rw[g2]
     constructor
     ·rintro (rfl | ⟨k,h1,h2⟩)
      ·exact .here ha
      ·exact .step ha hr hr2 hs h1 h2
     ·intro hrun
      cases hrun with
      | here h1=>grind
      | step h1 _ _ _ h5 h6=>grind
  ·simp[hr]
   grind
theorem z58{n n':Nat}(b:zM)(l:List zF): n≤n'->∀ i r,zBz n b l i=some r->zBz n' b l i=some r:=by
 have key:∀ n n',n≤n'->∀ i r,zBz n b l i=some r->zBz n' b l i=some r:=by
  intro n
  induction n with
  | zero=>intro n' _ i r h;cases h
  | succ n ih =>
   intro n' hn i r h
   obtain⟨n',rfl⟩:∃ q,n'=q+1:=⟨n' - 1,by omega⟩
   have hle:Le (zHb (zBz n) b l i) (zHb (zBz n') b l i):=by
    have hrec:∀ x,Le (zBz n b l x) (zBz n' b l x):=λx=>⟨λr hr=>ih n' (by omega) x r hr⟩
    unfold zHb
    refine Le.bind (Le.refl _) λx1=>Le.bind (Le.refl _) λs1=>?_
    refine Le.ite ?_ (Le.refl _)
    refine⟨λr hr=>?_⟩
    obtain⟨q,hq⟩:=zPP hr
    refine(Le.lp (B:=zGL l i (zBz n) b) (λs=>?_) q _).el r hq
    unfold zGL
    refine Le.bind (Le.refl _) λx5=>?_
    refine Le.ite ?_ (Le.refl _)
    refine Le.bind (Le.refl _) λx6=>Le.bind (Le.refl _) λx7=>Le.bind (hrec _) λr1=>Le.refl _
   exact hle.el r h
 grind
theorem ref_Run{sz:Int->Nat}(h:FormB b l)(hz:RunSz b l sz){i:Int}(h0:0≤i)(h1:i<l.length): ∃ r,zMQ b l i=some r∧r.length<4294967296∧∀ y,y∈r↔zSU b l i y:=by
 obtain⟨r,e1,e2,e3⟩:=ref_Run_k h hz (i.toNat+1) i h0 h1 (by omega)
 have:=hz.big i h0 h1
 exact⟨r,zQf (i.toNat+1) λm hm=>z58 b l hm i r e1,by omega,e3⟩
theorem z4m (b:zM)(l:List zF)(_h:FormB b l): ∀(n:Nat) (i:Int),zEL n b l i=zBz n b l i:=by
 intro n
 induction n with
 | zero=>intro i;rfl
 | succ n ih =>
  intro i
  have hrec:zEL n=zEL n:=rfl
  show zI2 (zEL n) b l i=zHb (zBz n) b l i
  unfold zI2 zHb
  cases ha:zC l i with
  | none=>rfl
  | some a =>
   simp only[zob]
   congr 1
   funext s1
   split
   ·congr 1
    funext s
    unfold zJr zGL
    simp only[ha,zob,ih]
   ·rfl
theorem arg_run (h:FormB b l)(i:Int): zGG b l i=zMQ b l i:=by
 unfold zGG zMQ
 congr 1
 funext k
 exact z4m b l h k i
theorem runsB{sz:Int->Nat}(h:FormB b l)(hz:RunSz b l sz): RunsB b l :=
 ⟨λ_ h0 h1=>ref_Run h hz h0 h1⟩
theorem runsA{sz:Int->Nat}(h:FormB b l)(hz:RunSz b l sz): RunsA b l :=
 ⟨λ_ h0 h1=>by rw[arg_run h];exact ref_Run h hz h0 h1⟩
open Classical in
noncomputable def cutB (b:zM)(l:List zF)(q:Int)(r:qH)(k:Int): Bool:=if r.2.1 then decide (zSU b l k r.2.2.2.2) else decide (q∈xN b l k)
noncomputable def tQ (b:zM)(l:List zF)(q:Int)(r:qH)(subs:List Int): Bool:=!subs.any (cutB b l q r)
theorem zT6 (h:FormC b l)(h':FormC b (l++m)){q:Int}{r:qH}{subs:List Int}(hs:∀ k∈subs,0≤k∧k<l.length): tQ b (l++m) q r subs=tQ b l q r subs:=by
 unfold tQ
 congr 1
 rw[QZ,Q6,Q6]
 refine exists_congr λk=>and_congr_right λhk=>?_
 have:=hs k hk
 unfold cutB
 rw[defs_app h h' this.1 this.2]
 split
 ·simp;exact run_app h.toFormA this.1 this.2
 grind
theorem ref_in (m:List Int)(x:Int)(hb:m.length<4294967296): zT3 m x=some (decide (x∈m)):=by
 have h:=z8L (B:=zNq m x) m (λy=>y==x) (λi y hy=>by
  unfold zNq
  simp[qQ hy,qV hy hb]
  grind) (by unfold zNq;grind)
 refine h.trans ?_
 grind
theorem z8u (h:FormC b l)(hr:RunsB b l){q:Int}{r:qH}{subs:List Int}(hq:zC b.2.1 q=some r)(hs:∀ k∈subs,0≤k∧k<l.length)(hn:subs.length<4294967296): zI0 b l q subs=some (tQ b l q r subs):=by
 have hl:=h.len
 unfold zI0
 have hL:=zW5 (B:=zJa subs r b l q) subs (cutB b l q r) false true (λi k hk=>?_) (by unfold zJa;grind)
 ·grind [tQ]
 ·have hks:=hs k (wG hk)
  unfold zJa
  simp[qQ hk,qV hk hn]
  unfold cutB
  cases hst:r.2.1 with
  | true =>
   obtain⟨ru,e1,e2,e3⟩:=hr.ref k hks.1 hks.2
   simp[e1,ref_has r.2.2.2.2 (show ru.length<9223372036854775807 by omega)]
   grind
  | false =>
   have hd:=zSY b l k
   simp[z1H h.toFormB hks.1 hks.2,ref_in (xN b l k) q (by omega)]
   grind
theorem z8g (h:FormC b l)(hr:RunsA b l){q:Int}{r:qH}{subs:List Int}(hq:zC b.2.1 q=some r)(hs:∀ k∈subs,0≤k∧k<l.length)(hn:subs.length<4294967296): zEH b l q subs=some (tQ b l q r subs):=by
 have hl:=h.len
 unfold zEH
 have hL:=zW5 (B:=zD6 subs b q l) subs (cutB b l q r) false true (λi k hk=>?_) (by unfold zD6;simp only[uH,zbf,Qc])
 ·rw[hL]
  unfold tQ
  cases subs.any (cutB b l q r) <;> rfl
 ·have hks:=hs k (wG hk)
  unfold zD6
  simp only[wL hk,Qf,qQ hk,zob,qV hk hn,hq]
  unfold cutB
  cases hst:r.2.1 with
  | true =>
   obtain⟨ru,e1,e2,e3⟩:=hr.arg k hks.1 hks.2
   simp only[Qf,e1,zob,z6s r.2.2.2.2 (show ru.length<9223372036854775807 by omega)]
   by_cases hm:zSU b l k r.2.2.2.2
   ·simp[(e3 _).2 hm,hm]
   ·have:¬ r.2.2.2.2∈ru:=λhc=>hm ((e3 _).1 hc)
    simp[this,hm]
  | false =>
   have hd:=zSY b l k
   simp only[zbf,Qc,zUO h.toFormB hks.1 hks.2,zob,zGC (xN b l k) q (by omega)]
   by_cases hm:q∈xN b l k <;> simp[hm]
def tP (l:List zF)(n:Nat): List zI->List Int->List (List Int)
 | [],sofar=>[sofar]
 | y::ys,sofar=>(wC n).flatMap λi=>match zC l i with
  | some a=>if a.2.2.2==y then tP l n ys (sofar++[i]) else[]
  | none=>[]
theorem z3Q (l:List zF)(n:Nat): ∀(ys:List zI) (sofar:List Int),(tP l n ys sofar).length≤n ^ ys.length
 | [],sofar=>by simp[tP]
 | y::ys,sofar=>by
  have:=zO0 (λi=>match zC l i with | some a=>if a.2.2.2==y then tP l n ys (sofar++[i]) else[] | none=>[]) (n ^ ys.length) (wC n) (λi _=>by
   split
   ·split
    ·exact z3Q l n ys _
    ·simp
   ·simp)
  grind [tN,tP]
theorem zU1 (l:List zF)(n:Nat): ∀(ys:List zI) (sofar s:List Int),s∈tP l n ys sofar↔∃ t,s=sofar++t∧t.length=ys.length∧∀(j:Nat) k y,t[j]?=some k->ys[j]?=some y->0≤k∧k<n∧∃ a,zC l k=some a∧a.2.2.2=y
 | [],sofar,s=>by
  simp only[tP,Qa]
  simp_all
 | y::ys,sofar,s=>by
  simp only[tP,QL,xW]
  constructor
  ·rintro ⟨i,hi,hs⟩
   split at hs
   ·rename_i a ha
    split at hs
    ·rename_i hc
     obtain⟨t,h1,h2,h3⟩:=(zU1 l n ys _ s).1 hs
     grind
    ·cases hs
   ·cases hs
  ·rintro ⟨t,h1,h2,h3⟩
   cases t with
   | nil=>simp at h2
   | cons i t =>
    obtain⟨i0,i1,a,ha,hay⟩:=h3 0 i y rfl rfl
    refine⟨i,⟨i0,i1⟩,?_⟩
    simp only[ha]
    rw[Ql (by simp[hay])]
    exact(zU1 l n ys _ s).2 ⟨t,by grind,by grind,λj k z hk hz=>h3 (j+1) k z (by grind) (by grind)⟩
theorem z3B{k:Nat}(hl:l.length≤100){n:Nat}(hn:n≤l.length)(body:List zI)(hb:body.length≤4): ∀(ys:List zI) (sofar:List Int),ys=body.drop sofar.length->sofar.length≤body.length->ys.length<k->zEB k l (n:Int) body sofar=some (tP l n ys sofar):=by
 induction k with
 | zero=>grind
 | succ k ih =>
  intro ys sofar hys hle hk
  show zJo (zEB k) l n body sofar=_
  unfold zJo
  have hyl:ys.length=body.length-sofar.length:=by rw[hys,UE]
  cases ys with
  | nil =>
   have:(len sofar==len body)=true:=by simp[len] at hyl ⊢;omega
   grind [qF,tP]
  | cons y ys =>
   have hlt:sofar.length<body.length:=by simp at hyl;omega
   have:(len sofar==len body)=false:=by rw[QU];simp[len];omega
   simp only[this,zbf,Qc]
   have hy:body[sofar.length]?=some y:=by
    have:=congrArg (·[0]?) hys
    simp only[Uc,UC,QM] at this
    exact this.symm
   have hys2:ys=body.drop (sofar.length+1):=by
    have:=congrArg List.tail hys
    simpa [List.tail_drop] using this
   have hpow:n ^ ys.length≤1000000:=by
    have h1:ys.length≤3:=by simp at hyl;omega
    calc n ^ ys.length≤100 ^ ys.length:=Nat.pow_le_pow_left (by omega) _
     _≤100 ^ 3:=US (by omega) h1
   refine(zOC (B:=zG7 n l body sofar (zEB k)) (wC n) (λi=>match zC l i with | some a=>if a.2.2.2==y then tP l n ys (sofar++[i]) else[] | none=>[]) (λs=>s) 1000000 (λi _=>by
    split
    ·split
     ·exact QD (z3Q l n ys _) hpow
     ·simp
    ·simp) [] (λq i s hi hs=>?_) (λs=>?_))
   ·obtain⟨rfl,hq⟩:=zS2 hi
    obtain⟨a,ha⟩:=zMJ (l:=l) (show(0:Int)≤q by omega) (by omega)
    have hd:decide ((q:Int)<(n:Int))=true:=by simp;omega
    have hw:zH ((q:Int)+1)=((q+1:Nat):Int):=yJ q (by omega)
    unfold zG7
    simp only[hd,Qf,ha,zob,show zC body (len sofar)=some y from by exact hy]
    cases hc:a.2.2.2==y with
    | false=>grind
    | true =>
     simp only[Qf]
     rw[zNJ (by simp) (by simp)]
     simp only[zob,len,Qj,QC]
     rw[wD (by simp;omega)]
     simp only[zob]
     have hcl:=QD (z3Q l n ys (sofar++[(q:Int)])) hpow
     rw[ih ys (sofar++[(q:Int)]) (by grind) (by simp;omega) (by grind)]
     simp
     simp at hs
     rw[wD (by omega)]
     grind
   ·unfold zG7
    have hd:decide (((wC n).length:Int)<(n:Int))=false:=by rw[tN];simp
    grind
theorem z6o (hl:l.length≤100){n:Nat}(hn:n≤l.length)(body:List zI)(hb:body.length≤4): zMU l (n:Int) body []=some (tP l n body []) :=
 zQf 5 λk hk=>z3B hl hn body hb body [] (by simp) (by simp) (by omega)
theorem chS_app{n:Nat}(hn:n≤l.length): ∀(ys:List zI) (sofar:List Int),tP (l++m) n ys sofar=tP l n ys sofar
 | [],_=>rfl
 | y::ys,sofar=>by
  have key:∀ is:List Int,(∀ i∈is,0≤i∧i<n)->is.flatMap (λi=>match zC (l++m) i with | some a=>if a.2.2.2==y then tP (l++m) n ys (sofar++[i]) else[] | none=>[])=is.flatMap (λi=>match zC l i with | some a=>if a.2.2.2==y then tP l n ys (sofar++[i]) else[] | none=>[]):=by
   intro is
   induction is with
   | nil=>grind
   | cons i is ih =>
    intro h
    have h1:=h i Qq
    rw[Wr,Wr,ih λj hj=>h j (Qo _ hj),zQG (by omega)]
    congr 1
    split
    ·split
     ·exact chS_app hn ys _
     ·rfl
    ·rfl
  exact key _ λi hi=>xW.1 hi
theorem z91 (subs:List Int)(f:Int)(h:subs.length<4294967296): zP8 subs f=some (subs.any λk=>decide (f≤k)) :=
 z8L (B:=zJk subs f) subs (λk=>decide (f≤k)) (λi k hk=>by
  unfold zJk
  simp[qQ hk,qV hk h]
  grind) (by unfold zJk;grind)
end
section
variable {b:zM}{l m:List zF}
structure tJ (b:zM)(l:List zF): Prop extends FormC b l where
 cut:∀(i:Nat) a r,l[i]?=some a->0≤a.2.1->zC b.2.1 a.2.1=some r->tQ b l a.2.1 r a.2.2.1=true
def gsz (c:Nat): Nat->Nat
 | 0=>1
 | n+1=>1+c*gsz c n
theorem gsz_pos (c:Nat): ∀ n,1≤gsz c n
 | 0=>Qr _
 | n+1=>by rw[gsz];omega
theorem gsz_suc (c n:Nat)(h:1≤c): gsz c n≤gsz c (n+1):=by
 rw[gsz]
 have:=Nat.le_mul_of_pos_left (gsz c n) h
 omega
theorem zZT{c m n:Nat}(h:1≤c)(hm:m≤n): gsz c m≤gsz c n:=by
 induction hm with
 | refl=>exact Qr _
 | step _ ih=>exact QD ih (gsz_suc c _ h)
structure zQm (b:zM)(D:List zI)(c:Nat): Prop where
 valid:tR b
 rule:∀ r∈b.2.1,r.2.2.2.2∈D∧r.2.2.2.1.length≤c
 c1:1≤c
 sz:gsz c D.length<4294967296
theorem zVl{r:qH}(h:tG r=0): r.2.2.2.1.length≤4:=by
 unfold tG at h
 grind
theorem zQm.body{D:List zI}{c:Nat}(h:zQm b D c){q:Int}{r:qH}(hq:zC b.2.1 q=some r): r.2.2.2.1.length≤4:=by
 obtain⟨n,rfl,hn⟩:=zTC hq
 exact zVl (h.valid.rule r (wG hn))
theorem FormC.ruI (h:FormC b l){i:Int}{a:zF}(ha:zC l i=some a){r:qH}(h0:0≤a.2.1)(hr:zC b.2.1 a.2.1=some r): a.2.2.2=r.2.2.2.2∧a.2.2.1.length=r.2.2.2.1.length∧∀(j:Nat) k y,a.2.2.1[j]?=some k->r.2.2.2.1[j]?=some y->∃ a',zC l k=some a'∧a'.2.2.2=y:=by
 obtain⟨n,rfl,hn⟩:=zTC ha
 exact h.ru n a r hn h0 hr
theorem tJ.cutI (h:tJ b l){i:Int}{a:zF}(ha:zC l i=some a){r:qH}(h0:0≤a.2.1)(hr:zC b.2.1 a.2.1=some r): tQ b l a.2.1 r a.2.2.1=true:=by
 obtain⟨n,rfl,hn⟩:=zTC ha
 exact h.cut n a r hn h0 hr
theorem z87{α:Type}{p q:α->Bool}: ∀(D:List α),(∀ x,p x=true->q x=true)->∀ x∈D,q x=true->p x=false->(D.filter p).length<(D.filter q).length
 | [],_,x,hx,_,_=>by cases hx
 | d::D,h,x,hx,h1,h2=>by
  have hle:(D.filter p).length≤(D.filter q).length:=by
   rw[←List.countP_eq_length_filter,←List.countP_eq_length_filter]
   exact List.countP_mono_left λy _=>h y
  rcases Qw.1 hx with rfl | hx
  ·grind
  ·have ih:=z87 D h x hx h1 h2
   grind
theorem z4y (f:Int->Nat)(c:Nat): ∀(l:List Int),(∀ k∈l,f k≤c)->(l.map f).sum≤l.length*c
 | [],_=>by simp
 | k::l,h=>by
  have h1:=h k Qq
  have h2:=z4y f c l λj hj=>h j (Qo _ hj)
  simp[Q1]
  omega
open Classical in
noncomputable def runN (b:zM)(l:List zF)(D:List zI)(i:Int): Nat:=(D.filter λy=>decide (zSU b l i y)).length
open Classical in
theorem runSz{D:List zI}{c:Nat}(hs:zQm b D c)(h:tJ b l): RunSz b l λi=>gsz c (runN b l D i):=by
 refine⟨λi=>gsz_pos _ _,λi _ _=>?_,λi a r ha h0 hr hst=>?_⟩
 ·exact Nat.lt_of_le_of_lt (zZT hs.c1 (Qz _ _)) hs.sz
 ·have hcut:=h.cutI ha h0 hr
  obtain⟨g1,g2,_⟩:=h.toFormC.ruI ha h0 hr
  obtain⟨n,hn1,hn2⟩:=zTC hr
  obtain⟨hD,hc⟩:=hs.rule r (wG hn2)
  have hlt:∀ k∈a.2.2.1,runN b l D k<runN b l D i:=λk hk=>by
   refine z87 D (λy hy=>?_) r.2.2.2.2 hD ?_ ?_
   ·exact Qy (zSU.step ha h0 hr hst hk (of_decide_eq_true hy))
   ·exact Qy (by have:=zSU.here (b:=b) ha;grind)
   grind [tQ,cutB]
  cases hv:a.2.2.1 with
  | nil=>exact gsz_pos _ _
  | cons k ks =>
   rw[←hv]
   have hpos:0<runN b l D i:=by have:=hlt k (by grind);omega
   obtain⟨u,hu⟩:∃ u,runN b l D i=u+1:=⟨runN b l D i-1,by omega⟩
   have hsum:=z4y (λk=>gsz c (runN b l D k)) (gsz c u) a.2.2.1 λk hk=>zZT hs.c1 (by have:=hlt k hk;omega)
   have h3:a.2.2.1.length*gsz c u≤c*gsz c u:=QQ _ (by grind)
   simp[hu,gsz]
   omega
theorem tJ.runs{D:List zI}{c:Nat}(h:tJ b l)(hs:zQm b D c): RunsB b l:=runsB h.toFormB (runSz hs h)
theorem tJ.app (h:tJ b l)(hm:∀ a∈m,Good b l a∧∀ r,zC b.2.1 a.2.1=some r->tQ b l a.2.1 r a.2.2.1=true)(hl:l.length+m.length≤41): tJ b (l++m):=by
 have h':=h.toFormC.app (λa ha=>(hm a ha).1) hl
 refine⟨h',λi a r ha h0 hr=>?_⟩
 by_cases hi:i<l.length
 ·rw[Q4 hi] at ha
  rw[zT6 h.toFormC h' λk hk=>by have:=h.sub i a ha k hk;omega]
  exact h.cut i a r ha h0 hr
 ·rw[Uj (by omega)] at ha
  obtain⟨g1,g2⟩:=hm a (wG ha)
  rw[zT6 h.toFormC h' g1.sub]
  grind
def zW6 (f:Int)(first:Bool)(s:List Int): Bool:=s.any (λk=>decide (f≤k))||(first&&s.isEmpty)
noncomputable def zLC (b:zM)(l:List zF)(f:Int)(first:Bool)(q:Int): List zF :=
 match zC b.2.1 q with
 | some r=>((tP l l.length r.2.2.2.1 []).filter λs=>zW6 f first s&&tQ b l q r s).map λs=>(-1,q,s,r.2.2.2.2)
 | none=>[]
noncomputable def xH (b:zM)(l:List zF)(f:Int)(first:Bool): List zF:=(wC b.2.1.length).flatMap (zLC b l f first)
noncomputable def zUR (b:zM): Nat->List zF->Int->Bool->Option (List zF)
 | 0,_,_,_=>none
 | k+1,l,f,first =>
  if 40<(l++xH b l f first).length then none
  else if xH b l f first=[] then some l
  else zUR b k (l++xH b l f first) l.length false
def zRp (b:zM): List zF:=b.1.mapIdx λi p=>((i:Int),-1,[],p.1)
theorem z2J{f:Int}{first:Bool}{a:zF}: a∈xH b l f first↔a.1=-1∧∃ r,zC b.2.1 a.2.1=some r∧a.2.2.2=r.2.2.2.2∧zW6 f first a.2.2.1=true∧tQ b l a.2.1 r a.2.2.1=true∧a.2.2.1.length=r.2.2.2.1.length∧∀(j:Nat) k y,a.2.2.1[j]?=some k->r.2.2.2.1[j]?=some y->∃ a',zC l k=some a'∧a'.2.2.2=y:=by
 unfold xH zLC
 simp only[QL,xW]
 constructor
 ·rintro ⟨q,hq,ha⟩
  cases hr:zC b.2.1 q with
  | none=>grind
  | some r =>
   rw[hr] at ha
   obtain⟨s,hs,rfl⟩:=Qn.1 ha
   obtain⟨hs1,hs2⟩:=Qk.1 hs
   obtain⟨t,rfl,ht1,ht2⟩:=(zU1 l l.length r.2.2.2.1 [] s).1 hs1
   grind
 ·rintro ⟨h1,r,hr,h2,h3,h4,h5,h6⟩
  refine⟨a.2.1,by have:=idx_lt hr;omega,?_⟩
  rw[hr]
  refine Qn.2 ⟨a.2.2.1,Qk.2 ⟨(zU1 l l.length r.2.2.2.1 [] _).2 ⟨a.2.2.1,rfl,h5,λj k y hk hy=>?_⟩,by grind⟩,?_⟩
  ·grind [zC]
  grind
theorem z2M{D:List zI}{c:Nat}(hs:zQm b D c){f:Int}{first:Bool}: ∀ a∈xH b l f first,Good b l a∧∀ r,zC b.2.1 a.2.1=some r->tQ b l a.2.1 r a.2.2.1=true:=λa ha=>by
 obtain⟨h1,r,hr,h2,h3,h4,h5,h6⟩:=z2J.1 ha
 refine⟨⟨h1,r,hr,h2,h5,?_,h6⟩,λr' hr'=>?_⟩
 ·have:=hs.body hr;omega
 grind
theorem tJ.round{D:List zI}{c:Nat}(h:tJ b l)(hs:zQm b D c){f:Int}{first:Bool}(hl:(l++xH b l f first).length≤41): tJ b (l++xH b l f first) :=
 h.app (z2M hs) (by grind)
theorem zMn (b:zM): (zRp b).length=b.1.length:=by simp[zRp]
theorem zPO{i:Nat}{a:zF}(h:(zRp b)[i]?=some a): ∃ p,b.1[i]?=some p∧a=((i:Int),-1,[],p.1):=by
 unfold zRp at h
 grind
theorem zXI (h:tR b): tJ b (zRp b):=by
 have hl:=zMn b
 have hn:=h.np
 have hr:=h.nr
 refine⟨⟨⟨⟨by omega,λa ha=>?_,λi a ha=>?_⟩,by omega,by omega,λi a ha=>?_⟩,by omega,λi a p ha h0 hp=>?_,λi a r ha h0 hr=>?_⟩,λi a r ha h0 hr=>?_⟩
 ·obtain⟨i,hi⟩:=Qp.1 ha
  obtain⟨p,_,rfl⟩:=zPO hi
  simp
 ·obtain⟨p,_,rfl⟩:=zPO ha
  grind
 ·obtain⟨p,h1,rfl⟩:=zPO ha
  grind
 ·obtain⟨p',h1,rfl⟩:=zPO ha
  rw[tC,h1] at hp
  grind
 ·obtain⟨p',h1,rfl⟩:=zPO ha
  grind
 ·obtain⟨p',h1,rfl⟩:=zPO ha
  grind
theorem zZi{D:List zI}{c:Nat}(hs:zQm b D c): ∀(k:Nat) (l:List zF) (f:Int) (first:Bool) (x:List zF),tJ b l->l.length≤40->zUR b k l f first=some x->tJ b x∧x.length≤40
 | 0,_,_,_,_,_,_,h=>by cases h
 | k+1,l,f,first,x,h,hl,hx=>by
  unfold zUR at hx
  split at hx
  ·cases hx
  ·split at hx
   ·grind
   ·exact zZi hs k _ _ _ x (h.round hs (by omega)) (by omega) hx
theorem z7Y{α β σ ρ:Type}{B:σ->Option (σ⊕ρ)}(xs:List α)(h:α->List β)(st:List β->Int->σ)(e:ρ)(fin:List β->ρ)(N:Nat)(acc:List β)(h0:acc.length≤N)
  (hB:∀(q:Nat) x n,xs[q]?=some x->n=(xs.take q).flatMap h->(acc++n).length≤N->B (st (acc++n) q)=some (if N<(acc++(n++h x)).length then .inr e else .inl (st (acc++(n++h x)) ((q+1:Nat):Int))))
  (hE:(acc++xs.flatMap h).length≤N->B (st (acc++xs.flatMap h) (xs.length:Int))=some (.inr (fin (acc++xs.flatMap h)))) :
  zN B (st acc 0)=some (if N<(acc++xs.flatMap h).length then e else fin (acc++xs.flatMap h)):=by
 have key:∀(n i:Nat),i+n=xs.length->(acc++(xs.take i).flatMap h).length≤N->zN B (st (acc++(xs.take i).flatMap h) (i:Int))=some (if N<(acc++xs.flatMap h).length then e else fin (acc++xs.flatMap h)):=by
  intro n
  induction n with
  | zero =>
   intro i hi hn
   subst hi
   rw[QC] at hn ⊢
   rw[yF,hE hn,Qi (by omega)]
  | succ n ih =>
   intro i hi hn
   have hx:xs[i]?=some xs[i]:=Qh (by omega)
   have ht:(xs.take (i+1)).flatMap h=(xs.take i).flatMap h++h xs[i]:=by rw[uL hx,UI,List.flatMap_singleton]
   rw[yF,hB i _ _ hx rfl hn,←ht]
   by_cases hN:N<(acc++(xs.take (i+1)).flatMap h).length
   ·have:(acc++(xs.take (i+1)).flatMap h).length≤(acc++xs.flatMap h).length:=by
     conv=>rhs;rw[←QG (i+1) xs,UI]
     simp only[Qd]
     omega
    grind
   grind
 have:=key xs.length 0 (by omega) (by grind)
 grind
end
section
variable {b:zM}{l:List zF}{D:List zI}{c:Nat}
def ansB:Option (List zF)->List zF×Int
 | some x=>(x,0)
 | none=>([],2)
theorem z4B (h:tR b): zN (zHw b) (([]:List zF),0)=some (zRp b):=by
 have hn:=h.np
 have:=zOC (B:=zHw b) (zRp b) (λa=>[a]) (λs=>s) 1 (λ_ _=>by simp) [] (λi a s hi hs=>by
  obtain⟨p,hp,rfl⟩:=zPO hi
  unfold zHw
  simp only[wL hp,Qf,qQ hp,zob]
  rw[wD (by grind)]
  simp[qV hp (by omega)]) (λs=>by
  unfold zHw
  rw[zMn]
  grind)
 rw[this]
 simp
theorem z4A (hs:zQm b D c)(h:tJ b l)(hl:l.length≤40){f:Int}{r:Nat}{q:Nat}(hq:q<b.2.1.length)(n:List zF)(hn:(l++n).length≤40)(hf:tJ b (l++n))
  {ru:qH} (hr:zC b.2.1 (q:Int)=some ru) :
  zN (zIC (tP l l.length ru.2.2.2.1 []) (l,f,(r:Int)) b (l++n,(q:Int))) (l++n,0) =
   some (if 40<(l++(n++zLC b l f (decide (r≤1)) q)).length then .inr (.inr (([]:List zF),2)) else .inl (l++(n++zLC b l f (decide (r≤1)) q),((q+1:Nat):Int))):=by
 have hb:=hs.body hr
 have hcl:(tP l l.length ru.2.2.2.1 []).length<4294967296:=by
  have h1:=z3Q l l.length ru.2.2.2.1 []
  have h2:l.length ^ ru.2.2.2.1.length≤100 ^ 4:=QD (Nat.pow_le_pow_left (by omega) _) (US (by omega) hb)
  have h3:(100:Nat) ^ 4=100000000:=rfl
  omega
 have hnr:=hs.valid.nr
 have key:=z7Y (B:=zIC (tP l l.length ru.2.2.2.1 []) (l,f,(r:Int)) b (l++n,(q:Int))) (tP l l.length ru.2.2.2.1 [])
  (λs=>if zW6 f (decide (r≤1)) s&&tQ b l q ru s then[((-1:Int),(q:Int),s,ru.2.2.2.2)] else[]) (λs i=>(s,i))
  (.inr (.inr (([]:List zF),2))) (λs=>.inl (s,((q+1:Nat):Int))) 40 (l++n) hn (λi s acc hi hacc hlen=>?_) (λ_=>?_)
 ·have:(tP l l.length ru.2.2.2.1 []).flatMap (λs=>if zW6 f (decide (r≤1)) s&&tQ b l q ru s then[((-1:Int),(q:Int),s,ru.2.2.2.2)] else[])=zLC b l f (decide (r≤1)) q:=by
   unfold zLC
   rw[hr]
   rw[←zZw]
   rw[←List.map_eq_flatMap]
  grind
 ·have hs1:=(zU1 l l.length ru.2.2.2.1 [] s).1 (wG hi)
  obtain⟨t,ht,htl,htm⟩:=hs1
  rw[QI] at ht
  subst ht
  have hsub:∀ k∈s,0≤k∧k<l.length:=λk hk=>by
   obtain⟨j,hj⟩:=Qp.1 hk
   have:=vM hj
   have:=htm j k _ hj (Qh (by omega))
   omega
  have hnow:tJ b (l++n++acc):=by
   refine hf.app (λa ha=>?_) (by grind)
   rw[hacc] at ha
   obtain⟨s',hs',ha⟩:=QL.1 ha
   split at ha
   ·rename_i hc
    rw[QA] at hc
    simp at ha
    subst ha
    obtain⟨t,ht,htl,htm⟩:=(zU1 l l.length ru.2.2.2.1 [] s').1 (UF hs')
    subst ht
    have hg:Good b l ((-1:Int),(q:Int),s',ru.2.2.2.2):=⟨rfl,ru,hr,rfl,htl,by grind,λj k y hk hy=>(htm j k y hk hy).2.2⟩
    refine⟨hg.more,λr' hr'=>?_⟩
    rw[hr] at hr'
    cases hr'
    rw[zT6 h.toFormC hf.toFormC hg.sub]
    exact hc.2
   ·cases ha
  have hw:zI0 b (l++n++acc) q s=some (tQ b l q ru s):=by
   rw[z8u hnow.toFormC (hnow.runs hs) hr (λk hk=>by grind) (by omega)]
   rw[Qs,zT6 h.toFormC (by rw[←Qs];exact hnow.toFormC) hsub]
  unfold zIC
  simp only[wL hi,Qf,qQ hi,zob,qV hi hcl]
  rw[z91 s f (by omega)]
  simp only[zob,hw,hr]
  have hdec:(if(!s.any λk=>decide (f≤k))=true then(if decide (1<(r:Int))=true then some true else if decide (0<len s)=true then some true else some (!tQ b l q ru s)) else some (!tQ b l q ru s))=some (!(zW6 f (decide (r≤1)) s&&tQ b l q ru s)):=by
   unfold zW6
   cases ha:s.any λk=>decide (f≤k) with
   | true=>simp
   | false =>
    by_cases h1:r≤1
    ·cases s with
     | nil=>grind
     | cons k s=>grind
    grind
  rw[hdec]
  simp only[zob]
  cases hc:zW6 f (decide (r≤1)) s&&tQ b l q ru s with
  | false =>
   grind
  | true =>
   rw[wD (by grind)]
   grind
 ·unfold zIC
  simp[yJ q (by omega)]
theorem z4i (hs:zQm b D c)(h:tJ b l)(hl:l.length≤40){f:Int}{r:Nat}(hr:r<1000):
  zN (zIA b (l,f,(r:Int))) (l,0) =
   some (if 40<(l++xH b l f (decide (r≤1))).length then .inr (([]:List zF),2) else .inl (l++xH b l f (decide (r≤1)),(l.length:Int),((r+1:Nat):Int))):=by
 refine z7Y (B:=zIA b (l,f,(r:Int))) (wC b.2.1.length) (zLC b l f (decide (r≤1))) (λs i=>(s,i)) (.inr (([]:List zF),2)) (λs=>.inl (s,(l.length:Int),((r+1:Nat):Int))) 40 l hl (λq x n hq hn hlen=>?_) (λ_=>?_)
 ·obtain⟨rfl,hqn⟩:=zS2 hq
  obtain⟨ru,hru⟩:=zMJ (l:=b.2.1) (j:=(q:Int)) (by omega) (by omega)
  have hd:decide ((q:Int)<len b.2.1)=true:=by simp[len];omega
  have hf:tJ b (l++n):=by
   refine h.app (λa ha=>z2M hs a ?_ (f:=f) (first:=decide (r≤1))) (by grind)
   rw[hn] at ha
   obtain⟨q',hq',ha⟩:=QL.1 ha
   exact QL.2 ⟨q',UF hq',ha⟩
  unfold zIA
  simp only[hd,Qf,hru,zob]
  have hch:=z6o (l:=l++n) (n:=l.length) (by omega) (by simp) ru.2.2.2.1 (hs.body hru)
  rw[show len l=((l.length:Nat):Int) from rfl,hch]
  simp only[zob]
  rw[chS_app (Qr _),z4A hs h hl hqn n hlen hf hru]
 ·unfold zIA
  have hd:decide (((wC b.2.1.length).length:Int)<len b.2.1)=false:=by rw[tN];simp[len]
  simp only[hd,zbf,Qc,yJ r (by omega)]
theorem z4I (hs:zQm b D c): ∀(k:Nat) (l:List zF) (f:Int) (r:Nat),tJ b l->l.length≤40->41≤l.length+k->r+k≤900->1≤r->(r=1∨f<l.length)->
  zN (zFh b) (l,f,(r:Int))=some (ansB (zUR b k l f (decide (r≤1)))):=by
 intro k
 induction k with
 | zero=>grind
 | succ k ih =>
  intro l f r h hl hk hr h1 hgo
  have hc:(((r:Int)==1)||decide (f<len l))=true:=by
   rw[Uv]
   rcases hgo with rfl | hgo
   ·grind
   ·grind
  have hstep:zFh b (l,f,(r:Int))=some (if 40<(l++xH b l f (decide (r≤1))).length then .inr (([]:List zF),2) else .inl (l++xH b l f (decide (r≤1)),(l.length:Int),((r+1:Nat):Int))):=by
   unfold zFh
   simp only[hc,Qf]
   exact z4i hs h hl (by omega)
  rw[yF,hstep]
  unfold zUR
  by_cases hlim:40<(l++xH b l f (decide (r≤1))).length
  ·simp only[Ql hlim]
   rfl
  ·simp only[Qi hlim]
   by_cases hn:xH b l f (decide (r≤1))=[]
   ·rw[Ql hn,hn,QF]
    have hstep2:zFh b (l,(l.length:Int),((r+1:Nat):Int))=some (.inr (l,0)):=by
     unfold zFh
     have hc2:((((r+1:Nat):Int)==1)||decide ((l.length:Int)<len l))=false:=by
      rw[Un]
      exact⟨by grind,by simp⟩
     simp only[hc2,zbf,Qc]
    rw[yF,hstep2]
    rfl
   ·have hpos:0<(xH b l f (decide (r≤1))).length:=QY.2 hn
    have:=ih (l++xH b l f (decide (r≤1))) l.length (r+1) (h.round hs (by omega)) (by omega) (by grind) (by omega) (by omega) (.inr (by grind))
    grind [decide]
theorem zPI (h:tR b): Cnt b:=by
 have h1:=h.np
 have h2:=h.nr
 have h3:=h.nm
 exact⟨by omega,by omega,by omega,λr hr=>by have:=zVl (h.rule r hr);omega⟩
noncomputable def zQe (b:zM): Option (List zF):=zUR b 50 (zRp b) 0 true
theorem ref_Build (hs:zQm b D c): zJw b=some (ansB (zQe b)):=by
 unfold zJw
 rw[z56 (zPI hs.valid),zOB.2 hs.valid]
 rw[z4B hs.valid]
 have hn:=hs.valid.np
 exact z4I hs 50 (zRp b) 0 1 (zXI hs.valid) (by rw[zMn];omega) (by omega) (by omega) (by omega) (.inl rfl)
end
section
theorem keep_Lits{s:uU}{m n:Int}(h:uX s)(h0:0≤m)(hm:m≤1000000)(h1:1≤n)(h2:n≤26): ∃(l:List zI) (k:Int),zHp s m n=some (l,k)∧(l.length:Int)≤m∧(∀ x∈l,∃ j:Nat,(j:Int)<n∧x.2=zTK j)∧uX (s.1,k):=by
 obtain⟨v,k,hr,hv0,hv1,hk⟩:=zNf (n:=m+1) h (by omega) (by omega)
 unfold zHp
 rw[vJ (x:=m+1) (by omega) (by omega),hr]
 obtain⟨r,h3,h4⟩:=zO5 (B:=zIc s n) (λt=>0≤t.2.1∧(t.1.length:Int)+t.2.1=v∧(∀ x∈t.1,∃ j:Nat,(j:Int)<n∧x.2=zTK j)∧uX (s.1,t.2.2)) (λt=>t.2.1.toNat)
  (λr=>(r.1.length:Int)≤m∧(∀ x∈r.1,∃ j:Nat,(j:Int)<n∧x.2=zTK j)∧uX (s.1,r.2)) (λt ht=>by
   obtain⟨l,q,k⟩:=t
   obtain⟨t1,t2,t3,t4⟩:=ht
   dsimp only at t1 t2 t3 t4
   unfold zIc
   by_cases hq:0<q
   ·obtain⟨g,j,k',h5,hj,hk'⟩:=zPH t4 h1 h2
    refine .inl ⟨(l++[(g,zTK j)],q-1,k'),?_,⟨by grind,by simp;omega,λx hx=>?_,hk'⟩,by grind⟩
    ·simp[hq,h5]
     rw[wD (by simp;omega),vJ (by omega) (by omega)]
     rfl
    grind
   ·refine .inr ⟨(l,k),by simp[hq],by grind,t3,t4⟩) (([]:List zI),v,k) ⟨hv0,by simp,by simp,hk⟩
 grind
theorem sorted_at (s:List zI)(hs:s.length<1000000)(x:zI)(n:Int): ∃ k:Nat,zN (zIQ (s,n) x) 0=some (k:Int)∧k≤s.length∧(∀ j y,j<k->s[j]?=some y->vA y x=true)∧∀ y,s[k]?=some y->vA y x=false:=by
 obtain⟨r,h1,k,h2,h3⟩:=uP (B:=zIQ (s,n) x) (λi (_:Unit)=>(i:Int)) s (λi _=>∀ j y,j<i->s[j]?=some y->vA y x=true)
  (λr=>∃ k:Nat,r=(k:Int)∧k≤s.length∧(∀ j y,j<k->s[j]?=some y->vA y x=true)∧∀ y,s[k]?=some y->vA y x=false) (λi y _ hi hI=>by
  unfold zIQ
  simp only[wL hi,Qf,qQ hi,zob,qV hi (show s.length<4294967296 by omega)]
  have hcond:(if uV y.2 x.2=true then some true else if(y.2==x.2)=true then if(!y.1)=true then some x.1 else some false else some false)=some (vA y x):=by
   unfold vA
   cases uV y.2 x.2 <;> cases y.2==x.2 <;> cases y.1 <;> cases x.1 <;> rfl
  rw[hcond]
  simp only[zob]
  cases hc:vA y x with
  | true =>
   exact .inl ⟨(),by trivial,λj z hj hz=>by
    grind⟩
  | false =>
   grind) (λ_ hI=>⟨_,by
  unfold zIQ
  grind,s.length,rfl,Qr _,hI,λy hy=>by grind⟩) () (λj y hj=>by omega)
 grind
theorem ins_asc{s:List zI}(hs:yA vA s){k:Nat}{x:zI}(h1:∀ j y,j<k->s[j]?=some y->vA y x=true)(h2:∀ y,s[k]?=some y->vA x y=true): yA vA (s.take k++x::s.drop k):=by
 have hsplit:=QG k s
 rw[←hsplit] at hs
 obtain⟨p1,p2,p3⟩:=Ut.1 hs
 refine Ut.2 ⟨p1,QP.2 ⟨λy hy=>?_,p2⟩,λy hy z hz=>?_⟩
 ·cases hd:s.drop k with
  | nil=>grind
  | cons z r =>
   have hz:s[k]?=some z:=by
    have:=congrArg (λl=>l[0]?) hd
    simpa using this
   rw[hd] at hy p2
   rcases Qw.1 hy with rfl | hy
   ·grind
   grind [zOO,List.pairwise_cons]
 ·have hyx:vA y x=true:=by
   obtain⟨j,hj⟩:=Qp.1 hy
   rw[QX] at hj
   split at hj
   ·grind
   ·cases hj
  grind
theorem copy_ins{α:Type}(s:List α)(z x:α)(k:Nat)(hk:k≤s.length): (zLB (s++[z]) (((k+1:Nat)):Int) ((s++[z]).drop k)).set k x=s.take k++x::s.drop k:=by
 have h1:(s++[z]).drop k=s.drop k++[z]:=Wi hk
 unfold zLB
 rw[h1,Qj]
 have h2:(s.drop k++[z]).take ((s++[z]).length-(k+1))=s.drop k:=by
  rw[show(s++[z]).length-(k+1)=(s.drop k).length by simp,List.take_left']
  rfl
 have h3:(s++[z]).drop (k+1+(s.drop k++[z]).length)=[]:=List.drop_eq_nil_of_le (by simp;omega)
 rw[h2,h3,QF]
 cases hd:s.drop k with
 | nil =>
  grind
 | cons y r =>
  grind
theorem z19 (l:List zI)(hl:l.length≤1000): ∃ r,zNs l=some r∧r.length≤l.length∧yA vA r∧∀ y∈r,y∈l:=by
 unfold zNs
 refine uP (B:=zK9 l) (λi s=>(s,(i:Int))) l (λi s=>s.length≤i∧yA vA s∧∀ y∈s,y∈l) (λr=>r.length≤l.length∧yA vA r∧∀ y∈r,y∈l) (λi x s hi hs=>.inl ?_) (λs hs=>⟨s,?_,hs⟩) [] ⟨by simp,List.Pairwise.nil,by simp⟩
 ·have hlt:=vM hi
  obtain⟨hs1,hs2,hs3⟩:=hs
  unfold zK9
  obtain⟨k,h1,h2,h3,h4⟩:=sorted_at s (by omega) x i
  simp only[wL hi,Qf,qQ hi,zob,h1,qV hi (show l.length<4294967296 by omega)]
  by_cases hex:s[k]?=some x
  ·simp[qQ hex]
   grind
  ·have hc:(if decide ((k:Int)<len s)=true then(zC s (k:Int)).bind λx5=>some (x5==x) else some false)=some false:=by
    by_cases hk:k<s.length
    ·have hx:s[k]?=some s[k]:=Qh hk
     simp[qQ hx]
     simp_all
    ·grind
   rw[hc]
   rw[wD (by simp;omega)]
   have hr1:zH ((k:Int)+1)=((k+1:Nat):Int):=yJ k (by omega)
   have hc1:(decide (0≤((k+1:Nat):Int))&&decide (((k+1:Nat):Int)≤len (s++[((false,[]):zI)])))=true:=by simp[len];omega
   have hc2:(decide (0≤(k:Int))&&decide ((k:Int)≤len (s++[((false,[]):zI)])))=true:=by simp[len];omega
   obtain⟨z,hz⟩:=zMJ (l:=zLB (s++[((false,[]):zI)]) ((k+1:Nat):Int) (List.drop k (s++[((false,[]):zI)]))) (j:=(k:Int)) (by omega) (by rw[zQy];simp;omega)
   simp only[zob,hr1,vT,hc1,hc2,Qf,Qj,hz,copy_ins s _ x k h2]
   refine⟨_,rfl,?_,ins_asc hs2 h3 λy hy=>?_,λy hy=>?_⟩
   ·simp;omega
   ·grind [zSG]
   grind
 ·unfold zK9
  grind
theorem ascB_of:∀ {l:List zI},yA vA l->ascB l=true
 | [],_=>rfl
 | [_],_=>rfl
 | x::y::r,h=>by
  obtain⟨h1,h2⟩:=QP.1 h
  unfold ascB
  rw[h1 y Qq,ascB_of h2]
  rfl
theorem z8i{s:uU}{l:List Int}(h:uX s)(h0:l≠[])(h1:l.length≤1000): ∃ x k,zLe s l=some (x,k)∧x∈l∧uX (s.1,k):=by
 have hp:=QY.2 h0
 obtain⟨v,k,hr,h2,h3,hk⟩:=zNf (n:=len l) h (by grind) (by grind)
 obtain⟨x,hx,hx2⟩:=zZW h2 h3
 grind [zLe]
theorem zTV{j:Nat}(h:j<26): vName (zTK j)=true:=by
 have:∀ j,j<26->vName (zTK j)=true:=by decide
 grind
def z0I (n:Nat): zD:=[114,UInt8.ofNat (97+n)]
theorem z1A{n:Nat}(h:n<26): vName (z0I n)=true:=by
 have:∀ n,n<26->vName (z0I n)=true:=by decide
 grind
theorem ruleN_inj{n m:Nat}(h:n<26)(h':m<26)(he:z0I n=z0I m): n=m:=by
 have:∀ n,n<26->∀ m,m<26->z0I n=z0I m->n=m:=by decide
 grind
theorem zVY{n:Nat}(h:n<26): zGd (n:Int)=some (z0I n):=by
 have:∀ n:Nat,n<26->zGd (n:Int)=some (z0I n):=by decide
 grind
theorem inj_app{α β:Type}(g:α->β){l:List α}{y:α}(h:∀(i j:Nat) p q,l[i]?=some p->l[j]?=some q->g p=g q->i=j)(hy:∀ x∈l,g x≠g y): ∀(i j:Nat) p q,(l++[y])[i]?=some p->(l++[y])[j]?=some q->g p=g q->i=j:=by grind
structure DrawnP (n:Int)(l:List vE): Prop where
 ok:∀ p∈l,tW p=0
 at_:∀ p∈l,∃ j:Nat,(j:Int)<n∧p.1.2=zTK j
 inj:∀(i j:Nat) p q,l[i]?=some p->l[j]?=some q->p.1=q.1->i=j
theorem Base_L1{s:uU}{n:Int}(h1:1≤n)(h2:n≤26){v k:Int}(hv0:0≤v)(hv1:v≤100)(hk:uX (s.1,k)): ∃ r,zN (zIk s n) (v,k,[])=some r∧uX (s.1,r.1)∧(r.2.length:Int)≤v∧DrawnP n r.2:=by
 refine zO5 (B:=zIk s n) (λt=>0≤t.1∧(t.2.2.length:Int)+t.1≤v∧uX (s.1,t.2.1)∧DrawnP n t.2.2) (λt=>t.1.toNat) (λr=>uX (s.1,r.1)∧(r.2.length:Int)≤v∧DrawnP n r.2) (λt ht=>?_) _ ⟨hv0,by simp,hk,by simp,by simp,by simp⟩
 obtain⟨q,k,l⟩:=t
 obtain⟨t1,t2,t3,t4⟩:=ht
 dsimp only at t1 t2 t3 t4
 unfold zIk
 by_cases hq:0<q
 ·obtain⟨g,j,k1,e1,hj,hk1⟩:=zPH t3 h1 h2
  obtain⟨p,k2,e2,hp,hk2⟩:=z8i (l:=[1,2,2,2,3]) hk1 (by simp) (by simp)
  obtain⟨x,k3,e3,hx,hk3⟩:=keep_Text (l:=[[],[],[97,110,110],[98,111,98]]) hk2 (by simp) (by simp)
  obtain⟨u,k4,e4,hu0,hu1,hk4⟩:=zNf (n:=4) hk3 (by omega) (by omega)
  have hr:zN (zFt (q,k,l) ((g,zTK j),k1)) (false,0)=some (l.any λp=>p.1==(g,zTK j)):=by
   obtain⟨r,hr,hr2⟩:=uP (B:=zFt (q,k,l) ((g,zTK j),k1)) (λi s=>(s,(i:Int))) l (λi s=>s=(l.take i).any λp=>p.1==(g,zTK j)) (λr=>r=l.any λp=>p.1==(g,zTK j)) (λi x s hi hs=>.inl (by
    unfold zFt
    simp only[wL hi,Qf,qQ hi,zob,qV hi (show l.length<4294967296 by omega)]
    exact⟨_,rfl,by rw[uL hi,List.any_append,←hs];simp⟩)) (λs hs=>by
    unfold zFt
    grind) false (by simp)
   rw[←hr2]
   exact hr
  dsimp only at e2 e3 e4 hk2 hk3 hk4
  have hq1:zH (q-1)=q-1:=vJ (by omega) (by omega)
  have hmid:∃ w z,(if(p==2)=true then(tB (s.1,k3) 4).bind λr5=>some (r5.2,r5.1) else some (k3,0):Option (Int×Int))=some (w,z)∧uX (s.1,w)∧zL9 z=true∧(p==2||z==0)=true:=by
   split
   ·grind
   ·grind
  obtain⟨w,z,hm,hw,hz1,hz2⟩:=hmid
  simp only[hq,decide_true,Qf,e1,zob,e2,e3,hm,hr,hq1]
  cases hany:l.any λp=>p.1==(g,zTK j) with
  | true=>exact .inl ⟨_,rfl,⟨by grind,by grind,hw,t4⟩,by grind⟩
  | false =>
   rw[wD (by simp;omega)]
   refine .inl ⟨_,rfl,⟨by grind,by grind,hw,λp' hp'=>?_,λp' hp'=>?_,inj_app _ t4.inj λp' hp' he=>?_⟩,by grind⟩
   ·rcases Qb.1 hp' with hp' | hp'
    ·exact t4.ok p' hp'
    ·simp at hp'
     subst hp'
     have hpk:(p==1||p==2||p==3)=true:=by
      simp only[Qw,Uk,or_false] at hp
      rcases hp with rfl | rfl | rfl | rfl | rfl <;> rfl
     have hsx:(x==([]:zD)||vName x)=true:=by
      simp only[Qw,Uk,or_false] at hx
      rcases hx with rfl | rfl | rfl | rfl <;> decide
     unfold tW
     rw[Ql hpk,zTV (by omega),hz1,hz2,hsx]
     rfl
   ·rcases Qb.1 hp' with hp' | hp'
    ·exact t4.at_ p' hp'
    grind
   grind
 ·simp[hq]
  grind
structure DrawnR (l:List qH): Prop where
 bd:∀ r∈l,r.2.2.2.1.length≤2
 ok:∀ r∈l,tG r=0
 nm:∀(i:Nat) r,l[i]?=some r->r.1=z0I i
theorem Base_L3{s:uU}{n m:Int}(h1:1≤n)(h2:n≤26)(hm:1≤m)(hm2:m≤26){v k:Int}(hv0:0≤v)(hv1:v≤24)(hk:uX (s.1,k)): ∃ r,zN (zIi s n m) (v,k,[])=some r∧uX (s.1,r.1)∧(r.2.length:Int)≤v∧DrawnR r.2:=by
 refine zO5 (B:=zIi s n m) (λt=>0≤t.1∧(t.2.2.length:Int)+t.1≤v∧uX (s.1,t.2.1)∧DrawnR t.2.2) (λt=>t.1.toNat) (λr=>uX (s.1,r.1)∧(r.2.length:Int)≤v∧DrawnR r.2) (λt ht=>?_) _ ⟨hv0,by simp,hk,by simp,by simp,by simp⟩
 obtain⟨q,k,l⟩:=t
 obtain⟨t1,t2,t3,t4⟩:=ht
 dsimp only at t1 t2 t3 t4
 unfold zIi
 by_cases hq:0<q
 ·have e0:=zVY (n:=l.length) (by omega)
  obtain⟨u,k1,e1,_,_,hk1⟩:=zNf (n:=3) t3 (by omega) (by omega)
  obtain⟨bd,k2,e2,hb2,hbn,hk2⟩:=keep_Lits (m:=2) hk1 (by omega) (by omega) h1 h2
  obtain⟨bs,e3,hb3,hb4,hb5⟩:=z19 bd (by omega)
  obtain⟨g,j,k3,e4,hj,hk3⟩:=zPH hk2 h1 h2
  obtain⟨u5,k5,e5,hu5,hu5',hk5⟩:=zNf (n:=4) hk3 (by omega) (by omega)
  dsimp only at e1 e2 e3 e4 e5 hk1 hk2 hk3 hk5
  have hmid:∃ w z,(if(!(u==0))=true then(tB (s.1,k3) 4).bind λr12=>some (r12.2,r12.1) else some (k3,0):Option (Int×Int))=some (w,z)∧uX (s.1,w)∧zL9 z=true∧(!(u==0)||z==0)=true:=by
   split
   ·grind
   ·grind
  obtain⟨w,z,hmm,hw,hz1,hz2⟩:=hmid
  obtain⟨u6,k6,e6,_,_,hk6⟩:=zNf (n:=6) hw (by omega) (by omega)
  obtain⟨u7,k7,e7,_,_,hk7⟩:=zNf (n:=4) hk6 (by omega) (by omega)
  obtain⟨u8,k8,e8,hu8,hu8',hk8⟩:=zNf (n:=m) hk7 (by omega) (by omega)
  obtain⟨n8,rfl⟩:=QH hu8
  have e9:=zVY (n:=n8) (by omega)
  dsimp only at e6 e7 e8 hk6 hk7 hk8
  have hend:∃ w2 z2 y2,((tB (s.1,w) 6).bind λr13=>if(r13.1==5)=true then(tB (s.1,r13.2) 4).bind λr14=>(tB (s.1,r14.2) m).bind λr15=>(zGd r15.1).bind λr16=>some (r15.2,decide (0<r14.1),r16) else some (r13.2,g,zTK j):Option (Int×Bool×zD))=some (w2,z2,y2)∧uX (s.1,w2)∧vName y2=true:=by
   rw[e6]
   simp only[zob]
   split
   ·exact⟨k8,decide (0<u7),z0I n8,by grind,hk8,z1A (by omega)⟩
   ·exact⟨k6,g,zTK j,rfl,hk6,zTV (by omega)⟩
  obtain⟨w2,z2,y2,he,hw2,hy2⟩:=hend
  have hq1:zH (q-1)=q-1:=vJ (by omega) (by omega)
  rw[show len l=((l.length:Nat):Int) from rfl]
  simp only[hq,decide_true,Qf,e0,e1,zob,e2,e3,e4,hmm,he,hq1]
  rw[wD (by simp;omega)]
  refine .inl ⟨_,rfl,⟨by grind,by grind,hw2,λr hr=>?_,λr hr=>?_,λi r hr=>?_⟩,by grind⟩
  ·rcases Qb.1 hr with hr | hr
   ·exact t4.bd r hr
   grind
  ·rcases Qb.1 hr with hr | hr
   ·exact t4.ok r hr
   ·simp at hr
    subst hr
    unfold tG
    dsimp only
    have hall:(bs.all λx=>vName x.2)=true:=QW.2 λx hx=>by
     obtain⟨j,hj,hx2⟩:=hbn x (hb5 x hx)
     rw[hx2]
     exact zTV (by omega)
    rw[Qi (by omega),z1A (by omega),hy2,hz1,hz2,hall,ascB_of hb4]
    rfl
  ·by_cases hi:i<l.length
   ·rw[Q4 hi] at hr
    exact t4.nm i r hr
   grind
 ·simp[hq]
  grind
theorem Base_L4{s:uU}{n:Int}(h1:1≤n)(h2:n≤26)(o:Int)(rs:List qH)(hrs:rs.length≤100){v k:Int}(hv0:0≤v)(hv1:v≤100)(hk:uX (s.1,k)): ∃ r,zN (zIq (o,rs) s n) (v,k,[])=some r∧uX (s.1,r.1)∧(r.2.length:Int)≤v∧∀ p∈r.2,zL9 p.2.1=true∧vName p.2.2.2=true∧∃ q∈rs,q.1=p.1∧q.2.1=false:=by
 refine zO5 (B:=zIq (o,rs) s n) (λt=>0≤t.1∧(t.2.2.length:Int)+t.1≤v∧uX (s.1,t.2.1)∧∀ p∈t.2.2,zL9 p.2.1=true∧vName p.2.2.2=true∧∃ q∈rs,q.1=p.1∧q.2.1=false) (λt=>t.1.toNat) (λr=>uX (s.1,r.1)∧(r.2.length:Int)≤v∧∀ p∈r.2,zL9 p.2.1=true∧vName p.2.2.2=true∧∃ q∈rs,q.1=p.1∧q.2.1=false) (λt ht=>?_) _ ⟨hv0,by simp,hk,by simp⟩
 obtain⟨q,k,l⟩:=t
 obtain⟨t1,t2,t3,t4⟩:=ht
 dsimp only at t1 t2 t3 t4
 unfold zIq
 by_cases hq:0<q∧0<rs.length
 ·have hc:(decide (0<q)&&decide (0<len rs))=true:=by simp[len];omega
  obtain⟨u,k1,e1,hu0,hu1,hk1⟩:=zNf (n:=len rs) t3 (by grind) (by grind)
  obtain⟨r,hr⟩:=zMJ (l:=rs) hu0 hu1
  obtain⟨u2,k2,e2,hu2,hu2',hk2⟩:=zNf (n:=10) hk1 (by omega) (by omega)
  obtain⟨g,j,k3,e3,hj,hk3⟩:=zPH hk2 h1 h2
  dsimp only at e1 e2 e3 hk1 hk2 hk3
  have hq1:zH (q-1)=q-1:=vJ (by omega) (by omega)
  simp only[hc,Qf,e1,zob,hr,hq1]
  cases hst:r.2.1 with
  | true =>
   simp only[QO,zbf,Qc]
   grind
  | false =>
   simp only[Ul,Qf,e2,e3,zob]
   rw[wD (by simp;omega)]
   refine .inl ⟨_,rfl,⟨by grind,by grind,hk3,λp hp=>?_⟩,by grind⟩
   rcases Qb.1 hp with hp | hp
   ·grind
   ·simp at hp
    subst hp
    obtain⟨i,_,hi⟩:=zTC hr
    exact⟨by simp;omega,zTV (by omega),r,wG hi,rfl,hst⟩
 ·have hc:(decide (0<q)&&decide (0<len rs))=false:=by
   rw[Bool.and_eq_false_iff]
   by_cases h:0<q
   ·grind
   ·grind
  simp only[hc,zbf,Qc]
  grind
structure Drawn (b:zM)(n p q:Int): Prop where
 np:(b.1.length:Int)≤p
 nr:(b.2.1.length:Int)≤q
 nm:b.2.2.length≤2
 bd:∀ r∈b.2.1,r.2.2.2.1.length≤2
 valid:tR b
 names:∀(i:Nat) r,b.2.1[i]?=some r->r.1=z0I i
 at_:∀ p∈b.1,∃ j:Nat,(j:Int)<n∧p.1.2=zTK j
theorem keep_Base{s:uU}(h:uX s){n p q:Int}(h1:1≤n)(h2:n≤26)(hp:0≤p)(hp2:p≤16)(hq:1≤q)(hq2:q≤24): ∃ b k,zLQ s n p q=some (b,k)∧uX (s.1,k)∧Drawn b n p q:=by
 unfold zLQ
 obtain⟨u1,k1,e1,a1,b1,hk1⟩:=zNf (n:=p+1) h (by omega) (by omega)
 obtain⟨⟨o1,ps⟩,e2,hk2,hl2,hp2'⟩:=Base_L1 (s:=s) h1 h2 a1 (by omega) hk1
 obtain⟨u3,k3,e3,a3,b3,hk3⟩:=zNf (n:=q+1) hk2 (by omega) (by omega)
 obtain⟨⟨o4,rs⟩,e4,hk4,hl4,hb4⟩:=Base_L3 (s:=s) h1 h2 hq (by omega) a3 (by omega) hk3
 obtain⟨u5,k5,e5,a5,b5,hk5⟩:=zNf (n:=3) hk4 (by omega) (by omega)
 dsimp only at hl2 hl4 hb4 hp2'
 obtain⟨⟨o6,ms⟩,e6,hk6,hl6,hm6⟩:=Base_L4 (s:=s) h1 h2 o4 rs (by omega) a5 (by omega) hk5
 dsimp only at e3 e5 hl6 hm6
 rw[vJ (x:=p+1) (by omega) (by omega),vJ (x:=q+1) (by omega) (by omega)]
 have hinj:∀(i j:Nat) p q,rs[i]?=some p->rs[j]?=some q->p.1=q.1->i=j:=λi j p q hp hq he=>by
  have:=vM hp
  have:=vM hq
  rw[hb4.nm i p hp,hb4.nm j q hq] at he
  exact ruleN_inj (by omega) (by omega) he
 refine⟨(ps,rs,ms),o6,?_,hk6,by grind,by grind,by grind,hb4.bd,⟨by grind,by grind,by grind,hp2'.ok,hb4.ok,hp2'.inj,hinj,λm hm=>?_⟩,hb4.nm,hp2'.at_⟩
 ·grind
 ·obtain⟨g1,g2,r,g3,g4,g5⟩:=hm6 m hm
  obtain⟨i,hi⟩:=Qp.1 g3
  have hf:=z2w (q:=λr:qH=>r.1==m.1) hi (by simp[g4])
  grind [z3U,zXl,zPy,tC]
end
section
def Ok{α:Type}(x:Option α)(Q:α->Prop): Prop:=∃ a,x=some a∧Q a
section
variable {α β:Type}
theorem Ok.ret{a:α}{Q:α->Prop}(h:Q a): Ok (some a) Q:=⟨a,rfl,h⟩
theorem Ok.bind{x:Option α}{f:α->Option β}{I:α->Prop}{Q:β->Prop}(h:Ok x I)(k:∀ a,I a->Ok (f a) Q): Ok (x.bind f) Q:=by
 obtain⟨a,rfl,ha⟩:=h;grind
theorem Ok.ite{c:Bool}{x y:Option α}{Q:α->Prop}(hx:c=true->Ok x Q)(hy:c=false->Ok y Q): Ok (if c=true then x else y) Q:=by grind
theorem Ok.imp{x:Option α}{I Q:α->Prop}(h:Ok x I)(k:∀ a,I a->Q a): Ok x Q:=by grind [Ok]
end
section
variable {s:uU}
theorem Ok.N{n:Int}(h:uX s)(h0:0≤n)(h1:n≤4611686018427387904): Ok (tB s n) λr=>0≤r.1∧(1≤n->r.1<n)∧uX (s.1,r.2):=by
 by_cases hn:1≤n
 ·obtain⟨v,k,e,a,b,c⟩:=zNf h hn h1
  exact⟨_,e,a,λ_=>b,c⟩
 ·obtain⟨v,k,hr,hk⟩:=z7c h
  have hn1:n<1:=by omega
  refine⟨(0,k),?_,Int.le_refl _,λh=>absurd h hn,hk⟩
  simp[tB,hr,zOA,hn1]
end
section
variable {α β σ τ ρ:Type}
def Nx (mk:Nat->σ->τ)(I:Nat->σ->Prop)(Q:ρ->Prop)(i:Nat): τ⊕ρ->Prop
 | .inl t=>∃ s,t=mk i s∧I i s
 | .inr r=>Q r
def Fin (Q:ρ->Prop): τ⊕ρ->Prop
 | .inl _=>False
 | .inr r=>Q r
theorem Ok.forI{B:τ->Option (τ⊕ρ)}(mk:Nat->σ->τ)(l:List α)(I:Nat->σ->Prop)(Q:ρ->Prop)(hB:∀ i x s,l[i]?=some x->I i s->Ok (B (mk i s)) (Nx mk I Q (i+1)))
  (he:∀ s,I l.length s->Ok (B (mk l.length s)) (Fin Q)) (s:σ) (h:I 0 s):Ok (zN B (mk 0 s)) Q:=by
 refine uP mk l I Q (λi x s hx hI=>?_) (λs hI=>?_) s h
 ·obtain⟨o,h1,h2⟩:=hB i x s hx hI
  cases o with
  | inl t=>obtain⟨s',rfl,h3⟩:=h2;grind
  | inr r=>exact .inr ⟨r,h1,h2⟩
 ·obtain⟨o,h1,h2⟩:=he s hI
  cases o with
  | inl t=>exact h2.elim
  | inr r=>exact⟨r,h1,h2⟩
theorem Ok.seqE{x:Option (σ⊕α)}{f:σ->Option α}{I:σ⊕α->Prop}{Q:α->Prop}(h:Ok x I)(k:∀ a,I (.inl a)->Ok (f a) Q)(k2:∀ r,I (.inr r)->Q r): Ok (vH x f) Q:=by
 obtain⟨a,rfl,ha⟩:=h
 cases a with
 | inl a=>exact k a ha
 | inr r=>exact⟨r,rfl,k2 r ha⟩
end
theorem dec_lt{α:Type}{l:List α}{i:Nat}{x:α}(h:l[i]?=some x): decide ((i:Int)<len l)=true:=by grind
theorem dec_end{α:Type}{l:List α}: decide ((l.length:Int)<len l)=false:=by grind
theorem z9Z{α:Type}{l:List α}{i:Nat}{y x:α}(h:x∈l.set i y): x=y∨x∈l:=by
 rcases List.mem_or_eq_of_mem_set h with h | h
 ·exact .inr h
 ·exact .inl h
theorem zPs{α:Type}{l:List α}(h:l.length<4294967296): qF ([]:List α) l=some l:=by grind [qF]
end
section
theorem wrapU{x:Int}(h0:0≤x)(h1:x<18446744073709551616): IntKind.u64.wrap x=x:=by
 unfold IntKind.wrap
 simp[IntKind.bits,IntKind.signed]
 omega
theorem zTR{n:Nat}(h:n<18446744073709551616): IntKind.u64.wrap (n:Int)=(n:Int):=wrapU (by omega) (by omega)
theorem wrapU_mod (n:Nat): IntKind.u64.wrap (n:Int)=((n % 18446744073709551616:Nat):Int):=by
 unfold IntKind.wrap
 simp only[IntKind.bits,IntKind.signed,UA,zbf,Qc]
 omega
theorem and_lt{a b:Nat}(ha:a<18446744073709551616): a &&& b<18446744073709551616:=Nat.lt_of_le_of_lt Nat.and_le_left ha
theorem or_lt{a b:Nat}(ha:a<18446744073709551616)(hb:b<18446744073709551616): a ||| b<18446744073709551616:=Nat.or_lt_two_pow (n:=64) ha hb
theorem z8B{a b:Nat}(ha:a<18446744073709551616)(hb:b<18446744073709551616): yI .u64 (a:Int) (b:Int)=((a &&& b:Nat):Int):=by
 unfold yI
 have h:(BitVec.ofNat 64 a &&& BitVec.ofNat 64 b).toNat=a &&& b:=by
  rw[BitVec.toNat_and,BitVec.toNat_ofNat,BitVec.toNat_ofNat,Wh ha,Wh hb]
 exact(congrArg (λz:Nat=>IntKind.u64.wrap (z:Int)) h).trans (zTR (and_lt ha))
theorem bor_nat{a b:Nat}(ha:a<18446744073709551616)(hb:b<18446744073709551616): bor .u64 (a:Int) (b:Int)=((a ||| b:Nat):Int):=by
 unfold bor
 have h:(BitVec.ofNat 64 a ||| BitVec.ofNat 64 b).toNat=a ||| b:=by
  rw[BitVec.toNat_or,BitVec.toNat_ofNat,BitVec.toNat_ofNat,Wh ha,Wh hb]
 exact(congrArg (λz:Nat=>IntKind.u64.wrap (z:Int)) h).trans (zTR (or_lt ha hb))
theorem shlK_one{i:Nat}(h:i<64): shlK .u64 1 (IntKind.u64.wrap (i:Int))=some ((2 ^ i:Nat):Int):=by
 rw[zTR (by omega)]
 unfold shlK shl
 have h2:(2:Nat) ^ i<18446744073709551616:=Nat.pow_lt_pow_right (a:=2) (by decide) (show i<64 from h)
 have h3:min ((i:Int).toNat) IntKind.u64.bits=i:=by simp[IntKind.bits];omega
 have h4:(1:Int)*2 ^ i=((2 ^ i:Nat):Int):=by rw[Int.one_mul];norm_cast
 rw[Qi (by omega),h3,h4,zTR h2]
theorem z82{i:Nat}(h:i<64): 2 ^ i<18446744073709551616:=Nat.pow_lt_pow_right (a:=2) (by decide) (show i<64 from h)
theorem z5w{m i:Nat}(hm:m<18446744073709551616)(h:64≤i): m.testBit i=false :=
 Nat.testBit_lt_two_pow (UN hm (US (by decide) h:2 ^ 64≤2 ^ i))
def zXh (m:Nat): List Int:=(wC 64).filter λx=>m.testBit x.toNat
theorem zQA{m:Nat}{x:Int}: x∈zXh m↔∃ i:Nat,x=(i:Int)∧i<64∧m.testBit i=true:=by
 unfold zXh
 rw[Qk,xW]
 constructor
 ·rintro ⟨⟨h1,h2⟩,h3⟩
  exact⟨x.toNat,by omega,by omega,h3⟩
 ·rintro ⟨i,rfl,h1,h2⟩
  exact⟨⟨by omega,by omega⟩,by simpa using h2⟩
theorem z8s{m:Nat}(hm:m<18446744073709551616){i:Nat}: (i:Int)∈zXh m↔m.testBit i=true:=by
 rw[zQA]
 constructor
 ·rintro ⟨j,h1,h2,h3⟩
  have:i=j:=by omega
  rw[this];exact h3
 ·intro h
  refine⟨i,rfl,Nat.lt_of_not_le λhge=>?_,h⟩
  rw[z5w hm hge] at h;cases h
theorem z0z (m:Nat): yA uC (zXh m):=(zNF 64).filter _
theorem bitsL_len (m:Nat): (zXh m).length≤64:=QD (Qz _ _) (by rw[tN];exact Qr _)
theorem zZU (q k j:Nat): (2 ^ k*(2*q+1)).testBit j=(decide (j=k)||(decide (k<j)&&q.testBit (j-k-1))):=by
 have e:2 ^ k*(2*q+1)=2 ^ (k+1)*q+2 ^ k:=by rw[Nat.mul_add,UK,Nat.pow_succ,Nat.mul_assoc]
 rw[e,UW _ (Nat.pow_lt_pow_right (by decide) (Nat.lt_succ_self k))]
 by_cases hj:j<k+1
 ·rw[Ql hj,Nat.testBit_two_pow]
  have h1:decide (k<j)=false:=by simp;omega
  rw[h1,UA,Bool.or_false]
  by_cases h2:j=k <;> simp[h2]
  exact λh=>h2 h.symm
 ·rw[Qi hj]
  have h1:decide (k<j)=true:=by simp;omega
  have h2:decide (j=k)=false:=by simp;omega
  rw[h1,h2,Uw,UO]
  congr 1
theorem z9m (q k:Nat): (2 ^ k*(2*q+1)) &&& (2 ^ k*(2*q+1)-1)=2 ^ (k+1)*q:=by
 have hp:0<2 ^ k:=Nat.pow_pos (by decide)
 have e:2 ^ k*(2*q+1)-1=2 ^ (k+1)*q+(2 ^ k-1):=by rw[Nat.mul_add,UK,Nat.pow_succ,Nat.mul_assoc];omega
 apply Nat.eq_of_testBit_eq
 intro j
 rw[Nat.testBit_and,zZU,e,UW _ (by rw[Nat.pow_succ];omega)]
 have e2:2 ^ (k+1)*q=2 ^ (k+1)*q+0:=rfl
 rw[e2,UW _ (Nat.pow_pos (by decide))]
 by_cases hj:j<k+1
 ·rw[Ql hj,Ql hj,Nat.testBit_two_pow_sub_one,Nat.zero_testBit]
  have h1:decide (k<j)=false:=by simp;omega
  rw[h1,UA,Bool.or_false]
  by_cases h2:j=k
  ·simp[h2]
  ·simp[h2]
 ·rw[Qi hj,Qi hj]
  have h1:decide (k<j)=true:=by simp;omega
  have h2:decide (j=k)=false:=by simp;omega
  rw[h1,h2,Uw,UO]
  have h3:j-(k+1)=j-k-1:=by omega
  rw[h3,Bool.and_self]
theorem tz_nat{m:Nat}(h0:m≠0)(h:m<18446744073709551616): ∃ k q:Nat,zCQ (m:Int)=some (k:Int)∧k<64∧m=2 ^ k*(2*q+1):=by
 have hc:Lib.ctz 64 m=Lib.ctzFrom 64 m:=by unfold Lib.ctz;rw[Qi h0]
 obtain⟨q,hq,hk⟩:=Lib.ctzFrom_spec 64 m (by omega) h
 obtain⟨hl,_⟩:=Lib.lowest_bit 64 m h0 h
 rw[hc] at hl
 generalize Lib.ctzFrom 64 m=k at hq hk hl
 refine⟨k,q,?_,hk,hq⟩
 unfold zCQ
 have hne:((m:Int)==0)=false:=by simp;omega
 have hw:IntKind.u64.wrap (0-(m:Int))=((2 ^ 64-m:Nat):Int):=by
  unfold IntKind.wrap
  simp only[IntKind.bits,IntKind.signed,UA,zbf,Qc]
  omega
 rw[hne,hw,z8B h (by omega),hl]
 obtain⟨d1,d2⟩:=Lib.deBruijn64_at k hk
 have hmul:IntKind.u64.wrap (((2 ^ k:Nat):Int)*285870213051353865)=((2 ^ k*285870213051353865 % 18446744073709551616:Nat):Int):=by
  have e:((2 ^ k:Nat):Int)*285870213051353865=((2 ^ k*285870213051353865:Nat):Int):=by rw[Int.natCast_mul];rfl
  rw[e,wrapU_mod]
 have hs:xM .u64 ((2 ^ k*285870213051353865 % 18446744073709551616:Nat):Int) 58=((2 ^ k*285870213051353865 % 18446744073709551616 / 288230376151711744:Nat):Int):=by
  unfold xM
  have h3:min ((58:Int).toNat) IntKind.u64.bits=58:=by decide
  rw[h3,Int.fdiv_eq_ediv_of_nonneg _ (by decide)]
  norm_cast
 simp only[zbf,Qc]
 rw[hmul,hs,tC]
 generalize 2 ^ k*285870213051353865 % 18446744073709551616 / 288230376151711744=z at d1 d2
 have ht:∀ z,z<64->vV[z]?=some ((Lib.deBruijn64tab.getD z 0:Nat):Int):=by decide +kernel
 rw[ht z d1,d2]
 simp only[zob]
 rw[vJ (by omega) (by omega)]
def z5h (l:List Int): Nat:=l.foldl (λm x=>m ||| 2 ^ x.toNat) 0
theorem maskF_bit (l:List Int): ∀(m i:Nat),(l.foldl (λm x=>m ||| 2 ^ x.toNat) m).testBit i=(m.testBit i||l.any λx=>decide (x.toNat=i)):=by
 induction l with
 | nil=>intro m i;simp
 | cons x l ih =>
  intro m i
  rw[UT,ih,Nat.testBit_or,Nat.testBit_two_pow,List.any_cons,Bool.or_assoc]
theorem maskL_bit{l:List Int}(hl:∀ x∈l,0≤x)(i:Nat): (z5h l).testBit i=decide ((i:Int)∈l):=by
 unfold z5h
 rw[maskF_bit,Nat.zero_testBit,UO,QZ,Q6]
 simp only[Qm]
 constructor
 ·rintro ⟨x,hx,h⟩
  have:=hl x hx
  rw[show(i:Int)=x by omega];exact hx
 ·intro h
  exact⟨i,h,by simp⟩
theorem maskF_lt (l:List Int)(hl:∀ x∈l,x<64): ∀ m,m<18446744073709551616->(l.foldl (λm x=>m ||| 2 ^ x.toNat) m)<18446744073709551616:=by
 induction l with
 | nil=>intro m hm;exact hm
 | cons x l ih =>
  intro m hm
  have:=hl x (by simp)
  exact ih (λy hy=>hl y (by simp[hy])) _ (or_lt hm (z82 (by omega)))
theorem maskL_lt{l:List Int}(hl:∀ x∈l,x<64): z5h l<18446744073709551616:=maskF_lt l hl 0 (by decide)
end
section
def ed (L:List qG)(a b:Int): Bool:=L.any λp=>p.1==a&&p.2==b
theorem z4v{L:List qG}{a b:Int}: ed L a b=true↔(a,b)∈L:=by
 unfold ed
 grind
end
section
def att (R:Nat->Nat->Prop)(S:Nat->Prop)(j:Nat): Prop:=∃ m,S m∧R m j
def gr (D:Nat->Prop)(R:Nat->Nat->Prop): Nat->Nat->Prop
 | 0,_=>False
 | k+1,i=>D i∧∀ j,R j i->att R (gr D R k) j
section
variable {D:Nat->Prop}{R:Nat->Nat->Prop}
theorem z4C{k i:Nat}(h:gr D R k i): D i:=by
 cases k with
 | zero=>exact h.elim
 | succ k=>exact h.1
theorem zRM:∀ {k i:Nat},gr D R k i->gr D R (k+1) i
 | 0,_,h=>h.elim
 | k+1,i,h=>⟨h.1,λj hj=>by obtain⟨m,h1,h2⟩:=h.2 j hj;exact⟨m,zRM h1,h2⟩⟩
theorem gr_le{k m i:Nat}(h:k≤m)(hk:gr D R k i): gr D R m i:=by
 induction m with
 | zero=>grind
 | succ m ih =>
  grind [zRM]
theorem gr_free:∀ {k i j:Nat},gr D R k i->gr D R k j->¬ R i j
 | 0,_,_,h,_,_=>h.elim
 | k+1,i,j,hi,hj,hr=>by
  obtain⟨m,hm,hmi⟩:=hj.2 i hr
  obtain⟨m',hm',hmm⟩:=hi.2 m hmi
  exact gr_free hm' hm hmm
theorem gr_stay{k:Nat}(h:∀ i,gr D R (k+1) i->gr D R k i): ∀ m,k≤m->∀ i,gr D R m i->gr D R k i:=by
 intro m
 induction m with
 | zero=>grind
 | succ m ih =>
  intro hk i hi
  by_cases he:k=m+1
  ·grind
  ·exact h i ⟨hi.1,λj hj=>by grind [att,gr]⟩
open Classical in
theorem gr_stops{N:Nat}(hD:∀ i,D i->i<N): ∃ k,k≤N∧∀ i,gr D R (k+1) i->gr D R k i:=by
 apply Classical.byContradiction
 intro hno
 have hstep:∀ k,k≤N->∃ i,gr D R (k+1) i∧¬ gr D R k i:=λk hk=>by
  simp_all
 let c:Nat->Nat:=λk=>((List.range N).filter λi=>decide (gr D R k i)).length
 have hc:∀ k,k≤N->c k<c (k+1):=by
  intro k hk
  obtain⟨i,h1,h2⟩:=hstep k hk
  have hi:=hD i (z4C h1)
  have hsub:∀ l:List Nat,(l.filter λi=>decide (gr D R k i)).length≤(l.filter λi=>decide (gr D R (k+1) i)).length∧(i∈l->(l.filter λi=>decide (gr D R k i)).length<(l.filter λi=>decide (gr D R (k+1) i)).length):=by
   intro l
   induction l with
   | nil=>simp
   | cons x l ih =>
    by_cases hx:gr D R k x
    ·have hx':=zRM hx
     grind
    grind
  exact(hsub (List.range N)).2 (Ua.2 hi)
 have hbig:∀ k,k≤N+1->k≤c k:=by
  intro k
  induction k with
  | zero=>grind
  | succ k ih=>grind
 have h1:=hbig (N+1) (Qr _)
 grind
theorem gr_last{N:Nat}(hD:∀ i,D i->i<N){m i:Nat}(h:gr D R m i): gr D R N i:=by
 obtain⟨k,hk,hs⟩:=gr_stops (R:=R) hD
 by_cases hm:m≤k
 ·grind [gr_le]
 ·exact gr_le hk (gr_stay hs m (by omega) i h)
end
def zX (N:Nat)(f:Nat->Int): List Int:=(List.range N).map f
theorem zEX (N:Nat)(f:Nat->Int): (zX N f).length=N:=by simp[zX]
theorem zIu{N i:Nat}(f:Nat->Int)(h:i<N): zC (zX N f) (i:Int)=some (f i):=by
 rw[tC]
 simp[zX,h]
theorem zVg{N i:Nat}(f:Nat->Int)(v:Int): List.set (zX N f) i v=zX N λj=>if j=i then v else f j:=by
 unfold zX
 apply QN
 grind
theorem zBk{N:Nat}{f g:Nat->Int}(h:∀ i,i<N->f i=g i): zX N f=zX N g:=by grind [zX,List.map_congr_left]
theorem mkS_ok{N:Nat}(hN:N≤4294967296)(v:Int): mkS (N:Int) (N:Int) v=some (zX N λ_=>v):=by
 unfold mkS
 rw[Ql ⟨by omega,by omega,by omega⟩]
 congr 1
 unfold zX
 rw[Qj]
 apply QN
 intro i
 by_cases h:i<N <;> simp[h]
theorem z8k{σ τ ρ:Type}{B:τ->Option (τ⊕ρ)}(mk:σ->Nat->τ)(M:Nat)(I:Nat->σ->Prop)(Q:ρ->Prop)
  (hB:∀ i s,i<M->I i s->(∃ s',B (mk s i)=some (.inl (mk s' (i+1)))∧I (i+1) s')∨∃ r,B (mk s i)=some (.inr r)∧Q r)
  (he:∀ s,I M s->∃ r,B (mk s M)=some (.inr r)∧Q r):∀ s,I 0 s->∃ r,zN B (mk s 0)=some r∧Q r:=by
 have key:∀ n i s,i+n=M->I i s->∃ r,zN B (mk s i)=some r∧Q r:=by
  intro n
  induction n with
  | zero =>
   intro i s h hi
   grind [yF]
  | succ n ih =>
   grind [yF]
 simp_all
section
variable (N:Nat)(L:List qG)
abbrev wA (i j:Nat): Prop:=ed L (i:Int) (j:Int)=true
abbrev xJ (k i:Nat): Prop:=gr (· < N) (wA L) k i
open Classical in
noncomputable def qZ (k i:Nat): Int:=if xJ N L k i then 1 else if att (wA L) (xJ N L k) i then 2 else 3
def tT (k i:Nat): Prop:=xJ N L (k+1) i∧¬ xJ N L k i
theorem lab3{k i:Nat}: qZ N L k i=3↔¬ xJ N L k i∧¬ att (wA L) (xJ N L k) i:=by
 unfold qZ
 grind
theorem lab2{k i:Nat}: qZ N L k i=2↔¬ xJ N L k i∧att (wA L) (xJ N L k) i:=by
 unfold qZ
 grind
theorem z9g{k i:Nat}: qZ N L k i=1↔xJ N L k i:=by
 unfold qZ
 grind
theorem zXJ{k i:Nat}(h:xJ N L k i): ¬ att (wA L) (xJ N L k) i:=λ⟨m,h1,h2⟩=>gr_free h1 h h2
theorem zY7{k i:Nat}: qZ N L k i=2↔att (wA L) (xJ N L k) i:=by
 rw[lab2]
 exact⟨λh=>h.2,λh=>⟨λhg=>zXJ N L hg h,h⟩⟩
theorem now_iff{k i:Nat}(hi:i<N)(hR:∀ a b:Int,ed L a b=true->∃ m,m<N∧a=(m:Int)): (qZ N L k i=3∧∀ b,b<N->wA L b i->qZ N L k b=2)↔tT N L k i:=by
 constructor
 ·rintro ⟨h1,h2⟩
  rw[lab3] at h1
  refine⟨⟨hi,λj hj=>?_⟩,h1.1⟩
  obtain⟨m,hm,he⟩:=hR _ _ hj
  have:j=m:=by omega
  subst this
  exact(zY7 N L).1 (h2 j hm hj)
 ·rintro ⟨h1,h2⟩
  refine⟨(lab3 N L).2 ⟨h2,λ⟨m,h3,h4⟩=>?_⟩,λb _ hb=>(zY7 N L).2 (h1.2 b hb)⟩
  exact zXJ N L h3 (h1.2 m h4)
theorem lab_step{k i:Nat}: qZ N L (k+1) i=(open Classical in if tT N L k i then 1 else if qZ N L k i=3∧att (wA L) (tT N L k) i then 2 else qZ N L k i):=by
 by_cases hn:tT N L k i
 ·rw[Ql hn];exact(z9g N L).2 hn.1
 ·rw[Qi hn]
  by_cases h1:xJ N L k i
  ·have h2:xJ N L (k+1) i:=zRM h1
   have h3:qZ N L k i=1:=(z9g N L).2 h1
   rw[(z9g N L).2 h2,Qi (by grind),h3]
  ·have h2:¬ xJ N L (k+1) i:=λh=>hn ⟨h,h1⟩
   by_cases h3:att (wA L) (xJ N L k) i
   ·have h4:qZ N L k i=2:=(zY7 N L).2 h3
    have h5:att (wA L) (xJ N L (k+1)) i:=by obtain⟨m,h6,h7⟩:=h3;exact⟨m,zRM h6,h7⟩
    rw[(zY7 N L).2 h5,Qi (by grind),h4]
   ·have h4:qZ N L k i=3:=(lab3 N L).2 ⟨h1,h3⟩
    by_cases h5:att (wA L) (tT N L k) i
    ·rw[Ql ⟨h4,h5⟩]
     obtain⟨m,h6,h7⟩:=h5
     exact(zY7 N L).2 ⟨m,h6.1,h7⟩
    ·rw[Qi (λh=>h5 h.2),h4]
     refine(lab3 N L).2 ⟨h2,λ⟨m,h6,h7⟩=>?_⟩
     by_cases h8:xJ N L k m
     ·exact h3 ⟨m,h8,h7⟩
     ·exact h5 ⟨m,⟨h6,h8⟩,h7⟩
variable {N L}(hN:N≤64)(hL:L.length<4294967296)(hR:∀ a b:Int,ed L a b=true->∃ m,m<N∧a=(m:Int))
include hN hL
end
end
section
def inN (N:Nat)(L:List qG): Prop:=∀ a b:Int,ed L a b=true->∃ i j:Nat,i<N∧j<N∧a=(i:Int)∧b=(j:Int)
theorem inN.nat{N:Nat}{L:List qG}(h:inN N L){i j:Nat}(he:wA L i j): i<N∧j<N:=by
 obtain⟨i',j',h1,h2,h3,h4⟩:=h _ _ he
 exact⟨by omega,by omega⟩
section
variable {N:Nat}{L:List qG}(hV:inN N L){X:Nat}(hX:X<18446744073709551616)
include hV hX
end
section
variable {N:Nat}(hN:N≤40){L:List qG}(hV:inN N L)(hL:L.length<4294967296){gone:List Int}(hg:∀ x∈gone,0≤x∧x<N)(hgl:gone.length<4294967296)
include hV
include hN hg
end
end
section
theorem z92{σ ρ:Type}{B B':σ->Option (σ⊕ρ)}(I:σ->Prop)(h:∀ s,I s->B s=B' s)(hs:∀ s s',I s->B s=some (.inl s')->I s'): ∀ n s,I s->zZK B n s=zZK B' n s:=by
 intro n
 induction n with
 | zero=>intro s _;rfl
 | succ n ih =>
  grind [zZK]
theorem z9w{σ ρ:Type}{B B':σ->Option (σ⊕ρ)}(I:σ->Prop)(h:∀ s,I s->B s=B' s)(hs:∀ s s',I s->B s=some (.inl s')->I s')(s:σ)(hI:I s): zN B s=zN B' s:=by
 have hit:=z92 I h hs
 grind [zN,zMx]
def z3c (n:Int)(p:qG): Bool:=decide (p.1<0)||decide (n≤p.1)||decide (p.2<0)||decide (n≤p.2)
theorem zRH (x y:qG): zDZ x y=some (orF [z3h x.1 y.1,z3h x.2 y.2]):=by
 unfold zDZ
 rw[zP0,zP0]
 simp only[zob]
 rw[z7h _ (by simp)]
 rfl
theorem z4H (x y:qG): decide (0≤orF [z3h x.1 y.1,z3h x.2 y.2])=!tY x y:=by
 have h:decide (orF [z3h x.1 y.1,z3h x.2 y.2] < 0)=tY x y:=zRX (by rw[zRX (r:=[]) (b:=false) (by simp[orF])];simp)
 grind
def zRB (n:Int)(L:List qG)(i:Nat): Option Int:=match L[i]? with
 | none=>some 0
 | some p=>if z3c n p then some 1 else if i=0 then none else match L[i-1]? with
  | none=>none
  | some q=>if !tY q p then some 8 else none
theorem zOe (n:Int)(L:List qG)(hL:L.length<4294967296)(i:Nat)(hi:i≤L.length): zBm (n,L) (i:Int)=match zRB n L i with
  | some e=>some (.inr e)
  | none=>some (.inl ((i+1:Nat):Int)):=by
 unfold zBm zRB
 by_cases he:i=L.length
 ·grind
 ·have hx:L[i]?=some L[i]:=Qh (by omega)
  generalize L[i]=x at hx
  simp only[wL hx,Qf,qQ hx,zob,hx,qV hx hL]
  have hb:(decide ((if x.2<x.1 then x.2 else x.1)<0)||decide (n≤(if x.2 > x.1 then x.2 else x.1)))=z3c n x:=by
   rw[QZ]
   simp only[z3c,Uv,Qm]
   split <;> split <;> omega
  rw[hb]
  cases z3c n x with
  | true=>simp
  | false =>
   simp only[zbf,Qc]
   by_cases h0:i=0
   ·grind
   ·obtain⟨j,rfl⟩:∃ j,i=j+1:=⟨i-1,by omega⟩
    have hy:L[j]?=some L[j]:=Qh (by omega)
    generalize L[j]=y at hy
    have hd:decide (0<((j+1:Nat):Int))=true:=by rw[Qm];omega
    have hw:zH (((j+1:Nat):Int)-1)=(j:Int):=by rw[vJ (by omega) (by omega)];omega
    simp only[hd,Qf,hw,qQ hy,zob,zRH,z4H,Nat.add_sub_cancel,hy,h0,Qc]
    grind
theorem zZy (n:Int)(L:List qG)(hL:L.length<4294967296)(i:Nat)(hi:i≤L.length): zHl (n,L) (i:Int)=match zRB n L i with
  | some e=>some (.inr e)
  | none=>some (.inl ((i+1:Nat):Int)):=by
 unfold zHl zRB
 by_cases he:i=L.length
 ·grind
 ·have hx:L[i]?=some L[i]:=Qh (by omega)
  generalize L[i]=x at hx
  simp only[wL hx,Qf,qQ hx,zob,hx,qV hx hL]
  have hb:(decide (x.1<0)||(decide (n≤x.1)||(decide (x.2<0)||decide (n≤x.2))))=z3c n x:=by simp[z3c,Bool.or_assoc]
  rw[hb]
  cases z3c n x with
  | true=>simp
  | false =>
   simp only[zbf,Qc]
   by_cases h0:i=0
   ·grind
   ·obtain⟨j,rfl⟩:∃ j,i=j+1:=⟨i-1,by omega⟩
    have hy:L[j]?=some L[j]:=Qh (by omega)
    generalize L[j]=y at hy
    have hd:decide (0<((j+1:Nat):Int))=true:=by rw[Qm];omega
    have hw:zH (((j+1:Nat):Int)-1)=(j:Int):=by rw[vJ (by omega) (by omega)];omega
    simp only[hd,Qf,hw,qQ hy,zob,Nat.add_sub_cancel,hy,h0,Qc]
    grind
def validG (g:qE): Prop:=0≤g.1∧g.1≤40∧∀ p∈g.2,z3c g.1 p=false
theorem validates (g:qE)(hL:g.2.length<4294967296): ∃ e,zBD g=some e∧zNb g=some e∧(e=0->validG g):=by
 obtain⟨n,L⟩:=g
 unfold zBD zNb
 cases h0:(decide (n<0)||decide (40<n)) with
 | true=>grind
 | false =>
  simp at h0
  have hc:zN (zHl (n,L)) 0=zN (zBm (n,L)) 0:=by
   refine z9w (λs=>∃ i:Nat,s=(i:Int)∧i≤L.length) ?_ ?_ 0 ⟨0,rfl,Uy _⟩
   ·rintro s ⟨i,rfl,hi⟩
    rw[zOe n L hL i hi,zZy n L hL i hi]
   ·rintro s s' ⟨i,rfl,hi⟩ hb
    rw[zZy n L hL i hi] at hb
    cases hv:zRB n L i with
    | some e=>grind
    | none =>
     rw[hv] at hb
     simp at hb
     refine⟨i+1,hb.symm,?_⟩
     grind [zRB]
  have h:=uP (B:=zBm (n,L)) (λi (_:Unit)=>(i:Int)) L (λi _=>∀ p∈L.take i,z3c n p=false) (λe=>e=0->∀ p∈L,z3c n p=false) ?_ ?_ () (by simp)
  ·grind [validG]
  ·intro i x _ hx hI
   have hi:=vM hx
   rw[zOe n L hL i (by omega)]
   cases hv:zRB n L i with
   | some e =>
    grind [zRB]
   | none =>
    refine .inl ⟨(),rfl,λp hp=>?_⟩
    rw[uL hx,Qb,Qa] at hp
    rcases hp with hp | rfl
    ·grind
    grind [zRB]
  ·intro _ hI
   rw[zOe n L hL _ (Qr _)]
   refine⟨0,by simp[zRB],λ_=>?_⟩
   grind
end
section
theorem z8n:∀(n m:Nat) (acc:List Int),m<18446744073709551616->(zXh m).length≤n->acc.length+n≤64->zN zGu ((m:Int),acc)=some (acc++zXh m):=by
 intro n
 induction n with
 | zero =>
  intro m acc hm hn ha
  have h0:zXh m=[]:=QR (by omega)
  have hz:m=0:=by
   apply Nat.eq_of_testBit_eq
   intro i
   rw[Nat.zero_testBit]
   cases ht:m.testBit i with
   | false=>rfl
   | true =>
    have:=(z8s hm).2 ht
    rw[h0] at this;cases this
  subst hz
  rw[yF]
  simp[zGu,h0]
 | succ n ih =>
  intro m acc hm hn ha
  by_cases h0:m=0
  ·subst h0
   have hb:zXh 0=[]:=by
    apply List.eq_nil_iff_forall_not_mem.2
    intro x hx
    obtain⟨i,_,_,h⟩:=zQA.1 hx
    rw[Nat.zero_testBit] at h;cases h
   rw[yF]
   simp[zGu,hb]
  ·obtain⟨k,q,ht,hk,hmq⟩:=tz_nat h0 hm
   have hcons:zXh m=(k:Int)::zXh (2 ^ (k+1)*q):=by
    have hq2:∀ j,(2 ^ (k+1)*q).testBit j=(decide (k<j)&&q.testBit (j-k-1)):=by
     intro j
     have e2:2 ^ (k+1)*q=2 ^ (k+1)*q+0:=rfl
     rw[e2,UW _ (Nat.pow_pos (by decide))]
     by_cases hj:j<k+1
     ·have h1:decide (k<j)=false:=by simp;omega
      rw[Ql hj,Nat.zero_testBit,h1,UA]
     ·have h1:decide (k<j)=true:=by simp;omega
      rw[Qi hj,h1,Uw]
      congr 1
    apply yA.ext xP (z0z m)
    ·refine QP.2 ⟨λx hx=>?_,z0z _⟩
     obtain⟨j,rfl,hj,hb⟩:=zQA.1 hx
     rw[hq2,QA,Qm] at hb
     simp[uC];omega
    ·intro x
     rw[Qw,zQA,zQA]
     constructor
     ·rintro ⟨i,rfl,h1,h2⟩
      rw[hmq,zZU,Uv,Qm] at h2
      rcases h2 with rfl | h2
      ·exact .inl rfl
      ·exact .inr ⟨i,rfl,h1,by rw[hq2];exact h2⟩
     ·rintro (rfl | ⟨i,rfl,h1,h2⟩)
      ·exact⟨k,rfl,hk,by rw[hmq,zZU];simp⟩
      ·rw[hq2] at h2
       exact⟨i,rfl,h1,by rw[hmq,zZU,h2,Bool.or_true]⟩
   have hw:IntKind.u64.wrap ((m:Int)-1)=((m-1:Nat):Int):=by rw[wrapU (by omega) (by omega)];omega
   have hand:m &&& (m-1)=2 ^ (k+1)*q:=by rw[hmq];exact z9m q k
   have hlt:2 ^ (k+1)*q<18446744073709551616:=by rw[←hand];exact and_lt hm
   have hne:((m:Int) != 0)=true:=by simp;omega
   have hstep:zGu ((m:Int),acc)=some (.inl (((2 ^ (k+1)*q:Nat):Int),acc++[(k:Int)])):=by
    unfold zGu
    simp only[hne,Qf,ht,zob]
    rw[wD (by simp;omega)]
    simp only[zob]
    rw[hw,z8B hm (by omega),hand]
   rw[yF,hstep]
   have:=ih (2 ^ (k+1)*q) (acc++[(k:Int)]) hlt (by rw[hcons] at hn;simp at hn;omega) (by simp;omega)
   rw[hcons]
   simpa using this
theorem gr_list{m:Nat}(hm:m<18446744073709551616): zKt (m:Int)=some (zXh m):=by
 have:=z8n 64 m [] hm (bitsL_len m) (by simp)
 simpa [zKt] using this
structure wY (N:Nat)(L:List qG): Prop where
 hN:N≤40
 inr:∀ p∈L,z3c (N:Int) p=false
 asc:yA tY L
theorem zPJ{N:Nat}{p:qG}(h:z3c (N:Int) p=false): ∃ i j:Nat,i<N∧j<N∧p=((i:Int),(j:Int)):=by
 obtain⟨a,b⟩:=p
 simp[z3c] at h
 exact⟨a.toNat,b.toNat,by omega,by omega,by grind⟩
theorem badE_of{N i j:Nat}(hi:i<N)(hj:j<N): z3c (N:Int) ((i:Int),(j:Int))=false:=by
 simp only[z3c,Un,QV]
 omega
section
variable {N:Nat}{L:List qG}
theorem wY.nodup (h:wY N L): L.Nodup:=h.asc.imp λ{x y} hh e=>by grind
theorem wY.inN (h:wY N L): inN N L:=λa b he=>by
 obtain⟨i,j,h1,h2,h3⟩:=zPJ (h.inr _ (z4v.1 he))
 simp at h3
 exact⟨i,j,h1,h2,h3.1,h3.2⟩
theorem zMu{α:Type}[DecidableEq α]: ∀ {l m:List α},l.Nodup->(∀ x∈l,x∈m)->l.length≤m.length
 | [],_,_,_=>Uy _
 | x::l,m,hn,hs=>by
  obtain⟨h1,h2⟩:=U3.1 hn
  have h3:=zMu (m:=m.erase x) h2 λy hy=>(List.mem_erase_of_ne (λe=>by grind)).2 (hs y (Qo _ hy))
  grind
theorem wY.len (h:wY N L): L.length≤1600:=by
 have h1:=zMu (m:=(wC N).flatMap λi=>(wC N).map λj=>(i,j)) h.nodup λp hp=>by
  obtain⟨i,j,hi,hj,rfl⟩:=zPJ (h.inr p hp)
  exact QL.2 ⟨(i:Int),xW.2 ⟨by omega,by omega⟩,Qn.2 ⟨(j:Int),xW.2 ⟨by omega,by omega⟩,rfl⟩⟩
 have h2:=zO0 (λi:Int=>(wC N).map λj:Int=>(i,j)) N (wC N) λx _=>by simp[tN]
 rw[tN] at h2
 have h3:N*N≤40*40:=Ws h.hN h.hN
 omega
theorem wY.len' (h:wY N L): L.length<4294967296:=by have:=h.len;omega
theorem z1y{n:Int}{i:Nat}{p:qG}(hp:L[i]?=some p): zRB n L i=none↔z3c n p=false∧(i=0∨∃ q,L[i-1]?=some q∧tY q p=true):=by
 unfold zRB
 grind
theorem vLoop (n:Int)(hL:L.length<4294967296): ∃ e,zN (zBm (n,L)) 0=some e∧(e=0↔∀ i,i<L.length->zRB n L i=none):=by
 have h:=uP (B:=zBm (n,L)) (λi (_:Unit)=>(i:Int)) L (λi _=>∀ j,j<i->zRB n L j=none) (λe=>e=0↔∀ i,i<L.length->zRB n L i=none) ?_ ?_ () (λj hj=>absurd hj (Wl _))
 ·grind
 ·intro i x _ hx hI
  have hi:=vM hx
  rw[zOe n L hL i (by omega)]
  cases hv:zRB n L i with
  | some e =>
   grind [zRB]
  | none =>
   refine .inl ⟨(),rfl,λj hj=>?_⟩
   grind
 ·intro _ hI
  rw[zOe n L hL _ (Qr _)]
  exact⟨0,by simp[zRB],by grind⟩
theorem z8a{α:Type}{lt:α->α->Bool}(O:z0U lt): ∀ {l:List α},(∀ i x y,l[i]?=some x->l[i+1]?=some y->lt x y=true)->yA lt l
 | [],_=>List.Pairwise.nil
 | [x],_=>List.pairwise_singleton _ _
 | x::y::l,h=>by
  have h1:=z8a O (l:=y::l) λi a b ha hb=>h (i+1) a b (by grind) (by grind)
  have h2:lt x y=true:=h 0 x y rfl rfl
  refine QP.2 ⟨λz hz=>?_,h1⟩
  rcases Qw.1 hz with rfl | hz
  ·exact h2
  ·exact O.trans _ _ _ h2 ((QP.1 h1).1 z hz)
theorem asc_pair{α:Type}{lt:α->α->Bool}{l:List α}(h:yA lt l){i:Nat}{x y:α}(hx:l[i]?=some x)(hy:l[i+1]?=some y): lt x y=true:=by
 obtain⟨h1,rfl⟩:=Qe.1 hx
 obtain⟨h2,rfl⟩:=Qe.1 hy
 exact Ud.1 h i (i+1) h1 h2 (Nat.lt_succ_self i)
theorem z2A{n:Int}: (∀ i,i<L.length->zRB n L i=none)↔(∀ p∈L,z3c n p=false)∧yA tY L:=by
 constructor
 ·intro h
  have h1:∀(i:Nat) p,L[i]?=some p->z3c n p=false∧(i=0∨∃ q,L[i-1]?=some q∧tY q p=true):=λi p hp=>(z1y hp).1 (h i (vM hp))
  refine⟨λp hp=>?_,z8a ord2 λi x y hx hy=>?_⟩
  ·grind [List.getElem?_of_mem]
  grind
 ·rintro ⟨h1,h2⟩ i hi
  have hp:L[i]?=some L[i]:=Qh hi
  refine(z1y hp).2 ⟨h1 _ (List.getElem_mem hi),?_⟩
  by_cases h0:i=0
  ·grind
  ·have hq:L[i-1]?=some L[i-1]:=Qh (by omega)
   exact .inr ⟨_,hq,asc_pair h2 hq (by grind)⟩
theorem zWH (n:Int)(hL:L.length<4294967296): ∃ e,zBD (n,L)=some e∧zNb (n,L)=some e∧(e=0↔∃ N:Nat,n=(N:Int)∧wY N L):=by
 obtain⟨e,h1,h2,h3⟩:=validates (n,L) hL
 refine⟨e,h1,h2,?_⟩
 constructor
 ·intro he
  obtain⟨k1,k2,k3⟩:=h3 he
  obtain⟨N,rfl⟩:=QH k1
  refine⟨N,rfl,by grind,k3,?_⟩
  subst he
  unfold zBD at h1
  have hc:(decide ((N:Int)<0)||decide (40<(N:Int)))=false:=by
   have:(N:Int)≤40:=k2
   simp;omega
  simp[hc] at h1
  obtain⟨e',h4,h5⟩:=vLoop (L:=L) (N:Int) hL
  rw[h4] at h1
  exact(z2A.1 (h5.1 (QE h1))).2
 ·rintro ⟨N,rfl,hG⟩
  unfold zBD at h1
  have hc:(decide ((N:Int)<0)||decide (40<(N:Int)))=false:=by
   have:=hG.hN
   simp;omega
  simp[hc] at h1
  obtain⟨e',h4,h5⟩:=vLoop (L:=L) (N:Int) hL
  rw[h4] at h1
  rw[←QE h1]
  exact h5.2 (z2A.2 ⟨hG.inr,hG.asc⟩)
theorem wY.v1 (h:wY N L): zBD ((N:Int),L)=some 0:=by
 obtain⟨e,h1,_,h3⟩:=zWH (N:Int) h.len'
 grind
theorem wY.proper (h:wY N L): zGO ((N:Int),L)=some ((N:Int),L):=by
 unfold zGO;rw[h.v1];rfl
theorem z6x{n:Int}{l:List qX}{g:qE}(h:zZ5 n l=(g,0)): ∃ N:Nat,n=(N:Int)∧g.1=(N:Int)∧wY N g.2∧g.2=xR tY (zKL l):=by
 unfold zZ5 at h
 cases h0:(decide (n<0)||decide (40<n)) with
 | true=>grind
 | false =>
  cases h1:l.any (z90 n) with
  | true=>grind
  | false =>
   simp[h0,h1] at h
   subst h
   simp at h0
   refine⟨n.toNat,by omega,by grind,⟨by omega,λp hp=>?_,(zLV ord2 _).1⟩,rfl⟩
   have hp:p∈zKL l:=((zLV ord2 _).2 p).1 hp
   obtain⟨a,ha,rfl⟩:=Qn.1 hp
   have:=Us.1 h1 a ha
   simp[z90] at this
   grind [z3c]
def rowM (L:List qG)(i:Nat): Nat:=z5h ((L.filter λp=>p.1==(i:Int)).map (·.2))
theorem rowM_lt (h:wY N L)(i:Nat): rowM L i<18446744073709551616:=maskL_lt λx hx=>by
 obtain⟨p,hp,rfl⟩:=Qn.1 hx
 obtain⟨a,b,h1,h2,rfl⟩:=zPJ (h.inr p (Qk.1 hp).1)
 have:=h.hN
 show(b:Int)<64
 omega
theorem z8U (h:wY N L)(i j:Nat): (rowM L i).testBit j=ed L (i:Int) (j:Int):=by
 unfold rowM
 rw[maskL_bit (λx hx=>?_),QZ,Qm,z4v]
 ·constructor
  ·intro hx
   obtain⟨p,hp,h2⟩:=Qn.1 hx
   obtain⟨h3,h4⟩:=Qk.1 hp
   have h5:p.1=(i:Int):=by simpa using h4
   have:p=((i:Int),(j:Int)):=by rw[←h5,←h2]
   rw[←this];exact h3
  ·intro hx
   exact Qn.2 ⟨_,Qk.2 ⟨hx,by simp⟩,rfl⟩
 ·obtain⟨p,hp,rfl⟩:=Qn.1 hx
  obtain⟨a,b,h1,h2,rfl⟩:=zPJ (h.inr p (Qk.1 hp).1)
  show(0:Int)≤(b:Int)
  omega
theorem z8j (l:List Int)(x:Int): z5h (l++[x])=z5h l ||| 2 ^ x.toNat:=by simp[z5h]
theorem shlK_u1{i:Nat}(h:i<64): shlK .u64 1 (i:Int)=some ((2 ^ i:Nat):Int):=by
 have:=shlK_one h
 rwa [zTR (by omega)] at this
theorem z6B (h:wY N L): zJe ((N:Int),L)=some (zX N λi=>((rowM L i:Nat):Int)):=by
 unfold zJe
 have hN:=h.hN
 rw[mkS_ok (by omega)]
 simp only[zob]
 have hlp:=uP (B:=zKc ((N:Int),L)) (λi (s:List Int)=>(s,(i:Int))) L (λi s=>s=zX N λa=>((rowM (L.take i) a:Nat):Int)) (λr=>r=zX N λi=>((rowM L i:Nat):Int)) ?_ ?_ (zX N λ_=>0) (by
   apply zBk;intro i _;simp[rowM,z5h])
 ·obtain⟨r,h1,rfl⟩:=hlp
  exact h1
 ·rintro i p s hp rfl
  refine .inl ⟨_,?_,rfl⟩
  obtain⟨a,b,h1,h2,rfl⟩:=zPJ (h.inr p (wG hp))
  have hg:∀ q∈L.take i,q∈L:=λq hq=>UF hq
  have hgood:wY N (L.take i):=⟨hN,λq hq=>h.inr q (hg q hq),h.asc.sublist (List.take_sublist _ _)⟩
  unfold zKc
  simp only[wL hp,Qf,qQ hp,zob,zIu _ h1,shlK_u1 (i:=b) (by omega),qV hp h.len',Qj,zVg]
  rw[bor_nat (rowM_lt hgood a) (z82 (by omega))]
  congr 3
  apply zBk
  intro q _
  rw[uL hp]
  by_cases hq:q=a
  ·subst hq
   simp only[Qf]
   unfold rowM
   rw[Uo,UL]
   simp[z8j]
  ·have hf:(((a:Nat):Int)==(q:Int))=false:=by simp;omega
   simp only[hq,Qc]
   unfold rowM
   rw[Uo]
   simp[hf]
 ·rintro s rfl
  refine⟨_,?_,rfl⟩
  unfold zKc
  simp[len]
abbrev zQM (N:Nat)(L:List qG)(i:Int): List Int:=(wC N).filter λj=>ed L i j
abbrev qJ (N:Nat)(L:List qG)(i:Int): List Int:=(wC N).filter λj=>ed L j i
theorem bits_row (h:wY N L)(i:Nat): zXh (rowM L i)=zQM N L (i:Int):=by
 apply yA.ext xP (z0z _) ((zNF N).filter _)
 intro x
 rw[zQA,Qk,xW]
 constructor
 ·rintro ⟨j,rfl,h1,h2⟩
  rw[z8U h] at h2
  obtain⟨a,b,h3,h4,h5,h6⟩:=h.inN _ _ h2
  exact⟨by omega,h2⟩
 ·rintro ⟨h1,h2⟩
  obtain⟨j,rfl⟩:=QH h1.1
  have:=h.hN
  exact⟨j,rfl,by omega,by rw[z8U h];exact h2⟩
theorem zPW (h:wY N L)(i:Int): zDg ((N:Int),L) i=some (zQM N L i):=by
 unfold zDg
 rw[h.proper]
 simp only[zob]
 cases hc:(decide (i<0)||decide ((N:Int)≤i)) with
 | true =>
  simp only[Qf,Qg]
  symm
  apply UV.2
  intro x _ he
  obtain⟨a,b,h1,h2,h3,h4⟩:=h.inN _ _ he
  simp only[Uv,Qm] at hc
  omega
 | false =>
  simp only[Un,QV] at hc
  obtain⟨k,rfl⟩:=QH (show 0≤i by omega)
  simp only[zbf,Qc,z6B h,zob,zIu _ (show k<N by omega),gr_list (rowM_lt h k),bits_row h]
def swapP (p:qG): qG:=(p.2,p.1)
def revL (L:List qG): List qG:=(L.map swapP).mergeSort λx y=>!tY y x
theorem ed_rev{a b:Int}: ed (revL L) a b=ed L b a:=by
 rw[QZ,z4v,z4v,revL,List.mem_mergeSort,Qn]
 constructor
 ·rintro ⟨⟨c,d⟩,h1,h2⟩
  simp only[swapP,Prod.mk.injEq] at h2
  rw[←h2.1,←h2.2];exact h1
 ·intro h
  exact⟨_,h,rfl⟩
theorem z3n{α:Type}{lt:α->α->Bool}(O:z0U lt){l:List α}(h:l.Pairwise λx y=>lt y x=false)(hn:l.Nodup): yA lt l:=by
 have:=List.Pairwise.and h hn
 exact this.imp λ{x y} hh=>by
  rcases O.tri x y with h1 | h1 | h1
  ·exact h1
  ·exact absurd h1 hh.2
  ·rw[hh.1] at h1;cases h1
theorem wY.rev (h:wY N L): wY N (revL L):=by
 refine⟨h.hN,λp hp=>?_,z3n ord2 (zPF ord2 _) ?_⟩
 ·obtain⟨q,hq,rfl⟩:=Qn.1 (List.mem_mergeSort.1 hp)
  obtain⟨i,j,hi,hj,rfl⟩:=zPJ (h.inr q hq)
  exact badE_of hj hi
 ·have hp:(revL L).Perm (L.map swapP):=UU _ _
  rw[hp.nodup_iff]
  refine Q8.2 (h.nodup.imp ?_)
  rintro ⟨a,b⟩ ⟨c,d⟩ hne he
  simp only[swapP,Prod.mk.injEq] at he
  exact hne (by rw[he.1,he.2])
theorem zZC (x y:qG): yL zDZ x y=tY x y:=by
 simp only[yL,zRH,Ux]
 exact zRX (by rw[zRX (r:=[]) (b:=false) (by simp[orF])];simp)
theorem zZa{l:List qG}(hl:l.length<4294967296): zAs l=some (l.mergeSort λx y=>!tY y x) :=
 z2g ord2 (λx y=>⟨_,zRH x y⟩) zZC hl
theorem z3I (h:wY N L): zGc ((N:Int),L)=some ((N:Int),revL L):=by
 unfold zGc
 rw[h.proper]
 simp only[zob]
 have hl:=zWp (B:=zIt ((N:Int),L)) L (λs p=>s++[swapP p]) id (λi s=>s.length≤i) ([]:List qG) (by simp) ?_ ?_
 ·rw[hl.1,zH5]
  simp only[id,QI,zob]
  rw[zZa (by rw[QJ];exact h.len')]
  rfl
 ·intro i p s hp hI
  have:=h.len
  have:=vM hp
  unfold zIt
  simp only[wL hp,Qf,qQ hp,zob,qV hp h.len']
  rw[wD (by simp;omega)]
  exact⟨rfl,by simp;omega⟩
 ·intro s _
  unfold zIt
  simp[len]
theorem zJ1 (h:wY N L)(i:Int): zC4 ((N:Int),L) i=some (qJ N L i):=by
 unfold zC4
 rw[z3I h]
 simp only[zob]
 rw[zPW h.rev]
 simp only[zob,Qg]
 exact U5 λx _=>ed_rev
end
end
section
theorem zKh{N i:Nat}(f:Nat->Int): (zX N f)[i]?=if i<N then some (f i) else none:=by
 unfold zX
 by_cases h:i<N
 ·simp[h]
 ·simp[h]
theorem z5Q (N:Nat)(f:Nat->Int): zX (N+1) f=zX N f++[f N]:=by simp[zX,List.range_succ]
theorem z5q{N c:Nat}(f:Nat->Int)(h:c≤N): (zX N f).take c=zX c f:=by
 apply QN
 intro i
 rw[QX,zKh,zKh]
 by_cases h1:i<c
 ·simp[h1,show i<N by omega]
 ·simp[h1]
theorem z0Q (k:Nat)(f:Nat->Int){x:Nat}(hx:x<k)(v:Int): tD k (zX k f) (x:Int) v=zX k λj=>if j=x then v else f j:=by
 unfold tD zX
 apply Wc
 intro j hj
 have hj:=Ua.1 hj
 rw[Qj]
 by_cases h:j=x
 ·simp[h]
 ·simp only[h,Qc]
  simp[List.getD,hj]
theorem zTS (k:Nat)(f:Nat->Int){x:Nat}(hx:x<k): yS (zX k f) (x:Int)=f x:=by
 unfold yS zX
 simp[List.getD,hx]
theorem z7X (k:Nat)(v:Int): List.replicate k v=zX k λ_=>v:=by
 apply QN
 intro i
 rw[zKh,List.getElem?_replicate]
theorem zPL{x k:Nat}{K:Int}(hK:K=(k:Int))(h:x<k): vT (decide (0≤(x:Int))&&decide ((x:Int)<K))=some ():=by
 subst hK
 simp[vT];omega
theorem mul_small:∀ n,n<41->zOi (IntKind.u64.wrap 1) (IntKind.u64.wrap ((n:Nat):Int))=some (0,(n:Int)):=by decide +kernel
theorem z7N{n c:Nat}(x:Int)(hc:c≤n): zLB (zX n λi=>if i<c then x else 0) (c:Int) (zX c λi=>if i<c then x else 0)=zX n λi=>if i<min (c+c) n then x else 0:=by
 unfold zLB
 apply QN
 intro i
 rw[Qj,zEX,zEX,z5q _ hc]
 rw[List.getElem?_append,List.getElem?_append,Qd,zEX,QB,zEX,QX,UC]
 rw[zKh,zKh,zKh,zKh]
 by_cases h1:i<c
 ·have h2:i<c+min (n-c) c:=by omega
  have h3:i<n:=by omega
  have h4:i<min (c+c) n:=by omega
  simp only[h1,h2,h3,h4,Qf]
 ·by_cases h2:i<c+min (n-c) c
  ·have h3:i<n:=by omega
   have h4:i<min (c+c) n:=by omega
   have h5:i-c<n-c:=by omega
   have h6:i-c<c:=by omega
   simp only[h1,h2,h3,h4,h5,h6,Qf,Qc]
  ·by_cases h3:i<n
   ·have h4:c+c+(i-(c+min (n-c) c))=i:=by omega
    have h5:¬ i<min (c+c) n:=by omega
    rw[h4]
    simp only[h1,h2,h3,h5,Qf,Qc]
   ·have h4:¬ c+c+(i-(c+min (n-c) c))<n:=by omega
    simp only[h1,h2,h3,h4,Qc]
theorem z8v (x:Int){n:Nat}(hn:n≤40): zDB [x] (n:Int)=some (zX n λ_=>x):=by
 unfold zDB
 have h0:decide ((n:Int)<0)=false:=Q9 (by omega)
 have h1:IntKind.u64.wrap (len [x])=IntKind.u64.wrap 1:=rfl
 have h2:(decide ((0:Int)<0)||decide (9223372036854775807<(n:Int)))=false:=by simp;omega
 simp only[h0,zbf,Qc,zob,h1,mul_small n (by omega),h2,z6i n (by omega)]
 rw[mkS_ok (by omega)]
 simp only[zob,zEX]
 have hs:zLB (zX n λ_=>(0:Int)) 0 [x]=zX n λi=>if i<min 1 n then x else 0:=by
  cases n with
  | zero=>rfl
  | succ n =>
   unfold zLB zX
   rw[List.range_succ_eq_map]
   simp only[Ug,List.map_map]
   have h4:min 1 (n+1)=1:=by omega
   simp[Function.comp_def,h4]
 rw[hs]
 have hm:((Nat.min (List.length [x]) n:Nat):Int)=((min 1 n:Nat):Int):=rfl
 rw[hm]
 have hl:=z7k (B:=zIb (zX n λ_=>0)) (λs=>n-s.2.toNat) (λs=>∃ c:Nat,c≤n∧min 1 n≤c∧s=(zX n (λi=>if i<c then x else 0),(c:Int))) (λr=>r=zX n λ_=>x) ?_ (zX n (λi=>if i<min 1 n then x else 0),((min 1 n:Nat):Int)) ⟨min 1 n,by omega,Qr _,rfl⟩
 ·obtain⟨r,h3,rfl⟩:=hl
  exact h3
 ·rintro _ ⟨c,hc,h1c,rfl⟩
  unfold zIb
  by_cases hlt:c<n
  ·refine .inl ⟨(zX n (λi=>if i<min (c+c) n then x else 0),((min (c+c) n:Nat):Int)),?_,⟨min (c+c) n,by omega,by omega,rfl⟩,?_⟩
   ·have hd:decide ((c:Int)<len (zX n λ_=>(0:Int)))=true:=Qy (by simp only[len,zEX];omega)
    have hck:(decide (0≤(c:Int))&&decide ((c:Int)≤len (zX n λi=>if i<c then x else 0)))=true:=by
     rw[Qy (show 0≤(c:Int) by omega),Qy (show(c:Int)≤len (zX n λi=>if i<c then x else 0) by simp only[len,zEX];omega)]
     rfl
    simp only[hd,Qf,hck,vT,zob]
    rw[zNJ (by omega) (by rw[zEX];omega)]
    simp only[zob,Qj,z5q _ hc,z7N x hc,zEX]
    have hnum:((Nat.min c (Int.toNat (((n:Nat):Int)-(c:Int))):Nat):Int)=((min c (n-c):Nat):Int):=by
     have:Int.toNat (((n:Nat):Int)-(c:Int))=n-c:=by omega
     rw[this]
    rw[hnum,vJ (by omega) (by omega)]
    congr 3
    omega
   ·simp only[Qj]
    omega
  ·have hcn:c=n:=by omega
   subst hcn
   have hd:decide ((c:Int)<len (zX c λ_=>(0:Int)))=false:=by simp[len,zEX]
   refine .inr ⟨zX c λi=>if i<c then x else 0,by simp only[hd,zbf,Qc],?_⟩
   apply zBk
   intro i hi
   simp[hi]
section
variable (N:Nat)(L:List qG)
noncomputable def xL:Nat->Nat->Int
 | 0,_=>0
 | k+1,i=>if qZ N L (k+1) i=qZ N L k i then xL k i else((k+1:Nat):Int)
theorem rnk_le:∀ k i,xL N L k i≤(k:Int)
 | 0,_=>Int.le_refl _
 | k+1,i=>by
  unfold xL
  have:=rnk_le k i
  split <;> omega
theorem zPV (k i:Nat): qZ N L k i=1∨qZ N L k i=2∨qZ N L k i=3:=by
 unfold qZ
 by_cases h1:xJ N L k i
 ·simp[h1]
 ·by_cases h2:att (wA L) (xJ N L k) i <;> simp[h1,h2]
theorem now3{k i:Nat}(h:tT N L k i): qZ N L k i=3:=(lab3 N L).2 ⟨h.2,λ⟨m,h3,h4⟩=>zXJ N L h3 (h.1.2 m h4)⟩
theorem lab_stay1{k i:Nat}(h:qZ N L k i=1): qZ N L (k+1) i=1:=(z9g N L).2 (zRM ((z9g N L).1 h))
theorem z4Z{k i:Nat}(h:qZ N L k i=2): qZ N L (k+1) i=2:=(zY7 N L).2 (by obtain⟨m,h1,h2⟩:=(zY7 N L).1 h;exact⟨m,zRM h1,h2⟩)
theorem z7A{k:Nat}(h:∀ i,¬ tT N L k i): ∀ m,k≤m->∀ i,qZ N L m i=qZ N L k i:=by
 intro m hm i
 have hs:=gr_stay (D:=(· < N)) (R:=wA L) (k:=k) λi hi=>Classical.byContradiction λhn=>h i ⟨hi,hn⟩
 have he:∀ i,xJ N L m i↔xJ N L k i:=λi=>⟨hs m hm i,gr_le hm⟩
 unfold qZ
 have ha:att (wA L) (xJ N L m) i↔att (wA L) (xJ N L k) i:=⟨λ⟨j,h1,h2⟩=>⟨j,(he j).1 h1,h2⟩,λ⟨j,h1,h2⟩=>⟨j,(he j).2 h1,h2⟩⟩
 by_cases h1:xJ N L k i
 ·rw[Ql ((he i).2 h1),Ql h1]
 ·rw[Qi (λh=>h1 ((he i).1 h)),Qi h1]
  by_cases h2:att (wA L) (xJ N L k) i
  ·rw[Ql (ha.2 h2),Ql h2]
  ·rw[Qi (λh=>h2 (ha.1 h)),Qi h2]
theorem rnk_end{k:Nat}(h:∀ i,¬ tT N L k i): ∀ m,k≤m->∀ i,xL N L m i=xL N L k i:=by
 intro m hm i
 induction m with
 | zero=>rw[show k=0 by omega]
 | succ m ih =>
  by_cases he:k=m+1
  ·rw[he]
  ·have h1:qZ N L (m+1) i=qZ N L m i:=by rw[z7A N L h (m+1) hm,z7A N L h m (by omega)]
   rw[xL,Ql h1,ih (by omega)]
theorem z7V{i:Nat}: ¬ tT N L N i:=λh=>h.2 (gr_last (D:=(· < N)) (λ_ h=>h) h.1)
end
section
variable {N:Nat}{L:List qG}
noncomputable abbrev lb (N:Nat)(L:List qG)(k:Nat): List Int:=zX N (qZ N L k)
noncomputable abbrev rn (N:Nat)(L:List qG)(k:Nat): List Int:=zX N (xL N L k)
noncomputable def yW (N:Nat)(L:List qG): List Int:=lb N L (N+1)
noncomputable def zTn (N:Nat)(L:List qG): List Int:=rn N L (N+1)
theorem z7K:lb N L 0=zX N λ_=>3:=zBk λi _=>(lab3 N L).2 ⟨λh:xJ N L 0 i=>h.elim,λ⟨m,(h:xJ N L 0 m),_⟩=>h.elim⟩
theorem end_lb{k:Nat}(hk:k≤N)(h:∀ i,¬ tT N L k i): lb N L k=yW N L∧rn N L k=zTn N L:=by
 refine⟨zBk λi _=>(z7A N L h (N+1) (by omega) i).symm,zBk λi _=>(rnk_end N L h (N+1) (by omega) i).symm⟩
theorem wY.hR (h:wY N L): ∀ a b:Int,ed L a b=true->∃ m,m<N∧a=(m:Int):=λa b he=>by
 obtain⟨i,j,h1,_,h3,_⟩:=h.inN a b he
 exact⟨i,h1,h3⟩
theorem zWr{i:Int}{q:Nat}{x:Int}(h:(qJ N L i)[q]?=some x): ∃ a:Nat,x=(a:Int)∧a<N∧ed L (a:Int) i=true:=by
 obtain⟨h1,h2⟩:=Qk.1 (wG h)
 obtain⟨h3,h4⟩:=xW.1 h1
 obtain⟨a,rfl⟩:=QH h3
 exact⟨a,rfl,by omega,h2⟩
theorem zMa (i:Int): (qJ N L i).length≤N:=QD (Qz _ _) (by rw[tN];exact Qr _)
theorem z7m (i:Int): (zQM N L i).length≤N:=QD (Qz _ _) (by rw[tN];exact Qr _)
open Classical in
noncomputable def z4j (N:Nat)(L:List qG)(k i:Nat): Int:=if tT N L k i then 1 else qZ N L k i
open Classical in
noncomputable def rnk' (N:Nat)(L:List qG)(k i:Nat): Int:=if tT N L k i then((k+1:Nat):Int) else xL N L k i
end
end
end Go.GD
