/- A part. Conditions: none. -/
import Derived.Test.YtgdgcdmdogdmgaaGreatDoorLib
import Derived.Test.YtgdgcdmdogdmgaaGreatDoorModels
import Derived.Lib.TrailingZeros
import Derived.Shelf.Strings.FieldsAny
namespace Go.GD
set_option autoImplicit false
set_option linter.unusedVariables false
section
noncomputable def zGm (y0:qE)(s1:Int): Option (Int⊕Int) :=
 if decide (s1<(len y0.2)) then
  (zB y0.2 s1).bind fun x1 =>
  if(decide (x1.1<0))||((decide (y0.1≤x1.1))||((decide (x1.2<0))||(decide (y0.1≤x1.2)))) then
   some (.inr 1)
  else
   (
    if decide (0<s1) then
     (zB y0.2 (zM (s1-1))).bind fun x2 =>
     if decide (x1.1<x2.1) then
      some true
     else
      (zB y0.2 (zM (s1-1))).bind fun x3 =>
      if x3.1==x1.1 then
       (zB y0.2 (zM (s1-1))).bind fun x4 =>
       some (decide (x1.2≤x4.2))
      else
       some false
    else
     some false:Option Bool).bind fun s2 =>
   if s2 then
    some (.inr 8)
   else
    some (.inl (zM (s1+1)))
 else
  some (.inr 0)
noncomputable def zLe (y0:qE): Option Int :=
 if(decide (y0.1<0))||(decide (40<y0.1)) then
  some 1
 else
  zN (zGm y0) 0
end
section
theorem uL{x:Int}(h1:-9223372036854775808≤x)(h2:x<9223372036854775808): zM x=x:=by
 simp only[zM,IntKind.wrap,IntKind.signed,IntKind.bits]
 simp;omega
theorem z5t (n:Nat)(h:n<9223372036854775808): zM (n:Int)=n:=uL (by omega) (by omega)
theorem vN (n:Nat)(h:n+1<9223372036854775808): zM ((n:Int)+1)=((n+1:Nat):Int):=by rw[uL (by omega) (by omega)];omega
theorem xW{α:Type}(l:List α)(i:Nat): zB l (i:Int)=l[i]?:=by simp[zB]
theorem z7y (l:zD)(i:Nat): z2G l (i:Int)=(l[i]?).map (fun b=>(b.toNat:Int)):=by simp[z2G]
theorem zVv{α:Type}{l:List α}{i:Int}(h0:0≤i)(h1:i<l.length): ∃ x,zB l i=some x∧l[i.toNat]?=some x:=by
 have:l[i.toNat]?=some l[i.toNat]:=Qe (by omega)
 grind [zB]
theorem wS{α:Type}{l m:List α}(h:l.length+m.length<4294967296): qG l m=some (l++m):=by simp[qG,h]
theorem zNm{l m:zD}(h:l.length+m.length<4294967296): cat l m=some (l++m):=by simp[cat,h]
theorem zSN{α:Type}{l:List α}{j:Int}(h1:0≤j)(h2:j≤l.length): sub l 0 j=some (l.take j.toNat):=by simp[sub,h1,h2]
theorem z0B{α:Type}{l:List α}{i:Int}(h1:0≤i)(h2:i≤l.length): sub l i (len l)=some (l.drop i.toNat):=by simp[sub,h1,h2]
def z3b{σ ρ α:Type}(step:Nat->σ->α->Option (σ⊕ρ))(fin:σ->Option ρ): Nat->List α->σ->Option ρ
 | _,[],s=>fin s
 | i,x::l,s=>match step i s x with
  | none=>none
  | some (.inl s')=>z3b step fin (i+1) l s'
  | some (.inr r)=>some r
theorem z6w{σ ρ α τ:Type}{B:τ->Option (τ⊕ρ)}(mk:Nat->σ->τ)(l:List α)(step:Nat->σ->α->Option (σ⊕ρ))(fin:σ->Option ρ)
  (hB:∀ i x s,l[i]?=some x->B (mk i s)=(step i s x).map fun o=>match o with | .inl s'=>.inl (mk (i+1) s') | .inr r=>.inr r)
  (he:∀ s,B (mk l.length s)=(fin s).map .inr):∀(n i:Nat) (s:σ),i+n=l.length->zN B (mk i s)=z3b step fin i (l.drop i) s:=by
 intro n
 induction n with
 | zero =>
  intro i s h
  subst h
  rw[vR,he,List.drop_length]
  cases hf:fin s <;> simp[z3b,hf]
 | succ n ih =>
  grind [vR,List.drop_eq_getElem_cons,z3b]
theorem zUj{σ ρ α τ:Type}{B:τ->Option (τ⊕ρ)}(mk:Nat->σ->τ)(l:List α)(step:Nat->σ->α->Option (σ⊕ρ))(fin:σ->Option ρ)
  (hB:∀ i x s,l[i]?=some x->B (mk i s)=(step i s x).map fun o=>match o with | .inl s'=>.inl (mk (i+1) s') | .inr r=>.inr r)
  (he:∀ s,B (mk l.length s)=(fin s).map .inr) (s:σ):zN B (mk 0 s)=z3b step fin 0 l s:=by
 have:=z6w mk l step fin hB he l.length 0 s (by omega)
 grind
theorem zZj{ρ α:Type}{B:Int->Option (Int⊕ρ)}{l:List α}{r:ρ}(hB:∀(i:Nat) (x:α),l[i]?=some x->B (i:Int)=some (.inl ((i+1:Nat):Int)))
  (he:B (l.length:Int)=some (.inr r)):zN B 0=some r:=by
 have h:=zUj (B:=B) (fun i (_:Unit)=>(i:Int)) l (fun _ _ _=>some (.inl ())) (fun _=>some r) (fun i x s hx=>by grind) (fun s=>by simp[he]) ()
 have key:∀(l:List α) (i:Nat),z3b (fun _ (_:Unit) (_:α)=>some (.inl ())) (fun _=>some r) i l ()=some r:=by
  intro l
  induction l with
  | nil=>intro i;rfl
  | cons x l ih=>intro i;exact ih (i+1)
 grind
theorem xS{ρ α σ τ:Type}{B:τ->Option (τ⊕ρ)}(mk:Nat->σ->τ)(l:List α)(I:Nat->σ->Prop)(Q:ρ->Prop)
  (hB:∀ i x s,l[i]?=some x->I i s->(∃ s',B (mk i s)=some (.inl (mk (i+1) s'))∧I (i+1) s')∨∃ r,B (mk i s)=some (.inr r)∧Q r)
  (he:∀ s,I l.length s->∃ r,B (mk l.length s)=some (.inr r)∧Q r):∀ s,I 0 s->∃ r,zN B (mk 0 s)=some r∧Q r:=by
 have key:∀ n i s,i+n=l.length->I i s->∃ r,zN B (mk i s)=some r∧Q r:=by
  intro n
  induction n with
  | zero =>
   intro i s h hI
   grind [vR]
  | succ n ih =>
   intro i s h hI
   have hx:l[i]?=some l[i]:=Qe (by omega)
   grind [vR]
 simp_all
theorem zTD{ρ τ:Type}{B:τ->Option (τ⊕ρ)}(μ:τ->Nat)(I:τ->Prop)(Q:ρ->Prop)
  (step:∀ s,I s->(∃ s',B s=some (.inl s')∧I s'∧μ s' < μ s)∨(∃ r,B s=some (.inr r)∧Q r)) (s:τ) (h:I s):∃ r,zN B s=some r∧Q r:=zNx I μ Q step s h
end
section
theorem z8J{α:Type}(l:List α)(i k:Nat): zYA l (i:Int) (k:Int)=l[i+k]?:=by
 simp only[zYA]
 rw[Qu (by omega),show((i:Int)+(k:Int))=((i+k:Nat):Int) by omega,xW]
section
variable {α:Type}[BEq α]
noncomputable def zQ8 (y0:List α)(s1:Int)(s3:(List α)×Int×Int): Option (((List α)×Int×Int)⊕((List α)×Int)) :=
 if decide (s3.2.2<((Int.toNat (((List.length y0:Nat):Int)-s1):Nat):Int)) then
  (zYA s3.1 s1 s3.2.2).bind fun x3 =>
  (zYA s3.1 s1 (zM (s3.2.2-1))).bind fun x4 =>
  if !(x3==x4) then
   (zYA s3.1 s1 s3.2.2).bind fun x5 =>
   (zB s3.1 s3.2.1).bind fun _ =>
   some (.inl (List.set s3.1 (Int.toNat s3.2.1) x5,zM (s3.2.1+1),zM (s3.2.2+1)))
  else
   some (.inl (s3.1,s3.2.1,zM (s3.2.2+1)))
 else
  some (.inr (s3.1,s3.2.1))
noncomputable def zTB (z:α)(y0:List α)(s1:Int): Option (Int⊕(List α)) :=
 if decide (s1<(len y0)) then
  (zB y0 s1).bind fun x1 =>
  (zB y0 (zM (s1-1))).bind fun x2 =>
  if x1==x2 then
   (wV (decide (0≤s1)&&decide (s1≤len y0))).bind fun _ =>
   (zN (zQ8 y0 s1) (y0,s1,1):Option ((List α)×Int)).bind fun s2 =>
   (wV (decide (0≤s2.2)&&decide (s2.2≤len s2.1))).bind fun _ =>
   (sub (zDI s2.1 s2.2 z) 0 s2.2).bind fun x7 =>
   some (.inr x7)
  else
   some (.inl (zM (s1+1)))
 else
  some (.inr y0)
noncomputable def zZB (z:α)(y0:List α): Option (List α) :=
 if decide ((len y0)<2) then
  some y0
 else
  zN (zTB z y0) 1
def dd (a:α): List α->List α
 | []=>[]
 | b::r=>if a==b then dd b r else b::dd b r
def tW:List α->List α
 | []=>[]
 | a::r=>a::dd a r
theorem z1d:∀(r s:List α) (a:α),dd a (r++s)=dd a r++dd (r.getLastD a) s
 | [],s,a=>rfl
 | b::r,s,a=>by
  simp[dd,z1d r s b]
  grind
theorem zY9{l:List α}{j:Nat}{y x:α}(h1:l[j]?=some y)(h2:l[j+1]?=some x): tW (l.take (j+2))=tW (l.take (j+1))++if y==x then[] else[x]:=by
 have e1:l.take (j+2)=l.take (j+1)++[x]:=by
  rw[QW (i:=j+1),h2];rfl
 have e2:l.take (j+1)=l.take j++[y]:=by rw[QW,h1];rfl
 cases hl:l.take (j+1) with
 | nil=>simp_all
 | cons a r =>
  have hlast:r.getLastD a=y:=by
   have:(a::r).getLast?=some y:=by rw[←hl,e2];simp
   rw[←List.getLastD_cons (a:=a) (b:=a) (l:=r),List.getLastD_eq_getLast?,this];rfl
  grind [tW,z1d,dd]
theorem z9n:∀(r:List α) (a:α),(dd a r).length≤r.length
 | [],_=>Qr _
 | b::r,a=>by
  simp[dd]
  have:=z9n r b
  grind
theorem z6U (l:List α): (tW l).length≤l.length:=by
 cases l with
 | nil=>simp[tW]
 | cons a r=>grind [z9n,tW]
theorem zXx[LawfulBEq α](l:List α)(i0:Nat)(h0:1≤i0)(hi:i0<l.length)(hbig:l.length<9223372036854775807)(hd:tW (l.take (i0+1))=tW (l.take i0))(hk:tW (l.take i0)=l.take i0):
  ∃ c k,zN (zQ8 l (i0:Int)) (l,(i0:Int),1)=some (c,((k:Nat):Int))∧c.length=l.length∧k≤l.length∧c.take k=tW l:=by
 have key:∀ n k2 (c:List α) (k:Nat),i0+k2+n=l.length->1≤k2->c.length=l.length->k+1≤i0+k2->(∀ j,i0+k2≤j+1->c[j]?=l[j]?)->c.take k=tW (l.take (i0+k2))->
   ∃ c' k',zN (zQ8 l (i0:Int)) (c,(k:Int),(k2:Int))=some (c',((k':Nat):Int))∧c'.length=l.length∧k'≤l.length∧c'.take k'=tW l:=by
  intro n
  induction n with
  | zero =>
   intro k2 c k hn h1 hc hk1 hsame htake
   refine⟨c,k,?_,hc,by omega,?_⟩
   ·rw[vR]
    unfold zQ8
    have:decide ((k2:Int)<((Int.toNat (((List.length l:Nat):Int)-(i0:Int)):Nat):Int))=false:=by simp;omega
    grind
   grind
  | succ n ih =>
   intro k2 c k hn h1 hc hk1 hsame htake
   have hx:l[i0+k2]?=some l[i0+k2]:=Qe (by omega)
   have hy:l[i0+k2-1]?=some l[i0+k2-1]:=Qe (by omega)
   have hcx:c[i0+k2]?=some l[i0+k2]:=by rw[hsame _ (by omega)];exact hx
   have hcy:c[i0+(k2-1)]?=some l[i0+k2-1]:=by rw[hsame _ (by omega),←hy];congr 1;omega
   have hlt:decide ((k2:Int)<((Int.toNat (((List.length l:Nat):Int)-(i0:Int)):Nat):Int))=true:=by simp;omega
   have hw1:zM ((k2:Int)-1)=((k2-1:Nat):Int):=by rw[uL (by omega) (by omega)];omega
   have hdt:=zY9 (l:=l) (j:=i0+k2-1) (y:=l[i0+k2-1]) (x:=l[i0+k2]) hy (by rw[show i0+k2-1+1=i0+k2 by omega];exact hx)
   rw[show i0+k2-1+2=i0+(k2+1) by omega,show i0+k2-1+1=i0+k2 by omega] at hdt
   have hklt:k<c.length:=by omega
   rw[vR]
   unfold zQ8
   simp only[hlt,Qc,z8J,hcx,zob,hw1,hcy]
   rw[BEq.comm]
   have hklt':zB c (k:Int)=some c[k]:=by rw[xW];exact Qe hklt
   cases hb:l[i0+k2-1]==l[i0+k2] with
   | true =>
    rw[vN k2 (by omega)]
    have:=ih (k2+1) c k (by omega) (by omega) hc (by omega) (fun j hj=>hsame j (by omega)) (by grind)
    exact this
   | false =>
    simp only[Q8,Qc,hklt',zob]
    rw[vN k2 (by omega),vN k (by omega),Ql]
    refine ih (k2+1) (c.set k l[i0+k2]) (k+1) (by omega) (by omega) (by simp[hc]) (by omega) (fun j hj=>?_) ?_
    ·grind [List.getElem?_set_ne]
    ·rw[hdt,hb,←htake]
     rw[QW,List.getElem?_set_self hklt,List.take_set_of_le (Qr _)]
     rfl
 refine key (l.length-(i0+1)) 1 l i0 (by omega) (Qr _) rfl (by omega) (fun j _=>rfl) ?_
 rw[hd,hk]
theorem zO9[LawfulBEq α](z:α)(l:List α)(hbig:l.length<9223372036854775807): zZB z l=some (tW l):=by
 unfold zZB
 by_cases h2:l.length<2
 ·have:decide (len l<2)=true:=by simp[len];omega
  match l,h2 with
  | [],_=>rfl
  | [a],_=>rfl
 ·have:decide (len l<2)=false:=by simp[len];omega
  simp only[this,zbf,Qb]
  have key:∀ n k,k+n=l.length->1≤k->tW (l.take k)=l.take k->zN (zTB z l) (k:Int)=some (tW l):=by
   intro n
   induction n with
   | zero =>
    intro k hn h1 hp
    rw[vR]
    unfold zTB
    grind
   | succ n ih =>
    intro k hn h1 hp
    have hx:l[k]?=some l[k]:=Qe (by omega)
    have hy:l[k-1]?=some l[k-1]:=Qe (by omega)
    have hlt:decide ((k:Int)<len l)=true:=by simp[len];omega
    have hw1:zM ((k:Int)-1)=((k-1:Nat):Int):=by rw[uL (by omega) (by omega)];omega
    have hdt:=zY9 (l:=l) (j:=k-1) (y:=l[k-1]) (x:=l[k]) hy (by grind)
    rw[show k-1+2=k+1 by omega,show k-1+1=k by omega,hp] at hdt
    rw[vR]
    unfold zTB
    simp only[hlt,Qc,xW,hx,hw1,hy,zob]
    rw[BEq.comm]
    cases hb:l[k-1]==l[k] with
    | true =>
     have hc1:(decide (0≤(k:Int))&&decide ((k:Int)≤len l))=true:=by simp[len];omega
     obtain⟨c,q,hl,hcl,hq,htk⟩:=zXx l k h1 (by omega) hbig (by grind) hp
     have hc2:(decide (0≤((q:Nat):Int))&&decide (((q:Nat):Int)≤len c))=true:=by simp[len];omega
     simp only[Qc,hc1,wV,zob,hl,hc2]
     grind [zSN,zL1,Int.toNat_natCast,zDI,List.length_take]
    | false =>
     rw[vN k (by omega)]
     refine ih (k+1) (by omega) (by omega) ?_
     simp_all
  exact key (l.length-1) 1 (by omega) (Qr _) (by match l,h2 with | a::r,_=>rfl)
end
section
variable {α:Type}{lt:α->α->Bool}
structure zXh (lt:α->α->Bool): Prop where
 irrefl:∀ x,lt x x=false
 trans:∀ x y z,lt x y=true->lt y z=true->lt x z=true
 tri:∀ x y,lt x y=true∨x=y∨lt y x=true
abbrev vX (lt:α->α->Bool)(l:List α): Prop:=l.Pairwise fun x y=>lt x y=true
theorem zXh.asymm (O:zXh lt){x y:α}(h:lt x y=true): lt y x=false:=by
 cases hb:lt y x with
 | false=>rfl
 | true=>have:=O.trans _ _ _ h hb;rw[O.irrefl] at this;cases this
theorem vX.ext (O:zXh lt): ∀ {l m:List α},vX lt l->vX lt m->(∀ x,x∈l↔x∈m)->l=m
 | [],[],_,_,_=>rfl
 | [],y::m,_,_,h=>by grind [List.mem_cons_self]
 | x::l,[],_,_,h=>by grind [List.mem_cons_self]
 | x::l,y::m,hl,hm,h=>by
  obtain⟨h1,h2⟩:=QJ.1 hl
  obtain⟨h3,h4⟩:=QJ.1 hm
  have hxy:x=y:=by
   rcases Qv.1 ((h x).1 (Qm)) with h5 | h5
   ·exact h5
   ·rcases Qv.1 ((h y).2 (Qm)) with h6 | h6
    ·grind
    ·have:=O.asymm (h3 x h5);grind
  subst hxy
  congr 1
  refine vX.ext O h2 h4 fun z=>⟨fun hz=>?_,fun hz=>?_⟩
  ·rcases Qv.1 ((h z).1 (Qi _ hz)) with rfl | h5
   ·have:=h1 z hz;rw[O.irrefl] at this;cases this
   ·exact h5
  ·rcases Qv.1 ((h z).2 (Qi _ hz)) with rfl | h5
   ·have:=h3 z hz;rw[O.irrefl] at this;cases this
   ·exact h5
theorem z1N[BEq α][LawfulBEq α](O:zXh lt): ∀ {l:List α},l.Pairwise (fun x y=>lt y x=false)->vX lt (tW l)∧∀ x,x∈tW l↔x∈l:=by
 have key:∀(r:List α) (a:α),(a::r).Pairwise (fun x y=>lt y x=false)->vX lt (a::dd a r)∧∀ x,x∈a::dd a r↔x∈a::r:=by
  intro r
  induction r with
  | nil=>intro a _;simp[dd]
  | cons b r ih =>
   intro a h
   obtain⟨h1,h2⟩:=QJ.1 h
   obtain⟨i1,i2⟩:=ih b h2
   by_cases hab:a=b
   ·subst hab
    simp only[dd,Uv,Qc]
    grind
   ·have hb:(a==b)=false:=QQ.2 hab
    simp only[dd,hb,zbf,Qb]
    have hlt:lt a b=true:=by
     rcases O.tri a b with h | h | h
     ·exact h
     ·grind
     ·grind
    refine⟨QJ.2 ⟨fun y hy=>?_,i1⟩,fun x=>?_⟩
    ·rcases Qv.1 hy with rfl | hy
     ·exact hlt
     ·exact O.trans _ _ _ hlt ((QJ.1 i1).1 y hy)
    grind
 intro l h
 cases l with
 | nil=>simp[tW]
 | cons a r=>exact key r a h
theorem zNP (O:zXh lt)(l:List α): (l.mergeSort fun x y=>!lt y x).Pairwise (fun x y=>lt y x=false):=by
 have h:=List.pairwise_mergeSort (le:=fun x y=>!lt y x) (fun a b c h1 h2=>?_) (fun a b=>?_) l
 ·grind
 ·cases h3:lt c a with
  | false=>rfl
  | true =>
   rcases O.tri a b with h | rfl | h
   ·have:=O.trans _ _ _ h3 h;grind
   ·grind
   grind
 ·cases h:lt b a with
  | false=>simp
  | true=>simp[O.asymm h]
def nrm[BEq α](lt:α->α->Bool)(l:List α): List α:=tW (l.mergeSort fun x y=>!lt y x)
theorem zGu[BEq α][LawfulBEq α](O:zXh lt)(l:List α): vX lt (nrm lt l)∧∀ x,x∈nrm lt l↔x∈l:=by
 obtain⟨h1,h2⟩:=z1N O (zNP O l)
 exact⟨h1,fun x=>by rw[nrm,h2,List.mem_mergeSort]⟩
theorem zYY[BEq α][LawfulBEq α](O:zXh lt){l m:List α}(h1:vX lt m)(h2:∀ x,x∈m↔x∈l): nrm lt l=m:=by
 grind [zGu,vX.ext]
theorem zTq[BEq α](lt:α->α->Bool)(l:List α): (nrm lt l).length≤l.length:=by
 have:=z6U (l.mergeSort fun x y=>!lt y x)
 simpa [nrm] using this
end
section
variable {α:Type}[BEq α]
noncomputable def z4O (y0:List α)(y1:α)(s1:Int): Option (Int⊕Int) :=
 if decide (s1<(len y0)) then
  (zB y0 s1).bind fun x1 =>
  if y1==x1 then
   some (.inr s1)
  else
   some (.inl (zM (s1+1)))
 else
  some (.inr (-1))
noncomputable def z9k (y0:List α)(y1:α): Option Int:=zN (z4O y0 y1) 0
theorem zWn (l:List α)(x:α)(hb:l.length<9223372036854775807): ∃ r,z9k l x=some r∧(0≤r↔∃ y∈l,x==y):=by
 have h:=xS (B:=z4O l x) (fun i (_:Unit)=>(i:Int)) l (fun i _=>∀ j y,j<i->l[j]?=some y->(x==y)=false) (fun r=>(0≤r↔∃ y∈l,x==y)) ?_ ?_ () (by simp)
 ·exact h
 ·intro i y s hy hI
  have hi:=(Qg.1 hy).1
  have hlt:decide ((i:Int)<len l)=true:=by simp[len];omega
  unfold z4O
  simp only[hlt,Qc,xW,hy,zob]
  cases hxy:x==y with
  | true=>exact .inr ⟨_,rfl,⟨fun _=>⟨y,QR hy,hxy⟩,fun _=>by omega⟩⟩
  | false =>
   refine .inl ⟨(),by simp[vN i (by omega)],fun j z hj hz=>?_⟩
   rcases Qy.1 hj with h | rfl
   ·exact hI j z h hz
   ·rw[hy] at hz;cases hz;exact hxy
 ·intro s hI
  unfold z4O
  refine⟨-1,by simp,⟨fun h=>by omega,fun⟨y,hy,hxy⟩=>?_⟩⟩
  obtain⟨j,hj⟩:=Qn.1 hy
  rw[hI j y (Qg.1 hj).1 hj] at hxy
  cases hxy
noncomputable def z8Y (y0:List α)(y1:List α)(s1:Int): Option (Int⊕Bool) :=
 if decide (s1<(len y0)) then
  (zB y0 s1).bind fun x1 =>
  (zB y1 s1).bind fun x2 =>
  if !(x1==x2) then
   some (.inr false)
  else
   some (.inl (zM (s1+1)))
 else
  some (.inr true)
noncomputable def sameM (y0:List α)(y1:List α): Option Bool :=
 if(len y0) != (len y1) then
  some false
 else
  zN (z8Y y0 y1) 0
theorem z4m[DecidableEq α][LawfulBEq α](l m:List α)(hb:l.length<9223372036854775807): sameM l m=some (decide (l=m)):=by
 unfold sameM
 by_cases hl:l.length=m.length
 ·have h0:(len l != len m)=false:=by simp[len,hl]
  simp[h0]
  have h:=xS (B:=z8Y l m) (fun i (_:Unit)=>(i:Int)) l (fun i _=>∀ j,j<i->l[j]?=m[j]?) (fun r=>r=decide (l=m)) ?_ ?_ () (by simp)
  ·obtain⟨r,h1,rfl⟩:=h;exact h1
  ·intro i x s hx hI
   have hi:=(Qg.1 hx).1
   have hy:m[i]?=some m[i]:=Qe (by omega)
   have hlt:decide ((i:Int)<len l)=true:=by simp[len];omega
   unfold z8Y
   simp only[hlt,Qc,xW,hx,hy,zob]
   by_cases he:x=m[i]
   ·refine .inl ⟨(),by simp[he,vN i (by omega)],fun j hj=>?_⟩
    rcases Qy.1 hj with h | rfl
    ·exact hI j h
    ·rw[hx,hy,he]
   ·refine .inr ⟨false,by simp[he],?_⟩
    symm
    rw[QS]
    intro h;subst h
    rw[hx] at hy;cases hy;exact he rfl
  ·intro s hI
   refine⟨true,by unfold z8Y;simp,?_⟩
   symm
   rw[decide_eq_true_iff]
   apply QG
   intro j
   by_cases hj:j<l.length
   ·exact hI j hj
   ·rw[UD (by omega),UD (by omega)]
 ·have h0:(len l != len m)=true:=by simp[len];omega
  simp only[h0,Qc]
  congr 1;symm
  rw[QS]
  intro h;subst h;exact hl rfl
end
end
section
structure Le{α:Type}(a b:Option α): Prop where
 el:∀ r,a=some r->b=some r
theorem Le.refl{α:Type}(a:Option α): Le a a:=⟨fun _ h=>h⟩
theorem Le.bind{α β:Type}{a b:Option α}{f g:α->Option β}(h:Le a b)(k:∀ x,Le (f x) (g x)): Le (a.bind f) (b.bind g):=⟨fun r hr=>by
 cases a with
 | none=>cases hr
 | some x=>rw[h.el x rfl];exact(k x).el r hr⟩
theorem Le.ite{α:Type}{c:Prop}[Decidable c]{a b a' b':Option α}(h:Le a b)(k:Le a' b'): Le (if c then a else a') (if c then b else b'):=by grind
theorem Le.seqE{σ α:Type}{a b:Option (σ⊕α)}{f g:σ->Option α}(h:Le a b)(k:∀ x,Le (f x) (g x)): Le (wZ a f) (wZ b g) :=
 by grind [Le.bind,Le.refl,wZ]
theorem Le.none{α:Type}(b:Option α): Le none b:=⟨fun _ h=>nomatch h⟩
abbrev lp{σ ρ:Type}(n:Nat)(B:σ->Option (σ⊕ρ))(s:σ): Option ρ:=tK B n s
theorem Le.lp{σ ρ:Type}{B C:σ->Option (σ⊕ρ)}(h:∀ s,Le (B s) (C s))(n:Nat)(s:σ): Le (lp n B s) (zN C s):=by
 refine⟨fun r hr=>?_⟩
 refine zLQ (n:=n) ?_
 revert s
 induction n with
 | zero=>intro s hr;cases hr
 | succ n ih =>
  grind [tK,el]
theorem Le.lim{α:Type}{a:Option α}{f:Nat->Option α}(n:Nat)(h:∀ m,n≤m->Le a (f m)): Le a (z6b f):=⟨fun r hr=>zUN n fun m hm=>(h m hm).el r hr⟩
def ins{α:Type}(lt:α->α->Bool)(x:α): List α->List α
 | []=>[x]
 | y::r=>if lt y x then y::ins lt x r else x::y::r
def zVq{α:Type}(lt:α->α->Bool): List α->List α
 | []=>[]
 | x::r=>ins lt x (zVq lt r)
end
section
abbrev xE (x y:Int): Bool:=decide (x<y)
abbrev z1y (x y:Int): Int:=if x<y then -1 else if y<x then 1 else 0
def orF:List Int->Int
 | []=>0
 | x::r=>if x != 0 then x else orF r
abbrev z4j{α β:Type}[BEq α](lt1:α->α->Bool)(tR:β->β->Bool)(x y:α×β): Bool:=lt1 x.1 y.1||(x.1==y.1&&tR x.2 y.2)
theorem zE9:zXh xE:=⟨fun x=>by simp,fun x y z h1 h2=>by grind,fun x y=>by simp;omega⟩
theorem z0M{α β:Type}[BEq α][LawfulBEq α]{lt1:α->α->Bool}{tR:β->β->Bool}(O1:zXh lt1)(O2:zXh tR): zXh (z4j lt1 tR):=by
 refine⟨fun x=>by simp[O1.irrefl,O2.irrefl],fun x y z h1 h2=>?_,fun x y=>?_⟩
 ·simp at *
  rcases h1 with h1 | ⟨h1,h1'⟩ <;> rcases h2 with h2 | ⟨h2,h2'⟩
  ·exact .inl (O1.trans _ _ _ h1 h2)
  ·grind
  ·grind
  ·exact .inr ⟨h1.trans h2,O2.trans _ _ _ h1' h2'⟩
 ·obtain⟨a,b⟩:=x;obtain⟨c,d⟩:=y
  rcases O1.tri a c with h | rfl | h
  ·grind
  ·rcases O2.tri b d with h | rfl | h
   ·grind
   ·grind
   grind
  grind
theorem OrdF.of{α:Type}{f:α->α->Option Int}{lt:α->α->Bool}(O:zXh lt)(ht:∀ x y,∃ n,f x y=some n)(h:∀ x y,yN f x y=lt x y): OrdF f:=by
 refine⟨ht,fun x=>by rw[h,O.irrefl],fun x y z h1 h2=>?_,fun x y z h1 h2=>?_,fun x y h1 h2=>?_⟩
 ·rw[h] at *;exact O.trans _ _ _ h1 h2
 ·rw[h] at *
  cases h3:lt x z with
  | false=>rfl
  | true =>
   rcases O.tri x y with h4 | rfl | h4
   ·rw[h4] at h1;cases h1
   ·rw[h3] at h2;cases h2
   ·have:=O.trans _ _ _ h4 h3;rw[this] at h2;cases h2
 ·rw[h] at *
  rcases O.tri x y with h4 | h4 | h4
  ·rw[h4] at h1;cases h1
  ·exact h4
  ·rw[h4] at h2;cases h2
theorem zZv{α:Type}{f:α->α->Option Int}{lt:α->α->Bool}(O:zXh lt)(ht:∀ x y,∃ n,f x y=some n)(h:∀ x y,yN f x y=lt x y){l:List α}(hl:l.length<4294967296):
  zZ7 f l=some (l.mergeSort fun x y=>!lt y x):=by
 unfold zZ7
 rw[Qu ⟨OrdF.of O ht h,hl⟩]
 have:(fun x y=>!yN f y x)=fun x y=>!lt y x:=by funext x y;rw[h]
 rw[this]
noncomputable def orL (y0:List Int)(s1:Int): Option (Int⊕Int) :=
 if decide (s1<(len y0)) then
  (zB y0 s1).bind fun x1 =>
  if x1 != 0 then
   some (.inr x1)
  else
   some (.inl (zM (s1+1)))
 else
  some (.inr 0)
theorem z95 (l:List Int)(hb:l.length<9223372036854775807): zN (orL l) 0=some (orF l):=by
 have h:=zUj (B:=orL l) (fun i (_:Unit)=>(i:Int)) l (fun _ _ x=>if x != 0 then some (.inr x) else some (.inl ())) (fun _=>some 0) (fun i x s hx=>?_) (fun s=>by simp[orL,len]) ()
 ·have key:∀(l:List Int) (i:Nat),z3b (fun _ (_:Unit) (x:Int)=>if x != 0 then some (Sum.inr x) else some (.inl ())) (fun _=>some 0) i l ()=some (orF l):=by
   intro l
   induction l with
   | nil=>intro i;rfl
   | cons x l ih =>
    grind [z3b,orF]
  grind
 ·have hi:=(Qg.1 hx).1
  unfold orL
  simp[xW]
  by_cases h0:x=0
  ·grind [vN]
  grind
section
variable {α:Type}{lt:α->α->Bool}
theorem zZq (x:α): ∀ l:List α,(ins lt x l).Perm (x::l)
 | []=>List.Perm.refl _
 | y::r=>by
  unfold ins
  split
  ·exact((zZq x r).cons y).trans (List.Perm.swap x y r)
  simp_all
theorem zOA:∀ l:List α,(zVq lt l).Perm l
 | []=>List.Perm.refl _
 | x::r=>(zZq x _).trans ((zOA r).cons x)
theorem zYb (O:zXh lt)(x:α): ∀ l:List α,l.Pairwise (fun x y=>lt y x=false)->(ins lt x l).Pairwise (fun x y=>lt y x=false)
 | [],_=>by simp[ins]
 | y::r,h=>by
  obtain⟨h1,h2⟩:=QJ.1 h
  unfold ins
  split
  ·rename_i hlt
   refine QJ.2 ⟨fun z hz=>?_,zYb O x r h2⟩
   rcases Qv.1 ((zZq x r).mem_iff.1 hz) with rfl | hz
   ·exact O.asymm hlt
   grind
  ·rename_i hlt
   have hyx:lt y x=false:=by simpa using hlt
   refine QJ.2 ⟨fun z hz=>?_,h⟩
   rcases Qv.1 hz with rfl | hz
   ·exact hyx
   ·cases hzx:lt z x with
    | false=>rfl
    | true =>
     have hzy:=h1 z hz
     rcases O.tri x y with h3 | rfl | h3
     ·rw[O.trans _ _ _ hzx h3] at hzy;cases hzy
     ·grind
     grind
theorem zNR (O:zXh lt): ∀ l:List α,(zVq lt l).Pairwise (fun x y=>lt y x=false)
 | []=>List.Pairwise.nil
 | x::r=>zYb O x _ (zNR O r)
theorem zMN (O:zXh lt)(l:List α): (l.mergeSort fun x y=>!lt y x)=zVq lt l:=by
 refine List.Perm.eq_of_pairwise (le:=fun x y=>lt y x=false) (fun a b _ _ h1 h2=>?_) (zNP O l) (zNR O l) ((List.mergeSort_perm _ _).trans (zOA l).symm)
 rcases O.tri a b with h | h | h
 ·grind
 ·exact h
 grind
end
theorem zWU{l:List Int}(h:l.length<4294967296): z8z l=some (zVq xE l):=by
 unfold z8z
 rw[Qu h,←zMN zE9]
 grind
end
section
section
variable {α:Type}{l:List α}{i:Nat}{x:α}
theorem vV (h:l[i]?=some x): i<l.length:=by grind
theorem qY (h:l[i]?=some x): decide ((i:Int)<len l)=true:=by grind
theorem uU (l:List α): decide (((l.length:Nat):Int)<len l)=false:=by simp
theorem qM (h:l[i]?=some x): zB l (i:Int)=some x:=by exact h
theorem qR (h:l[i]?=some x)(hl:l.length<4294967296): zM ((i:Int)+1)=((i+1:Nat):Int):=vN i (by grind)
theorem zPM{j:Int}(h:zB l j=some x): ∃ n:Nat,j=(n:Int)∧l[n]?=some x:=by grind [zB]
theorem zLM{j:Int}(h0:0≤j)(h1:j<l.length): ∃ x,zB l j=some x:=by obtain⟨x,h,_⟩:=zVv h0 h1;grind
theorem xY (h:l[i]?=some x): l.take (i+1)=l.take i++[x]:=by rw[QW,h];rfl
theorem wF (h:l[i]?=some x): x∈l:=by grind
end
section
variable {α σ ρ:Type}
theorem zFJ{B:σ×Int->Option ((σ×Int)⊕ρ)}(l:List α)(f:σ->α->σ)(fin:σ->ρ)(I:Nat->σ->Prop)(s:σ)(h0:I 0 s)
  (hB:∀(i:Nat) x s,l[i]?=some x->I i s->B (s,(i:Int))=some (.inl (f s x,((i+1:Nat):Int)))∧I (i+1) (f s x))
  (he:∀ s,I l.length s->B (s,(l.length:Int))=some (.inr (fin s))):zN B (s,0)=some (fin (l.foldl f s))∧I l.length (l.foldl f s):=by
 have key:∀(n i:Nat) (s:σ),i+n=l.length->I i s->zN B (s,(i:Int))=some (fin ((l.drop i).foldl f s))∧I l.length ((l.drop i).foldl f s):=by
  intro n
  induction n with
  | zero =>
   intro i s h hI
   subst h
   rw[vR,he s hI,List.drop_length]
   grind
  | succ n ih =>
   grind [vR,List.drop_eq_getElem_cons]
 have:=key l.length 0 s (by omega) h0
 grind
theorem zYh{B:σ×Int->Option ((σ×Int)⊕ρ)}(l:List α)(f:σ->α->σ)(fin:σ->ρ)(k:Nat)(hk:k≤l.length)(s:σ)
  (hB:∀(i:Nat) x s,l[i]?=some x->B (s,(i:Int))=some (.inl (f s x,((i+1:Nat):Int))))
  (he:∀ s,B (s,(l.length:Int))=some (.inr (fin s))):zN B (s,(k:Int))=some (fin ((l.drop k).foldl f s)):=by
 have key:∀(n i:Nat) (s:σ),i+n=l.length->zN B (s,(i:Int))=some (fin ((l.drop i).foldl f s)):=by
  intro n
  induction n with
  | zero =>
   intro i s h
   rw[Q4] at h
   subst h
   rw[vR,he s,List.drop_length]
   rfl
  | succ n ih =>
   intro i s h
   have hx:l[i]?=some l[i]:=Qe (by omega)
   rw[vR,hB i _ s hx,Qx (by omega)]
   exact ih (i+1) _ (by omega)
 exact key (l.length-k) k s (by omega)
theorem zTy{B:Int×σ->Option ((Int×σ)⊕ρ)}(l:List α)(f:σ->α->σ)(fin:σ->ρ)(I:Nat->σ->Prop)(s:σ)(h0:I 0 s)
  (hB:∀(i:Nat) x s,l[i]?=some x->I i s->B ((i:Int),s)=some (.inl (((i+1:Nat):Int),f s x))∧I (i+1) (f s x))
  (he:∀ s,I l.length s->B ((l.length:Int),s)=some (.inr (fin s))):zN B (0,s)=some (fin (l.foldl f s))∧I l.length (l.foldl f s):=by
 have key:∀(n i:Nat) (s:σ),i+n=l.length->I i s->zN B ((i:Int),s)=some (fin ((l.drop i).foldl f s))∧I l.length ((l.drop i).foldl f s):=by
  intro n
  induction n with
  | zero =>
   intro i s h hI
   subst h
   rw[vR,he s hI,List.drop_length]
   grind
  | succ n ih =>
   grind [vR,List.drop_eq_getElem_cons]
 have:=key l.length 0 s (by omega) h0
 grind
theorem z1M{B:Int->Option (Int⊕ρ)}(l:List α)(p:α->Bool)(yes no:ρ)
  (hB:∀(i:Nat) x,l[i]?=some x->B (i:Int)=some (if p x then .inr yes else .inl ((i+1:Nat):Int))) (he:B (l.length:Int)=some (.inr no)) :
  zN B 0=some (if l.any p then yes else no):=by
 have key:∀(n i:Nat),i+n=l.length->zN B (i:Int)=some (if(l.drop i).any p then yes else no):=by
  intro n
  induction n with
  | zero =>
   intro i h
   grind [vR]
  | succ n ih =>
   intro i h
   have hx:l[i]?=some l[i]:=Qe (by omega)
   rw[vR,hB i _ hx,Qx (by omega)]
   cases hp:p l[i] with
   | true=>grind
   | false =>
    grind
 have:=key l.length 0 (by omega)
 grind
end
theorem zHH{α β:Type}(p:α->Bool)(g:α->β): ∀(l:List α) (acc:List β),l.foldl (fun s x=>if p x then s++[g x] else s) acc=acc++(l.filter p).map g
 | [],acc=>by simp
 | x::l,acc=>by
  simp[zHH p g l]
  grind
theorem zId{α β:Type}(g:α->β): ∀(l:List α) (acc:List β),l.foldl (fun s x=>s++[g x]) acc=acc++l.map g
 | [],acc=>by simp
 | x::l,acc=>by simp only[Ul,zId g l];simp
theorem zJF{α β:Type}(g:α->List β): ∀(l:List α) (acc:List β),l.foldl (fun s x=>s++g x) acc=acc++l.flatMap g
 | [],acc=>by simp
 | x::l,acc=>by simp only[Ul,zJF g l];simp
theorem z5U{l r:List Int}(h:r.Perm l)(hs:r.Pairwise (fun x y=>xE y x=false)): tW r=nrm xE l:=by
 obtain⟨h1,h2⟩:=z1N zE9 hs
 exact(zYY zE9 h1 (fun x=>by grind)).symm
end
section
structure uB (s:uK): Prop where
 lo:0≤s.2
 hi:s.2≤s.1.length
 small:s.1.length≤2000
theorem z9H (l:List Int): zQo l=some (l.take 2000,0):=by
 unfold zQo
 by_cases h:2000<len l
 ·rw[Qu h,zSN (by omega) (by grind)];rfl
 ·rw[Qq h,zSN (by simp) (by simp)]
  simp only[zob]
  rw[Qs (by simp),Qs (by grind)]
theorem zSd (l:List Int): uB (l.take 2000,0):=⟨Wc _,by simp,by simp;omega⟩
theorem z34{s:uK}(h:uB s): ∃ v k,zKv s=some (v,k)∧uB (s.1,k):=by
 obtain⟨h1,h2,h3⟩:=h
 unfold zKv
 by_cases hk:len s.1≤s.2
 ·exact⟨0,s.2,by simp[hk],h1,h2,h3⟩
 ·have hk':s.2<s.1.length:=by simpa [len] using hk
  obtain⟨x,hx,_⟩:=zVv h1 hk'
  refine⟨x,s.2+1,?_,by grind,by grind,h3⟩
  simp[hk]
  rw[uL (x:=s.2+1) (by omega) (by omega),show s.2+1-1=s.2 by omega,uL (by omega) (by omega),hx];rfl
theorem z8y{x n:Int}(h0:1≤n)(h1:n≤4611686018427387904): ∃ v,zMK x n=some v∧0≤v∧v<n:=by
 unfold zMK
 simp[remK]
 have ha:=Int.tmod_lt_of_pos x (show 0<n by omega)
 have hb:-n<x.tmod n:=by
  have:=Int.lt_tmod_of_pos x (show 0<n by omega)
  exact this
 by_cases hx:x.tmod n<0
 ·grind [uL]
 grind
theorem zLx{s:uK}{n:Int}(h:uB s)(h0:1≤n)(h1:n≤4611686018427387904): ∃ v k,tC s n=some (v,k)∧0≤v∧v<n∧uB (s.1,k):=by
 obtain⟨v,k,hr,hk⟩:=z34 h
 obtain⟨u,hu,h2,h3⟩:=z8y (x:=v) h0 h1
 grind [tC]
theorem z5p{s:uK}{l:List zD}(h:uB s)(h0:l≠[])(h1:l.length≤1000): ∃ x k,zKK s l=some (x,k)∧x∈l∧uB (s.1,k):=by
 have hp:=Q5.2 h0
 obtain⟨v,k,hr,h2,h3,hk⟩:=zLx (n:=len l) h (by grind) (by grind)
 obtain⟨x,hx,hx2⟩:=zVv h2 h3
 exact⟨x,k,by simp[zKK,hr,hx],QR hx2,hk⟩
def zPi (k:Nat): zD:=[UInt8.ofNat (97+k)]
theorem zNJ{s:uK}{n:Int}(h:uB s)(h0:1≤n)(h1:n≤26): ∃(g:Bool) (j:Nat) (k:Int),zDC s n=some ((g,zPi j),k)∧(j:Int)<n∧uB (s.1,k):=by
 obtain⟨v,k,hr,h2,h3,hk⟩:=zLx (n:=2*n) h (by omega) (by omega)
 obtain⟨m,rfl⟩:=Qw h2
 refine⟨vA .i64 m 1==1,m / 2,k,?_,by omega,hk⟩
 unfold zDC
 rw[uL (x:=2*n) (by omega) (by omega),hr]
 have hq:quoK .i64 (m:Int) 2=some ((m / 2:Nat):Int):=by
  simp only[quoK]
  rw[Qq (by omega)]
  show some (zM _)=_
  have:(m:Int).tdiv 2=((m / 2:Nat):Int):=by
   rw[Int.tdiv_eq_ediv_of_nonneg (by omega)];omega
  rw[this,uL (by omega) (by omega)]
 simp only[zob,hq]
 have hw:IntKind.u8.wrap (zM (97+((m / 2:Nat):Int)))=((97+m / 2:Nat):Int):=by
  rw[uL (by omega) (by omega)]
  simp only[IntKind.wrap,IntKind.signed,IntKind.bits]
  simp;omega
 rw[hw]
 rfl
end
section
theorem z1t{l:List Int}(h:l.length<4294967296): zCD l=some (zVq xE l):=zWU h
theorem z2H{l:List Int}(h:l.length<4294967296): zBh l=some (tW l):=zO9 0 l (by omega)
theorem zZd{β:Type}{l:List Int}(h:l.length<4294967296)(k:List Int->Option β): ((zCD l).bind fun r3=>(zBh r3).bind fun r4=>k r4)=k (nrm xE l):=by
 rw[z1t h]
 simp
 rw[z2H (by rw[(zOA l).length_eq];exact h)]
 simp
 rw[z5U (zOA l) (zNR zE9 l)]
theorem z6n (l:List Int): vX xE (nrm xE l):=(zGu zE9 l).1
theorem nrm_mem (l:List Int)(x:Int): x∈nrm xE l↔x∈l:=(zGu zE9 l).2 x
inductive xP (l:List zF): Int->Int->Prop
 | self (i:Int):xP l i i
 | step {i k j:Int} {a:zF}:zB l i=some a->k∈a.2.2.1->xP l k j->xP l i j
structure FormA (l:List zF): Prop where
 len:l.length≤100
 nsub:∀ a∈l,a.2.2.1.length≤100
 sub:∀(i:Nat) a,l[i]?=some a->∀ k∈a.2.2.1,0≤k∧k<i
theorem FormA.at{l:List zF}(h:FormA l){i:Int}{a:zF}(hi:zB l i=some a): a.2.2.1.length≤100∧0≤i∧i<l.length∧∀ k∈a.2.2.1,0≤k∧k<i:=by
 obtain⟨n,rfl,hn⟩:=zPM hi
 exact⟨h.nsub a (wF hn),by omega,by grind,h.sub n a hn⟩
theorem xP.le{l:List zF}(h:FormA l){i j:Int}(hs:xP l i j): 0≤i->0≤j∧j≤i:=by
 induction hs with
 | self i=>grind
 | step hi hk _ ih=>have:=(h.at hi).2.2.2 _ hk;grind
theorem xP.trans{l:List zF}{i j k:Int}(h:xP l i j)(h2:xP l j k): xP l i k:=by
 induction h with
 | self i=>exact h2
 | step hi hk _ ih=>exact .step hi hk (ih h2)
theorem xP.iff{l:List zF}{i j:Int}{a:zF}(hi:zB l i=some a): xP l i j↔j=i∨∃ k∈a.2.2.1,xP l k j:=by
 constructor
 ·intro h
  cases h with
  | self=>grind
  | step h1 h2 h3=>grind
 ·rintro (rfl | ⟨k,h1,h2⟩)
  ·exact .self _
  ·exact .step hi h1 h2
open Classical in
noncomputable def vK (l:List zF)(i:Int): List Int:=((List.range l.length).map Int.ofNat).filter fun j=>decide (xP l i j)
theorem zTP (l:List zF)(i:Int): vX xE (vK l i):=by
 refine List.Pairwise.filter _ ?_
 rw[UA]
 exact List.pairwise_lt_range.imp fun {a b} h=>by simp;omega
theorem zM3 (l:List zF)(i:Int): (vK l i).length≤l.length:=QD (QH _ _) (by simp)
theorem zEC{l:List zF}(h:FormA l){i:Int}(h0:0≤i)(h1:i<l.length)(j:Int): j∈vK l i↔xP l i j:=by
 simp only[vK,Qk,Qj,Ug,Qp]
 constructor
 ·grind
 ·intro hs
  have:=hs.le h h0
  exact⟨⟨j.toNat,by omega,by simp;omega⟩,hs⟩
theorem z4b{l:List zF}(h:FormA l): ∀(n:Nat) (i:Int),0≤i->i<l.length->i<n->zDc n l i=some (vK l i):=by
 intro n
 induction n with
 | zero=>grind
 | succ n ih =>
  intro i h0 h1 h2
  obtain⟨a,ha⟩:=zLM h0 h1
  obtain⟨hn,_,_,hsub⟩:=h.at ha
  show zGO (zDc n) l i=_
  have hL:=zFJ (B:=zDo a (zDc n) l) a.2.2.1 (fun s k=>s++vK l k) (fun s=>s) (fun q s=>s.length≤1+q*100) [i] (by simp) (fun q k s hk hI=>?_) (fun s hI=>?_)
  ·obtain⟨e1,e2⟩:=hL
   rw[zJF] at e1 e2
   unfold zGO zB4
   have hin:(decide (0≤i)&&decide (i<len l))=true:=by simp[len];omega
   simp only[hin,zob,QN,zbf,Qb,ha,e1]
   have hlen:([i]++a.2.2.1.flatMap (vK l)).length<4294967296:=by omega
   refine(zZd hlen some).trans ?_
   grind [zYY,zE9,zTP,zEC,xP.iff]
  ·have hks:=hsub k (wF hk)
   have hq:=vV hk
   have hsl:=zM3 l k
   have hl:=h.len
   unfold zDo
   simp only[qY hk,Qc,qM hk,zob]
   rw[ih k hks.1 (by omega) (by omega)]
   simp only[zob]
   rw[wS (by omega)]
   refine⟨by simp[qR hk (by omega)],by grind⟩
  ·unfold zDo
   simp
theorem zZT{l:List zF}(h:FormA l){i:Int}(h0:0≤i)(h1:i<l.length): zEW l i=some (vK l i) :=
 zUN (i.toNat+1) fun m hm=>z4b h m i h0 h1 (by omega)
structure FormB (b:zI)(l:List zF): Prop extends FormA l where
 np:b.1.length≤100
 nr:b.2.1.length≤100
 kind:∀(i:Nat) a,l[i]?=some a->(a.1=(i:Int)∧i<b.1.length∧a.2.1=-1)∨(a.1=-1∧0≤a.2.1∧a.2.1<b.2.1.length)
variable {b:zI}{l:List zF}
theorem FormB.prem (h:FormB b l){j:Int}{a:zF}(hj:zB l j=some a): (0≤a.1->a.1=j∧(∃ p,zB b.1 a.1=some p)∧a.2.1=-1)∧(a.1<0->∃ r,zB b.2.1 a.2.1=some r)∧(0≤a.2.1↔a.1<0):=by
 obtain⟨n,rfl,hn⟩:=zPM hj
 rcases h.kind n a hn with⟨h1,h2,h3⟩ | ⟨h1,h2,h3⟩
 ·exact⟨fun _=>⟨h1,zLM (by omega) (by omega),h3⟩,fun h=>by omega,by omega⟩
 ·exact⟨fun h=>by omega,fun _=>zLM h2 h3,by omega⟩
noncomputable def zJI (l:List zF)(i:Int): List Int:=(vK l i).filter fun j=>match zB l j with | some a=>decide (0≤a.1) | none=>false
theorem z5R (l:List zF)(i:Int): vX xE (zJI l i):=(zTP l i).filter _
theorem zU5 (l:List zF)(i:Int): (zJI l i).length≤l.length:=QD (QH _ _) (zM3 l i)
theorem zT5 (h:FormA l){i:Int}(h0:0≤i)(h1:i<l.length){j:Int}(hj:j∈vK l i): ∃ a,zB l j=some a:=by
 have:=((zEC h h0 h1 j).1 hj).le h h0
 exact zLM this.1 (by omega)
theorem z6d{m:List Int}(h:vX xE m): zVq xE m=m:=by
 refine List.Perm.eq_of_pairwise (le:=fun x y=>xE y x=false) (fun a c _ _ h1 h2=>?_) (zNR zE9 m) (h.imp fun h=>by grind) (zOA m)
 grind
theorem z0v (h:FormB b l){i:Int}(h0:0≤i)(h1:i<l.length): ∀(m acc:List Int),(∀ j∈m,j∈vK l i)->
  m.foldl (fun s j=>match zB l j with | some a=>if decide (0≤a.1) then s++[a.1] else s | none=>s) acc=acc++m.filter fun j=>match zB l j with | some a=>decide (0≤a.1) | none=>false
 | [],acc,_=>by simp
 | j::m,acc,hm=>by
  obtain⟨a,ha⟩:=zT5 h.toFormA h0 h1 (hm j Qm)
  rw[Ul,z0v h h0 h1 m _ fun q hq=>hm q (Qi _ hq),Q7]
  by_cases hp:0≤a.1
  ·have:=(((h.prem ha).1 hp).1)
   grind
  grind
theorem zVB (h:FormB b l){i:Int}(h0:0≤i)(h1:i<l.length): zCo l i=some (zJI l i):=by
 have hl:=h.len
 have hsl:=zM3 l i
 have hL:=zFJ (B:=zEk (vK l i) l) (vK l i) (fun s j=>match zB l j with | some a=>if decide (0≤a.1) then s++[a.1] else s | none=>s) (fun s=>s) (fun q s=>s.length≤q) [] (by simp) (fun q j s hj hI=>?_) (fun s hI=>?_)
 ·unfold zCo
  rw[zZT h.toFormA h0 h1]
  simp only[zob]
  rw[hL.1,z0v h h0 h1 _ _ fun j hj=>hj]
  grind [z1t,z6d,z5R,zJI]
 ·obtain⟨a,ha⟩:=zT5 h.toFormA h0 h1 (wF hj)
  have hq:=vV hj
  unfold zEk
  simp only[qY hj,Qc,qM hj,zob,ha]
  by_cases hp:0≤a.1
  ·simp only[hp,decide_true,Qc]
   rw[wS (by simp;omega)]
   exact⟨by simp[qR hj (by omega)],by simp;omega⟩
  ·simp only[hp,decide_false,zbf,Qb]
   exact⟨by simp[qR hj (by omega)],by omega⟩
 ·unfold zEk
  simp
abbrev zUk (b:zI)(a:zF): Bool:=match zB b.2.1 a.2.1 with | some r=>!r.2.1 | none=>false
noncomputable def vG (b:zI)(l:List zF)(i:Int): List Int:=nrm xE (((vK l i).filter fun j=>match zB l j with | some a=>decide (0≤a.2.1)&&zUk b a | none=>false).map fun j=>match zB l j with | some a=>a.2.1 | none=>0)
theorem zKD (h:FormB b l){i:Int}(h0:0≤i)(h1:i<l.length)(y:Int): y∈vG b l i↔∃ j∈vK l i,∃ a,zB l j=some a∧0≤a.2.1∧zUk b a=true∧y=a.2.1:=by
 rw[vG,nrm_mem]
 simp only[Qj,Qk]
 constructor
 ·rintro ⟨j,⟨h2,h3⟩,h4⟩
  obtain⟨a,ha⟩:=zT5 h.toFormA h0 h1 h2
  simp[ha] at h3 h4
  exact⟨j,h2,a,ha,h3.1,h3.2,h4.symm⟩
 ·rintro ⟨j,h2,a,ha,h3,h4,rfl⟩
  exact⟨j,⟨h2,by simp[ha];exact⟨h3,h4⟩⟩,by simp[ha]⟩
theorem zSx (b:zI)(l:List zF)(i:Int): (vG b l i).length≤l.length:=by
 refine QD (zTq xE _) ?_
 grind [zM3]
theorem zR1 (h:FormB b l){i:Int}(h0:0≤i)(h1:i<l.length): zCO b l i=some (vG b l i):=by
 have hl:=h.len
 have hsl:=zM3 l i
 have hL:=xS (B:=zDm (vK l i) l b) (fun q (s:List Int)=>(s,(q:Int))) (vK l i) (fun q s=>s=(((vK l i).take q).filter fun j=>match zB l j with | some a=>decide (0≤a.2.1)&&zUk b a | none=>false).map (fun j=>match zB l j with | some a=>a.2.1 | none=>0)∧s.length≤q)
  (fun r=>r=((vK l i).filter fun j=>match zB l j with | some a=>decide (0≤a.2.1)&&zUk b a | none=>false).map fun j=>match zB l j with | some a=>a.2.1 | none=>0) (fun q j s hj hI=>?_) (fun s hI=>?_) [] (by simp)
 ·obtain⟨r,e1,rfl⟩:=hL
  unfold zCO
  rw[zZT h.toFormA h0 h1]
  simp only[zob]
  refine(congrArg (fun o=>Option.bind o _) e1).trans ?_
  simp only[zob]
  refine(zZd ?_ some).trans rfl
  rw[Um]
  have:=QH (fun j=>match zB l j with | some a=>decide (0≤a.2.1)&&zUk b a | none=>false) (vK l i)
  omega
 ·obtain⟨g1,g3⟩:=hI
  obtain⟨a,ha⟩:=zT5 h.toFormA h0 h1 (wF hj)
  have hq:=vV hj
  have hc:(if decide (0≤a.2.1)=true then(zB b.2.1 a.2.1).bind fun x3=>some (!x3.2.1) else some false)=some (decide (0≤a.2.1)&&zUk b a):=by
   by_cases hr:0≤a.2.1
   ·obtain⟨r,hr2⟩:=(h.prem ha).2.1 ((h.prem ha).2.2.1 hr)
    simp[hr,zUk,hr2]
   ·simp[hr]
  unfold zDm
  simp only[qY hj,Qc,qM hj,zob,ha,hc]
  cases hd:(decide (0≤a.2.1)&&zUk b a) with
  | true =>
   simp only[Qc]
   rw[wS (by simp;omega)]
   refine .inl ⟨s++[a.2.1],by simp only[zob,qR hj (by omega)],?_,by simp;omega⟩
   rw[xY hj,Us,We,←g1]
   simp[ha,hd]
  | false =>
   simp only[zbf,Qb]
   refine .inl ⟨s,by simp only[qR hj (by omega)],?_,by omega⟩
   rw[xY hj,Us,We,←g1]
   simp[ha,hd]
 ·obtain⟨g1,g3⟩:=hI
  rw[QU] at g1
  exact⟨s,by unfold zDm;simp[len],g1⟩
inductive zNG (b:zI)(l:List zF): Int->Int->Prop
 | here {i:Int} {a:zF} {r:zR}:zB l i=some a->0≤a.2.1->zB b.2.1 a.2.1=some r->r.2.1=false->zNG b l i a.2.1
 | step {i k y:Int} {a:zF} {r:zR}:zB l i=some a->0≤a.2.1->zB b.2.1 a.2.1=some r->r.2.1=true->k∈a.2.2.1->zNG b l k y->zNG b l i y
theorem zNG.rng (_h:FormB b l){i y:Int}(hs:zNG b l i y): 0≤y∧y<b.2.1.length:=by
 induction hs with
 | here h1 h2 h3 h4=>grind [zPM]
 | step _ _ _ _ _ _ ih=>exact ih
open Classical in
noncomputable def yH (b:zI)(l:List zF)(i:Int): List Int:=((List.range b.2.1.length).map Int.ofNat).filter fun y=>decide (zNG b l i y)
theorem z06 (b:zI)(l:List zF)(i:Int): vX xE (yH b l i):=by
 refine List.Pairwise.filter _ ?_
 rw[UA]
 exact List.pairwise_lt_range.imp fun {a b} h=>by simp;omega
theorem zTY (b:zI)(l:List zF)(i:Int): (yH b l i).length≤b.2.1.length:=QD (QH _ _) (by simp)
theorem zKF (h:FormB b l)(i y:Int): y∈yH b l i↔zNG b l i y:=by
 simp only[yH,Qk,Qj,Ug,Qp]
 exact⟨fun h=>h.2,fun hs=>by have:=hs.rng h;exact⟨⟨y.toNat,by omega,by simp;omega⟩,hs⟩⟩
theorem z7R{i:Int}{a:zF}(ha:zB l i=some a)(hr:a.2.1<0): yH b l i=[]:=by
 simp only[yH,List.filter_eq_nil_iff,Qp]
 intro y _ hy
 cases hy with
 | here h1 h2 _ _=>grind
 | step h1 h2 _ _ _ _=>grind
theorem z9L (h:FormB b l){i:Int}{a:zF}{r:zR}(ha:zB l i=some a)(h0:0≤a.2.1)(hr:zB b.2.1 a.2.1=some r)(hs:r.2.1=false): yH b l i=[a.2.1]:=by
 refine vX.ext zE9 (z06 b l i) (by simp) fun y=>?_
 rw[zKF h,Qa]
 constructor
 ·intro hy
  cases hy with
  | here h1 _ _ _=>grind
  | step h1 _ h3 h4 _ _=>grind
 ·rintro rfl;exact .here ha h0 hr hs
theorem z7J{i y:Int}{a:zF}{r:zR}(ha:zB l i=some a)(h0:0≤a.2.1)(hr:zB b.2.1 a.2.1=some r)(hs:r.2.1=true): zNG b l i y↔∃ k∈a.2.2.1,zNG b l k y:=by
 constructor
 ·intro hy
  cases hy with
  | here h1 _ h3 h4=>grind
  | step h1 _ _ _ h5 h6=>grind
 ·rintro ⟨k,h1,h2⟩;exact .step ha h0 hr hs h1 h2
theorem z4t (h:FormB b l): ∀(n:Nat) (i:Int),0≤i->i<l.length->i<n->zDe n b l i=some (yH b l i):=by
 intro n
 induction n with
 | zero=>intro i h0 _ h2;omega
 | succ n ih =>
  intro i h0 h1 h2
  obtain⟨a,ha⟩:=zLM h0 h1
  obtain⟨hn,_,_,hsub⟩:=h.toFormA.at ha
  have hin:(decide (0≤i)&&decide (i<len l))=true:=by simp[len];omega
  show zGL (zDe n) b l i=_
  unfold zGL zB4
  simp only[hin,zob,QN,zbf,Qb,ha]
  by_cases hr:a.2.1<0
  ·simp only[hr,decide_true,Qc]
   rw[z7R ha hr]
  ·simp only[hr,decide_false,zbf,Qb]
   obtain⟨r,hr2⟩:=(h.prem ha).2.1 ((h.prem ha).2.2.1 (by omega))
   simp only[hr2,zob]
   cases hs:r.2.1 with
   | false =>
    simp only[Q8,Qc]
    rw[z9L h ha (by omega) hr2 hs]
   | true =>
    simp only[QN,zbf,Qb]
    have hnr:=h.nr
    have hL:=zFJ (B:=zDl a (zDe n) b l) a.2.2.1 (fun s k=>s++yH b l k) (fun s=>s) (fun q s=>s.length≤q*100) [] (by simp) (fun q k s hk hI=>?_) (fun s hI=>?_)
    ·obtain⟨e1,e2⟩:=hL
     rw[zJF] at e1 e2
     rw[e1]
     simp only[zob]
     refine(zZd (by omega) some).trans ?_
     congr 1
     refine zYY zE9 (z06 b l i) fun y=>?_
     rw[zKF h,z7J ha (by omega) hr2 hs]
     simp only[QM,Qz,zKF h]
    ·have hks:=hsub k (wF hk)
     have hq:=vV hk
     have hsl:=zTY b l k
     unfold zDl
     simp only[qY hk,Qc,qM hk,zob]
     rw[ih k hks.1 (by omega) (by omega)]
     simp only[zob]
     rw[wS (by omega)]
     refine⟨by simp only[zob,qR hk (by omega)],by rw[Qh];omega⟩
    ·unfold zDl
     simp[len]
theorem z8K (h:FormB b l){i:Int}(h0:0≤i)(h1:i<l.length): zIH b l i=some (yH b l i) :=
 zUN (i.toNat+1) fun m hm=>z4t h m i h0 h1 (by omega)
end
section
theorem zPo (x y:Int): zBn x y=some (z1y x y):=by
 unfold zBn z1y
 grind [zKO]
theorem z7i (l:List Int)(hb:l.length<9223372036854775807): zI0 l=some (orF l):=z95 l hb
abbrev tR:qA->qA->Bool:=z4j xE xE
abbrev lt4:qL->qL->Bool:=z4j xE (z4j xE (z4j xE xE))
theorem z7u:zXh tR:=z0M zE9 zE9
theorem ord4:zXh lt4:=z0M zE9 (z0M zE9 (z0M zE9 zE9))
theorem z5l (x y:qA): zFH x y=some (orF [z1y x.1 y.1,z1y x.2 y.2]):=by
 unfold zFH
 rw[zPo,zPo]
 simp only[zob]
 rw[z7i _ (by simp)]
 rfl
theorem z0U (x y:qL): zDq x y=some (orF [z1y x.1 y.1,z1y x.2.1 y.2.1,z1y x.2.2.1 y.2.2.1,z1y x.2.2.2 y.2.2.2]):=by
 unfold zDq
 rw[zPo,zPo,zPo,zPo]
 simp only[zob]
 rw[z7i _ (by simp)]
 rfl
theorem zR2{x y:Int}{r:List Int}{b:Bool}(h:decide (orF r<0)=b): decide (orF (z1y x y::r)<0)=(xE x y||(x==y&&b)):=by
 unfold orF z1y
 grind
theorem z5S (x y:qA): yN zFH x y=tR x y:=by
 simp only[yN,z5l,Wl]
 exact zR2 (by rw[zR2 (r:=[]) (b:=false) (by simp[orF])];simp)
theorem z0f (x y:qL): yN zDq x y=lt4 x y:=by
 simp only[yN,z0U,Wl]
 exact zR2 (zR2 (zR2 (by rw[zR2 (r:=[]) (b:=false) (by simp[orF])];simp)))
theorem zYp{l:List qA}(hl:l.length<4294967296): zBC l=some (l.mergeSort fun x y=>!tR y x) :=
 zZv z7u (fun x y=>⟨_,z5l x y⟩) z5S hl
theorem zZo{l:List qA}(hl:l.length<9223372036854775807): zDf l=some (tW l):=zO9 (0,0) l hl
theorem zUu{l:List qL}(hl:l.length<4294967296): zAf l=some (l.mergeSort fun x y=>!lt4 y x) :=
 zZv ord4 (fun x y=>⟨_,z0U x y⟩) z0f hl
def z5W (n:Int)(a:qL): Bool:=decide (a.1<0)||decide (n≤a.1)||decide (a.2.1<0)||decide (n≤a.2.1)
def zIZ (l:List qL): List qA:=l.map fun a=>(a.1,a.2.1)
def zWX (n:Int)(l:List qL): qE×Int :=
 if decide (n<0)||decide (40<n) then((0,[]),1) else if l.any (z5W n) then((0,[]),1) else((n,nrm tR (zIZ l)),0)
theorem z5Q (n:Int)(x:qL): (decide ((if x.2.1<x.1 then x.2.1 else x.1)<0)||decide (n≤(if x.2.1 > x.1 then x.2.1 else x.1)))=z5W n x:=by
 rw[QV]
 simp only[z5W,Q6,Qp]
 split <;> split <;> omega
theorem zZS{α:Type}{l:List α}{i:Nat}{x:α}(p:α->Bool)(hx:l[i]?=some x): (l.take (i+1)).any p=((l.take i).any p||p x):=by
 rw[QW,hx];simp
theorem z2m (n:Int)(l:List qL)(hl:l.length<4294967000):
  zN (zGY l n) (0,[])=some (if l.any (z5W n) then .inr ((0,[]),1) else .inl (zIZ l)):=by
 have h:=xS (B:=zGY l n) (fun i (s:List qA)=>((i:Int),s)) l (fun i s=>s=zIZ (l.take i)∧(l.take i).any (z5W n)=false)
  (fun r=>r=if l.any (z5W n) then .inr ((0,[]),1) else .inl (zIZ l)) ?_ ?_ [] (by simp[zIZ])
 ·obtain⟨r,h1,rfl⟩:=h;exact h1
 ·rintro i x s hx ⟨rfl,hI⟩
  have hi:=(Qg.1 hx).1
  unfold zGY
  have hlt:decide ((i:Int)<len l)=true:=by simp[len];omega
  simp only[hlt,Qc,xW,hx,zob,z5Q]
  cases hb:z5W n x with
  | true =>
   refine .inr ⟨_,by simp;rfl,?_⟩
   have:l.any (z5W n)=true:=QX.2 ⟨x,QR hx,hb⟩
   simp[this]
  | false =>
   refine .inl ⟨zIZ (l.take (i+1)),?_,rfl,by rw[zZS _ hx,hI,hb];rfl⟩
   have hp:zIZ (l.take (i+1))=zIZ (l.take i)++[(x.1,x.2.1)]:=by unfold zIZ;rw[QW,hx];simp
   rw[wS (by simp[zIZ];omega)]
   simp[hp,vN i (by omega)]
 ·rintro s ⟨rfl,hI⟩
  unfold zGY
  rw[QU] at hI
  simp[hI,len]
theorem zVF (n:Int)(l:List qL)(hl:l.length<4294967000): zFc n l=some (zWX n l):=by
 unfold zFc zWX
 cases h0:(decide (n<0)||decide (40<n)) with
 | true=>simp
 | false =>
  simp only[zbf,Qb]
  rw[z2m n l hl]
  cases hb:l.any (z5W n) with
  | true=>simp[wZ]
  | false =>
   have hlen:(zIZ l).length<4294967296:=by simp[zIZ];omega
   simp only[zbf,Qb,wZ,zob]
   rw[zYp hlen]
   simp only[zob]
   rw[zZo (by simp[zIZ];omega)]
   rfl
end
section
theorem zNE:∀ a:zD,uV a a=false
 | []=>rfl
 | a::x=>by simp[uV,zNE x,UInt8.lt_irrefl]
theorem zWI:∀ {a b c:zD},uV a b=true->uV b c=true->uV a c=true
 | _,_,[],_,h=>by simp[uV] at h
 | _,[],_::_,h,_=>by simp[uV] at h
 | [],_::_,_::_,_,_=>rfl
 | a::x,b::y,c::z,h1,h2=>by
  simp[uV] at *
  rcases h1 with h1 | ⟨rfl,h1⟩ <;> rcases h2 with h2 | ⟨rfl,h2⟩
  ·grind
  ·grind
  ·grind
  ·exact .inr ⟨rfl,zWI h1 h2⟩
theorem z1a:∀ a b:zD,uV a b=true∨a=b∨uV b a=true
 | [],[]=>.inr (.inl rfl)
 | [],_::_=>.inl rfl
 | _::_,[]=>.inr (.inr rfl)
 | a::x,b::y=>by
  simp[uV]
  rcases UInt8.lt_or_lt_of_ne (a:=a) (b:=b) |> fun f=>(Classical.em (a=b)).imp id f with rfl | h | h
  ·rcases z1a x y with h | rfl | h
   ·grind
   ·grind
   grind
  ·grind
  grind
theorem z4d (a b:zD): zFv a b=some (if uV a b then -1 else if a=b then 0 else 1):=by
 have hn:∀ x:zD,zFK x=some false:=fun x=>by simp[zFK]
 simp only[zFv,hn,zob,zbf,Qb]
 by_cases h1:uV a b=true
 ·simp[h1]
 ·by_cases h2:a=b
  ·simp[h2,zNE]
  ·simp[h1,h2]
def loB (b:UInt8): Bool:=decide (97≤(b.toNat:Int))&&decide ((b.toNat:Int)≤122)
def okB (b:UInt8): Bool:=loB b||(if decide (48≤(b.toNat:Int)) then decide ((b.toNat:Int)≤57)||(b.toNat:Int)==95 else(b.toNat:Int)==95)
def vName:zD->Bool
 | []=>false
 | c::r=>decide (r.length+1≤12)&&loB c&&r.all okB
theorem zQd (s:zD): zBv s=some (vName s):=by
 unfold zBv
 cases s with
 | nil=>rfl
 | cons c r =>
  have h0:((len (c::r))==0)=false:=by rw[QQ];simp[len];omega
  by_cases hl:r.length+1≤12
  ·have h1:decide (12<len (c::r))=false:=by simp[len];omega
   rw[h0,h1]
   simp only[Bool.or_self,zbf,Qb]
   have h:=zUj (B:=zEp (c::r)) (fun i (_:Unit)=>(i:Int)) (c::r)
    (fun i _ b=>some (if loB b then .inl () else if decide (0<(i:Int))&&okB b then .inl () else .inr false)) (fun _=>some true) ?_ ?_ ()
   ·rw[show((0:Nat):Int)=0 from rfl] at h
    rw[h]
    have key:∀(l:List UInt8) (i:Nat),0<i->z3b (fun(i:Nat) (_:Unit) (b:UInt8)=>some (if loB b then .inl () else if decide (0<(i:Int))&&okB b then .inl () else .inr false)) (fun _=>some true) i l ()=some (l.all okB):=by
     intro l
     induction l with
     | nil=>intro i _;rfl
     | cons b l ih =>
      intro i hi
      by_cases hb:okB b=true
      ·by_cases hlo:loB b=true
       ·simp only[z3b,hlo,Qc];grind
       ·simp[z3b,hb];grind
      grind [okB,z3b]
    by_cases hlo:loB c=true
    ·simp[z3b]
     grind [vName]
    ·simp[z3b,hlo,vName]
   ·intro i x s hx
    have hi:=(Qg.1 hx).1
    unfold zEp
    rw[z7y,hx,vN i (by grind)]
    simp
    by_cases hlo:loB x=true
    ·have hlo':=hlo
     unfold loB at hlo'
     grind
    ·have hlo':=hlo
     unfold loB at hlo'
     by_cases hc:(decide (0<(i:Int))&&okB x)=true
     ·have hc':=hc
      unfold okB at hc'
      grind
     ·have hc':=hc
      unfold okB at hc'
      grind
   ·unfold zEp
    simp[len]
  ·have h1:decide (12<len (c::r))=true:=by simp[len];omega
   rw[h1]
   simp[vName,hl]
theorem zLL (x:zC): zCN x=some (vName x.2):=by simp[zCN,zQd]
theorem zEc{s:zD}(h:vName s=true): 1≤s.length∧s.length≤12:=by
 cases s with
 | nil=>simp[vName] at h
 | cons c r=>grind [vName]
def zFB (x:zC): zD:=if vName x.2 then(if x.1 then 126::x.2 else x.2) else[]
theorem zOL (x:zC): zDu x=some (zFB x):=by
 unfold zDu zFB
 rw[zLL]
 cases h:vName x.2 with
 | false=>rfl
 | true =>
  have:=zEc h
  cases hx:x.1 <;> simp[zNm (l:=[126]) (m:=x.2) (by simp;omega)]
theorem zDZ (x:zC): (zFB x).length≤13:=by grind [zFB,zEc]
def zOk (s:zD): zC×Int :=
 let x:zC:=match s with
  | 126::r=>(true,r)
  | _=>(false,s)
 if vName x.2 then(x,0) else((false,[]),3)
theorem zN8 (r:zD): zOk (126::r)=if vName r then((true,r),0) else((false,[]),3):=rfl
theorem zKx{s:zD}(h:∀ r,s≠126::r): zOk s=if vName s then((false,s),0) else((false,[]),3):=by
 unfold zOk
 grind
theorem z1P (s:zD): zJs s=some (zOk s):=by
 unfold zJs
 cases s with
 | nil=>simp[len,zLL,zKx,vName]
 | cons c r =>
  have hs0:z2G (c::r) 0=some (c.toNat:Int):=rfl
  by_cases hc:c=126
  ·subst hc
   have hs:=z0B (l:=(126::r:zD)) (i:=1) (by omega) (by simp;omega)
   simp[zLL]
   rw[zN8]
   grind
  ·have h1:((c.toNat:Int)==126)=false:=by
    rw[QQ]
    intro h;exact hc (UInt8.toNat_inj.1 (by grind))
   simp[zLL]
   rw[zKx (fun r' h=>hc (by grind))]
   grind
def wQ (a b:zC): Bool:=uV a.2 b.2||(a.2==b.2&&(!a.1&&b.1))
def zWY (a b:zC): Int:=if wQ a b then -1 else if a=b then 0 else 1
theorem zQ2 (a:zC): wQ a a=false:=by simp[wQ,zNE]
theorem zMQ{a b c:zC}(h1:wQ a b=true)(h2:wQ b c=true): wQ a c=true:=by
 obtain⟨g,a⟩:=a;obtain⟨g',b⟩:=b;obtain⟨g'',c⟩:=c
 simp only[wQ,Q6,Qo,Ue,Bool.not_eq_true'] at *
 rcases h1 with h1 | ⟨rfl,h1,h1'⟩ <;> rcases h2 with h2 | ⟨rfl,h2,h2'⟩
 ·exact .inl (zWI h1 h2)
 ·grind
 ·grind
 grind
theorem zTd (a b:zC): wQ a b=true∨a=b∨wQ b a=true:=by
 obtain⟨g,a⟩:=a;obtain⟨g',b⟩:=b
 simp[wQ]
 rcases z1a a b with h | rfl | h
 ·grind
 ·grind
 grind
theorem z83{a b:zC}(h:wQ a b=true): a≠b:=fun e=>by subst e;rw[zQ2] at h;cases h
theorem zOt (a b:zC): zC2 a b=some (zWY a b):=by
 obtain⟨g,a⟩:=a;obtain⟨g',b⟩:=b
 unfold zC2 zWY wQ
 rw[z4d]
 by_cases h1:uV a b=true
 ·simp[h1]
 ·by_cases h2:a=b
  ·subst h2
   cases g <;> cases g' <;> simp[zNE]
  ·simp[h1,h2]
theorem z85:OrdF zC2:=by
 have hlt:∀ x y,yN zC2 x y=wQ x y:=fun x y=>by
  simp only[yN,zOt,zWY,Wl]
  cases h:wQ x y with
  | true=>simp
  | false=>by_cases he:x=y <;> simp[he]
 refine⟨fun x y=>⟨_,zOt x y⟩,fun x=>by rw[hlt,zQ2],fun x y z h1 h2=>?_,fun x y z h1 h2=>?_,fun x y h1 h2=>?_⟩
 ·rw[hlt] at *;exact zMQ h1 h2
 ·rw[hlt] at *
  cases h3:wQ x z with
  | false=>rfl
  | true =>
   rcases zTd x y with h | rfl | h
   ·rw[h] at h1;cases h1
   ·rw[h3] at h2;cases h2
   ·have:=zMQ h h3;rw[this] at h2;cases h2
 ·rw[hlt] at *
  rcases zTd x y with h | h | h
  ·rw[h] at h1;cases h1
  ·exact h
  ·rw[h] at h2;cases h2
theorem ltF_lit (x y:zC): yN zC2 x y=wQ x y:=by
 simp only[yN,zOt,zWY,Wl]
 cases h:wQ x y with
 | true=>simp
 | false=>by_cases he:x=y <;> simp[he]
end
section
theorem zLi:zXh wQ:=⟨zQ2,fun _ _ _=>zMQ,zTd⟩
theorem zXO{l:List zC}(h:l.length<4294967296): zCd l=some l:=by
 simp[zCd,wS (l:=([]:List zC)) (m:=l) (by simpa using h)]
theorem z4F{l:List zC}(h:l.length<4294967296): zAR l=some (l.mergeSort fun x y=>!wQ y x):=by
 simp only[zAR,zZ7]
 rw[Qu ⟨z85,h⟩]
 simp only[ltF_lit]
theorem z2S{l:List zC}(h:l.length<4294967296): zCK l=some (tW l) :=
 (show zCK l=zZB (false,[]) l from rfl).trans (zO9 _ l (by omega))
theorem zML{l:List zC}(h:l.length<4294967296): zB7 l=some (nrm wQ l):=by
 simp only[zB7,zXO h,z4F h,zob]
 rw[z2S (by simpa using h)]
 rfl
theorem z5d{l:List zC}(x:zC)(h:l.length<9223372036854775807): zF2 l x=some (decide (x∈l)):=by
 obtain⟨r,hr,hi⟩:=zWn l x h
 have e:zCf l x=some r:=(show zCf l x=z9k l x from rfl).trans hr
 simp only[zF2,zCh,e,zob]
 congr 1
 rw[UR,hi]
 simp
def xJ (x:zC): zC:=(!x.1,x.2)
theorem zR7 (x:zC): zCF x=some (xJ x):=rfl
theorem zWm (x:zC): xJ (xJ x)=x:=by simp[xJ]
def zMM (l:List zC): Bool:=l.all fun x=>!decide (xJ x∈l)
theorem zZf{κ ν:Type}[BEq κ][LawfulBEq κ]: ∀(m:List (κ×ν)) (k:κ) (v:ν) (q:κ),(uW (uQ m k v) q).isSome=((q==k)||(uW m q).isSome)
 | [],k,v,q=>by simp only[uQ,uW];split <;> simp_all
 | x::r,k,v,q=>by
  by_cases h:k==x.1
  ·have h':=eq_of_beq h
   subst h'
   by_cases hq:q==x.1 <;> simp[uQ,uW,hq]
  ·by_cases hq:q==x.1
   ·simp[uQ,h,uW,hq]
   ·have:=zZf r k v q
    simp[uQ,h,uW,hq,this]
theorem zR6{l:List zC}(h:l.length<9223372036854775807): zDM l=some (zMM l):=by
 have hh:=xS (B:=zEI l) (fun i (s:List (zC×Unit))=>(s,(i:Int))) l
  (fun i s=>(∀ q,(uW s q).isSome=true↔∃ j,j<i∧l[j]?=some q)∧∀ j x,j<i->l[j]?=some x->∀ k,k<i->l[k]?≠some (xJ x)) (fun r=>r=zMM l) ?_ ?_ [] ⟨by simp[uW],by simp⟩
 ·obtain⟨r,h1,rfl⟩:=hh;exact h1
 ·intro i x s hx hI
  obtain⟨h1,h2⟩:=hI
  have hi:=(Qg.1 hx).1
  have hlt:decide ((i:Int)<len l)=true:=by simp[len];omega
  unfold zEI
  simp only[hlt,Qc,xW,hx,zob,zR7,vN i (by omega)]
  have hput:∀ q,(uW (uQ s x ()) q).isSome=true↔∃ j,j<i+1∧l[j]?=some q:=by
   intro q
   rw[zZf,Q6,h1]
   constructor
   ·rintro (hq | ⟨j,hj,hl⟩)
    ·exact⟨i,by omega,by rw[hx,eq_of_beq hq]⟩
    ·exact⟨j,by omega,hl⟩
   ·rintro ⟨j,hj,hl⟩
    rcases Qy.1 hj with h | rfl
    ·exact .inr ⟨j,h,hl⟩
    ·rw[hx] at hl;cases hl;exact .inl (by simp)
  cases hs:(uW (uQ s x ()) (xJ x)).isSome with
  | true =>
   refine .inr ⟨false,by simp,?_⟩
   obtain⟨j,hj,hl⟩:=(hput (xJ x)).1 hs
   symm
   rw[zMM,List.all_eq_false]
   exact⟨x,QR hx,by simp[QR hl]⟩
  | false =>
   refine .inl ⟨uQ s x (),by simp,hput,fun j y hj hy k hk hkl=>?_⟩
   have hno:∀ k,k<i+1->l[k]?≠some (xJ x):=fun k hk hkl=>by
    have:=(hput (xJ x)).2 ⟨k,hk,hkl⟩
    rw[hs] at this;cases this
   rcases Qy.1 hj with h3 | rfl
   ·rcases Qy.1 hk with h4 | rfl
    ·exact h2 j y h3 hy k h4 hkl
    ·rw[hx] at hkl
     cases hkl
     exact hno j (by omega) (by rw[hy,zWm])
   ·rw[hx] at hy;cases hy;exact hno k hk hkl
 ·rintro s ⟨h1,h2⟩
  refine⟨true,by unfold zEI;simp[len],?_⟩
  symm
  rw[zMM,QE]
  intro x hx
  obtain⟨j,hj⟩:=Qn.1 hx
  simp only[Bool.not_eq_true',QS]
  intro hc
  obtain⟨k,hk⟩:=Qn.1 hc
  exact h2 j x (Qg.1 hj).1 hj k (Qg.1 hk).1 hk
end
section
def Tw{α:Type}(m:Option α): Type:={ r:Option α // Le r m }
def td{α:Type}(m:Option α): Tw m:=⟨m,Le.refl m⟩
def tb{α β:Type}{a:Option α}{f:α->Option β}(h:Tw a)(k:∀ x,Tw (f x)): Tw (a.bind f):=⟨h.1.bind fun x=>(k x).1,Le.bind h.2 fun x=>(k x).2⟩
def ti{α:Type}{c:Prop}[Decidable c]{a b:Option α}(h:Tw a)(k:Tw b): Tw (if c then a else b):=⟨if c then h.1 else k.1,Le.ite h.2 k.2⟩
def ts{σ α:Type}{a:Option (σ⊕α)}{f:σ->Option α}(h:Tw a)(k:∀ x,Tw (f x)): Tw (wZ a f):=⟨Go.GD.wZ h.1 fun x=>(k x).1,Le.seqE h.2 fun x=>(k x).2⟩
def tl{σ ρ:Type}{C:σ->Option (σ⊕ρ)}(n:Nat)(h:∀ s,Tw (C s))(s:σ): Tw (zN C s):=⟨Go.GD.lp n (fun s=>(h s).1) s,Le.lp (fun s=>(h s).2) n s⟩
theorem Tw.el{α:Type}{m:Option α}(w:Tw m){r:α}(h:w.1=some r): m=some r:=w.2.el r h
end
section
def zBz (_:Nat)(l:List qL): Option (List qL):=if l.length<4294967296 then some (zVq lt4 l) else none
def zCY (_:Nat)(l:List qA): Option (List qA):=if l.length<4294967296 then some (zVq tR l) else none
def zG1 (_:Nat)(l:List Int): Option (List Int):=if l.length<4294967296 then some (zVq xE l) else none
theorem zGn (n:Nat)(l:List qL): Le (zBz n l) (zAf l):=⟨fun r h=>by
 unfold zBz at h
 split at h
 ·rename_i hl;rw[zUu hl,zMN ord4];exact h
 ·cases h⟩
theorem zIM (n:Nat)(l:List qA): Le (zCY n l) (zBC l):=⟨fun r h=>by
 unfold zCY at h
 split at h
 ·rename_i hl;rw[zYp hl,zMN z7u];exact h
 ·cases h⟩
theorem zJx (n:Nat)(l:List Int): Le (zG1 n l) (zCD l):=⟨fun r h=>by
 unfold zG1 at h
 split at h
 ·rename_i hl;unfold zCD;rw[zWU hl];exact h
 ·cases h⟩
def zCA (_:Nat)(l:List zC): Option (List zC):=if l.length<4294967296 then some (zVq wQ l) else none
theorem zGv (n:Nat)(l:List zC): Le (zCA n l) (zAR l):=⟨fun r h=>by
 unfold zCA at h
 split at h
 ·rename_i hl;rw[z4F hl,zMN zLi];exact h
 ·cases h⟩
end
section
def qS (n:Nat): List Int:=(List.range n).map Int.ofNat
theorem zGJ (n:Nat): (qS n).length=n:=by simp[qS]
theorem zVA{n i:Nat}{x:Int}(h:(qS n)[i]?=some x): x=(i:Int)∧i<n:=by grind [qS]
theorem xO{n:Nat}{x:Int}: x∈qS n↔0≤x∧x<n:=by
 simp[qS]
 exact⟨fun⟨a,h1,h2⟩=>by grind,fun h=>⟨x.toNat,by omega,by simp;omega⟩⟩
theorem zKf (n:Nat): vX xE (qS n):=by
 rw[qS,vX,UA]
 exact List.pairwise_lt_range.imp fun {a b} h=>by simp;omega
theorem zPp{α β ρ:Type}{B:List β×Int->Option ((List β×Int)⊕ρ)}(l:List α)(g:α->List β)(fin:List β->ρ)(c:Nat)(hg:∀ x∈l,(g x).length≤c)(acc:List β)
  (hB:∀(i:Nat) x s,l[i]?=some x->s.length≤acc.length+c*i->B (s,(i:Int))=some (.inl (s++g x,((i+1:Nat):Int))))
  (he:∀ s,B (s,(l.length:Int))=some (.inr (fin s))):zN B (acc,0)=some (fin (acc++l.flatMap g)):=by
 have h:=zFJ (B:=B) l (fun s x=>s++g x) fin (fun i s=>s.length≤acc.length+c*i) acc (by simp) (fun i x s hx hI=>⟨hB i x s hx hI,by
  grind⟩) (fun s _=>he s)
 rw[zJF] at h
 exact h.1
theorem zQ7{α β:Type}(g:α->List β)(c:Nat): ∀(l:List α),(∀ x∈l,(g x).length≤c)->(l.flatMap g).length≤l.length*c
 | [],_=>by simp
 | x::l,h=>by
  have h1:=zQ7 g c l fun y hy=>h y (Qi _ hy)
  have h2:=h x Qm
  simp only[UJ,Qh,QI,QP,Nat.one_mul]
  omega
theorem z2A{α β:Type}(p:α->Bool)(g:α->List β)(l:List α): (l.filter p).flatMap g=l.flatMap fun x=>if p x then g x else[]:=by
 induction l with
 | nil=>rfl
 | cons x l ih =>
  grind
section
variable {α:Type}
noncomputable def zUi (p:α->Option Bool)(y0:List α)(s1:Int): Option (Int⊕Int) :=
 if decide (s1<(len y0)) then
  (zB y0 s1).bind fun x1 =>
  (p x1).bind fun r1 =>
  if r1 then
   some (.inr s1)
  else
   some (.inl (zM (s1+1)))
 else
  some (.inr (-1))
theorem z1x (p:α->Option Bool)(q:α->Bool)(l:List α)(hb:l.length<4294967296)(hp:∀ x∈l,p x=some (q x)):
  (l.any q=false∧zN (zUi p l) 0=some (-1))∨∃(k:Nat) (x:α),zN (zUi p l) 0=some (k:Int)∧l[k]?=some x∧q x=true∧∀ j y,j<k->l[j]?=some y->q y=false:=by
 have h:=xS (B:=zUi p l) (fun i (_:Unit)=>(i:Int)) l (fun i _=>∀ j y,j<i->l[j]?=some y->q y=false)
  (fun r=>(l.any q=false∧r=-1)∨∃(k:Nat) (x:α),r=(k:Int)∧l[k]?=some x∧q x=true∧∀ j y,j<k->l[j]?=some y->q y=false) ?_ ?_ () (by omega)
 ·obtain⟨r,h1,⟨h2,rfl⟩ | ⟨k,x,rfl,h2⟩⟩:=h
  ·exact .inl ⟨h2,h1⟩
  ·exact .inr ⟨k,x,h1,h2⟩
 ·intro i x s hx hI
  unfold zUi
  simp only[qY hx,Qc,qM hx,zob,hp x (wF hx)]
  cases hq:q x with
  | true=>exact .inr ⟨_,by simp only[Qc],.inr ⟨i,x,rfl,hx,hq,hI⟩⟩
  | false =>
   refine .inl ⟨(),by simp only[zbf,Qb,qR hx hb],fun j y hj hy=>?_⟩
   rcases Qy.1 hj with h | rfl
   ·exact hI j y h hy
   ·rw[hx] at hy;cases hy;exact hq
 ·intro s hI
  unfold zUi
  refine⟨-1,by simp only[uU,zbf,Qb],.inl ⟨?_,rfl⟩⟩
  rw[Q9]
  intro x hx
  obtain⟨j,hj⟩:=Qn.1 hx
  simp[hI j x (vV hj) hj]
noncomputable def zVw (p:α->Option Bool)(y0:List α)(s2:(List α)×Int×Int): Option (((List α)×Int×Int)⊕((List α)×Int)) :=
 if decide (s2.2.2<(len y0)) then
  (zB s2.1 s2.2.2).bind fun x1 =>
  (p x1).bind fun r2 =>
  if !r2 then
   (zB s2.1 s2.2.1).bind fun _ =>
   some (.inl (List.set s2.1 (Int.toNat s2.2.1) x1,zM (s2.2.1+1),zM (s2.2.2+1)))
  else
   some (.inl (s2.1,s2.2.1,zM (s2.2.2+1)))
 else
  some (.inr (s2.1,s2.2.1))
noncomputable def zZX (p:α->Option Bool)(z:α)(y0:List α): Option (List α) :=
 (zN (zUi p y0) 0).bind fun r1 =>
 if r1==(-1) then
  some y0
 else
  (zN (zVw p y0) (y0,r1,zM (r1+1)):Option ((List α)×Int)).bind fun s1 =>
  (wV (decide (0≤s1.2)&&decide (s1.2≤len s1.1))).bind fun _ =>
  (sub (zDI s1.1 s1.2 z) 0 s1.2).bind fun x3 =>
  some x3
theorem zZt (p:α->Option Bool)(q:α->Bool)(z:α)(l:List α)(hb:l.length<4294967296)(hp:∀ x∈l,p x=some (q x)): zZX p z l=some (l.filter fun x=>!q x):=by
 unfold zZX
 rcases z1x p q l hb hp with⟨h1,h2⟩ | ⟨k,x,h1,h2,h3,h4⟩
 ·rw[h2]
  simp only[zob,Uv,Qc]
  congr 1
  symm
  rw[Wn]
  intro y hy
  have:=Q9.1 h1 y hy
  simpa using this
 ·rw[h1]
  have hne:((k:Int)==-1)=false:=QQ.2 (by omega)
  have hkl:=vV h2
  simp only[zob,hne,zbf,Qb,vN k (by omega)]
  have key:∀ n i j (c:List α),i+n=l.length->j<i->c.length=l.length->(∀ u,i≤u->c[u]?=l[u]?)->c.take j=(l.take i).filter (fun x=>!q x)->
    ∃ c' j',zN (zVw p l) (c,(j:Int),(i:Int))=some (c',((j':Nat):Int))∧c'.length=l.length∧j'≤l.length∧c'.take j'=l.filter fun x=>!q x:=by
   intro n
   induction n with
   | zero =>
    intro i j c hn hj hc hs ht
    rw[Q4] at hn
    subst hn
    rw[QU] at ht
    refine⟨c,j,?_,hc,by omega,ht⟩
    rw[vR]
    unfold zVw
    simp only[uU,zbf,Qb]
   | succ n ih =>
    intro i j c hn hj hc hs ht
    have hx:l[i]?=some l[i]:=Qe (by omega)
    have hcx:zB c (i:Int)=some l[i]:=by rw[xW,hs i (Qr _)];exact hx
    rw[vR]
    unfold zVw
    simp only[qY hx,Qc,hcx,zob,hp _ (wF hx)]
    cases hq:q l[i] with
    | true =>
     simp only[QN,zbf,Qb,qR hx hb]
     refine ih (i+1) j c (by omega) (by omega) hc (fun u hu=>hs u (by omega)) ?_
     rw[xY hx,Us,ht]
     simp[hq]
    | false =>
     have hcj:zB c (j:Int)=some c[j]:=by rw[xW];exact Qe (by omega)
     simp only[Q8,Qc,hcj,zob,qR hx hb,Ql]
     rw[vN j (by omega)]
     refine ih (i+1) (j+1) (c.set j l[i]) (by omega) (by omega) (by simp[hc]) (fun u hu=>?_) ?_
     ·rw[List.getElem?_set_ne (by omega)];exact hs u (by omega)
     ·rw[xY hx,Us,←ht,QW,List.getElem?_set_self (by omega),List.take_set_of_le (Qr _)]
      simp[hq]
  obtain⟨c,j,e1,e2,e3,e4⟩:=key (l.length-(k+1)) (k+1) k l (by omega) (by omega) rfl (fun u _=>rfl) (by
   rw[xY h2,Us]
   have:(l.take k).filter (fun x=>!q x)=l.take k:=by
    rw[Wn]
    intro y hy
    obtain⟨u,hu⟩:=Qn.1 hy
    rw[Ub] at hu
    split at hu
    ·rename_i huk;simp[h4 u y huk hu]
    ·cases hu
   simp[this,h3])
  rw[e1]
  have hc1:(decide (0≤((j:Nat):Int))&&decide (((j:Nat):Int)≤len c))=true:=by simp[len];omega
  simp only[zob,hc1,wV,Qc]
  rw[zSN (by omega) (by rw[zL1,e2];omega)]
  simp only[zob,Ql,zDI,e4]
  have hdl:(l.filter fun x=>!q x).length=j:=by rw[←e4,QL];omega
  rw[←hdl,U4]
end
end
section
theorem wrapU{x:Int}(h0:0≤x)(h1:x<18446744073709551616): IntKind.u64.wrap x=x:=by
 unfold IntKind.wrap
 simp[IntKind.bits,IntKind.signed]
 omega
theorem zKC{n:Nat}(h:n<18446744073709551616): IntKind.u64.wrap (n:Int)=(n:Int):=wrapU (by omega) (by omega)
theorem z6R (n:Nat): IntKind.u64.wrap (n:Int)=((n % 18446744073709551616:Nat):Int):=by
 unfold IntKind.wrap
 simp only[IntKind.bits,IntKind.signed,Ui,zbf,Qb]
 omega
theorem z9u (n:Nat): BitVec.ofInt IntKind.u64.bits (n:Int)=BitVec.ofNat 64 n:=by
 exact BitVec.ofInt_natCast 64 n
theorem z3e{a b:Nat}(ha:a<18446744073709551616): a &&& b<18446744073709551616:=Nat.lt_of_le_of_lt Nat.and_le_left ha
theorem or_lt{a b:Nat}(ha:a<18446744073709551616)(hb:b<18446744073709551616): a ||| b<18446744073709551616:=Nat.or_lt_two_pow (n:=64) ha hb
theorem zSu{a b:Nat}(ha:a<18446744073709551616)(hb:b<18446744073709551616): vA .u64 (a:Int) (b:Int)=((a &&& b:Nat):Int):=by
 unfold vA
 have h:(BitVec.ofNat 64 a &&& BitVec.ofNat 64 b).toNat=a &&& b:=by
  rw[BitVec.toNat_and,BitVec.toNat_ofNat,BitVec.toNat_ofNat,U7 ha,U7 hb]
 exact(congrArg (fun z:Nat=>IntKind.u64.wrap (z:Int)) h).trans (zKC (z3e ha))
theorem zYy{a b:Nat}(ha:a<18446744073709551616)(hb:b<18446744073709551616): bor .u64 (a:Int) (b:Int)=((a ||| b:Nat):Int):=by
 unfold bor
 have h:(BitVec.ofNat 64 a ||| BitVec.ofNat 64 b).toNat=a ||| b:=by
  rw[BitVec.toNat_or,BitVec.toNat_ofNat,BitVec.toNat_ofNat,U7 ha,U7 hb]
 exact(congrArg (fun z:Nat=>IntKind.u64.wrap (z:Int)) h).trans (zKC (or_lt ha hb))
def andn (a b:Nat): Nat:=a ^^^ (a &&& b)
theorem zNI (a b i:Nat): (andn a b).testBit i=(a.testBit i&&!b.testBit i):=by
 unfold andn
 rw[Nat.testBit_xor,Wf]
 cases a.testBit i <;> cases b.testBit i <;> rfl
theorem z3D{a b:Nat}(ha:a<18446744073709551616): andn a b<18446744073709551616:=Nat.xor_lt_two_pow (n:=64) ha (z3e ha)
theorem zWT{a b:Nat}(ha:a<18446744073709551616)(_hb:b<18446744073709551616): zNV .u64 (a:Int) (b:Int)=((andn a b:Nat):Int):=by
 unfold zNV
 rw[z9u,z9u]
 have h:(BitVec.ofNat 64 a &&& ~~~(BitVec.ofNat 64 b)).toNat=andn a b:=by
  apply Wi
  intro i
  rw[zNI,←BitVec.getLsbD,BitVec.getLsbD_and,BitVec.getLsbD_not,BitVec.getLsbD_ofNat,BitVec.getLsbD_ofNat]
  by_cases hi:i<64
  ·simp[hi]
  ·have:a.testBit i=false:=Nat.testBit_lt_two_pow (Uk ha (Nat.pow_le_pow_right (by decide) (by omega):2 ^ 64≤2 ^ i))
   simp[hi,this]
 exact(congrArg (fun z:Nat=>IntKind.u64.wrap (z:Int)) h).trans (zKC (z3D ha))
theorem z8b{i:Nat}(h:i<64): z6f .u64 1 (IntKind.u64.wrap (i:Int))=some ((2 ^ i:Nat):Int):=by
 rw[zKC (by omega)]
 unfold z6f shl
 have h2:(2:Nat) ^ i<18446744073709551616:=Nat.pow_lt_pow_right (a:=2) (by decide) (show i<64 from h)
 have h3:min ((i:Int).toNat) IntKind.u64.bits=i:=by simp[IntKind.bits];omega
 have h4:(1:Int)*2 ^ i=((2 ^ i:Nat):Int):=by rw[Int.one_mul];norm_cast
 rw[Qq (by omega),h3,h4,zKC h2]
theorem shrK_u{m i:Nat}(h:i<64): shrK .u64 (m:Int) (IntKind.u64.wrap (i:Int))=some ((m / 2 ^ i:Nat):Int):=by
 rw[zKC (by omega)]
 unfold shrK uT
 have h3:min ((i:Int).toNat) IntKind.u64.bits=i:=by simp[IntKind.bits];omega
 rw[Qq (by omega),h3]
 rw[Int.fdiv_eq_ediv_of_nonneg _ (by exact Int.le_of_lt (Int.pow_pos (by decide)))]
 norm_cast
theorem bit_eq (m i:Nat): (((m / 2 ^ i) &&& 1:Nat)==1)=m.testBit i:=by
 rw[Nat.testBit_eq_decide_div_mod_eq,Nat.and_one_is_mod,QV]
 simp
theorem div_lt'{m i:Nat}(hm:m<18446744073709551616): m / 2 ^ i<18446744073709551616:=Nat.lt_of_le_of_lt (Nat.div_le_self _ _) hm
theorem zOe{i:Nat}(h:i<64): 2 ^ i<18446744073709551616:=Nat.pow_lt_pow_right (a:=2) (by decide) (show i<64 from h)
theorem z1l{m i:Nat}(hm:m<18446744073709551616)(h:64≤i): m.testBit i=false :=
 Nat.testBit_lt_two_pow (Uk hm (Nat.pow_le_pow_right (by decide) h:2 ^ 64≤2 ^ i))
def zRQ (m:Nat): List Int:=(qS 64).filter fun x=>m.testBit x.toNat
theorem zMV{m:Nat}{x:Int}: x∈zRQ m↔∃ i:Nat,x=(i:Int)∧i<64∧m.testBit i=true:=by
 unfold zRQ
 rw[Qk,xO]
 constructor
 ·rintro ⟨⟨h1,h2⟩,h3⟩
  exact⟨x.toNat,by omega,by omega,h3⟩
 ·rintro ⟨i,rfl,h1,h2⟩
  exact⟨⟨by omega,by omega⟩,by simpa using h2⟩
theorem zYc{m:Nat}(hm:m<18446744073709551616){i:Nat}: (i:Int)∈zRQ m↔m.testBit i=true:=by
 rw[zMV]
 constructor
 ·rintro ⟨j,h1,h2,h3⟩
  have:i=j:=by omega
  rw[this];exact h3
 ·intro h
  refine⟨i,rfl,Nat.lt_of_not_le fun hge=>?_,h⟩
  rw[z1l hm hge] at h;cases h
theorem zXE (m:Nat): vX xE (zRQ m):=(zKf 64).filter _
theorem z1W (m:Nat): (zRQ m).length≤64:=QD (QH _ _) (by rw[zGJ];exact Qr _)
theorem zVx (q k j:Nat): (2 ^ k*(2*q+1)).testBit j=(decide (j=k)||(decide (k<j)&&q.testBit (j-k-1))):=by
 have e:2 ^ k*(2*q+1)=2 ^ (k+1)*q+2 ^ k:=by rw[Nat.mul_add,UN,Nat.pow_succ,Nat.mul_assoc]
 rw[e,UL _ (Nat.pow_lt_pow_right (by decide) (Wk k))]
 by_cases hj:j<k+1
 ·rw[Qu hj,Nat.testBit_two_pow]
  have h1:decide (k<j)=false:=by simp;omega
  rw[h1,Ui,U0]
  by_cases h2:j=k <;> simp[h2]
  exact fun h=>h2 h.symm
 ·rw[Qq hj]
  have h1:decide (k<j)=true:=by simp;omega
  have h2:decide (j=k)=false:=by simp;omega
  rw[h1,h2,Ux,UO]
  congr 1
theorem z5Z (q k:Nat): (2 ^ k*(2*q+1)) &&& (2 ^ k*(2*q+1)-1)=2 ^ (k+1)*q:=by
 have hp:0<2 ^ k:=Nat.pow_pos (by decide)
 have e:2 ^ k*(2*q+1)-1=2 ^ (k+1)*q+(2 ^ k-1):=by rw[Nat.mul_add,UN,Nat.pow_succ,Nat.mul_assoc];omega
 apply Wi
 intro j
 rw[Wf,zVx,e,UL _ (by rw[Nat.pow_succ];omega)]
 have e2:2 ^ (k+1)*q=2 ^ (k+1)*q+0:=rfl
 rw[e2,UL _ (Nat.pow_pos (by decide))]
 by_cases hj:j<k+1
 ·rw[Qu hj,Qu hj,UM,U8]
  have h1:decide (k<j)=false:=by simp;omega
  rw[h1,Ui,U0]
  by_cases h2:j=k
  ·simp[h2]
  ·simp[h2]
 ·rw[Qq hj,Qq hj]
  have h1:decide (k<j)=true:=by simp;omega
  have h2:decide (j=k)=false:=by simp;omega
  rw[h1,h2,Ux,UO]
  have h3:j-(k+1)=j-k-1:=by omega
  rw[h3,Bool.and_self]
theorem tz_nat{m:Nat}(h0:m≠0)(h:m<18446744073709551616): ∃ k q:Nat,zCW (m:Int)=some (k:Int)∧k<64∧m=2 ^ k*(2*q+1):=by
 have hc:Lib.ctz 64 m=Lib.ctzFrom 64 m:=by unfold Lib.ctz;rw[Qq h0]
 obtain⟨q,hq,hk⟩:=Lib.ctzFrom_spec 64 m (by omega) h
 obtain⟨hl,_⟩:=Lib.lowest_bit 64 m h0 h
 rw[hc] at hl
 generalize Lib.ctzFrom 64 m=k at hq hk hl
 refine⟨k,q,?_,hk,hq⟩
 unfold zCW
 have hne:((m:Int)==0)=false:=by simp;omega
 have hw:IntKind.u64.wrap (0-(m:Int))=((2 ^ 64-m:Nat):Int):=by
  unfold IntKind.wrap
  simp only[IntKind.bits,IntKind.signed,Ui,zbf,Qb]
  omega
 rw[hne,hw,zSu h (by omega),hl]
 obtain⟨d1,d2⟩:=Lib.deBruijn64_at k hk
 have hmul:IntKind.u64.wrap (((2 ^ k:Nat):Int)*285870213051353865)=((2 ^ k*285870213051353865 % 18446744073709551616:Nat):Int):=by
  have e:((2 ^ k:Nat):Int)*285870213051353865=((2 ^ k*285870213051353865:Nat):Int):=by rw[Int.natCast_mul];rfl
  rw[e,z6R]
 have hs:uT .u64 ((2 ^ k*285870213051353865 % 18446744073709551616:Nat):Int) 58=((2 ^ k*285870213051353865 % 18446744073709551616 / 288230376151711744:Nat):Int):=by
  unfold uT
  have h3:min ((58:Int).toNat) IntKind.u64.bits=58:=by decide
  rw[h3,Int.fdiv_eq_ediv_of_nonneg _ (by decide)]
  norm_cast
 simp only[zbf,Qb]
 rw[hmul,hs,xW]
 generalize 2 ^ k*285870213051353865 % 18446744073709551616 / 288230376151711744=z at d1 d2
 have ht:∀ z,z<64->yC[z]?=some ((Lib.deBruijn64tab.getD z 0:Nat):Int):=by decide +kernel
 rw[ht z d1,d2]
 simp only[zob]
 rw[uL (by omega) (by omega)]
def zQb (l:List Int): Nat:=l.foldl (fun m x=>m ||| 2 ^ x.toNat) 0
theorem z7F (l:List Int): ∀(m i:Nat),(l.foldl (fun m x=>m ||| 2 ^ x.toNat) m).testBit i=(m.testBit i||l.any fun x=>decide (x.toNat=i)):=by
 induction l with
 | nil=>intro m i;simp
 | cons x l ih =>
  intro m i
  rw[Ul,ih,Nat.testBit_or,Nat.testBit_two_pow,List.any_cons,Bool.or_assoc]
theorem z1D{l:List Int}(hl:∀ x∈l,0≤x)(i:Nat): (zQb l).testBit i=decide ((i:Int)∈l):=by
 unfold zQb
 rw[z7F,U8,UO,QV,QX]
 simp only[Qp]
 constructor
 ·rintro ⟨x,hx,h⟩
  have:=hl x hx
  rw[show(i:Int)=x by omega];exact hx
 ·intro h
  exact⟨i,h,by simp⟩
theorem z97 (l:List Int)(hl:∀ x∈l,x<64): ∀ m,m<18446744073709551616->(l.foldl (fun m x=>m ||| 2 ^ x.toNat) m)<18446744073709551616:=by
 induction l with
 | nil=>intro m hm;exact hm
 | cons x l ih =>
  intro m hm
  have:=hl x (by simp)
  exact ih (fun y hy=>hl y (by simp[hy])) _ (or_lt hm (zOe (by omega)))
theorem zZI{l:List Int}(hl:∀ x∈l,x<64): zQb l<18446744073709551616:=z97 l hl 0 (by decide)
end
section
def ed (L:List qA)(a b:Int): Bool:=L.any fun p=>p.1==a&&p.2==b
theorem zWp{L:List qA}{a b:Int}: ed L a b=true↔(a,b)∈L:=by
 unfold ed
 grind
end
section
def att (R:Nat->Nat->Prop)(S:Nat->Prop)(j:Nat): Prop:=∃ m,S m∧R m j
def gr (D:Nat->Prop)(R:Nat->Nat->Prop): Nat->Nat->Prop
 | 0,_=>False
 | k+1,i=>D i∧∀ j,R j i->att R (gr D R k) j
section
variable {D:Nat->Prop}{R:Nat->Nat->Prop}
theorem zYe{k i:Nat}(h:gr D R k i): D i:=by
 cases k with
 | zero=>exact h.elim
 | succ k=>exact h.1
theorem zQI:∀ {k i:Nat},gr D R k i->gr D R (k+1) i
 | 0,_,h=>h.elim
 | k+1,i,h=>⟨h.1,fun j hj=>by obtain⟨m,h1,h2⟩:=h.2 j hj;exact⟨m,zQI h1,h2⟩⟩
theorem gr_le{k m i:Nat}(h:k≤m)(hk:gr D R k i): gr D R m i:=by
 induction m with
 | zero=>grind
 | succ m ih =>
  grind [zQI]
theorem z7e:∀ {k i j:Nat},gr D R k i->gr D R k j->¬ R i j
 | 0,_,_,h,_,_=>h.elim
 | k+1,i,j,hi,hj,hr=>by
  obtain⟨m,hm,hmi⟩:=hj.2 i hr
  obtain⟨m',hm',hmm⟩:=hi.2 m hmi
  exact z7e hm' hm hmm
theorem z6F{k:Nat}(h:∀ i,gr D R (k+1) i->gr D R k i): ∀ m,k≤m->∀ i,gr D R m i->gr D R k i:=by
 intro m
 induction m with
 | zero=>grind
 | succ m ih =>
  intro hk i hi
  by_cases he:k=m+1
  ·grind
  ·exact h i ⟨hi.1,fun j hj=>by grind [att,gr]⟩
open Classical in
theorem z8M{N:Nat}(hD:∀ i,D i->i<N): ∃ k,k≤N∧∀ i,gr D R (k+1) i->gr D R k i:=by
 apply Classical.byContradiction
 intro hno
 have hstep:∀ k,k≤N->∃ i,gr D R (k+1) i∧¬ gr D R k i:=fun k hk=>by
  simp_all
 let c:Nat->Nat:=fun k=>((List.range N).filter fun i=>decide (gr D R k i)).length
 have hc:∀ k,k≤N->c k<c (k+1):=by
  intro k hk
  obtain⟨i,h1,h2⟩:=hstep k hk
  have hi:=hD i (zYe h1)
  have hsub:∀ l:List Nat,(l.filter fun i=>decide (gr D R k i)).length≤(l.filter fun i=>decide (gr D R (k+1) i)).length∧(i∈l->(l.filter fun i=>decide (gr D R k i)).length<(l.filter fun i=>decide (gr D R (k+1) i)).length):=by
   intro l
   induction l with
   | nil=>simp
   | cons x l ih =>
    by_cases hx:gr D R k x
    ·have hx':=zQI hx
     grind
    grind
  exact(hsub (List.range N)).2 (Ug.2 hi)
 have hbig:∀ k,k≤N+1->k≤c k:=by
  intro k
  induction k with
  | zero=>grind
  | succ k ih=>grind
 have h1:=hbig (N+1) (Qr _)
 grind
theorem gr_last{N:Nat}(hD:∀ i,D i->i<N){m i:Nat}(h:gr D R m i): gr D R N i:=by
 obtain⟨k,hk,hs⟩:=z8M (R:=R) hD
 by_cases hm:m≤k
 ·grind [gr_le]
 ·exact gr_le hk (z6F hs m (by omega) i h)
end
def zW (N:Nat)(f:Nat->Int): List Int:=(List.range N).map f
theorem zHB (N:Nat)(f:Nat->Int): (zW N f).length=N:=by simp[zW]
theorem zQw{N i:Nat}(f:Nat->Int)(h:i<N): zB (zW N f) (i:Int)=some (f i):=by
 rw[xW]
 simp[zW,h]
theorem zS4{N i:Nat}(f:Nat->Int)(v:Int): List.set (zW N f) i v=zW N fun j=>if j=i then v else f j:=by
 unfold zW
 apply QG
 grind
theorem zBq{N:Nat}{f g:Nat->Int}(h:∀ i,i<N->f i=g i): zW N f=zW N g:=by grind [zW,List.map_congr_left]
theorem z6V{N:Nat}(hN:N≤4294967296)(v:Int): mkS (N:Int) (N:Int) v=some (zW N fun _=>v):=by
 unfold mkS
 rw[Qu ⟨by omega,by omega,by omega⟩]
 congr 1
 unfold zW
 rw[Ql]
 apply QG
 intro i
 by_cases h:i<N <;> simp[h]
theorem z4s{σ τ ρ:Type}{B:τ->Option (τ⊕ρ)}(mk:σ->Nat->τ)(M:Nat)(I:Nat->σ->Prop)(Q:ρ->Prop)
  (hB:∀ i s,i<M->I i s->(∃ s',B (mk s i)=some (.inl (mk s' (i+1)))∧I (i+1) s')∨∃ r,B (mk s i)=some (.inr r)∧Q r)
  (he:∀ s,I M s->∃ r,B (mk s M)=some (.inr r)∧Q r):∀ s,I 0 s->∃ r,zN B (mk s 0)=some r∧Q r:=by
 have key:∀ n i s,i+n=M->I i s->∃ r,zN B (mk s i)=some r∧Q r:=by
  intro n
  induction n with
  | zero =>
   intro i s h hi
   grind [vR]
  | succ n ih =>
   grind [vR]
 simp_all
section
variable (N:Nat)(L:List qA)
abbrev vT (i j:Nat): Prop:=ed L (i:Int) (j:Int)=true
abbrev xC (k i:Nat): Prop:=gr (· < N) (vT L) k i
open Classical in
noncomputable def qV (k i:Nat): Int:=if xC N L k i then 1 else if att (vT L) (xC N L k) i then 2 else 3
def tQ (k i:Nat): Prop:=xC N L (k+1) i∧¬ xC N L k i
theorem lab3{k i:Nat}: qV N L k i=3↔¬ xC N L k i∧¬ att (vT L) (xC N L k) i:=by
 unfold qV
 grind
theorem lab2{k i:Nat}: qV N L k i=2↔¬ xC N L k i∧att (vT L) (xC N L k) i:=by
 unfold qV
 grind
theorem lab1{k i:Nat}: qV N L k i=1↔xC N L k i:=by
 unfold qV
 grind
theorem zUG{k i:Nat}(h:xC N L k i): ¬ att (vT L) (xC N L k) i:=fun⟨m,h1,h2⟩=>z7e h1 h h2
theorem zXv{k i:Nat}: qV N L k i=2↔att (vT L) (xC N L k) i:=by
 rw[lab2]
 exact⟨fun h=>h.2,fun h=>⟨fun hg=>zUG N L hg h,h⟩⟩
theorem now_iff{k i:Nat}(hi:i<N)(hR:∀ a b:Int,ed L a b=true->∃ m,m<N∧a=(m:Int)): (qV N L k i=3∧∀ b,b<N->vT L b i->qV N L k b=2)↔tQ N L k i:=by
 constructor
 ·rintro ⟨h1,h2⟩
  rw[lab3] at h1
  refine⟨⟨hi,fun j hj=>?_⟩,h1.1⟩
  obtain⟨m,hm,he⟩:=hR _ _ hj
  have:j=m:=by omega
  subst this
  exact(zXv N L).1 (h2 j hm hj)
 ·rintro ⟨h1,h2⟩
  refine⟨(lab3 N L).2 ⟨h2,fun⟨m,h3,h4⟩=>?_⟩,fun b _ hb=>(zXv N L).2 (h1.2 b hb)⟩
  exact zUG N L h3 (h1.2 m h4)
theorem z8l{k i:Nat}: qV N L (k+1) i=(open Classical in if tQ N L k i then 1 else if qV N L k i=3∧att (vT L) (tQ N L k) i then 2 else qV N L k i):=by
 by_cases hn:tQ N L k i
 ·rw[Qu hn];exact(lab1 N L).2 hn.1
 ·rw[Qq hn]
  by_cases h1:xC N L k i
  ·have h2:xC N L (k+1) i:=zQI h1
   have h3:qV N L k i=1:=(lab1 N L).2 h1
   rw[(lab1 N L).2 h2,Qq (by grind),h3]
  ·have h2:¬ xC N L (k+1) i:=fun h=>hn ⟨h,h1⟩
   by_cases h3:att (vT L) (xC N L k) i
   ·have h4:qV N L k i=2:=(zXv N L).2 h3
    have h5:att (vT L) (xC N L (k+1)) i:=by obtain⟨m,h6,h7⟩:=h3;exact⟨m,zQI h6,h7⟩
    rw[(zXv N L).2 h5,Qq (by grind),h4]
   ·have h4:qV N L k i=3:=(lab3 N L).2 ⟨h1,h3⟩
    by_cases h5:att (vT L) (tQ N L k) i
    ·rw[Qu ⟨h4,h5⟩]
     obtain⟨m,h6,h7⟩:=h5
     exact(zXv N L).2 ⟨m,h6.1,h7⟩
    ·rw[Qq (fun h=>h5 h.2),h4]
     refine(lab3 N L).2 ⟨h2,fun⟨m,h6,h7⟩=>?_⟩
     by_cases h8:xC N L k m
     ·exact h3 ⟨m,h8,h7⟩
     ·exact h5 ⟨m,⟨h6,h8⟩,h7⟩
variable {N L}(hN:N≤64)(hL:L.length<4294967296)(hR:∀ a b:Int,ed L a b=true->∃ m,m<N∧a=(m:Int))
include hN hL
end
end
section
def inN (N:Nat)(L:List qA): Prop:=∀ a b:Int,ed L a b=true->∃ i j:Nat,i<N∧j<N∧a=(i:Int)∧b=(j:Int)
section
variable {N:Nat}{L:List qA}(hV:inN N L){X:Nat}(hX:X<18446744073709551616)
include hV hX
end
abbrev left (N:Nat)(gone:List Int)(i:Nat): Prop:=i<N∧(i:Int)∉gone
section
variable {N:Nat}(hN:N≤40){L:List qA}(hV:inN N L)(hL:L.length<4294967296){gone:List Int}(hg:∀ x∈gone,0≤x∧x<N)(hgl:gone.length<4294967296)
include hV
include hN hg
end
end
section
theorem z43{σ ρ:Type}{B B':σ->Option (σ⊕ρ)}(I:σ->Prop)(h:∀ s,I s->B s=B' s)(hs:∀ s s',I s->B s=some (.inl s')->I s'): ∀ n s,I s->tK B n s=tK B' n s:=by
 intro n
 induction n with
 | zero=>intro s _;rfl
 | succ n ih =>
  grind [tK]
theorem z4p{σ ρ:Type}{B B':σ->Option (σ⊕ρ)}(I:σ->Prop)(h:∀ s,I s->B s=B' s)(hs:∀ s s',I s->B s=some (.inl s')->I s')(s:σ)(hI:I s): zN B s=zN B' s:=by
 have hit:=z43 I h hs
 grind [zN,zLQ]
def zZb (n:Int)(p:qA): Bool:=decide (p.1<0)||decide (n≤p.1)||decide (p.2<0)||decide (n≤p.2)
theorem zOw (x y:qA): zDB x y=some (orF [z1y x.1 y.1,z1y x.2 y.2]):=by
 unfold zDB
 rw[zPo,zPo]
 simp only[zob]
 rw[z7i _ (by simp)]
 rfl
theorem z02 (x y:qA): decide (0≤orF [z1y x.1 y.1,z1y x.2 y.2])=!tR x y:=by
 have h:decide (orF [z1y x.1 y.1,z1y x.2 y.2] < 0)=tR x y:=zR2 (by rw[zR2 (r:=[]) (b:=false) (by simp[orF])];simp)
 grind
def zOi (n:Int)(L:List qA)(i:Nat): Option Int:=match L[i]? with
 | none=>some 0
 | some p=>if zZb n p then some 1 else if i=0 then none else match L[i-1]? with
  | none=>none
  | some q=>if !tR q p then some 8 else none
theorem zMc (n:Int)(L:List qA)(hL:L.length<4294967296)(i:Nat)(hi:i≤L.length): zBw (n,L) (i:Int)=match zOi n L i with
  | some e=>some (.inr e)
  | none=>some (.inl ((i+1:Nat):Int)):=by
 unfold zBw zOi
 by_cases he:i=L.length
 ·grind
 ·have hx:L[i]?=some L[i]:=Qe (by omega)
  generalize L[i]=x at hx
  simp only[qY hx,Qc,qM hx,zob,hx,qR hx hL]
  have hb:(decide ((if x.2<x.1 then x.2 else x.1)<0)||decide (n≤(if x.2 > x.1 then x.2 else x.1)))=zZb n x:=by
   rw[QV]
   simp only[zZb,Q6,Qp]
   split <;> split <;> omega
  rw[hb]
  cases zZb n x with
  | true=>simp
  | false =>
   simp only[zbf,Qb]
   by_cases h0:i=0
   ·grind
   ·obtain⟨j,rfl⟩:∃ j,i=j+1:=⟨i-1,by omega⟩
    have hy:L[j]?=some L[j]:=Qe (by omega)
    generalize L[j]=y at hy
    have hd:decide (0<((j+1:Nat):Int))=true:=by rw[Qp];omega
    have hw:zM (((j+1:Nat):Int)-1)=(j:Int):=by rw[uL (by omega) (by omega)];omega
    simp only[hd,Qc,hw,qM hy,zob,zOw,z02,Nat.add_sub_cancel,hy,h0,Qb]
    grind
theorem zXJ (n:Int)(L:List qA)(hL:L.length<4294967296)(i:Nat)(hi:i≤L.length): zGm (n,L) (i:Int)=match zOi n L i with
  | some e=>some (.inr e)
  | none=>some (.inl ((i+1:Nat):Int)):=by
 unfold zGm zOi
 by_cases he:i=L.length
 ·grind
 ·have hx:L[i]?=some L[i]:=Qe (by omega)
  generalize L[i]=x at hx
  simp only[qY hx,Qc,qM hx,zob,hx,qR hx hL]
  have hb:(decide (x.1<0)||(decide (n≤x.1)||(decide (x.2<0)||decide (n≤x.2))))=zZb n x:=by simp[zZb,Bool.or_assoc]
  rw[hb]
  cases zZb n x with
  | true=>simp
  | false =>
   simp only[zbf,Qb]
   by_cases h0:i=0
   ·grind
   ·obtain⟨j,rfl⟩:∃ j,i=j+1:=⟨i-1,by omega⟩
    have hy:L[j]?=some L[j]:=Qe (by omega)
    generalize L[j]=y at hy
    have hd:decide (0<((j+1:Nat):Int))=true:=by rw[Qp];omega
    have hw:zM (((j+1:Nat):Int)-1)=(j:Int):=by rw[uL (by omega) (by omega)];omega
    simp only[hd,Qc,hw,qM hy,zob,Nat.add_sub_cancel,hy,h0,Qb]
    grind
def validG (g:qE): Prop:=0≤g.1∧g.1≤40∧∀ p∈g.2,zZb g.1 p=false
theorem z6Y (g:qE)(hL:g.2.length<4294967296): ∃ e,zBj g=some e∧zLe g=some e∧(e=0->validG g):=by
 obtain⟨n,L⟩:=g
 unfold zBj zLe
 cases h0:(decide (n<0)||decide (40<n)) with
 | true=>grind
 | false =>
  simp at h0
  have hc:zN (zGm (n,L)) 0=zN (zBw (n,L)) 0:=by
   refine z4p (fun s=>∃ i:Nat,s=(i:Int)∧i≤L.length) ?_ ?_ 0 ⟨0,rfl,Ut _⟩
   ·rintro s ⟨i,rfl,hi⟩
    rw[zMc n L hL i hi,zXJ n L hL i hi]
   ·rintro s s' ⟨i,rfl,hi⟩ hb
    rw[zXJ n L hL i hi] at hb
    cases hv:zOi n L i with
    | some e=>grind
    | none =>
     rw[hv] at hb
     simp at hb
     refine⟨i+1,hb.symm,?_⟩
     grind [zOi]
  have h:=xS (B:=zBw (n,L)) (fun i (_:Unit)=>(i:Int)) L (fun i _=>∀ p∈L.take i,zZb n p=false) (fun e=>e=0->∀ p∈L,zZb n p=false) ?_ ?_ () (by simp)
  ·grind [validG]
  ·intro i x _ hx hI
   have hi:=vV hx
   rw[zMc n L hL i (by omega)]
   cases hv:zOi n L i with
   | some e =>
    grind [zOi]
   | none =>
    refine .inl ⟨(),rfl,fun p hp=>?_⟩
    rw[xY hx,Qd,Qa] at hp
    rcases hp with hp | rfl
    ·grind
    grind [zOi]
  ·intro _ hI
   rw[zMc n L hL _ (Qr _)]
   refine⟨0,by simp[zOi],fun _=>?_⟩
   grind
end
section
theorem z5M:∀(n m:Nat) (acc:List Int),m<18446744073709551616->(zRQ m).length≤n->acc.length+n≤64->zN zGS ((m:Int),acc)=some (acc++zRQ m):=by
 intro n
 induction n with
 | zero =>
  intro m acc hm hn ha
  have h0:zRQ m=[]:=UG (by omega)
  have hz:m=0:=by
   apply Wi
   intro i
   rw[U8]
   cases ht:m.testBit i with
   | false=>rfl
   | true =>
    have:=(zYc hm).2 ht
    rw[h0] at this;cases this
  subst hz
  rw[vR]
  simp[zGS,h0]
 | succ n ih =>
  intro m acc hm hn ha
  by_cases h0:m=0
  ·subst h0
   have hb:zRQ 0=[]:=by
    apply List.eq_nil_iff_forall_not_mem.2
    intro x hx
    obtain⟨i,_,_,h⟩:=zMV.1 hx
    rw[U8] at h;cases h
   rw[vR]
   simp[zGS,hb]
  ·obtain⟨k,q,ht,hk,hmq⟩:=tz_nat h0 hm
   have hcons:zRQ m=(k:Int)::zRQ (2 ^ (k+1)*q):=by
    have hq2:∀ j,(2 ^ (k+1)*q).testBit j=(decide (k<j)&&q.testBit (j-k-1)):=by
     intro j
     have e2:2 ^ (k+1)*q=2 ^ (k+1)*q+0:=rfl
     rw[e2,UL _ (Nat.pow_pos (by decide))]
     by_cases hj:j<k+1
     ·have h1:decide (k<j)=false:=by simp;omega
      rw[Qu hj,U8,h1,Ui]
     ·have h1:decide (k<j)=true:=by simp;omega
      rw[Qq hj,h1,Ux]
      congr 1
    apply vX.ext zE9 (zXE m)
    ·refine QJ.2 ⟨fun x hx=>?_,zXE _⟩
     obtain⟨j,rfl,hj,hb⟩:=zMV.1 hx
     rw[hq2,Qo,Qp] at hb
     simp[xE];omega
    ·intro x
     rw[Qv,zMV,zMV]
     constructor
     ·rintro ⟨i,rfl,h1,h2⟩
      rw[hmq,zVx,Q6,Qp] at h2
      rcases h2 with rfl | h2
      ·exact .inl rfl
      ·exact .inr ⟨i,rfl,h1,by rw[hq2];exact h2⟩
     ·rintro (rfl | ⟨i,rfl,h1,h2⟩)
      ·exact⟨k,rfl,hk,by rw[hmq,zVx];simp⟩
      ·rw[hq2] at h2
       exact⟨i,rfl,h1,by rw[hmq,zVx,h2,Bool.or_true]⟩
   have hw:IntKind.u64.wrap ((m:Int)-1)=((m-1:Nat):Int):=by rw[wrapU (by omega) (by omega)];omega
   have hand:m &&& (m-1)=2 ^ (k+1)*q:=by rw[hmq];exact z5Z q k
   have hlt:2 ^ (k+1)*q<18446744073709551616:=by rw[←hand];exact z3e hm
   have hne:((m:Int) != 0)=true:=by simp;omega
   have hstep:zGS ((m:Int),acc)=some (.inl (((2 ^ (k+1)*q:Nat):Int),acc++[(k:Int)])):=by
    unfold zGS
    simp only[hne,Qc,ht,zob]
    rw[wS (by simp;omega)]
    simp only[zob]
    rw[hw,zSu hm (by omega),hand]
   rw[vR,hstep]
   have:=ih (2 ^ (k+1)*q) (acc++[(k:Int)]) hlt (by rw[hcons] at hn;simp at hn;omega) (by simp;omega)
   rw[hcons]
   simpa using this
theorem z6o{m:Nat}(hm:m<18446744073709551616): zID (m:Int)=some (zRQ m):=by
 have:=z5M 64 m [] hm (z1W m) (by simp)
 simpa [zID] using this
structure vC (N:Nat)(L:List qA): Prop where
 hN:N≤40
 inr:∀ p∈L,zZb (N:Int) p=false
 asc:vX tR L
theorem zKw{N:Nat}{p:qA}(h:zZb (N:Int) p=false): ∃ i j:Nat,i<N∧j<N∧p=((i:Int),(j:Int)):=by
 obtain⟨a,b⟩:=p
 simp[zZb] at h
 exact⟨a.toNat,b.toNat,by omega,by omega,by grind⟩
theorem badE_of{N i j:Nat}(hi:i<N)(hj:j<N): zZb (N:Int) ((i:Int),(j:Int))=false:=by
 simp only[zZb,Uw,QS]
 omega
section
variable {N:Nat}{L:List qA}
theorem vC.nodup (h:vC N L): L.Nodup:=h.asc.imp fun {x y} hh e=>by grind
theorem vC.inN (h:vC N L): inN N L:=fun a b he=>by
 obtain⟨i,j,h1,h2,h3⟩:=zKw (h.inr _ (zWp.1 he))
 simp at h3
 exact⟨i,j,h1,h2,h3.1,h3.2⟩
theorem zS9{α:Type}[DecidableEq α]: ∀ {l m:List α},l.Nodup->(∀ x∈l,x∈m)->l.length≤m.length
 | [],_,_,_=>Ut _
 | x::l,m,hn,hs=>by
  obtain⟨h1,h2⟩:=UC.1 hn
  have h3:=zS9 (m:=m.erase x) h2 fun y hy=>(List.mem_erase_of_ne (fun e=>by grind)).2 (hs y (Qi _ hy))
  grind
theorem vC.len (h:vC N L): L.length≤1600:=by
 have h1:=zS9 (m:=(qS N).flatMap fun i=>(qS N).map fun j=>(i,j)) h.nodup fun p hp=>by
  obtain⟨i,j,hi,hj,rfl⟩:=zKw (h.inr p hp)
  exact Qz.2 ⟨(i:Int),xO.2 ⟨by omega,by omega⟩,Qj.2 ⟨(j:Int),xO.2 ⟨by omega,by omega⟩,rfl⟩⟩
 have h2:=zQ7 (fun i:Int=>(qS N).map fun j:Int=>(i,j)) N (qS N) fun x _=>by simp[zGJ]
 rw[zGJ] at h2
 have h3:N*N≤40*40:=Nat.mul_le_mul h.hN h.hN
 omega
theorem vC.len' (h:vC N L): L.length<4294967296:=by have:=h.len;omega
theorem zY1{n:Int}{i:Nat}{p:qA}(hp:L[i]?=some p): zOi n L i=none↔zZb n p=false∧(i=0∨∃ q,L[i-1]?=some q∧tR q p=true):=by
 unfold zOi
 grind
theorem vLoop (n:Int)(hL:L.length<4294967296): ∃ e,zN (zBw (n,L)) 0=some e∧(e=0↔∀ i,i<L.length->zOi n L i=none):=by
 have h:=xS (B:=zBw (n,L)) (fun i (_:Unit)=>(i:Int)) L (fun i _=>∀ j,j<i->zOi n L j=none) (fun e=>e=0↔∀ i,i<L.length->zOi n L i=none) ?_ ?_ () (fun j hj=>absurd hj (UW _))
 ·grind
 ·intro i x _ hx hI
  have hi:=vV hx
  rw[zMc n L hL i (by omega)]
  cases hv:zOi n L i with
  | some e =>
   grind [zOi]
  | none =>
   refine .inl ⟨(),rfl,fun j hj=>?_⟩
   grind
 ·intro _ hI
  rw[zMc n L hL _ (Qr _)]
  exact⟨0,by simp[zOi],by grind⟩
theorem z4N{α:Type}{lt:α->α->Bool}(O:zXh lt): ∀ {l:List α},(∀ i x y,l[i]?=some x->l[i+1]?=some y->lt x y=true)->vX lt l
 | [],_=>List.Pairwise.nil
 | [x],_=>List.pairwise_singleton _ _
 | x::y::l,h=>by
  have h1:=z4N O (l:=y::l) fun i a b ha hb=>h (i+1) a b (by grind) (by grind)
  have h2:lt x y=true:=h 0 x y rfl rfl
  refine QJ.2 ⟨fun z hz=>?_,h1⟩
  rcases Qv.1 hz with rfl | hz
  ·exact h2
  ·exact O.trans _ _ _ h2 ((QJ.1 h1).1 z hz)
theorem z4K{α:Type}{lt:α->α->Bool}{l:List α}(h:vX lt l){i:Nat}{x y:α}(hx:l[i]?=some x)(hy:l[i+1]?=some y): lt x y=true:=by
 obtain⟨h1,rfl⟩:=Qg.1 hx
 obtain⟨h2,rfl⟩:=Qg.1 hy
 exact UU.1 h i (i+1) h1 h2 (Wk i)
theorem zYl{n:Int}: (∀ i,i<L.length->zOi n L i=none)↔(∀ p∈L,zZb n p=false)∧vX tR L:=by
 constructor
 ·intro h
  have h1:∀(i:Nat) p,L[i]?=some p->zZb n p=false∧(i=0∨∃ q,L[i-1]?=some q∧tR q p=true):=fun i p hp=>(zY1 hp).1 (h i (vV hp))
  refine⟨fun p hp=>?_,z4N z7u fun i x y hx hy=>?_⟩
  ·grind [List.getElem?_of_mem]
  grind
 ·rintro ⟨h1,h2⟩ i hi
  have hp:L[i]?=some L[i]:=Qe hi
  refine(zY1 hp).2 ⟨h1 _ (List.getElem_mem hi),?_⟩
  by_cases h0:i=0
  ·grind
  ·have hq:L[i-1]?=some L[i-1]:=Qe (by omega)
   exact .inr ⟨_,hq,z4K h2 hq (by grind)⟩
theorem zTM (n:Int)(hL:L.length<4294967296): ∃ e,zBj (n,L)=some e∧zLe (n,L)=some e∧(e=0↔∃ N:Nat,n=(N:Int)∧vC N L):=by
 obtain⟨e,h1,h2,h3⟩:=z6Y (n,L) hL
 refine⟨e,h1,h2,?_⟩
 constructor
 ·intro he
  obtain⟨k1,k2,k3⟩:=h3 he
  obtain⟨N,rfl⟩:=Qw k1
  refine⟨N,rfl,by grind,k3,?_⟩
  subst he
  unfold zBj at h1
  have hc:(decide ((N:Int)<0)||decide (40<(N:Int)))=false:=by
   have:(N:Int)≤40:=k2
   simp;omega
  simp[hc] at h1
  obtain⟨e',h4,h5⟩:=vLoop (L:=L) (N:Int) hL
  rw[h4] at h1
  exact(zYl.1 (h5.1 (QC h1))).2
 ·rintro ⟨N,rfl,hG⟩
  unfold zBj at h1
  have hc:(decide ((N:Int)<0)||decide (40<(N:Int)))=false:=by
   have:=hG.hN
   simp;omega
  simp[hc] at h1
  obtain⟨e',h4,h5⟩:=vLoop (L:=L) (N:Int) hL
  rw[h4] at h1
  rw[←QC h1]
  exact h5.2 (zYl.2 ⟨hG.inr,hG.asc⟩)
theorem vC.v1 (h:vC N L): zBj ((N:Int),L)=some 0:=by
 obtain⟨e,h1,_,h3⟩:=zTM (N:Int) h.len'
 grind
theorem vC.proper (h:vC N L): zF9 ((N:Int),L)=some ((N:Int),L):=by
 unfold zF9;rw[h.v1];rfl
theorem z2g{n:Int}{l:List qL}{g:qE}(h:zWX n l=(g,0)): ∃ N:Nat,n=(N:Int)∧g.1=(N:Int)∧vC N g.2∧g.2=nrm tR (zIZ l):=by
 unfold zWX at h
 cases h0:(decide (n<0)||decide (40<n)) with
 | true=>grind
 | false =>
  cases h1:l.any (z5W n) with
  | true=>grind
  | false =>
   simp[h0,h1] at h
   subst h
   simp at h0
   refine⟨n.toNat,by omega,by grind,⟨by omega,fun p hp=>?_,(zGu z7u _).1⟩,rfl⟩
   have hp:p∈zIZ l:=((zGu z7u _).2 p).1 hp
   obtain⟨a,ha,rfl⟩:=Qj.1 hp
   have:=Q9.1 h1 a ha
   simp[z5W] at this
   grind [zZb]
def z7t (L:List qA)(i:Nat): Nat:=zQb ((L.filter fun p=>p.1==(i:Int)).map (·.2))
theorem z6C (h:vC N L)(i:Nat): z7t L i<18446744073709551616:=zZI fun x hx=>by
 obtain⟨p,hp,rfl⟩:=Qj.1 hx
 obtain⟨a,b,h1,h2,rfl⟩:=zKw (h.inr p (Qk.1 hp).1)
 have:=h.hN
 show(b:Int)<64
 omega
theorem z4A (h:vC N L)(i j:Nat): (z7t L i).testBit j=ed L (i:Int) (j:Int):=by
 unfold z7t
 rw[z1D (fun x hx=>?_),QV,Qp,zWp]
 ·constructor
  ·intro hx
   obtain⟨p,hp,h2⟩:=Qj.1 hx
   obtain⟨h3,h4⟩:=Qk.1 hp
   have h5:p.1=(i:Int):=by simpa using h4
   have:p=((i:Int),(j:Int)):=by rw[←h5,←h2]
   rw[←this];exact h3
  ·intro hx
   exact Qj.2 ⟨_,Qk.2 ⟨hx,by simp⟩,rfl⟩
 ·obtain⟨p,hp,rfl⟩:=Qj.1 hx
  obtain⟨a,b,h1,h2,rfl⟩:=zKw (h.inr p (Qk.1 hp).1)
  show(0:Int)≤(b:Int)
  omega
theorem z5F (l:List Int)(x:Int): zQb (l++[x])=zQb l ||| 2 ^ x.toNat:=by simp[zQb]
theorem zZQ{i:Nat}(h:i<64): z6f .u64 1 (i:Int)=some ((2 ^ i:Nat):Int):=by
 have:=z8b h
 rwa [zKC (by omega)] at this
theorem z3K (h:vC N L): zIj ((N:Int),L)=some (zW N fun i=>((z7t L i:Nat):Int)):=by
 unfold zIj
 have hN:=h.hN
 rw[z6V (by omega)]
 simp only[zob]
 have hlp:=xS (B:=zJP ((N:Int),L)) (fun i (s:List Int)=>(s,(i:Int))) L (fun i s=>s=zW N fun a=>((z7t (L.take i) a:Nat):Int)) (fun r=>r=zW N fun i=>((z7t L i:Nat):Int)) ?_ ?_ (zW N fun _=>0) (by
   apply zBq;intro i _;simp[z7t,zQb])
 ·obtain⟨r,h1,rfl⟩:=hlp
  exact h1
 ·rintro i p s hp rfl
  refine .inl ⟨_,?_,rfl⟩
  obtain⟨a,b,h1,h2,rfl⟩:=zKw (h.inr p (wF hp))
  have hg:∀ q∈L.take i,q∈L:=fun q hq=>UH hq
  have hgood:vC N (L.take i):=⟨hN,fun q hq=>h.inr q (hg q hq),h.asc.sublist (List.take_sublist _ _)⟩
  unfold zJP
  simp only[qY hp,Qc,qM hp,zob,zQw _ h1,zZQ (i:=b) (by omega),qR hp h.len',Ql,zS4]
  rw[zYy (z6C hgood a) (zOe (by omega))]
  congr 3
  apply zBq
  intro q _
  rw[xY hp]
  by_cases hq:q=a
  ·subst hq
   simp only[Qc]
   unfold z7t
   rw[Us,We]
   simp[z5F]
  ·have hf:(((a:Nat):Int)==(q:Int))=false:=by simp;omega
   simp only[hq,Qb]
   unfold z7t
   rw[Us]
   simp[hf]
 ·rintro s rfl
  refine⟨_,?_,rfl⟩
  unfold zJP
  simp[len]
abbrev zOS (N:Nat)(L:List qA)(i:Int): List Int:=(qS N).filter fun j=>ed L i j
abbrev yB (N:Nat)(L:List qA)(i:Int): List Int:=(qS N).filter fun j=>ed L j i
theorem z80 (h:vC N L)(i:Nat): zRQ (z7t L i)=zOS N L (i:Int):=by
 apply vX.ext zE9 (zXE _) ((zKf N).filter _)
 intro x
 rw[zMV,Qk,xO]
 constructor
 ·rintro ⟨j,rfl,h1,h2⟩
  rw[z4A h] at h2
  obtain⟨a,b,h3,h4,h5,h6⟩:=h.inN _ _ h2
  exact⟨by omega,h2⟩
 ·rintro ⟨h1,h2⟩
  obtain⟨j,rfl⟩:=Qw h1.1
  have:=h.hN
  exact⟨j,rfl,by omega,by rw[z4A h];exact h2⟩
theorem zN9 (h:vC N L)(i:Int): zDQ ((N:Int),L) i=some (zOS N L i):=by
 unfold zDQ
 rw[h.proper]
 simp only[zob]
 cases hc:(decide (i<0)||decide ((N:Int)≤i)) with
 | true =>
  simp only[Qc,Qf]
  symm
  apply List.filter_eq_nil_iff.2
  intro x _ he
  obtain⟨a,b,h1,h2,h3,h4⟩:=h.inN _ _ he
  simp only[Q6,Qp] at hc
  omega
 | false =>
  simp only[Uw,QS] at hc
  obtain⟨k,rfl⟩:=Qw (show 0≤i by omega)
  simp only[zbf,Qb,z3K h,zob,zQw _ (show k<N by omega),z6o (z6C h k),z80 h]
def z6q (p:qA): qA:=(p.2,p.1)
def revL (L:List qA): List qA:=(L.map z6q).mergeSort fun x y=>!tR y x
theorem ed_rev{a b:Int}: ed (revL L) a b=ed L b a:=by
 rw[QV,zWp,zWp,revL,List.mem_mergeSort,Qj]
 constructor
 ·rintro ⟨⟨c,d⟩,h1,h2⟩
  simp only[z6q,Prod.mk.injEq] at h2
  rw[←h2.1,←h2.2];exact h1
 ·intro h
  exact⟨_,h,rfl⟩
theorem z1I{α:Type}{lt:α->α->Bool}(O:zXh lt){l:List α}(h:l.Pairwise fun x y=>lt y x=false)(hn:l.Nodup): vX lt l:=by
 have:=List.Pairwise.and h hn
 exact this.imp fun {x y} hh=>by
  rcases O.tri x y with h1 | h1 | h1
  ·exact h1
  ·exact absurd h1 hh.2
  ·rw[hh.1] at h1;cases h1
theorem vC.rev (h:vC N L): vC N (revL L):=by
 refine⟨h.hN,fun p hp=>?_,z1I z7u (zNP z7u _) ?_⟩
 ·obtain⟨q,hq,rfl⟩:=Qj.1 (List.mem_mergeSort.1 hp)
  obtain⟨i,j,hi,hj,rfl⟩:=zKw (h.inr q hq)
  exact badE_of hj hi
 ·have hp:(revL L).Perm (L.map z6q):=List.mergeSort_perm _ _
  rw[hp.nodup_iff]
  refine UA.2 (h.nodup.imp ?_)
  rintro ⟨a,b⟩ ⟨c,d⟩ hne he
  simp only[z6q,Prod.mk.injEq] at he
  exact hne (by rw[he.1,he.2])
theorem zVr (x y:qA): yN zDB x y=tR x y:=by
 simp only[yN,zOw,Wl]
 exact zR2 (by rw[zR2 (r:=[]) (b:=false) (by simp[orF])];simp)
theorem zWw{l:List qA}(hl:l.length<4294967296): zBO l=some (l.mergeSort fun x y=>!tR y x) :=
 zZv z7u (fun x y=>⟨_,zOw x y⟩) zVr hl
theorem zZ1 (h:vC N L): zGP ((N:Int),L)=some ((N:Int),revL L):=by
 unfold zGP
 rw[h.proper]
 simp only[zob]
 have hl:=zTy (B:=zHs ((N:Int),L)) L (fun s p=>s++[z6q p]) id (fun i s=>s.length≤i) ([]:List qA) (by simp) ?_ ?_
 ·rw[hl.1,zId]
  simp only[id,QM,zob]
  rw[zWw (by rw[Um];exact h.len')]
  rfl
 ·intro i p s hp hI
  have:=h.len
  have:=vV hp
  unfold zHs
  simp only[qY hp,Qc,qM hp,zob,qR hp h.len']
  rw[wS (by simp;omega)]
  exact⟨rfl,by simp;omega⟩
 ·intro s _
  unfold zHs
  simp[len]
theorem zXM (h:vC N L)(i:Int): zEQ ((N:Int),L) i=some (yB N L i):=by
 unfold zEQ
 rw[zZ1 h]
 simp only[zob]
 rw[zN9 h.rev]
 simp only[zob,Qf]
 exact Uz fun x _=>ed_rev
end
end
section
def zC7 (_:Nat)(l:List qA): Option (List qA):=if l.length<4294967296 then some (zVq tR l) else none
theorem zIi (n:Nat)(l:List qA): Le (zC7 n l) (zBO l):=⟨fun r h=>by
 unfold zC7 at h
 split at h
 ·rename_i hl;rw[zWw hl,zMN z7u];exact h
 ·cases h⟩
end
section
noncomputable section
def zOb (n_:Nat) y0 s1:Tw (zGz y0 s1):=by
 delta zGz
 repeat with_reducible (first | intro _ | apply ti | apply ts | apply tb | apply tl n_ | exact td _)
def zIx (n_:Nat) y0:Tw (zBh y0):=by
 delta zBh
 repeat with_reducible (first | intro _ | apply zOb n_ | apply ti | apply ts | apply tb | apply tl n_ | exact td _)
def zIw (n_:Nat)(y0:List Int):= (zIx n_ y0).1
theorem zLF (n_:Nat)(y0:List Int): Le (zIw n_ y0) (zBh y0):=(zIx n_ y0).2
def zOH (n_:Nat)(y0:List Int): Tw (zCD y0):=⟨zG1 n_ y0,zJx n_ y0⟩
def zKE (n_:Nat)(x1:zF)(rec_argument_Subs:(List zF)->Int->Option (List Int))(y0:List zF)(s2:(List Int)×Int): Option (((List Int)×Int)⊕(List Int)) :=
 if decide (s2.2<(len x1.2.2.1)) then
  (zB x1.2.2.1 s2.2).bind fun x2 =>
  (rec_argument_Subs y0 x2).bind fun r2 =>
  (qG s2.1 r2).bind fun x3 =>
  some (.inl (x3,zM (s2.2+1)))
 else
  some (.inr s2.1)
theorem zRp (n_:Nat)(x1:zF){rec_argument_Subs rec_argument_Subs':(List zF)->Int->Option (List Int)}(h_rec_argument_Subs:∀ u0 u1,Le (rec_argument_Subs u0 u1) (rec_argument_Subs' u0 u1))(y0:List zF)(s2:(List Int)×Int): Le (zKE n_ x1 rec_argument_Subs y0 s2) (zDo x1 rec_argument_Subs' y0 s2):=by
 unfold zKE zDo
 repeat with_reducible (first | intro _ | apply h_rec_argument_Subs | exact Le.refl _ | apply Le.ite | apply Le.seqE | apply Le.bind | apply Le.lp | exact Le.none _)
def zL4 (n_:Nat)(rec_argument_Subs:(List zF)->Int->Option (List Int))(y0:List zF)(y1:Int): Option (List Int) :=
 (zB4 y0 y1).bind fun r1 =>
 if !r1 then
  some ([]:List Int)
 else
  (
   (zB y0 y1).bind fun x1 =>
   (lp n_) ((zKE n_) x1 rec_argument_Subs y0) (([y1]:List Int),0):Option (List Int)).bind fun s1 =>
  ((zG1 n_) s1).bind fun r3 =>
  ((zIw n_) r3).bind fun r4 =>
  some r4
theorem zUE (n_:Nat){rec_argument_Subs rec_argument_Subs':(List zF)->Int->Option (List Int)}(h_rec_argument_Subs:∀ u0 u1,Le (rec_argument_Subs u0 u1) (rec_argument_Subs' u0 u1))(y0:List zF)(y1:Int): Le (zL4 n_ rec_argument_Subs y0 y1) (zGO rec_argument_Subs' y0 y1):=by
 unfold zL4 zGO
 repeat with_reducible (first | intro _ | apply h_rec_argument_Subs | apply zLF | apply zJx | apply zRp | exact Le.refl _ | apply Le.ite | apply Le.seqE | apply Le.bind | apply Le.lp | exact Le.none _)
def zL8 (n_:Nat): Nat->(List zF)->Int->Option (List Int)
 | 0=>fun _ _=>none
 | k+1=>fun y0 y1=>(zL4 n_) ((zL8 n_) k) y0 y1
theorem zOG (n_:Nat): ∀(k m:Nat),k≤m->∀ u0 u1,Le (zL8 n_ k u0 u1) (zDc m u0 u1)
 | 0,_,_=>fun u0 u1=>Le.none _
 | k+1,m,h=>fun u0 u1=>by
  obtain⟨m,rfl⟩:∃ q,m=q+1:=⟨m-1,by omega⟩
  exact zUE n_ (zOG n_ k m (by omega)) _ _
def zPx (n_:Nat)(y0:List zF)(y1:Int): Option (List Int) :=
 zL8 n_ n_ y0 y1
theorem zVO (n_:Nat)(y0:List zF)(y1:Int): Le (zPx n_ y0 y1) (zEW y0 y1):=Le.lim n_ fun m h=>zOG n_ n_ m h _ _
def zMg (n_:Nat)(y0:List zF)(y1:Int): Tw (zEW y0 y1):=⟨zPx n_ y0 y1,zVO n_ y0 y1⟩
def zLI (n_:Nat) y0 y1 y2:Tw (zCO y0 y1 y2):=by
 delta zCO
 repeat with_reducible (first | intro _ | apply zMg n_ | apply zOH n_ | apply zIx n_ | apply ti | apply ts | apply tb | apply tl n_ | exact td _)
def zKp (n_:Nat)(x4:zF)(rec_argument_run:zI->(List zF)->Int->Option (List zC))(y0:zI)(y1:List zF)(s2:(List zC)×Int): Option (((List zC)×Int)⊕(List zC)) :=
 if decide (s2.2<(len x4.2.2.1)) then
  (zB x4.2.2.1 s2.2).bind fun x5 =>
  (rec_argument_run y0 y1 x5).bind fun r1 =>
  (apw s2.1 r1).bind fun x6 =>
  some (.inl (x6,zM (s2.2+1)))
 else
  some (.inr s2.1)
theorem zTT (n_:Nat)(x4:zF){rec_argument_run rec_argument_run':zI->(List zF)->Int->Option (List zC)}(h_rec_argument_run:∀ u0 u1 u2,Le (rec_argument_run u0 u1 u2) (rec_argument_run' u0 u1 u2))(y0:zI)(y1:List zF)(s2:(List zC)×Int): Le (zKp n_ x4 rec_argument_run y0 y1 s2) (zCt x4 rec_argument_run' y0 y1 s2):=by
 unfold zKp zCt
 repeat with_reducible (first | intro _ | apply h_rec_argument_run | exact Le.refl _ | apply Le.ite | apply Le.seqE | apply Le.bind | apply Le.lp | exact Le.none _)
def zMZ (n_:Nat)(rec_argument_run:zI->(List zF)->Int->Option (List zC))(y0:zI)(y1:List zF)(y2:Int): Option (List zC) :=
 (zB y1 y2).bind fun x1 =>
 (zB y1 y2).bind fun x2 =>
 (
  if decide (0≤x2.2.1) then
   (zB y0.2.1 x2.2.1).bind fun x3 =>
   some x3.2.1
  else
   some false:Option Bool).bind fun s1 =>
 if s1 then
  (zB y1 y2).bind fun x4 =>
  (lp n_) ((zKp n_) x4 rec_argument_run y0 y1) (([x1.2.2.2]:List zC),0)
 else
  some ([x1.2.2.2]:List zC)
theorem zVb (n_:Nat){rec_argument_run rec_argument_run':zI->(List zF)->Int->Option (List zC)}(h_rec_argument_run:∀ u0 u1 u2,Le (rec_argument_run u0 u1 u2) (rec_argument_run' u0 u1 u2))(y0:zI)(y1:List zF)(y2:Int): Le (zMZ n_ rec_argument_run y0 y1 y2) (zD8 rec_argument_run' y0 y1 y2):=by
 unfold zMZ zD8
 repeat with_reducible (first | intro _ | apply h_rec_argument_run | apply zTT | exact Le.refl _ | apply Le.ite | apply Le.seqE | apply Le.bind | apply Le.lp | exact Le.none _)
def zMi (n_:Nat): Nat->zI->(List zF)->Int->Option (List zC)
 | 0=>fun _ _ _=>none
 | k+1=>fun y0 y1 y2=>(zMZ n_) ((zMi n_) k) y0 y1 y2
theorem zPJ (n_:Nat): ∀(k m:Nat),k≤m->∀ u0 u1 u2,Le (zMi n_ k u0 u1 u2) (zBW m u0 u1 u2)
 | 0,_,_=>fun u0 u1 u2=>Le.none _
 | k+1,m,h=>fun u0 u1 u2=>by
  obtain⟨m,rfl⟩:∃ q,m=q+1:=⟨m-1,by omega⟩
  exact zVb n_ (zPJ n_ k m (by omega)) _ _ _
def zRY (n_:Nat)(y0:zI)(y1:List zF)(y2:Int): Option (List zC) :=
 zMi n_ n_ y0 y1 y2
theorem zWj (n_:Nat)(y0:zI)(y1:List zF)(y2:Int): Le (zRY n_ y0 y1 y2) (zH4 y0 y1 y2):=Le.lim n_ fun m h=>zPJ n_ n_ m h _ _ _
def zYB (n_:Nat)(y0:zI)(y1:List zF)(y2:Int): Tw (zH4 y0 y1 y2):=⟨zRY n_ y0 y1 y2,zWj n_ y0 y1 y2⟩
def zPY (n_:Nat) y0 y1:Tw (zCf y0 y1):=by
 delta zCf
 repeat with_reducible (first | intro _ | apply ti | apply ts | apply tb | apply tl n_ | exact td _)
def zN2 (n_:Nat) y0 y1:Tw (zCh y0 y1):=by
 delta zCh
 repeat with_reducible (first | intro _ | apply zPY n_ | apply ti | apply ts | apply tb | apply tl n_ | exact td _)
def zPB (n_:Nat) y0 y1:Tw (zF2 y0 y1):=by
 delta zF2
 repeat with_reducible (first | intro _ | apply zN2 n_ | apply ti | apply ts | apply tb | apply tl n_ | exact td _)
def zTC (n_:Nat) y0 y1:Tw (zFP y0 y1):=by
 delta zFP
 repeat with_reducible (first | intro _ | apply ti | apply ts | apply tb | apply tl n_ | exact td _)
def zDb (n_:Nat) y0 y1:Tw (zBU y0 y1):=by
 delta zBU
 repeat with_reducible (first | intro _ | apply zTC n_ | apply ti | apply ts | apply tb | apply tl n_ | exact td _)
def zRF (n_:Nat) y3 y0 y2 y1 s1:Tw (zDK y3 y0 y2 y1 s1):=by
 delta zDK
 repeat with_reducible (first | intro _ | apply zYB n_ | apply zPB n_ | apply zLI n_ | apply zDb n_ | apply ti | apply ts | apply tb | apply tl n_ | exact td _)
def zOQ (n_:Nat) y0 y1 y2 y3:Tw (zD4 y0 y1 y2 y3):=by
 delta zD4
 repeat with_reducible (first | intro _ | apply zRF n_ | apply ti | apply ts | apply tb | apply tl n_ | exact td _)
def zOP (n_:Nat)(y0:zI)(y1:List zF)(y2:Int)(y3:List Int):= (zOQ n_ y0 y1 y2 y3).1
theorem zTU (n_:Nat)(y0:zI)(y1:List zF)(y2:Int)(y3:List Int): Le (zOP n_ y0 y1 y2 y3) (zD4 y0 y1 y2 y3):=(zOQ n_ y0 y1 y2 y3).2
def zFW (n_:Nat) y0 y2:Tw (zAS y0 y2):=by
 delta zAS
 repeat with_reducible (first | intro _ | apply ti | apply ts | apply tb | apply tl n_ | exact td _)
def zCQ (n_:Nat) y0 y2:Tw (zAA y0 y2):=by
 delta zAA
 repeat with_reducible (first | intro _ | apply zFW n_ | apply ti | apply ts | apply tb | apply tl n_ | exact td _)
def zCX (n_:Nat)(y0:List Int)(y2:uH):= (zCQ n_ y0 y2).1
theorem zER (n_:Nat)(y0:List Int)(y2:uH): Le (zCX n_ y0 y2) (zAA y0 y2):=(zCQ n_ y0 y2).2
def zDv (n_:Nat)(y0:uH)(x1:zR)(y2:List Int)(rec_argument_builder_apply_2:uH->Int->(List Int)->Option (List zF))(y1:Int)(s2:Int×(List zF)): Option ((Int×(List zF))⊕(Unit⊕(List zF))) :=
 if decide (s2.1<(len y0.2.1)) then
  (zB y0.2.1 s2.1).bind fun x2 =>
  (zB x1.2.2.2.1 (len y2)).bind fun x3 =>
  if x2.2.2.2==x3 then
   (
    (zFI y2).bind fun r2 =>
    (qG r2 ([s2.1]:List Int)).bind fun x4 =>
    (rec_argument_builder_apply_2 (y0.1,y0.2.1,s2.2,y0.2.2.2) y1 x4).bind fun r3 =>
    some r3:Option (List zF)).bind fun s3 =>
   some (.inl (zM (s2.1+1),s3))
  else
   some (.inl (zM (s2.1+1),s2.2))
 else
  some (.inr (.inr s2.2))
theorem zLP (n_:Nat)(y0:uH)(x1:zR)(y2:List Int){rec_argument_builder_apply_2 rec_argument_builder_apply_2':uH->Int->(List Int)->Option (List zF)}(h_rec_argument_builder_apply_2:∀ u0 u1 u2,Le (rec_argument_builder_apply_2 u0 u1 u2) (rec_argument_builder_apply_2' u0 u1 u2))(y1:Int)(s2:Int×(List zF)): Le (zDv n_ y0 x1 y2 rec_argument_builder_apply_2 y1 s2) (zB5 y0 x1 y2 rec_argument_builder_apply_2' y1 s2):=by
 unfold zDv zB5
 repeat with_reducible (first | intro _ | apply h_rec_argument_builder_apply_2 | exact Le.refl _ | apply Le.ite | apply Le.seqE | apply Le.bind | apply Le.lp | exact Le.none _)
def zEa (n_:Nat)(rec_argument_builder_apply_2:uH->Int->(List Int)->Option (List zF))(y0:uH)(y1:Int)(y2:List Int): Option (List zF) :=
 (zB y0.1.2.1 y1).bind fun x1 =>
 (zBy y0).bind fun r1 =>
 if r1 then
  some y0.2.2.1
 else
  wZ (
   if decide ((len y2)<(len x1.2.2.2.1)) then
    (lp n_) ((zDv n_) y0 x1 y2 rec_argument_builder_apply_2 y1) (0,y0.2.2.1)
   else
    some (.inl ()):Option (Unit⊕(List zF))) fun _ =>
  (
   ((zCX n_) y2 y0).bind fun r6 =>
   if r6 then
    ((zOP n_) y0.1 y0.2.1 y1 y2).bind fun r7 =>
    some r7
   else
    some false:Option Bool).bind fun s4 =>
  if s4 then
   (zB y0.1.2.1 y1).bind fun x6 =>
   (qG y0.2.2.1 ([((-1),y1,y2,x6.2.2.2.2)]:List zF)).bind fun x7 =>
   some x7
  else
   some y0.2.2.1
theorem zMH (n_:Nat){rec_argument_builder_apply_2 rec_argument_builder_apply_2':uH->Int->(List Int)->Option (List zF)}(h_rec_argument_builder_apply_2:∀ u0 u1 u2,Le (rec_argument_builder_apply_2 u0 u1 u2) (rec_argument_builder_apply_2' u0 u1 u2))(y0:uH)(y1:Int)(y2:List Int): Le (zEa n_ rec_argument_builder_apply_2 y0 y1 y2) (zBs rec_argument_builder_apply_2' y0 y1 y2):=by
 unfold zEa zBs
 repeat with_reducible (first | intro _ | apply h_rec_argument_builder_apply_2 | apply zTU | apply zER | apply zLP | exact Le.refl _ | apply Le.ite | apply Le.seqE | apply Le.bind | apply Le.lp | exact Le.none _)
def zEg (n_:Nat): Nat->uH->Int->(List Int)->Option (List zF)
 | 0=>fun _ _ _=>none
 | k+1=>fun y0 y1 y2=>(zEa n_) ((zEg n_) k) y0 y1 y2
theorem zHl (n_:Nat): ∀(k m:Nat),k≤m->∀ u0 u1 u2,Le (zEg n_ k u0 u1 u2) (zBN m u0 u1 u2)
 | 0,_,_=>fun u0 u1 u2=>Le.none _
 | k+1,m,h=>fun u0 u1 u2=>by
  obtain⟨m,rfl⟩:∃ q,m=q+1:=⟨m-1,by omega⟩
  exact zMH n_ (zHl n_ k m (by omega)) _ _ _
def zIn (n_:Nat)(y0:uH)(y1:Int)(y2:List Int): Option (List zF) :=
 zEg n_ n_ y0 y1 y2
theorem zMY (n_:Nat)(y0:uH)(y1:Int)(y2:List Int): Le (zIn n_ y0 y1 y2) (zBr y0 y1 y2):=Le.lim n_ fun m h=>zHl n_ n_ m h _ _ _
def zMu (n_:Nat)(y0:uH)(y1:Int)(y2:List Int): Tw (zBr y0 y1 y2):=⟨zIn n_ y0 y1 y2,zMY n_ y0 y1 y2⟩
def zHu (n_:Nat) y0 y1:Tw (zAu y0 y1):=by
 delta zAu
 repeat with_reducible (first | intro _ | apply ti | apply ts | apply tb | apply tl n_ | exact td _)
def zQ9 (n_:Nat) y0 y1:Tw (zDd y0 y1):=by
 delta zDd
 repeat with_reducible (first | intro _ | apply zHu n_ | apply ti | apply ts | apply tb | apply tl n_ | exact td _)
def zFq (n_:Nat) y0 y1:Tw (zAZ y0 y1):=by
 delta zAZ
 repeat with_reducible (first | intro _ | apply ti | apply ts | apply tb | apply tl n_ | exact td _)
def zT1 (n_:Nat) y0 y1:Tw (zDr y0 y1):=by
 delta zDr
 repeat with_reducible (first | intro _ | apply zFq n_ | apply ti | apply ts | apply tb | apply tl n_ | exact td _)
def zJ6 (n_:Nat) y0:Tw (zBv y0):=by
 delta zBv
 repeat with_reducible (first | intro _ | apply ti | apply ts | apply tb | apply tl n_ | exact td _)
def zJr (n_:Nat) y0:Tw (zCN y0):=by
 delta zCN
 repeat with_reducible (first | intro _ | apply zJ6 n_ | apply ti | apply ts | apply tb | apply tl n_ | exact td _)
def zS7 (n_:Nat) y0:Tw (zFX y0):=by
 delta zFX
 repeat with_reducible (first | intro _ | apply zJ6 n_ | apply ti | apply ts | apply tb | apply tl n_ | exact td _)
def zTj (n_:Nat) y0:Tw (zDk y0):=by
 delta zDk
 repeat with_reducible (first | intro _ | apply zJr n_ | apply zS7 n_ | apply ti | apply ts | apply tb | apply tl n_ | exact td _)
def zRN (n_:Nat) y0 y1:Tw (zDL y0 y1):=by
 delta zDL
 repeat with_reducible (first | intro _ | apply zJr n_ | apply zQ9 n_ | apply ti | apply ts | apply tb | apply tl n_ | exact td _)
def zT6 (n_:Nat) y0 s3:Tw (zDi y0 s3):=by
 delta zDi
 repeat with_reducible (first | intro _ | apply zJr n_ | apply ti | apply ts | apply tb | apply tl n_ | exact td _)
def zWo (n_:Nat) y0:Tw (zG3 y0):=by
 delta zG3
 repeat with_reducible (first | intro _ | apply zJ6 n_ | apply zJr n_ | apply zT6 n_ | apply ti | apply ts | apply tb | apply tl n_ | exact td _)
def zP0 (n_:Nat) y0 s2:Tw (zCb y0 s2):=by
 delta zCb
 repeat with_reducible (first | intro _ | apply zTj n_ | apply zT1 n_ | apply ti | apply ts | apply tb | apply tl n_ | exact td _)
def zP4 (n_:Nat) y0 s4:Tw (zCe y0 s4):=by
 delta zCe
 repeat with_reducible (first | intro _ | apply zWo n_ | apply zQ9 n_ | apply ti | apply ts | apply tb | apply tl n_ | exact td _)
def zPU (n_:Nat) y0 s5:Tw (zCg y0 s5):=by
 delta zCg
 repeat with_reducible (first | intro _ | apply zRN n_ | apply ti | apply ts | apply tb | apply tl n_ | exact td _)
def zSF (n_:Nat) y0:Tw (zBY y0):=by
 delta zBY
 repeat with_reducible (first | intro _ | apply zP0 n_ | apply zP4 n_ | apply zPU n_ | apply ti | apply ts | apply tb | apply tl n_ | exact td _)
def zSA (n_:Nat) y0 s4 s6:Tw (zCr y0 s4 s6):=by
 delta zCr
 repeat with_reducible (first | intro _ | apply zMu n_ | apply ti | apply ts | apply tb | apply tl n_ | exact td _)
def zRy (n_:Nat) y0 s4:Tw (zBd y0 s4):=by
 delta zBd
 repeat with_reducible (first | intro _ | apply zSA n_ | apply ti | apply ts | apply tb | apply tl n_ | exact td _)
def zVU (n_:Nat) y0:Tw (zDw y0):=by
 delta zDw
 repeat with_reducible (first | intro _ | apply zSF n_ | apply zRy n_ | apply ti | apply ts | apply tb | apply tl n_ | exact td _)
def zMd (n_:Nat) y0 s1:Tw (zEf y0 s1):=by
 delta zEf
 repeat with_reducible (first | intro _ | apply ti | apply ts | apply tb | apply tl n_ | exact td _)
def zNj (n_:Nat) y0:Tw (zCK y0):=by
 delta zCK
 repeat with_reducible (first | intro _ | apply zMd n_ | apply ti | apply ts | apply tb | apply tl n_ | exact td _)
def zHR (n_:Nat)(y0:List zC): Tw (zAR y0):=⟨zCA n_ y0,zGv n_ y0⟩
def zPP (n_:Nat) y0:Tw (zB7 y0):=by
 delta zB7
 repeat with_reducible (first | intro _ | apply zHR n_ | apply zNj n_ | apply ti | apply ts | apply tb | apply tl n_ | exact td _)
def zKa (n_:Nat) y0 y1:Tw (zCG y0 y1):=by
 delta zCG
 repeat with_reducible (first | intro _ | apply zPP n_ | apply ti | apply ts | apply tb | apply tl n_ | exact td _)
def z10 (n_:Nat) y0:Tw (zI0 y0):=by
 delta zI0
 repeat with_reducible (first | intro _ | apply ti | apply ts | apply tb | apply tl n_ | exact td _)
def zHN (n_:Nat)(y0:List qL): Tw (zAf y0):=⟨zBz n_ y0,zGn n_ y0⟩
def zSU (n_:Nat) y1 s2 r1 s3 s4:Tw (zD1 y1 s2 r1 s3 s4):=by
 delta zD1
 repeat with_reducible (first | intro _ | apply zMg n_ | apply zDb n_ | apply ti | apply ts | apply tb | apply tl n_ | exact td _)
def zSK (n_:Nat) y1 y0 s2 s3:Tw (zD3 y1 y0 s2 s3):=by
 delta zD3
 repeat with_reducible (first | intro _ | apply zSU n_ | apply ti | apply ts | apply tb | apply tl n_ | exact td _)
def zSY (n_:Nat) y1 y0 s2:Tw (zCq y1 y0 s2):=by
 delta zCq
 repeat with_reducible (first | intro _ | apply zSK n_ | apply ti | apply ts | apply tb | apply tl n_ | exact td _)
def zVK (n_:Nat) y0 y1:Tw (zFD y0 y1):=by
 delta zFD
 repeat with_reducible (first | intro _ | apply zSY n_ | apply zHN n_ | apply ti | apply ts | apply tb | apply tl n_ | exact td _)
def zMa (n_:Nat) y0 y1:Tw (zCo y0 y1):=by
 delta zCo
 repeat with_reducible (first | intro _ | apply zMg n_ | apply zOH n_ | apply ti | apply ts | apply tb | apply tl n_ | exact td _)
def zI7 (n_:Nat) y0 y1:Tw (zBI y0 y1):=by
 delta zBI
 repeat with_reducible (first | intro _ | apply ti | apply ts | apply tb | apply tl n_ | exact td _)
def zHd (n_:Nat) y0 y1:Tw (zAm y0 y1):=by
 delta zAm
 repeat with_reducible (first | intro _ | apply zI7 n_ | apply ti | apply ts | apply tb | apply tl n_ | exact td _)
def zYE (n_:Nat) y0 y1 y2:Tw (zH5 y0 y1 y2):=by
 delta zH5
 repeat with_reducible (first | intro _ | apply zMa n_ | apply zHd n_ | apply ti | apply ts | apply tb | apply tl n_ | exact td _)
def zJt (n_:Nat)(x5:zF)(rec_argument_Last:zI->(List zF)->Int->Option (List Int))(y0:zI)(y1:List zF)(s3:(List Int)×Int): Option (((List Int)×Int)⊕(List Int)) :=
 if decide (s3.2<(len x5.2.2.1)) then
  (zB x5.2.2.1 s3.2).bind fun x6 =>
  (rec_argument_Last y0 y1 x6).bind fun r2 =>
  (qG s3.1 r2).bind fun x7 =>
  some (.inl (x7,zM (s3.2+1)))
 else
  some (.inr s3.1)
theorem zS0 (n_:Nat)(x5:zF){rec_argument_Last rec_argument_Last':zI->(List zF)->Int->Option (List Int)}(h_rec_argument_Last:∀ u0 u1 u2,Le (rec_argument_Last u0 u1 u2) (rec_argument_Last' u0 u1 u2))(y0:zI)(y1:List zF)(s3:(List Int)×Int): Le (zJt n_ x5 rec_argument_Last y0 y1 s3) (zDl x5 rec_argument_Last' y0 y1 s3):=by
 unfold zJt zDl
 repeat with_reducible (first | intro _ | apply h_rec_argument_Last | exact Le.refl _ | apply Le.ite | apply Le.seqE | apply Le.bind | apply Le.lp | exact Le.none _)
def zLl (n_:Nat)(rec_argument_Last:zI->(List zF)->Int->Option (List Int))(y0:zI)(y1:List zF)(y2:Int): Option (List Int) :=
 (
  (zB4 y1 y2).bind fun r1 =>
  if !r1 then
   some true
  else
   (zB y1 y2).bind fun x1 =>
   some (decide (x1.2.1<0)):Option Bool).bind fun s1 =>
 if s1 then
  some ([]:List Int)
 else
  (zB y1 y2).bind fun x2 =>
  (zB y0.2.1 x2.2.1).bind fun x3 =>
  if !x3.2.1 then
   (zB y1 y2).bind fun x4 =>
   some ([x4.2.1]:List Int)
  else
   (
    (zB y1 y2).bind fun x5 =>
    (lp n_) ((zJt n_) x5 rec_argument_Last y0 y1) (([]:List Int),0):Option (List Int)).bind fun s2 =>
   ((zG1 n_) s2).bind fun r3 =>
   ((zIw n_) r3).bind fun r4 =>
   some r4
theorem zTv (n_:Nat){rec_argument_Last rec_argument_Last':zI->(List zF)->Int->Option (List Int)}(h_rec_argument_Last:∀ u0 u1 u2,Le (rec_argument_Last u0 u1 u2) (rec_argument_Last' u0 u1 u2))(y0:zI)(y1:List zF)(y2:Int): Le (zLl n_ rec_argument_Last y0 y1 y2) (zGL rec_argument_Last' y0 y1 y2):=by
 unfold zLl zGL
 repeat with_reducible (first | intro _ | apply h_rec_argument_Last | apply zLF | apply zJx | apply zS0 | exact Le.refl _ | apply Le.ite | apply Le.seqE | apply Le.bind | apply Le.lp | exact Le.none _)
def zLg (n_:Nat): Nat->zI->(List zF)->Int->Option (List Int)
 | 0=>fun _ _ _=>none
 | k+1=>fun y0 y1 y2=>(zLl n_) ((zLg n_) k) y0 y1 y2
theorem zOT (n_:Nat): ∀(k m:Nat),k≤m->∀ u0 u1 u2,Le (zLg n_ k u0 u1 u2) (zDe m u0 u1 u2)
 | 0,_,_=>fun u0 u1 u2=>Le.none _
 | k+1,m,h=>fun u0 u1 u2=>by
  obtain⟨m,rfl⟩:∃ q,m=q+1:=⟨m-1,by omega⟩
  exact zTv n_ (zOT n_ k m (by omega)) _ _ _
def zQU (n_:Nat)(y0:zI)(y1:List zF)(y2:Int): Option (List Int) :=
 zLg n_ n_ y0 y1 y2
theorem zVu (n_:Nat)(y0:zI)(y1:List zF)(y2:Int): Le (zQU n_ y0 y1 y2) (zIH y0 y1 y2):=Le.lim n_ fun m h=>zOT n_ n_ m h _ _ _
def zWf (n_:Nat)(y0:zI)(y1:List zF)(y2:Int): Tw (zIH y0 y1 y2):=⟨zQU n_ y0 y1 y2,zVu n_ y0 y1 y2⟩
def zVC (n_:Nat) y0 y1:Tw (zJh y0 y1):=by
 delta zJh
 repeat with_reducible (first | intro _ | apply ti | apply ts | apply tb | apply tl n_ | exact td _)
def zPL (n_:Nat) y0 y1 y2:Tw (zCn y0 y1 y2):=by
 delta zCn
 repeat with_reducible (first | intro _ | apply zWf n_ | apply zVC n_ | apply ti | apply ts | apply tb | apply tl n_ | exact td _)
def zVJ (n_:Nat) y0:Tw (zDs y0):=by
 delta zDs
 repeat with_reducible (first | intro _ | apply ti | apply ts | apply tb | apply tl n_ | exact td _)
def zV4 (n_:Nat) y0:Tw (zEA y0):=by
 delta zEA
 repeat with_reducible (first | intro _ | apply ti | apply ts | apply tb | apply tl n_ | exact td _)
def zN3 (n_:Nat) y0 y1 y2:Tw (zEP y0 y1 y2):=by
 delta zEP
 repeat with_reducible (first | intro _ | apply zV4 n_ | apply zVJ n_ | apply ti | apply ts | apply tb | apply tl n_ | exact td _)
def zLj (n_:Nat) y0 y1 y2 y3 y4:Tw (zB6 y0 y1 y2 y3 y4):=by
 delta zB6
 repeat with_reducible (first | intro _ | apply zPL n_ | apply zN3 n_ | apply ti | apply ts | apply tb | apply tl n_ | exact td _)
def zM7 (n_:Nat) y0 y1 y2:Tw (zBx y0 y1 y2):=by
 delta zBx
 repeat with_reducible (first | intro _ | apply zMa n_ | apply ti | apply ts | apply tb | apply tl n_ | exact td _)
def zFi (n_:Nat) y0 y1 y2 y3 y4:Tw (zAW y0 y1 y2 y3 y4):=by
 delta zAW
 repeat with_reducible (first | intro _ | apply zM7 n_ | apply zN3 n_ | apply ti | apply ts | apply tb | apply tl n_ | exact td _)
def zLh (n_:Nat) y0 y1 y2 y3:Tw (zB3 y0 y1 y2 y3):=by
 delta zB3
 repeat with_reducible (first | intro _ | apply zPL n_ | apply ti | apply ts | apply tb | apply tl n_ | exact td _)
def zMt (n_:Nat) y1 y2 y3 y4 y5:Tw (zC4 y1 y2 y3 y4 y5):=by
 delta zC4
 repeat with_reducible (first | intro _ | apply zLj n_ | apply zLh n_ | apply zFi n_ | apply ti | apply ts | apply tb | apply tl n_ | exact td _)
def zPK (n_:Nat) y0 y1 y2:Tw (zCm y0 y1 y2):=by
 delta zCm
 repeat with_reducible (first | intro _ | apply zLI n_ | apply zVC n_ | apply ti | apply ts | apply tb | apply tl n_ | exact td _)
def zLo (n_:Nat) y0 y1 y2 y3 y4:Tw (zBM y0 y1 y2 y3 y4):=by
 delta zBM
 repeat with_reducible (first | intro _ | apply zPK n_ | apply zN3 n_ | apply ti | apply ts | apply tb | apply tl n_ | exact td _)
def zKQ (n_:Nat) y0 y1 y2 y3:Tw (zBQ y0 y1 y2 y3):=by
 delta zBQ
 repeat with_reducible (first | intro _ | apply zM7 n_ | apply ti | apply ts | apply tb | apply tl n_ | exact td _)
def zLV (n_:Nat) y0 y1 y2 y3:Tw (zB8 y0 y1 y2 y3):=by
 delta zB8
 repeat with_reducible (first | intro _ | apply zPK n_ | apply ti | apply ts | apply tb | apply tl n_ | exact td _)
def zMq (n_:Nat) y1 y2 y3 y4 y6:Tw (zC6 y1 y2 y3 y4 y6):=by
 delta zC6
 repeat with_reducible (first | intro _ | apply zLV n_ | apply zFi n_ | apply zKQ n_ | apply zLo n_ | apply ti | apply ts | apply tb | apply tl n_ | exact td _)
def z2t (n_:Nat) y0 y1 y2 y3 y4:Tw (zKm y0 y1 y2 y3 y4):=by
 delta zKm
 repeat with_reducible (first | intro _ | apply zYE n_ | apply zMt n_ | apply zMq n_ | apply ti | apply ts | apply tb | apply tl n_ | exact td _)
def zNQ (n_:Nat) y0 y1 y2 y3:Tw (zC9 y0 y1 y2 y3):=by
 delta zC9
 repeat with_reducible (first | intro _ | apply z2t n_ | apply ti | apply ts | apply tb | apply tl n_ | exact td _)
def zFm (n_:Nat) y0 y1 y2 y3 s1:Tw (zBf y0 y1 y2 y3 s1):=by
 delta zBf
 repeat with_reducible (first | intro _ | apply zNQ n_ | apply ti | apply ts | apply tb | apply tl n_ | exact td _)
def zHA (n_:Nat) y0 y1 y2 y3:Tw (zBT y0 y1 y2 y3):=by
 delta zBT
 repeat with_reducible (first | intro _ | apply zFm n_ | apply ti | apply ts | apply tb | apply tl n_ | exact td _)
def zF7 (n_:Nat) y0 y1 y2 y3 s2:Tw (zBb y0 y1 y2 y3 s2):=by
 delta zBb
 repeat with_reducible (first | intro _ | apply zNQ n_ | apply ti | apply ts | apply tb | apply tl n_ | exact td _)
def zG5 (n_:Nat) y0 y1 y2 y3:Tw (zA5 y0 y1 y2 y3):=by
 delta zA5
 repeat with_reducible (first | intro _ | apply zHA n_ | apply zF7 n_ | apply ti | apply ts | apply tb | apply tl n_ | exact td _)
def zVk (n_:Nat) y0 y1 y2:Tw (zDy y0 y1 y2):=by
 delta zDy
 repeat with_reducible (first | intro _ | apply zVK n_ | apply zG5 n_ | apply ti | apply ts | apply tb | apply tl n_ | exact td _)
def zOX (n_:Nat) y0 s1:Tw (zGH y0 s1):=by
 delta zGH
 repeat with_reducible (first | intro _ | apply ti | apply ts | apply tb | apply tl n_ | exact td _)
def zPf (n_:Nat) y0:Tw (zDf y0):=by
 delta zDf
 repeat with_reducible (first | intro _ | apply zOX n_ | apply ti | apply ts | apply tb | apply tl n_ | exact td _)
def zI8 (n_:Nat)(y0:List qA): Tw (zBC y0):=⟨zCY n_ y0,zIM n_ y0⟩
def zYR (n_:Nat) y0 y1:Tw (zFc y0 y1):=by
 delta zFc
 repeat with_reducible (first | intro _ | apply zI8 n_ | apply zPf n_ | apply ti | apply ts | apply tb | apply tl n_ | exact td _)
def z1f (n_:Nat) y0:Tw (zID y0):=by
 delta zID
 repeat with_reducible (first | intro _ | apply ti | apply ts | apply tb | apply tl n_ | exact td _)
def zZe (n_:Nat) y0:Tw (zIj y0):=by
 delta zIj
 repeat with_reducible (first | intro _ | apply ti | apply ts | apply tb | apply tl n_ | exact td _)
def zX7 (n_:Nat) y0 y1:Tw (zDB y0 y1):=by
 delta zDB
 repeat with_reducible (first | intro _ | apply z10 n_ | apply ti | apply ts | apply tb | apply tl n_ | exact td _)
def zRw (n_:Nat) y0 s1:Tw (zBw y0 s1):=by
 delta zBw
 repeat with_reducible (first | intro _ | apply zX7 n_ | apply ti | apply ts | apply tb | apply tl n_ | exact td _)
def zL9 (n_:Nat) y0:Tw (zBj y0):=by
 delta zBj
 repeat with_reducible (first | intro _ | apply zRw n_ | apply ti | apply ts | apply tb | apply tl n_ | exact td _)
def zR5 (n_:Nat) y0:Tw (zF9 y0):=by
 delta zF9
 repeat with_reducible (first | intro _ | apply zL9 n_ | apply ti | apply ts | apply tb | apply tl n_ | exact td _)
def zL3 (n_:Nat) y0 y1:Tw (zDQ y0 y1):=by
 delta zDQ
 repeat with_reducible (first | intro _ | apply zR5 n_ | apply zZe n_ | apply z1f n_ | apply ti | apply ts | apply tb | apply tl n_ | exact td _)
def zMP (n_:Nat) y0 y1:Tw (zCp y0 y1):=by
 delta zCp
 repeat with_reducible (first | intro _ | apply ti | apply ts | apply tb | apply tl n_ | exact td _)
def zRl (n_:Nat) r4 y0 s6 s9 s10:Tw (zCV r4 y0 s6 s9 s10):=by
 delta zCV
 repeat with_reducible (first | intro _ | apply zL3 n_ | apply ti | apply ts | apply tb | apply tl n_ | exact td _)
def zRz (n_:Nat) s6 y0 s9:Tw (zCs s6 y0 s9):=by
 delta zCs
 repeat with_reducible (first | intro _ | apply zL3 n_ | apply zRl n_ | apply ti | apply ts | apply tb | apply tl n_ | exact td _)
def zRh (n_:Nat) y0 s6:Tw (zBu y0 s6):=by
 delta zBu
 repeat with_reducible (first | intro _ | apply zRz n_ | apply ti | apply ts | apply tb | apply tl n_ | exact td _)
def zVc (n_:Nat) y0:Tw (zFG y0):=by
 delta zFG
 repeat with_reducible (first | intro _ | apply zMP n_ | apply zRh n_ | apply ti | apply ts | apply tb | apply tl n_ | exact td _)
def zPQ (n_:Nat) y0:Tw (zDx y0):=by
 delta zDx
 repeat with_reducible (first | intro _ | apply zVc n_ | apply ti | apply ts | apply tb | apply tl n_ | exact td _)
def zCl (n_:Nat) y0 y1:Tw (zBX y0 y1):=by
 delta zBX
 repeat with_reducible (first | intro _ | apply ti | apply ts | apply tb | apply tl n_ | exact td _)
def zQ5 (n_:Nat) y0 x1 y1 s3 s4:Tw (zDa y0 x1 y1 s3 s4):=by
 delta zDa
 repeat with_reducible (first | intro _ | apply zPB n_ | apply ti | apply ts | apply tb | apply tl n_ | exact td _)
def zPa (n_:Nat) y0 y1 s3:Tw (zCu y0 y1 s3):=by
 delta zCu
 repeat with_reducible (first | intro _ | apply zQ5 n_ | apply ti | apply ts | apply tb | apply tl n_ | exact td _)
def zSi (n_:Nat) y0 y1:Tw (zDE y0 y1):=by
 delta zDE
 repeat with_reducible (first | intro _ | apply zPa n_ | apply ti | apply ts | apply tb | apply tl n_ | exact td _)
def zVa (n_:Nat) y0 y1:Tw (zDO y0 y1):=by
 delta zDO
 repeat with_reducible (first | intro _ | apply zVU n_ | apply zVk n_ | apply zYR n_ | apply zPQ n_ | apply zCl n_ | apply zKa n_ | apply zSi n_ | apply ti | apply ts | apply tb | apply tl n_ | exact td _)
def zTE (n_:Nat) y0:Tw (zFN y0):=by
 delta zFN
 repeat with_reducible (first | intro _ | apply zPQ n_ | apply ti | apply ts | apply tb | apply tl n_ | exact td _)
def zJY (n_:Nat) y0:Tw (zAr y0):=by
 delta zAr
 repeat with_reducible (first | intro _ | apply zTE n_ | apply ti | apply ts | apply tb | apply tl n_ | exact td _)
def zJ2 (n_:Nat) r1 s1:Tw (zAs r1 s1):=by
 delta zAs
 repeat with_reducible (first | intro _ | apply zCl n_ | apply ti | apply ts | apply tb | apply tl n_ | exact td _)
def zKY (n_:Nat) y0:Tw (zBR y0):=by
 delta zBR
 repeat with_reducible (first | intro _ | apply zJY n_ | apply zJ2 n_ | apply ti | apply ts | apply tb | apply tl n_ | exact td _)
def zSn (n_:Nat) y0 y1:Tw (zFQ y0 y1):=by
 delta zFQ
 repeat with_reducible (first | intro _ | apply ti | apply ts | apply tb | apply tl n_ | exact td _)
def zLG (n_:Nat) y0 y1:Tw (zCU y0 y1):=by
 delta zCU
 repeat with_reducible (first | intro _ | apply ti | apply ts | apply tb | apply tl n_ | exact td _)
def zUF (n_:Nat) y0 y1:Tw (zG0 y0 y1):=by
 delta zG0
 repeat with_reducible (first | intro _ | apply zLG n_ | apply ti | apply ts | apply tb | apply tl n_ | exact td _)
def zUq (n_:Nat) y0:Tw (zET y0):=by
 delta zET
 repeat with_reducible (first | intro _ | apply ti | apply ts | apply tb | apply tl n_ | exact td _)
def zU7 (n_:Nat) y0:Tw (zFy y0):=by
 delta zFy
 repeat with_reducible (first | intro _ | apply ti | apply ts | apply tb | apply tl n_ | exact td _)
def zUc (n_:Nat) y0 y1:Tw (zES y0 y1):=by
 delta zES
 repeat with_reducible (first | intro _ | apply zLG n_ | apply ti | apply ts | apply tb | apply tl n_ | exact td _)
def zQF (n_:Nat) y0 y1:Tw (zCv y0 y1):=by
 delta zCv
 repeat with_reducible (first | intro _ | apply zUc n_ | apply ti | apply ts | apply tb | apply tl n_ | exact td _)
def zHE (n_:Nat) y1 s1:Tw (zAQ y1 s1):=by
 delta zAQ
 repeat with_reducible (first | intro _ | apply zQF n_ | apply ti | apply ts | apply tb | apply tl n_ | exact td _)
def zII (n_:Nat) y0 y1:Tw (zAz y0 y1):=by
 delta zAz
 repeat with_reducible (first | intro _ | apply zHE n_ | apply ti | apply ts | apply tb | apply tl n_ | exact td _)
def zMh (n_:Nat) y0 y1:Tw (zCR y0 y1):=by
 delta zCR
 repeat with_reducible (first | intro _ | apply zSn n_ | apply zU7 n_ | apply zUF n_ | apply zII n_ | apply zUq n_ | apply ti | apply ts | apply tb | apply tl n_ | exact td _)
def zIY (n_:Nat) y0 y1:Tw (zAy y0 y1):=by
 delta zAy
 repeat with_reducible (first | intro _ | apply ti | apply ts | apply tb | apply tl n_ | exact td _)
def zHU (n_:Nat) y0 y1:Tw (zAP y0 y1):=by
 delta zAP
 repeat with_reducible (first | intro _ | apply zIY n_ | apply ti | apply ts | apply tb | apply tl n_ | exact td _)
def zWi (n_:Nat) y0 y1:Tw (zGN y0 y1):=by
 delta zGN
 repeat with_reducible (first | intro _ | apply zHU n_ | apply ti | apply ts | apply tb | apply tl n_ | exact td _)
def zVm (n_:Nat) x1 y0 s1:Tw (zFC x1 y0 s1):=by
 delta zFC
 repeat with_reducible (first | intro _ | apply zWi n_ | apply ti | apply ts | apply tb | apply tl n_ | exact td _)
def zTi (n_:Nat) y0:Tw (zGp y0):=by
 delta zGp
 repeat with_reducible (first | intro _ | apply zVm n_ | apply ti | apply ts | apply tb | apply tl n_ | exact td _)
def zIr (n_:Nat)(y0:List qA): Tw (zBO y0):=⟨zC7 n_ y0,zIi n_ y0⟩
def zWx (n_:Nat) y0:Tw (zGP y0):=by
 delta zGP
 repeat with_reducible (first | intro _ | apply zR5 n_ | apply zIr n_ | apply ti | apply ts | apply tb | apply tl n_ | exact td _)
def zUJ (n_:Nat) y0 y1:Tw (zEQ y0 y1):=by
 delta zEQ
 repeat with_reducible (first | intro _ | apply zWx n_ | apply zL3 n_ | apply ti | apply ts | apply tb | apply tl n_ | exact td _)
def zJ9 (n_:Nat) y0:Tw (zBk y0):=by
 delta zBk
 repeat with_reducible (first | intro _ | apply ti | apply ts | apply tb | apply tl n_ | exact td _)
def zJ8 (n_:Nat)(y0:yJ):= (zJ9 n_ y0).1
theorem zN1 (n_:Nat)(y0:yJ): Le (zJ8 n_ y0) (zBk y0):=(zJ9 n_ y0).2
def zQV (n_:Nat) y0 y1 y2:Tw (zDg y0 y1 y2):=by
 delta zDg
 repeat with_reducible (first | intro _ | apply ti | apply ts | apply tb | apply tl n_ | exact td _)
def zO1 (n_:Nat) y0 y1:Tw (zC0 y0 y1):=by
 delta zC0
 repeat with_reducible (first | intro _ | apply zQV n_ | apply ti | apply ts | apply tb | apply tl n_ | exact td _)
def zSB (n_:Nat) y0 y1 y2:Tw (zBc y0 y1 y2):=by
 delta zBc
 repeat with_reducible (first | intro _ | apply ti | apply ts | apply tb | apply tl n_ | exact td _)
def zNi (n_:Nat) y0 y1:Tw (zCL y0 y1):=by
 delta zCL
 repeat with_reducible (first | intro _ | apply zSB n_ | apply ti | apply ts | apply tb | apply tl n_ | exact td _)
def zMb (n_:Nat) y0 s3:Tw (zAU y0 s3):=by
 delta zAU
 repeat with_reducible (first | intro _ | apply zNi n_ | apply zO1 n_ | apply ti | apply ts | apply tb | apply tl n_ | exact td _)
def zM2 (n_:Nat) y0 s1:Tw (zCP y0 s1):=by
 delta zCP
 repeat with_reducible (first | intro _ | apply zMb n_ | apply zDb n_ | apply ti | apply ts | apply tb | apply tl n_ | exact td _)
def zJe (n_:Nat) y0:Tw (zBl y0):=by
 delta zBl
 repeat with_reducible (first | intro _ | apply zM2 n_ | apply ti | apply ts | apply tb | apply tl n_ | exact td _)
def zJk (n_:Nat)(y0:yJ):= (zJe n_ y0).1
theorem zNW (n_:Nat)(y0:yJ): Le (zJk n_ y0) (zBl y0):=(zJe n_ y0).2
def zGl (n_:Nat)(r2:(List Int)×Int)(s1:Bool×(List Int)×(List (List Int)))(rec_search_finder_find:yJ->Option ((List Int)×(List (List Int))×Bool))(y0:yJ)(s2:Int×(List (List Int))×Bool): Option ((Int×(List (List Int))×Bool)⊕((List Int)×(List (List Int))×Bool)) :=
 if decide (s2.1<(len ([2,4,8]:List Int))) then
  (zB ([2,4,8]:List Int) s2.1).bind fun x2 =>
  (wV (decide (0≤r2.2)&&decide (r2.2<40))).bind fun _ =>
  if(vA .i64 (vY s1.2.1 r2.2) x2) != 0 then
   (wV (decide (0≤r2.2)&&decide (r2.2<40))).bind fun _ =>
   (rec_search_finder_find (y0.1,y0.2.1,xZ 40 s1.2.1 r2.2 x2,s2.2.1,s2.2.2)).bind fun r3 =>
   some (.inl (zM (s2.1+1),r3.2.1,r3.2.2))
  else
   some (.inl (zM (s2.1+1),s2.2.1,s2.2.2))
 else
  some (.inr (s1.2.1,s2.2.1,s2.2.2))
theorem zOO (n_:Nat)(r2:(List Int)×Int)(s1:Bool×(List Int)×(List (List Int))){rec_search_finder_find rec_search_finder_find':yJ->Option ((List Int)×(List (List Int))×Bool)}(h_rec_search_finder_find:∀ u0,Le (rec_search_finder_find u0) (rec_search_finder_find' u0))(y0:yJ)(s2:Int×(List (List Int))×Bool): Le (zGl n_ r2 s1 rec_search_finder_find y0 s2) (zB9 r2 s1 rec_search_finder_find' y0 s2):=by
 unfold zGl zB9
 repeat with_reducible (first | intro _ | apply h_rec_search_finder_find | exact Le.refl _ | apply Le.ite | apply Le.seqE | apply Le.bind | apply Le.lp | exact Le.none _)
def zIQ (n_:Nat)(rec_search_finder_find:yJ->Option ((List Int)×(List (List Int))×Bool))(y0:yJ): Option ((List Int)×(List (List Int))×Bool) :=
 (
  if y0.2.2.2.2 then
   some (true,y0.2.2.1,y0.2.2.2.1)
  else
   ((zJk n_) y0).bind fun r1 =>
   some (!r1.1,r1.2.1,r1.2.2):Option (Bool×(List Int)×(List (List Int)))).bind fun s1 =>
 if s1.1 then
  some (s1.2.1,s1.2.2,y0.2.2.2.2)
 else
  ((zJ8 n_) (y0.1,y0.2.1,s1.2.1,s1.2.2,y0.2.2.2.2)).bind fun r2 =>
  if decide (r2.2<0) then
   (qG s1.2.2 ([r2.1]:List (List Int))).bind fun x1 =>
   some (s1.2.1,x1,(len s1.2.2)==200)
  else
   (lp n_) ((zGl n_) r2 s1 rec_search_finder_find y0) (0,s1.2.2,y0.2.2.2.2)
theorem zP7 (n_:Nat){rec_search_finder_find rec_search_finder_find':yJ->Option ((List Int)×(List (List Int))×Bool)}(h_rec_search_finder_find:∀ u0,Le (rec_search_finder_find u0) (rec_search_finder_find' u0))(y0:yJ): Le (zIQ n_ rec_search_finder_find y0) (zBP rec_search_finder_find' y0):=by
 unfold zIQ zBP
 repeat with_reducible (first | intro _ | apply h_rec_search_finder_find | apply zOO | apply zN1 | apply zNW | exact Le.refl _ | apply Le.ite | apply Le.seqE | apply Le.bind | apply Le.lp | exact Le.none _)
def zIV (n_:Nat): Nat->yJ->Option ((List Int)×(List (List Int))×Bool)
 | 0=>fun _=>none
 | k+1=>fun y0=>(zIQ n_) ((zIV n_) k) y0
theorem zK7 (n_:Nat): ∀(k m:Nat),k≤m->∀ u0,Le (zIV n_ k u0) (zBi m u0)
 | 0,_,_=>fun u0=>Le.none _
 | k+1,m,h=>fun u0=>by
  obtain⟨m,rfl⟩:∃ q,m=q+1:=⟨m-1,by omega⟩
  exact zP7 n_ (zK7 n_ k m (by omega)) _
def zLy (n_:Nat)(y0:yJ): Option ((List Int)×(List (List Int))×Bool) :=
 zIV n_ n_ y0
theorem zQf (n_:Nat)(y0:yJ): Le (zLy n_ y0) (zEF y0):=Le.lim n_ fun m h=>zK7 n_ n_ m h _
def zRL (n_:Nat)(y0:yJ): Tw (zEF y0):=⟨zLy n_ y0,zQf n_ y0⟩
def zRG (n_:Nat) y0 s2:Tw (zCE y0 s2):=by
 delta zCE
 repeat with_reducible (first | intro _ | apply zUJ n_ | apply ti | apply ts | apply tb | apply tl n_ | exact td _)
def zIc (n_:Nat) y0:Tw (zBH y0):=by
 delta zBH
 repeat with_reducible (first | intro _ | apply zL9 n_ | apply zRG n_ | apply zRL n_ | apply ti | apply ts | apply tb | apply tl n_ | exact td _)
def zPn (n_:Nat) y1 y0 s1:Tw (zDh y1 y0 s1):=by
 delta zDh
 repeat with_reducible (first | intro _ | apply zCl n_ | apply ti | apply ts | apply tb | apply tl n_ | exact td _)
def zKI (n_:Nat) y0 y1:Tw (zBo y0 y1):=by
 delta zBo
 repeat with_reducible (first | intro _ | apply zPn n_ | apply ti | apply ts | apply tb | apply tl n_ | exact td _)
def zRU (n_:Nat) y0 y1:Tw (zED y0 y1):=by
 delta zED
 repeat with_reducible (first | intro _ | apply zDb n_ | apply ti | apply ts | apply tb | apply tl n_ | exact td _)
def zGE (n_:Nat) y0 y1 s1:Tw (zA2 y0 y1 s1):=by
 delta zA2
 repeat with_reducible (first | intro _ | apply zRU n_ | apply ti | apply ts | apply tb | apply tl n_ | exact td _)
def zHV (n_:Nat) y0 y1:Tw (zAc y0 y1):=by
 delta zAc
 repeat with_reducible (first | intro _ | apply zGE n_ | apply ti | apply ts | apply tb | apply tl n_ | exact td _)
def zGX (n_:Nat) y0 y1:Tw (zAH y0 y1):=by
 delta zAH
 repeat with_reducible (first | intro _ | apply zHV n_ | apply ti | apply ts | apply tb | apply tl n_ | exact td _)
def zNH (n_:Nat) y0 y1:Tw (zDH y0 y1):=by
 delta zDH
 repeat with_reducible (first | intro _ | apply zGX n_ | apply ti | apply ts | apply tb | apply tl n_ | exact td _)
def zO5 (n_:Nat) y0 y1:Tw (zC1 y0 y1):=by
 delta zC1
 repeat with_reducible (first | intro _ | apply zKI n_ | apply zNH n_ | apply ti | apply ts | apply tb | apply tl n_ | exact td _)
def zH9 (n_:Nat) y0 y2:Tw (zAn y0 y2):=by
 delta zAn
 repeat with_reducible (first | intro _ | apply zO5 n_ | apply ti | apply ts | apply tb | apply tl n_ | exact td _)
def zGt (n_:Nat) y0 y2 s1:Tw (zA7 y0 y2 s1):=by
 delta zA7
 repeat with_reducible (first | intro _ | apply zH9 n_ | apply ti | apply ts | apply tb | apply tl n_ | exact td _)
def zHw (n_:Nat) y0 y2:Tw (zAt y0 y2):=by
 delta zAt
 repeat with_reducible (first | intro _ | apply zGt n_ | apply ti | apply ts | apply tb | apply tl n_ | exact td _)
def zGj (n_:Nat) y0 y2:Tw (zAM y0 y2):=by
 delta zAM
 repeat with_reducible (first | intro _ | apply zHw n_ | apply ti | apply ts | apply tb | apply tl n_ | exact td _)
def zHJ (n_:Nat) r1 s1:Tw (zAC r1 s1):=by
 delta zAC
 repeat with_reducible (first | intro _ | apply zGj n_ | apply ti | apply ts | apply tb | apply tl n_ | exact td _)
def zIG (n_:Nat) y0:Tw (zAL y0):=by
 delta zAL
 repeat with_reducible (first | intro _ | apply zIc n_ | apply zHJ n_ | apply ti | apply ts | apply tb | apply tl n_ | exact td _)
def zLS (n_:Nat) y0:Tw (zBA y0):=by
 delta zBA
 repeat with_reducible (first | intro _ | apply zIG n_ | apply ti | apply ts | apply tb | apply tl n_ | exact td _)
def zPW (n_:Nat) y0 y1 s2:Tw (zCc y0 y1 s2):=by
 delta zCc
 repeat with_reducible (first | intro _ | apply zDb n_ | apply ti | apply ts | apply tb | apply tl n_ | exact td _)
def zMf (n_:Nat) y0 y1:Tw (zCS y0 y1):=by
 delta zCS
 repeat with_reducible (first | intro _ | apply zMP n_ | apply zPW n_ | apply ti | apply ts | apply tb | apply tl n_ | exact td _)
def zJM (n_:Nat) y0:Tw (zAk y0):=by
 delta zAk
 repeat with_reducible (first | intro _ | apply zLS n_ | apply zTi n_ | apply zMh n_ | apply zMf n_ | apply ti | apply ts | apply tb | apply tl n_ | exact td _)
def z1k (n_:Nat) y0:Tw (zGa y0):=by
 delta zGa
 repeat with_reducible (first | intro _ | apply zJM n_ | apply ti | apply ts | apply tb | apply tl n_ | exact td _)
def zLk (n_:Nat) y0:Tw (zBJ y0):=by
 delta zBJ
 repeat with_reducible (first | intro _ | apply z1k n_ | apply ti | apply ts | apply tb | apply tl n_ | exact td _)
def zJA (n_:Nat) r1 s1:Tw (zAa r1 s1):=by
 delta zAa
 repeat with_reducible (first | intro _ | apply zCl n_ | apply ti | apply ts | apply tb | apply tl n_ | exact td _)
def zJo (n_:Nat) y0:Tw (zAN y0):=by
 delta zAN
 repeat with_reducible (first | intro _ | apply zLk n_ | apply zJA n_ | apply ti | apply ts | apply tb | apply tl n_ | exact td _)
def zNf (n_:Nat) y0 y1:Tw (zCJ y0 y1):=by
 delta zCJ
 repeat with_reducible (first | intro _ | apply zKI n_ | apply zNH n_ | apply ti | apply ts | apply tb | apply tl n_ | exact td _)
def zHO (n_:Nat) y0 y2:Tw (zAd y0 y2):=by
 delta zAd
 repeat with_reducible (first | intro _ | apply zNf n_ | apply ti | apply ts | apply tb | apply tl n_ | exact td _)
def zGU (n_:Nat) y0 y2 s1:Tw (zA4 y0 y2 s1):=by
 delta zA4
 repeat with_reducible (first | intro _ | apply zHO n_ | apply ti | apply ts | apply tb | apply tl n_ | exact td _)
def zHL (n_:Nat) y0 y2:Tw (zAh y0 y2):=by
 delta zAh
 repeat with_reducible (first | intro _ | apply zGU n_ | apply ti | apply ts | apply tb | apply tl n_ | exact td _)
def zFz (n_:Nat) y0 y2:Tw (zAI y0 y2):=by
 delta zAI
 repeat with_reducible (first | intro _ | apply zHL n_ | apply ti | apply ts | apply tb | apply tl n_ | exact td _)
def zGr (n_:Nat) r1 s1:Tw (zAB r1 s1):=by
 delta zAB
 repeat with_reducible (first | intro _ | apply zFz n_ | apply ti | apply ts | apply tb | apply tl n_ | exact td _)
def zHy (n_:Nat) y0:Tw (zAG y0):=by
 delta zAG
 repeat with_reducible (first | intro _ | apply zIc n_ | apply zGr n_ | apply ti | apply ts | apply tb | apply tl n_ | exact td _)
def zK8 (n_:Nat) y0:Tw (zAo y0):=by
 delta zAo
 repeat with_reducible (first | intro _ | apply zHy n_ | apply ti | apply ts | apply tb | apply tl n_ | exact td _)
def zJB (n_:Nat) y0:Tw (zA8 y0):=by
 delta zA8
 repeat with_reducible (first | intro _ | apply zK8 n_ | apply zTi n_ | apply zMh n_ | apply zMf n_ | apply ti | apply ts | apply tb | apply tl n_ | exact td _)
def z05 (n_:Nat) y0:Tw (zGb y0):=by
 delta zGb
 repeat with_reducible (first | intro _ | apply zJB n_ | apply ti | apply ts | apply tb | apply tl n_ | exact td _)
def zL0 (n_:Nat) y0:Tw (zBK y0):=by
 delta zBK
 repeat with_reducible (first | intro _ | apply z05 n_ | apply ti | apply ts | apply tb | apply tl n_ | exact td _)
def zIp (n_:Nat) r1 s1:Tw (zA9 r1 s1):=by
 delta zA9
 repeat with_reducible (first | intro _ | apply zCl n_ | apply ti | apply ts | apply tb | apply tl n_ | exact td _)
def zJn (n_:Nat) y0:Tw (zAO y0):=by
 delta zAO
 repeat with_reducible (first | intro _ | apply zL0 n_ | apply zIp n_ | apply ti | apply ts | apply tb | apply tl n_ | exact td _)
def zIT (n_:Nat) r1 s1:Tw (zA3 r1 s1):=by
 delta zA3
 repeat with_reducible (first | intro _ | apply zCl n_ | apply ti | apply ts | apply tb | apply tl n_ | exact td _)
def zJG (n_:Nat) y0:Tw (zAF y0):=by
 delta zAF
 repeat with_reducible (first | intro _ | apply zLS n_ | apply zIT n_ | apply ti | apply ts | apply tb | apply tl n_ | exact td _)
def zIC (n_:Nat) r1 s1:Tw (zAY r1 s1):=by
 delta zAY
 repeat with_reducible (first | intro _ | apply zCl n_ | apply ti | apply ts | apply tb | apply tl n_ | exact td _)
def zIv (n_:Nat) y0:Tw (zAE y0):=by
 delta zAE
 repeat with_reducible (first | intro _ | apply zK8 n_ | apply zIC n_ | apply ti | apply ts | apply tb | apply tl n_ | exact td _)
def zRO (n_:Nat) y0 y1:Tw (zDN y0 y1):=by
 delta zDN
 repeat with_reducible (first | intro _ | apply zKI n_ | apply ti | apply ts | apply tb | apply tl n_ | exact td _)
def zI4 (n_:Nat) y0 y2:Tw (zBG y0 y2):=by
 delta zBG
 repeat with_reducible (first | intro _ | apply zRO n_ | apply ti | apply ts | apply tb | apply tl n_ | exact td _)
def zG4 (n_:Nat) y0 y2 s1:Tw (zA1 y0 y2 s1):=by
 delta zA1
 repeat with_reducible (first | intro _ | apply zI4 n_ | apply ti | apply ts | apply tb | apply tl n_ | exact td _)
def zH1 (n_:Nat) y0 y2:Tw (zAg y0 y2):=by
 delta zAg
 repeat with_reducible (first | intro _ | apply zG4 n_ | apply ti | apply ts | apply tb | apply tl n_ | exact td _)
def zGI (n_:Nat) y0 y2:Tw (zAJ y0 y2):=by
 delta zAJ
 repeat with_reducible (first | intro _ | apply zH1 n_ | apply ti | apply ts | apply tb | apply tl n_ | exact td _)
def zIS (n_:Nat) r1 s1:Tw (zAK r1 s1):=by
 delta zAK
 repeat with_reducible (first | intro _ | apply zGI n_ | apply ti | apply ts | apply tb | apply tl n_ | exact td _)
def zJE (n_:Nat) y0:Tw (zAj y0):=by
 delta zAj
 repeat with_reducible (first | intro _ | apply zIc n_ | apply zIS n_ | apply ti | apply ts | apply tb | apply tl n_ | exact td _)
def zS2 (n_:Nat) y0:Tw (zC8 y0):=by
 delta zC8
 repeat with_reducible (first | intro _ | apply zJE n_ | apply ti | apply ts | apply tb | apply tl n_ | exact td _)
def zJN (n_:Nat) r1 s1:Tw (zAi r1 s1):=by
 delta zAi
 repeat with_reducible (first | intro _ | apply zCl n_ | apply ti | apply ts | apply tb | apply tl n_ | exact td _)
def zJu (n_:Nat) y0:Tw (zAT y0):=by
 delta zAT
 repeat with_reducible (first | intro _ | apply zS2 n_ | apply zJN n_ | apply ti | apply ts | apply tb | apply tl n_ | exact td _)
def zJ1 (n_:Nat) r1 s1:Tw (zAq r1 s1):=by
 delta zAq
 repeat with_reducible (first | intro _ | apply zCl n_ | apply ti | apply ts | apply tb | apply tl n_ | exact td _)
def zK2 (n_:Nat) y0:Tw (zAV y0):=by
 delta zAV
 repeat with_reducible (first | intro _ | apply zIc n_ | apply zJ1 n_ | apply ti | apply ts | apply tb | apply tl n_ | exact td _)
def zRc (n_:Nat) y0 y1:Tw (zBZ y0 y1):=by
 delta zBZ
 repeat with_reducible (first | intro _ | apply zL9 n_ | apply zKY n_ | apply zK2 n_ | apply zJG n_ | apply zJu n_ | apply zIv n_ | apply zJo n_ | apply zJn n_ | apply ti | apply ts | apply tb | apply tl n_ | exact td _)
def zOo (n_:Nat) r1 y0 s1:Tw (zCZ r1 y0 s1):=by
 delta zCZ
 repeat with_reducible (first | intro _ | apply zKa n_ | apply ti | apply ts | apply tb | apply tl n_ | exact td _)
def zRA (n_:Nat) y0 y1:Tw (zBg y0 y1):=by
 delta zBg
 repeat with_reducible (first | intro _ | apply zRc n_ | apply zOo n_ | apply ti | apply ts | apply tb | apply tl n_ | exact td _)
def zO8 (n_:Nat) y0:Tw (zEL y0):=by
 delta zEL
 repeat with_reducible (first | intro _ | apply ti | apply ts | apply tb | apply tl n_ | exact td _)
def zQL (n_:Nat) y0 y1:Tw (zFL y0 y1):=by
 delta zFL
 repeat with_reducible (first | intro _ | apply zPB n_ | apply ti | apply ts | apply tb | apply tl n_ | exact td _)
def zEr (n_:Nat) y0 y1 s1:Tw (zB1 y0 y1 s1):=by
 delta zB1
 repeat with_reducible (first | intro _ | apply zQL n_ | apply ti | apply ts | apply tb | apply tl n_ | exact td _)
def zF8 (n_:Nat) y0 y1:Tw (zAw y0 y1):=by
 delta zAw
 repeat with_reducible (first | intro _ | apply zEr n_ | apply ti | apply ts | apply tb | apply tl n_ | exact td _)
def zEq (n_:Nat) y0 y1:Tw (zAb y0 y1):=by
 delta zAb
 repeat with_reducible (first | intro _ | apply zF8 n_ | apply ti | apply ts | apply tb | apply tl n_ | exact td _)
def zMk (n_:Nat) y0 y1 y2:Tw (zE8 y0 y1 y2):=by
 delta zE8
 repeat with_reducible (first | intro _ | apply zEq n_ | apply ti | apply ts | apply tb | apply tl n_ | exact td _)
def zFY (n_:Nat) y0 y1 y2 s1:Tw (zBa y0 y1 y2 s1):=by
 delta zBa
 repeat with_reducible (first | intro _ | apply zMk n_ | apply ti | apply ts | apply tb | apply tl n_ | exact td _)
def zGD (n_:Nat) y0 y1 y2:Tw (zBD y0 y1 y2):=by
 delta zBD
 repeat with_reducible (first | intro _ | apply zFY n_ | apply ti | apply ts | apply tb | apply tl n_ | exact td _)
def zEz (n_:Nat) y0 y1 y2 s2:Tw (zB2 y0 y1 y2 s2):=by
 delta zB2
 repeat with_reducible (first | intro _ | apply zMk n_ | apply ti | apply ts | apply tb | apply tl n_ | exact td _)
def zFp (n_:Nat) y0 y1 y2:Tw (zBB y0 y1 y2):=by
 delta zBB
 repeat with_reducible (first | intro _ | apply zGD n_ | apply zEz n_ | apply ti | apply ts | apply tb | apply tl n_ | exact td _)
def zU3 (n_:Nat) y0 y1 y2:Tw (zD5 y0 y1 y2):=by
 delta zD5
 repeat with_reducible (first | intro _ | apply zRA n_ | apply zO8 n_ | apply zPP n_ | apply zFp n_ | apply ti | apply ts | apply tb | apply tl n_ | exact td _)
end
end
section
def minF:List Int->Int
 | []=>0
 | x::r=>r.foldl (fun m y=>if y<m then y else m) x
def maxF:List Int->Int
 | []=>0
 | x::r=>r.foldl (fun m y=>if y > m then y else m) x
def zJX (x y:List Int)(o:Int): Bool:=(o==1||o==2)&&!x.isEmpty&&(y.isEmpty||if o==1 then decide (minF x<minF y) else decide (maxF x<maxF y))
theorem zYn{l:List Int}(h:l≠[])(hl:l.length<4294967296): zEA l=some (minF l):=by
 match l,h with
 | x::r,_ =>
  have h1:decide (len (x::r)<1)=false:=by simp[len];omega
  unfold zEA
  simp only[h1,zbf,Qb,zob,show zB (x::r) 0=some x from rfl]
  refine zYh (B:=zGi (x::r)) (x::r) (fun m y=>if y<m then y else m) (fun m=>m) 1 (by simp) x (fun i y s hy=>?_) (fun s=>?_)
  ·unfold zGi
   simp only[qY hy,Qc,qM hy,zob,qR hy hl]
  ·unfold zGi
   simp only[uU,zbf,Qb]
theorem zYu{l:List Int}(h:l≠[])(hl:l.length<4294967296): zDs l=some (maxF l):=by
 match l,h with
 | x::r,_ =>
  have h1:decide (len (x::r)<1)=false:=by simp[len];omega
  unfold zDs
  simp only[h1,zbf,Qb,zob,show zB (x::r) 0=some x from rfl]
  refine zYh (B:=zGg (x::r)) (x::r) (fun m y=>if y > m then y else m) (fun m=>m) 1 (by simp) x (fun i y s hy=>?_) (fun s=>?_)
  ·unfold zGg
   simp only[qY hy,Qc,qM hy,zob,qR hy hl]
  ·unfold zGg
   simp only[uU,zbf,Qb]
theorem len0{α:Type}(l:List α): ((len l)==0)=l.isEmpty:=by
 cases l with
 | nil=>rfl
 | cons x r=>grind
theorem isE{α:Type}{l:List α}(h:l.isEmpty=false): l≠[]:=by grind
theorem zQc{x y:List Int}(o:Int)(hx:x.length<4294967296)(hy:y.length<4294967296): zEP x y o=some (zJX x y o):=by
 unfold zEP zJX
 simp only[len0]
 cases hxe:x.isEmpty with
 | true=>simp
 | false =>
  by_cases h1:o=1
  ·subst h1
   cases hye:y.isEmpty with
   | true=>simp
   | false=>simp[zYn (isE hxe) hx,zYn (isE hye) hy]
  ·by_cases h2:o=2
   ·subst h2
    cases hye:y.isEmpty with
    | true=>simp
    | false=>simp[zYu (isE hxe) hx,zYu (isE hye) hy]
   ·simp[h1,h2]
variable {b:zI}{l:List zF}
theorem z0i (h:FormB b l){i:Int}(h0:0≤i)(h1:i<l.length){p:Int}(hp:p∈zJI l i): ∃ q,zB b.1 p=some q:=by
 obtain⟨h2,h3⟩:=Qk.1 hp
 obtain⟨a,ha⟩:=zT5 h.toFormA h0 h1 h2
 simp[ha] at h3
 obtain⟨e1,⟨q,e2⟩,_⟩:=(h.prem ha).1 h3
 grind
theorem z8T (h:FormB b l){i:Int}(h0:0≤i)(h1:i<l.length){y:Int}(hy:y∈vG b l i): ∃ q,zB b.2.1 y=some q:=by
 obtain⟨j,_,a,ha,h3,_,rfl⟩:=(zKD h h0 h1 y).1 hy
 grind
theorem z84 (h:FormB b l){i y:Int}(hy:y∈yH b l i): ∃ q,zB b.2.1 y=some q:=by
 have:=((zKF h i y).1 hy).rng h
 exact zLM this.1 this.2
def z1T (b:zI)(k p:Int): Bool:=match zB b.1 p with | some q=>q.2.1==k | none=>false
noncomputable def zNM (b:zI)(l:List zF)(i:Int): Bool:=(zJI l i).any (z1T b 3)
def zMI (b:zI)(p:Int): List Int:=match zB b.1 p with | some q=>if q.2.1==2 then[q.2.2.1] else if q.2.1==3 then[-1] else[] | none=>[]
noncomputable def xU (b:zI)(l:List zF)(i:Int): List Int:=(zJI l i).flatMap (zMI b)
def z04 (b:zI)(y:Int): Int:=match zB b.2.1 y with | some q=>q.2.2.1 | none=>0
abbrev uZ (b:zI)(rs:List Int): List Int:=rs.map (z04 b)
theorem zYa{rs:List Int}(hl:rs.length<4294967296)(h:∀ y∈rs,∃ q,zB b.2.1 y=some q): zJh b rs=some (uZ b rs):=by
 have hL:=zFJ (B:=zKJ rs b) rs (fun s y=>s++[z04 b y]) (fun s=>s) (fun q s=>s.length=q) [] rfl (fun i y s hy hI=>?_) (fun s hI=>?_)
 ·obtain⟨e1,_⟩:=hL
  rw[zId] at e1
  exact e1
 ·obtain⟨q,hq⟩:=h y (wF hy)
  have:=vV hy
  unfold zKJ
  simp only[qY hy,Qc,qM hy,zob,hq]
  rw[wS (by simp;omega)]
  exact⟨by simp[qR hy hl,z04,hq],by simp;omega⟩
 ·unfold zKJ
  simp
theorem zKr (h:FormB b l){i:Int}(h0:0≤i)(h1:i<l.length): zCn b l i=some (uZ b (yH b l i)):=by
 have hll:=zTY b l i
 have hnr:=h.nr
 unfold zCn
 rw[z8K h h0 h1]
 simp only[zob,zYa (show(yH b l i).length<4294967296 by omega) fun y hy=>z84 h hy]
theorem zLA (h:FormB b l){i:Int}(h0:0≤i)(h1:i<l.length): zCm b l i=some (uZ b (vG b l i)):=by
 have hll:=zSx b l i
 have hnr:=h.len
 unfold zCm
 rw[zR1 h h0 h1]
 simp only[zob,zYa (show(vG b l i).length<4294967296 by omega) fun y hy=>z8T h h0 h1 hy]
theorem zUt (b:zI)(p:Int): (zMI b p).length≤1:=by grind [zMI]
theorem zIk (h:FormB b l){i:Int}(h0:0≤i)(h1:i<l.length): zBx b l i=some (xU b l i):=by
 have hpl:=zU5 l i
 have hl:=h.len
 have hL:=zFJ (B:=zEn (zJI l i) b) (zJI l i) (fun s p=>s++zMI b p) (fun s=>s) (fun q s=>s.length≤q) [] (by simp) (fun j p s hp hI=>?_) (fun s hI=>?_)
 ·grind [zJF,zBx,zVB,xU]
 ·obtain⟨q,hq⟩:=z0i h h0 h1 (wF hp)
  have:=vV hp
  have hpr:=zUt b p
  unfold zEn
  simp only[qY hp,Qc,qM hp,zob,hq]
  refine⟨?_,by grind⟩
  unfold zMI
  simp only[hq]
  cases hk2:q.2.1==2 with
  | true =>
   simp only[Qc]
   rw[wS (by simp;omega)]
   simp[qR hp (by omega)]
  | false =>
   cases hk3:q.2.1==3 with
   | true =>
    simp only[zbf,Qb,Qc]
    rw[wS (by simp;omega)]
    simp[qR hp (by omega)]
   | false=>simp[qR hp (by omega)]
 ·unfold zEn
  simp
theorem z0g (h:FormB b l){i:Int}(h0:0≤i)(h1:i<l.length): zH5 b l i=some (zNM b l i):=by
 have hpl:=zU5 l i
 have hl:=h.len
 have key:∃ r,zN (zAp (zJI l i) b) 0=some r∧decide (0≤r)=zNM b l i:=by
  have hc:∀ p∈zJI l i,zJT p b=some (z1T b 3 p):=fun p hp=>by
   obtain⟨q,hq⟩:=z0i h h0 h1 hp
   simp[zJT,z1T,hq]
  have hL:=xS (B:=zAp (zJI l i) b) (fun q (_:Unit)=>(q:Int)) (zJI l i) (fun q _=>∀ j x,j<q->(zJI l i)[j]?=some x->z1T b 3 x=false) (fun r=>decide (0≤r)=zNM b l i) ?_ ?_ () (by omega)
  ·exact hL
  ·intro q p s hp hI
   unfold zAp
   simp only[qY hp,Qc,qM hp,zob,hc p (wF hp)]
   cases hk:z1T b 3 p with
   | true =>
    refine .inr ⟨_,by simp only[Qc];rfl,?_⟩
    have:zNM b l i=true:=QX.2 ⟨p,wF hp,hk⟩
    rw[this];simp
   | false =>
    refine .inl ⟨(),by simp only[zbf,Qb,qR hp (by omega)],fun j x hj hx=>?_⟩
    rcases Qy.1 hj with h | rfl
    ·exact hI j x h hx
    ·rw[hp] at hx;cases hx;exact hk
  ·intro s hI
   unfold zAp
   refine⟨-1,by simp only[uU,zbf,Qb],?_⟩
   have:zNM b l i=false:=by
    rw[zNM,Q9]
    intro p hp
    obtain⟨j,hj⟩:=Qn.1 hp
    simp[hI j p (vV hj) hj]
   rw[this];rfl
 obtain⟨r,h2,h3⟩:=key
 unfold zH5 zAm zBI
 rw[zVB h h0 h1]
 simp only[zob,h2,h3]
noncomputable def zSP (b:zI)(l:List zF)(i k:Int)(o:vQ): Bool :=
 decide (0≤i)&&decide (i<l.length)&&decide (0≤k)&&decide (k<l.length)&&!zNM b l k &&
 let pr:=zJX (xU b l i) (xU b l k) o.2
 if o.1==1 then zJX (uZ b (yH b l i)) (uZ b (yH b l k)) o.2||((yH b l i).isEmpty&&(yH b l k).isEmpty&&pr)
 else if o.1==2 then
  if(vG b l i).isEmpty&&(vG b l k).isEmpty then pr
  else if(xU b l i).isEmpty&&(xU b l k).isEmpty then zJX (uZ b (vG b l i)) (uZ b (vG b l k)) o.2
  else pr&&zJX (uZ b (vG b l i)) (uZ b (vG b l k)) o.2
 else false
theorem zS6 (b:zI)(l:List zF)(i:Int): (xU b l i).length≤l.length:=by
 have key:∀ m:List Int,(m.flatMap (zMI b)).length≤m.length:=by
  intro m
  induction m with
  | nil=>simp
  | cons x m ih=>grind [zUt]
 exact QD (key _) (zU5 l i)
theorem zXB{α β:Type}(f:α->β)(l:List α): (l.map f).isEmpty=l.isEmpty:=by cases l <;> rfl
theorem z5r (h:FormB b l)(i k:Int)(o:vQ): zKm b l i k o=some (zSP b l i k o):=by
 have hl:=h.len
 have hnr:=h.nr
 unfold zKm
 by_cases hr:0≤i∧i<l.length∧0≤k∧k<l.length
 ·obtain⟨i0,i1,k0,k1⟩:=hr
  have c1:decide ((if k<i then k else i)<0)=false:=by simp;split <;> omega
  have c2:decide (len l≤(if k > i then k else i))=false:=by simp[len];split <;> omega
  simp only[c1,c2,zbf,Qb,z0g h k0 k1,zob]
  have f1:=zS6 b l i
  have f2:=zS6 b l k
  have f3:=zTY b l i
  have f4:=zTY b l k
  have f5:=zSx b l i
  have f6:=zSx b l k
  cases ha:zNM b l k with
  | true=>simp[zSP,ha]
  | false =>
   have sP:zAW b l i k o=some (zJX (xU b l i) (xU b l k) o.2):=by
    unfold zAW
    simp only[zIk h i0 i1,zIk h k0 k1,zob,zQc o.2 (show(xU b l i).length<4294967296 by omega) (show(xU b l k).length<4294967296 by omega)]
   have sL:zB6 b l i k o=some (zJX (uZ b (yH b l i)) (uZ b (yH b l k)) o.2):=by
    unfold zB6
    simp only[zKr h i0 i1,zKr h k0 k1,zob,zQc o.2 (show(uZ b (yH b l i)).length<4294967296 by simp;omega) (show(uZ b (yH b l k)).length<4294967296 by simp;omega)]
   have sR:zBM b l i k o=some (zJX (uZ b (vG b l i)) (uZ b (vG b l k)) o.2):=by
    unfold zBM
    simp only[zLA h i0 i1,zLA h k0 k1,zob,zQc o.2 (show(uZ b (vG b l i)).length<4294967296 by simp;omega) (show(uZ b (vG b l k)).length<4294967296 by simp;omega)]
   have nL:zB3 b l i k=some ((yH b l i).isEmpty&&(yH b l k).isEmpty):=by
    unfold zB3
    simp only[zKr h i0 i1,zKr h k0 k1,zob,len0,zXB]
    cases (yH b l i).isEmpty <;> simp
   have nP:zBQ b l i k=some ((xU b l i).isEmpty&&(xU b l k).isEmpty):=by
    unfold zBQ
    simp only[zIk h i0 i1,zIk h k0 k1,zob,len0]
    cases (xU b l i).isEmpty <;> simp
   have nR:zB8 b l i k=some ((vG b l i).isEmpty&&(vG b l k).isEmpty):=by
    unfold zB8
    simp only[zLA h i0 i1,zLA h k0 k1,zob,len0,zXB]
    cases (vG b l i).isEmpty <;> simp
   simp only[zbf,Qb,zC4,zC6,sP,sL,sR,nL,nP,nR,zob,zSP,i0,i1,k0,k1,ha,decide_true,Q8,Ux]
   by_cases o1:o.1=1
   ·simp only[o1,Uv,Qc]
    cases zJX (uZ b (yH b l i)) (uZ b (yH b l k)) o.2 <;> cases (yH b l i).isEmpty <;> cases (yH b l k).isEmpty <;> simp
   ·have o1':(o.1==1)=false:=QQ.2 o1
    simp only[o1',zbf,Qb]
    cases o.1==2
    ·simp
    ·cases (vG b l i).isEmpty <;> cases (vG b l k).isEmpty <;> cases (xU b l i).isEmpty <;> cases (xU b l k).isEmpty <;> cases zJX (xU b l i) (xU b l k) o.2 <;> simp
 ·have hf:zSP b l i k o=false:=by
   unfold zSP
   by_cases a1:0≤i <;> by_cases a2:i<l.length <;> by_cases a3:0≤k <;> by_cases a4:k<l.length <;> simp[a1,a2,a3,a4]
   exact absurd ⟨a1,a2,a3,a4⟩ hr
  rw[hf]
  by_cases c1:(if k<i then k else i)<0
  ·simp[c1]
  ·have c2:len l≤(if k > i then k else i):=by
    simp only[len]
    split at c1 <;> split <;> omega
   simp only[c1,c2,decide_true,decide_false,zbf,Qc,Qb,zob]
end
section
variable {b:zI}{l:List zF}
def z4g (b:zI)(l:List zF)(i c kd:Int): Bool:=match zB l i,zB l c with
 | some x,some a =>
  if decide (a.2.1<0) then kd==1&&x.2.2.2==xJ a.2.2.2&&(match zB b.1 a.1 with | some p=>p.2.1 != 1 | none=>false)
  else match zB b.2.1 a.2.1 with
   | some r=>!r.2.1&&((kd==2&&x.2.2.2==xJ a.2.2.2)||(kd==3&&x.2.2.2==(true,r.1)))
   | none=>false
 | _,_=>false
abbrev zNo (b:zI)(l:List zF)(i c:Int): List Int:=[1,2,3].filter (z4g b l i c)
theorem z5s (h:FormB b l){i c:Int}(i0:0≤i)(i1:i<l.length)(c0:0≤c)(c1:c<l.length): zKz b l i c=some (zNo b l i c):=by
 obtain⟨x,hx⟩:=zLM i0 i1
 obtain⟨a,ha⟩:=zLM c0 c1
 unfold zKz zNo
 simp only[hx,ha,zob,zR7]
 by_cases hp:0≤a.1
 ·obtain⟨_,⟨p,hp2⟩,hr⟩:=(h.prem ha).1 hp
  have hk:∀ kd,z4g b l i c kd=(kd==1&&x.2.2.2==xJ a.2.2.2&&p.2.1 != 1):=fun kd=>by
   simp only[z4g,hx,ha,hp2,hr];rfl
  simp only[hp,decide_true,Qc,hp2,zob]
  rw[Q7,Q7,Q7,List.filter_nil,hk,hk,hk]
  cases x.2.2.2==xJ a.2.2.2 <;> cases p.2.1 != 1 <;> simp[qG]
 ·obtain⟨r,hr2⟩:=(h.prem ha).2.1 (by omega)
  have hr:¬ a.2.1<0:=by have:=(h.prem ha).2.2;omega
  have hk:∀ kd,z4g b l i c kd=(!r.2.1&&((kd==2&&x.2.2.2==xJ a.2.2.2)||(kd==3&&x.2.2.2==(true,r.1)))):=fun kd=>by
   simp only[z4g,hx,ha,hr2,hr,decide_false,zbf,Qb]
  simp only[hp,decide_false,zbf,Qb,hr2,zob]
  rw[Q7,Q7,Q7,List.filter_nil,hk,hk,hk]
  have hlit:(x.2.2.2==(true,r.1))=(x.2.2.2.1&&x.2.2.2.2==r.1):=by
   obtain⟨_,_,_,g,nm⟩:=x
   show(g==true&&nm==r.1)=(g&&nm==r.1)
   cases g <;> rfl
  rw[hlit]
  cases hs:r.2.1
  ·cases x.2.2.2==xJ a.2.2.2 <;> cases x.2.2.2.1 <;> cases x.2.2.2.2==r.1 <;> simp[qG]
  ·simp
abbrev z0P (b:zI)(l:List zF)(i k c:Int): List qL:=(zNo b l i c).map fun kd=>(i,k,c,kd)
noncomputable def zTo (b:zI)(l:List zF): List qL:=(qS l.length).flatMap fun i=>(qS l.length).flatMap fun k=>(vK l k).flatMap fun c=>z0P b l i k c
noncomputable def z5T (b:zI)(l:List zF): List qL:=(qS l.length).flatMap fun c=>(qS l.length).flatMap fun i=>((qS l.length).filter fun k=>decide (c∈vK l k)).flatMap fun k=>z0P b l i k c
theorem z13 (b:zI)(l:List zF)(i c:Int): vX xE (zNo b l i c):=List.Pairwise.filter _ (by simp)
theorem z7Z (b:zI)(l:List zF)(i c:Int): (zNo b l i c).length≤3:=by grind
theorem z7C (b:zI)(l:List zF)(i c kd:Int): kd∈zNo b l i c↔(kd=1∨kd=2∨kd=3)∧z4g b l i c kd=true:=by simp[zNo,Qk]
theorem zQP (y:qL): y∈zTo b l↔(0≤y.1∧y.1<l.length)∧(0≤y.2.1∧y.2.1<l.length)∧y.2.2.1∈vK l y.2.1∧y.2.2.2∈zNo b l y.1 y.2.2.1:=by
 simp[zTo,xO]
 grind
theorem z3v{k c:Int}(h:c∈vK l k): 0≤c∧c<l.length:=by grind [vK]
theorem z7d (y:qL): y∈z5T b l↔y∈zTo b l:=by
 rw[zQP]
 obtain⟨i,k,c,kd⟩:=y
 simp only[z5T,Qz,Qj,xO,Qk,Qp]
 constructor
 ·rintro ⟨c',_,i',h1,k',⟨h2,h3⟩,kd',h4,e⟩
  cases e
  exact⟨h1,h2,h3,h4⟩
 ·rintro ⟨h1,h2,h3,h4⟩
  exact⟨c,z3v h3,i,h1,k,⟨h2,h3⟩,kd,h4,rfl⟩
theorem z0X (b:zI)(l:List zF): vX lt4 (zTo b l):=by
 refine UE.2 ⟨fun i _=>UE.2 ⟨fun k _=>UE.2 ⟨fun c _=>?_,?_⟩,?_⟩,?_⟩
 ·rw[UA]
  exact(z13 b l i c).imp fun h=>by simpa [lt4] using h
 ·refine(zTP l k).imp fun {c c'} h x hx y hy=>?_
  obtain⟨_,_,rfl⟩:=Qj.1 hx
  obtain⟨_,_,rfl⟩:=Qj.1 hy
  simp at h;simp[lt4];omega
 ·refine(zKf _).imp fun {k k'} h x hx y hy=>?_
  obtain⟨_,_,hx⟩:=Qz.1 hx
  obtain⟨_,_,hy⟩:=Qz.1 hy
  obtain⟨_,_,rfl⟩:=Qj.1 hx
  obtain⟨_,_,rfl⟩:=Qj.1 hy
  simp at h;simp[lt4];omega
 ·refine(zKf _).imp fun {i i'} h x hx y hy=>?_
  obtain⟨_,_,hx⟩:=Qz.1 hx
  obtain⟨_,_,hy⟩:=Qz.1 hy
  obtain⟨_,_,hx⟩:=Qz.1 hx
  obtain⟨_,_,hy⟩:=Qz.1 hy
  obtain⟨_,_,rfl⟩:=Qj.1 hx
  obtain⟨_,_,rfl⟩:=Qj.1 hy
  simp at h;simp[lt4];omega
theorem z3C (b:zI)(l:List zF): (z5T b l).Nodup:=by
 have key:(z5T b l).Pairwise fun x y=>x.2.2.1<y.2.2.1∨(x.2.2.1=y.2.2.1∧(x.1<y.1∨(x.1=y.1∧(x.2.1<y.2.1∨(x.2.1=y.2.1∧x.2.2.2<y.2.2.2))))):=by
  refine UE.2 ⟨fun c _=>UE.2 ⟨fun i _=>UE.2 ⟨fun k _=>?_,?_⟩,?_⟩,?_⟩
  ·rw[UA]
   exact(z13 b l i c).imp fun h=>by simpa using h
  ·refine((zKf _).filter _).imp fun {k k'} h x hx y hy=>?_
   obtain⟨_,_,rfl⟩:=Qj.1 hx
   obtain⟨_,_,rfl⟩:=Qj.1 hy
   simp at h;simp;omega
  ·refine(zKf _).imp fun {i i'} h x hx y hy=>?_
   obtain⟨_,_,hx⟩:=Qz.1 hx
   obtain⟨_,_,hy⟩:=Qz.1 hy
   obtain⟨_,_,rfl⟩:=Qj.1 hx
   obtain⟨_,_,rfl⟩:=Qj.1 hy
   simp at h;simp;omega
  ·refine(zKf _).imp fun {c c'} h x hx y hy=>?_
   obtain⟨_,_,hx⟩:=Qz.1 hx
   obtain⟨_,_,hy⟩:=Qz.1 hy
   obtain⟨_,_,hx⟩:=Qz.1 hx
   obtain⟨_,_,hy⟩:=Qz.1 hy
   obtain⟨_,_,rfl⟩:=Qj.1 hx
   obtain⟨_,_,rfl⟩:=Qj.1 hy
   simp at h;simp;omega
 exact key.imp fun {x y} h e=>by subst e;omega
theorem z2R (b:zI)(l:List zF)(i k c:Int): (z0P b l i k c).length≤3:=by grind
theorem zX9 (h:l.length≤100): (zTo b l).length≤3000000:=by
 have h1:∀ i k:Int,((vK l k).flatMap fun c=>z0P b l i k c).length≤300:=fun i k=>by
  have:=zQ7 (fun c=>z0P b l i k c) 3 (vK l k) fun c _=>z2R b l i k c
  have:=zM3 l k
  omega
 have h2:∀ i:Int,((qS l.length).flatMap fun k=>(vK l k).flatMap fun c=>z0P b l i k c).length≤30000:=fun i=>by
  have:=zQ7 (fun k=>(vK l k).flatMap fun c=>z0P b l i k c) 300 (qS l.length) fun k _=>h1 i k
  rw[zGJ] at this
  omega
 have:=zQ7 (fun i=>(qS l.length).flatMap fun k=>(vK l k).flatMap fun c=>z0P b l i k c) 30000 (qS l.length) fun i _=>h2 i
 grind [qS,zTo]
theorem zLC (m:List Int)(x:Int)(hb:m.length<9223372036854775807): zBU m x=some (decide (x∈m)):=by
 obtain⟨r,h1,h2⟩:=zWn m x hb
 unfold zBU zFP
 rw[show zN (zLK m x) 0=some r from h1]
 simp only[zob]
 congr 1
 rw[UR,h2]
 simp
theorem z2O (h:FormB b l): zFD b l=some (zTo b l):=by
 have hl:=h.len
 have h1:∀ i c:Int,(((qS l.length).filter fun k=>decide (c∈vK l k)).flatMap fun k=>z0P b l i k c).length≤300:=fun i c=>by
  have:=zQ7 (fun k=>z0P b l i k c) 3 ((qS l.length).filter fun k=>decide (c∈vK l k)) fun k _=>z2R b l i k c
  have:=QH (fun k=>decide (c∈vK l k)) (qS l.length)
  rw[zGJ] at this
  omega
 have h2:∀ c:Int,((qS l.length).flatMap fun i=>((qS l.length).filter fun k=>decide (c∈vK l k)).flatMap fun k=>z0P b l i k c).length≤30000:=fun c=>by
  have:=zQ7 (fun i=>((qS l.length).filter fun k=>decide (c∈vK l k)).flatMap fun k=>z0P b l i k c) 300 (qS l.length) fun i _=>h1 i c
  rw[zGJ] at this
  omega
 have hL:zN (zCq l b) ([],0)=some (z5T b l):=by
  refine zPp (B:=zCq l b) (qS l.length) (fun c=>(qS l.length).flatMap fun i=>((qS l.length).filter fun k=>decide (c∈vK l k)).flatMap fun k=>z0P b l i k c) (fun s=>s) 30000 (fun c _=>h2 c) [] (fun q c s hc hs=>?_) (fun s=>?_)
  ·obtain⟨rfl,hq⟩:=zVA hc
   have hd:decide ((q:Int)<len l)=true:=by simp[len];omega
   simp only[Ud] at hs
   unfold zCq
   simp only[hd,Qc]
   refine(zPp (B:=zD3 l b (s,(q:Int))) (qS l.length) (fun i=>((qS l.length).filter fun k=>decide ((q:Int)∈vK l k)).flatMap fun k=>z0P b l i k (q:Int)) (fun r=>.inl (r,zM ((q:Int)+1))) 300 (fun i _=>h1 i _) s (fun u i s' hi hs'=>?_) (fun s'=>?_)).trans ?_
   ·obtain⟨rfl,hu⟩:=zVA hi
    have hd:decide ((u:Int)<len l)=true:=by simp[len];omega
    unfold zD3
    simp only[hd,Qc,z5s h (show(0:Int)≤u by omega) (by omega) (show(0:Int)≤q by omega) (by omega),zob,len0]
    cases hk:(zNo b l u q).isEmpty with
    | true =>
     have:zNo b l u q=[]:=List.isEmpty_iff.1 hk
     have hz:(((qS l.length).filter fun k=>decide ((q:Int)∈vK l k)).flatMap fun k=>z0P b l u k (q:Int))=[]:=by
      rw[List.flatMap_eq_nil_iff]
      intro k _
      simp only[z0P,this,List.map_nil]
     simp only[Qc,vN u (by omega),hz,QB]
    | false =>
     simp only[zbf,Qb]
     rw[z2A]
     refine(zPp (B:=zD1 l (s,(q:Int)) (zNo b l u q) (s',(u:Int))) (qS l.length) (fun k=>if decide ((q:Int)∈vK l k) then z0P b l u k (q:Int) else[]) (fun r=>.inl (r,zM ((u:Int)+1))) 3 (fun k _=>by
      split
      ·exact z2R b l _ _ _
      ·simp) s' (fun v k s'' hk2 hs''=>?_) (fun s''=>?_)).trans ?_
     ·obtain⟨rfl,hv⟩:=zVA hk2
      have hd:decide ((v:Int)<len l)=true:=by simp[len];omega
      have hsl:=zM3 l v
      unfold zD1
      simp only[hd,Qc,zZT h.toFormA (show(0:Int)≤v by omega) (by omega),zob,zLC (vK l v) q (by omega)]
      cases hm:decide ((q:Int)∈vK l v) with
      | false=>simp only[Q8,Qc,vN v (by omega),zbf,Qb,QB]
      | true =>
       simp only[QN,zbf,Qb,Qc]
       have hkl:=z7Z b l u q
       refine(zPp (B:=zGs (zNo b l u q) (s',(u:Int)) (s'',(v:Int)) (s,(q:Int))) (zNo b l u q) (fun kd=>[((u:Int),(v:Int),(q:Int),kd)]) (fun r=>.inl (r,zM ((v:Int)+1))) 1 (fun _ _=>by simp) s'' (fun w kd s3 hw hs3=>?_) (fun s3=>?_)).trans ?_
       ·have:=vV hw
        unfold zGs
        simp only[qY hw,Qc,qM hw,zob]
        rw[wS (by rw[Ur];omega)]
        simp only[zob,qR hw (by omega)]
       ·unfold zGs
        simp only[uU,zbf,Qb]
       ·simp only[vN v (by omega),z0P,List.map_eq_flatMap]
     ·unfold zD1
      have hd:decide (((qS l.length).length:Int)<len l)=false:=by rw[zGJ];exact uU l
      simp only[hd,zbf,Qb]
     ·simp only[vN u (by omega)]
   ·unfold zD3
    have hd:decide (((qS l.length).length:Int)<len l)=false:=by rw[zGJ];exact uU l
    simp only[hd,zbf,Qb]
   ·simp only[vN q (by omega)]
  ·unfold zCq
   have hd:decide (((qS l.length).length:Int)<len l)=false:=by rw[zGJ];exact uU l
   simp only[hd,zbf,Qb]
 have hPS:(z5T b l).Perm (zTo b l):=by
  refine(List.perm_ext_iff_of_nodup (z3C b l) ?_).2 fun y=>z7d y
  exact(z0X b l).imp fun {x y} h e=>by subst e;rw[ord4.irrefl] at h;cases h
 unfold zFD
 rw[hL]
 simp only[zob]
 have hlen:=zX9 (b:=b) hl
 rw[zUu (by rw[hPS.length_eq];omega)]
 simp only[zob]
 congr 1
 refine List.Perm.eq_of_pairwise (le:=fun x y=>lt4 y x=false) (fun x y _ _ g1 g2=>?_) (zNP ord4 _) ((z0X b l).imp fun h=>ord4.asymm h) ((List.mergeSort_perm _ _).trans hPS)
 rcases ord4.tri x y with h | h | h
 ·rw[h] at g2;cases g2
 ·exact h
 ·rw[h] at g1;cases g1
noncomputable def z3V (b:zI)(l:List zF)(o:vQ)(y:qL): Bool:=y.2.2.2==3||!zSP b l y.1 y.2.2.1 o
noncomputable def zF1 (b:zI)(l:List zF)(o:vQ): List qL:=(zTo b l).filter (z3V b l o)
theorem zW0 (h:FormB b l)(o:vQ): zDy b l o=some (zF1 b l o):=by
 have hlen:=zX9 (b:=b) h.len
 unfold zDy
 rw[z2O h]
 simp only[zob]
 have hd:=zZt (fun x=>zC9 x b l o) (fun x=>x.2.2.2 != 3&&zSP b l x.1 x.2.2.1 o) (0,0,0,0) (zTo b l) (by omega) (fun x _=>by
  simp only[zC9]
  cases hx:x.2.2.2 != 3 with
  | true=>simp[z5r h]
  | false=>simp)
 rw[show zA5 (zTo b l) b l o=zZX (fun x=>zC9 x b l o) (0,0,0,0) (zTo b l) from rfl,hd]
 simp only[zob,zF1]
 congr 1
 refine Uz fun x _=>?_
 simp only[z3V]
 cases hx:x.2.2.2==3 <;> simp[bne,hx]
end
section
theorem z7D{α:Type}[BEq α][LawfulBEq α]{lt:α->α->Bool}(O:zXh lt){l m:List α}(h:∀ x,x∈l↔x∈m): nrm lt l=nrm lt m:=by
 obtain⟨h1,h2⟩:=zGu O m
 exact zYY O h1 fun x=>by rw[h2,h]
theorem z9N (l m:List zC)(h:l.length<9223372036854775807): zNO l m=some (decide (l=m)) :=
 (show zNO l m=sameM l m from rfl).trans (z4m l m h)
end
section
theorem normP{a b:List zC}(h:List.length b<4294967296)(hp:a.Perm b): zB7 b=zB7 a:=by
 rw[zML h,zML (by rw[hp.length_eq];exact h),z7D zLi fun x=>hp.mem_iff.symm]
end
section
section
variable {α ρ:Type}
def tL (q:α->Bool)(l:List α): Int:=if l.any q then(l.findIdx q:Int) else -1
theorem zWv{B:Int->Option (Int⊕ρ)}(q:α->Bool)(l:List α)(no:ρ)(yes:Int->ρ)(hB:∀(i:Nat) x,l[i]?=some x->B (i:Int)=some (if q x then .inr (yes (i:Int)) else .inl ((i+1:Nat):Int)))(he:B (l.length:Int)=some (.inr no)):
  zN B 0=some (if l.any q then yes (tL q l) else no):=by
 have key:∀(n i:Nat),i+n=l.length->zN B (i:Int)=some (if(l.drop i).any q then yes ((i+(l.drop i).findIdx q:Nat):Int) else no):=by
  intro n
  induction n with
  | zero =>
   intro i h
   grind [vR]
  | succ n ih =>
   intro i h
   have hx:l[i]?=some l[i]:=Qe (by omega)
   rw[vR,hB i _ hx,Qx (by omega)]
   cases hp:q l[i] with
   | true=>grind
   | false =>
    simp only[zbf,Qb,List.any_cons,hp,UO,List.findIdx_cons,cond_false]
    grind
 have h:=key l.length 0 (by omega)
 grind [tL]
theorem z0E{q:α->Bool}{l:List α}{i:Nat}{x:α}(hx:l[i]?=some x)(hq:q x=true): 0≤tL q l∧tL q l≤i:=by
 have ha:l.any q=true:=QX.2 ⟨x,wF hx,hq⟩
 rw[tL,Qu ha]
 grind
theorem zSV{q:α->Bool}{l:List α}(h:0≤tL q l): ∃(k:Nat) (x:α),tL q l=(k:Int)∧l[k]?=some x∧q x=true∧∀ j y,j<k->l[j]?=some y->q y=false:=by
 unfold tL at h ⊢
 split at h
 ·rename_i ha
  rw[Qu ha]
  grind
 ·omega
theorem zVy{q:α->Bool}{l:List α}: tL q l<0↔l.any q=false:=by
 unfold tL
 cases h:l.any q
 ·simp
 ·simp
def zYK (e:Nat->α->Int): Nat->List α->Int
 | _,[]=>0
 | i,x::r=>if e i x != 0 then e i x else zYK e (i+1) r
theorem zWP{B:Int->Option (Int⊕ρ)}(l:List α)(e:Nat->α->Int)(yes:Int->ρ)(no:ρ)(hB:∀(i:Nat) x,l[i]?=some x->B (i:Int)=some (if e i x != 0 then .inr (yes (e i x)) else .inl ((i+1:Nat):Int)))(he:B (l.length:Int)=some (.inr no)):
  zN B 0=some (if zYK e 0 l != 0 then yes (zYK e 0 l) else no):=by
 have key:∀(n i:Nat),i+n=l.length->zN B (i:Int)=some (if zYK e i (l.drop i) != 0 then yes (zYK e i (l.drop i)) else no):=by
  intro n
  induction n with
  | zero =>
   intro i h
   grind [vR,zYK]
  | succ n ih =>
   intro i h
   have hx:l[i]?=some l[i]:=Qe (by omega)
   rw[vR,hB i _ hx,Qx (by omega)]
   simp[zYK]
   grind
 have h:=key l.length 0 (by omega)
 grind
theorem zXL{e:Nat->α->Int}: ∀ {l:List α} {k:Nat},zYK e k l=0↔∀(i:Nat) x,l[i]?=some x->e (k+i) x=0
 | [],k=>by simp[zYK]
 | x::r,k=>by
  simp only[zYK]
  constructor
  ·intro h
   cases hx:e k x != 0 with
   | true=>grind
   | false =>
    rw[hx] at h
    intro i y hy
    cases i with
    | zero=>grind
    | succ i=>rw[show k+(i+1)=k+1+i by omega];exact zXL.1 h i y (by grind)
  ·intro h
   have h0:=h 0 x rfl
   rw[Q4] at h0
   rw[h0]
   exact zXL.2 fun i y hy=>by rw[show k+1+i=k+(i+1) by omega];simp_all
end
abbrev tU (n:Int): Bool:=decide (0≤n)&&decide (n≤9)
def zNc (p:qZ): Int :=
 if p.2.1==1||p.2.1==2||p.2.1==3 then
  if vName p.1.2&&tU p.2.2.1&&(p.2.1==2||p.2.2.1==0)&&(p.2.2.2==[]||vName p.2.2.2) then 0 else 1
 else 4
def z2w:List zC->Bool
 | a::b::r=>wQ a b&&z2w (b::r)
 | _=>true
def uJ (r:zR): Int :=
 if 4<r.2.2.2.1.length then 2
 else if vName r.1&&vName r.2.2.2.2.2&&tU r.2.2.1&&(!r.2.1||r.2.2.1==0)&&r.2.2.2.1.all (fun x=>vName x.2) then(if z2w r.2.2.2.1 then 0 else 8) else 1
def uY (b:zI)(nm:zD): Int:=tL (fun r:zR=>r.1==nm) b.2.1
def z3M (b:zI)(x:zC): Int:=tL (fun p:qZ=>p.1==x) b.1
def zRj (b:zI)(p:wB): Int :=
 if tU p.2.1&&vName p.2.2.2 then(if uY b p.1<0 then 6 else match zB b.2.1 (uY b p.1) with | some r=>if r.2.1 then 4 else 0 | none=>0) else 1
def zNb (b:zI): Int :=
 if 16<b.1.length||24<b.2.1.length||8<b.2.2.length then 2
 else
  let e1:=zYK (fun i p=>if zNc p != 0 then zNc p else if z3M b p.1<(i:Int) then 5 else 0) 0 b.1
  if e1 != 0 then e1 else
  let e2:=zYK (fun i r=>if uJ r != 0 then uJ r else if uY b r.1<(i:Int) then 5 else 0) 0 b.2.1
  if e2 != 0 then e2 else zYK (fun _ p=>zRj b p) 0 b.2.2
theorem z4w (p:qZ): zDk p=some (zNc p):=by
 unfold zDk zD2 zFX zNc
 simp only[zLL,zQd,zob]
 by_cases k1:p.2.1=1
 ·by_cases h0:p.2.2.1=0
  ·cases vName p.1.2 <;> cases p.2.2.2==[] <;> cases vName p.2.2.2 <;> simp[k1,h0,wZ]
  ·simp[k1,h0,wZ]
 ·by_cases k3:p.2.1=3
  ·by_cases h0:p.2.2.1=0
   ·cases vName p.1.2 <;> cases p.2.2.2==[] <;> cases vName p.2.2.2 <;> simp[k3,h0,wZ]
   ·simp[k3,h0,wZ]
  ·by_cases k2:p.2.1=2
   ·cases hr:tU p.2.2.1 <;> cases vName p.1.2 <;> cases p.2.2.2==[] <;> cases vName p.2.2.2 <;> simp[k2,wZ,hr]
   ·simp[k1,k2,k3,wZ]
theorem z6u{B:Int->Option (Int⊕Int)}(l:List zC)(hl:l.length<4294967296)
  (hB:∀(i:Nat) x y,l[i]?=some x->l[i+1]?=some y->B ((i+1:Nat):Int)=some (if decide (0≤zWY x y) then .inr 8 else .inl ((i+1+1:Nat):Int))) (he:∀ k:Nat,l.length≤k->B (k:Int)=some (.inr 0)) :
  zN B 1=some (if z2w l then 0 else 8):=by
 have key:∀(n i:Nat),i+1+n=l.length->zN B ((i+1:Nat):Int)=some (if z2w (l.drop i) then 0 else 8):=by
  intro n
  induction n with
  | zero =>
   intro i h
   rw[vR,he (i+1) (by omega),Qx (by omega),QZ (by omega)]
   rfl
  | succ n ih =>
   intro i h
   have hx:l[i]?=some l[i]:=Qe (by omega)
   have hy:l[i+1]?=some l[i+1]:=Qe (by omega)
   rw[vR,hB i _ _ hx hy,Qx (by omega),Qx (by omega)]
   have hc:decide (0≤zWY l[i] l[i+1])=!wQ l[i] l[i+1]:=by
    unfold zWY
    cases wQ l[i] l[i+1] with
    | true=>simp
    | false =>
     grind
   rw[hc]
   cases hlt:wQ l[i] l[i+1] with
   | true =>
    simp only[QN,zbf,Qb]
    rw[ih (i+1) (by omega),Qx (show i+1<l.length by omega)]
    simp[z2w,hlt]
   | false=>simp[z2w,hlt]
 match l,hl,hB,he,key with
 | [],_,_,he,_=>rw[vR,show(1:Int)=((1:Nat):Int) from rfl,he 1 (by simp)];rfl
 | x::r,_,_,_,key=>exact key r.length 0 (by simp;omega)
theorem rb_rule (r:zR): zG3 r=some (uJ r):=by
 unfold zG3 uJ
 by_cases h4:4<r.2.2.2.1.length
 ·have:decide (4<len r.2.2.2.1)=true:=by simp[len];omega
  simp only[this,Qc,h4]
 have hr:r.2.2.2.1.length<4294967296:=by omega
 have:decide (4<len r.2.2.2.1)=false:=by simp[len];omega
 simp only[this,zbf,Qb,h4,zQd,zLL,zD2,zob]
 have hc:(if(!vName r.1)=true then some true else if(!vName r.2.2.2.2.2)=true then some true else if(!(decide (0≤r.2.2.1)&&decide (r.2.2.1≤9)))=true then some true else if r.2.1=true then some (r.2.2.1 != 0) else some false)
   = some (!(vName r.1&&vName r.2.2.2.2.2&&tU r.2.2.1&&(!r.2.1||r.2.2.1==0))):=by
  cases vName r.1 <;> cases vName r.2.2.2.2.2 <;> cases hk:tU r.2.2.1 <;> cases r.2.1 <;> simp[hk,bne]
 rw[hc]
 simp only[zob]
 cases hg:(vName r.1&&vName r.2.2.2.2.2&&tU r.2.2.1&&(!r.2.1||r.2.2.1==0)) with
 | false=>simp
 | true =>
  simp only[QN,zbf,Qb,Ux]
  have h1:=z1M (B:=zDi r) r.2.2.2.1 (fun x=>!vName x.2) (.inr 1:Unit⊕Int) (.inl ()) (fun i x hx=>by
   unfold zDi
   simp only[qY hx,Qc,qM hx,zob,zLL,qR hx hr]
   cases vName x.2 <;> rfl) (by unfold zDi;simp only[uU,zbf,Qb])
  rw[h1]
  have hall:r.2.2.2.1.all (fun x=>vName x.2)=!r.2.2.2.1.any (fun x=>!vName x.2):=by rw[Ws]
  rw[hall]
  cases r.2.2.2.1.any (fun x=>!vName x.2) with
  | true=>rfl
  | false =>
   simp only[wZ,zob,zbf,Qb,Q8,Qc]
   refine z6u (B:=zHf r) r.2.2.2.1 hr (fun i x y hx hy=>?_) (fun k hk=>?_)
   ·unfold zHf
    have e1:zM (((i+1:Nat):Int)-1)=(i:Int):=by have:=vV hy;rw[uL (by omega) (by omega)];omega
    simp only[qY hy,Qc,qM hy,e1,qM hx,zob,zOt,qR hy hr]
    split <;> rfl
   ·unfold zHf
    have:decide ((k:Int)<len r.2.2.2.1)=false:=by simp[len];omega
    simp only[this,zbf,Qb]
theorem z2y{α:Type}(q:α->Bool)(l:List α): (if l.any q then tL q l else -1)=tL q l:=by grind [tL]
theorem z2a (b:zI)(nm:zD)(h:b.2.1.length<4294967296): zDd b nm=some (uY b nm):=by
 have:=zWv (B:=zBS b.2.1 nm) (fun r:zR=>r.1==nm) b.2.1 (-1:Int) (fun i=>i) (fun i x hx=>by
  unfold zBS zKg
  simp only[qY hx,Qc,qM hx,zob,qR hx h]
  split <;> rfl) (by unfold zBS;simp only[uU,zbf,Qb])
 rw[z2y] at this
 unfold zDd zAu
 rw[this]
 rfl
theorem z4r (b:zI)(x:zC)(h:b.1.length<4294967296): zDr b x=some (z3M b x):=by
 have:=zWv (B:=zAl b.1 x) (fun r:qZ=>r.1==x) b.1 (-1:Int) (fun i=>i) (fun i x hx=>by
  unfold zAl zIq
  simp only[qY hx,Qc,qM hx,zob,qR hx h]
  split <;> rfl) (by unfold zAl;simp only[uU,zbf,Qb])
 rw[z2y] at this
 unfold zDr zAZ
 rw[this]
 rfl
theorem z5i{b:zI}{nm:zD}(h:¬ uY b nm<0): ∃ r,zB b.2.1 (uY b nm)=some r:=by
 obtain⟨k,x,h1,h2,_⟩:=zSV (q:=fun r:zR=>r.1==nm) (l:=b.2.1) (by unfold uY at h;omega)
 grind [uY,zB]
theorem z1E (b:zI)(p:wB)(h:b.2.1.length<4294967296): zDL b p=some (zRj b p):=by
 unfold zDL zRj zD2
 simp only[zLL,z2a b p.1 h,zob,tU]
 by_cases hr:(decide (0≤p.2.1)&&decide (p.2.1≤9))=true
 ·simp only[hr,Ux,QN,zbf,Qb]
  cases hv:vName p.2.2.2 with
  | false=>rfl
  | true =>
   simp only[QN,zbf,Qb,zob,Qc]
   by_cases hn:uY b p.1<0
   ·simp[hn]
   ·obtain⟨r,hr2⟩:=z5i hn
    simp only[hn,decide_false,zbf,Qb,hr2,zob]
    split <;> rfl
 ·rw[Wm] at hr
  simp only[hr,Ui,Q8,Qc,zob,zbf,Qb]
structure Cnt (b:zI): Prop where
 p:b.1.length<4294967296
 r:b.2.1.length<4294967296
 m:b.2.2.length<4294967296
 q:∀ r∈b.2.1,r.2.2.2.1.length<4294967296
structure Cnt3 (b:zI): Prop where
 p:b.1.length<4294967296
 r:b.2.1.length<4294967296
 m:b.2.2.length<4294967296
theorem Cnt.c3{b:zI}(h:Cnt b): Cnt3 b:=⟨h.p,h.r,h.m⟩
theorem z1C{b:zI}(h:Cnt3 b): zBY b=some (zNb b):=by
 unfold zBY zNb
 have h0:(decide (16<len b.1)||(decide (24<len b.2.1)||decide (8<len b.2.2)))=(decide (16<b.1.length)||decide (24<b.2.1.length)||decide (8<b.2.2.length)):=by
  rw[QV];simp[len];omega
 rw[h0]
 cases hc:(decide (16<b.1.length)||decide (24<b.2.1.length)||decide (8<b.2.2.length)) with
 | true=>simp
 | false =>
  simp only[zbf,Qb]
  rw[zWP (B:=zCb b) b.1 (fun i p=>if zNc p != 0 then zNc p else if z3M b p.1<(i:Int) then 5 else 0) (fun e=>(.inr e:Unit⊕Int)) (.inl ()) (fun i x hx=>by
   unfold zCb
   simp only[qY hx,Qc,qM hx,zob,z4w,z4r b x.1 h.p,qR hx h.p]
   cases hp:zNc x != 0 with
   | true=>simp only[Qc,hp]
   | false =>
    by_cases hq:z3M b x.1<(i:Int)
    ·simp[hq]
    ·simp[hq]) (by unfold zCb;simp only[uU,zbf,Qb])]
  cases he:zYK (fun i p=>if zNc p != 0 then zNc p else if z3M b p.1<(i:Int) then 5 else 0) 0 b.1 != 0 with
  | true=>simp[wZ]
  | false =>
   simp only[zbf,Qb,wZ,zob]
   rw[zWP (B:=zCe b) b.2.1 (fun i r=>if uJ r != 0 then uJ r else if uY b r.1<(i:Int) then 5 else 0) (fun e=>(.inr e:Unit⊕Int)) (.inl ()) (fun i x hx=>by
    unfold zCe
    simp only[qY hx,Qc,qM hx,zob,rb_rule x,z2a b x.1 h.r,qR hx h.r]
    cases hp:uJ x != 0 with
    | true=>simp only[Qc,hp]
    | false =>
     by_cases hq:uY b x.1<(i:Int)
     ·simp[hq]
     ·simp[hq]) (by unfold zCe;simp only[uU,zbf,Qb])]
   cases he2:zYK (fun i r=>if uJ r != 0 then uJ r else if uY b r.1<(i:Int) then 5 else 0) 0 b.2.1 != 0 with
   | true=>simp
   | false =>
    simp only[zbf,Qb,zob]
    rw[zWP (B:=zCg b) b.2.2 (fun _ p=>zRj b p) (fun e=>e) 0 (fun i x hx=>by
     unfold zCg
     simp only[qY hx,Qc,qM hx,zob,z1E b x h.r,qR hx h.m]
     split <;> rfl) (by unfold zCg;simp only[uU,zbf,Qb])]
    cases hz:zYK (fun _ p=>zRj b p) 0 b.2.2 != 0 with
    | true=>simp
    | false=>simp only[zbf,Qb];congr 1;exact(by simpa using hz:_=(0:Int)).symm
theorem zM9{b:zI}(h:Cnt b): zBY b=some (zNb b):=z1C h.c3
structure xH (b:zI): Prop where
 np:b.1.length≤16
 nr:b.2.1.length≤24
 nm:b.2.2.length≤8
 prem:∀ p∈b.1,zNc p=0
 rule:∀ r∈b.2.1,uJ r=0
 dp:∀(i j:Nat) p q,b.1[i]?=some p->b.1[j]?=some q->p.1=q.1->i=j
 dr:∀(i j:Nat) p q,b.2.1[i]?=some p->b.2.1[j]?=some q->p.1=q.1->i=j
 prom:∀ p∈b.2.2,zRj b p=0
theorem zY5{α β:Type}[BEq β][LawfulBEq β](g:α->β)(l:List α): (∀(i:Nat) p,l[i]?=some p->¬ tL (fun x=>g x==g p) l<(i:Int))↔∀(i j:Nat) p q,l[i]?=some p->l[j]?=some q->g p=g q->i=j:=by
 constructor
 ·intro h i j p q hp hq e
  have h3:=(z0E (q:=fun x=>g x==g p) hq (by simp[e])).2
  have h4:=(z0E (q:=fun x=>g x==g q) hp (by simp[e])).2
  grind
 ·intro h i p hp hlt
  have h1:=z0E (q:=fun x=>g x==g p) hp (by simp)
  grind [zSV]
theorem zI5{b:zI}: zNb b=0↔xH b:=by
 have hcnd:∀(a c:Int) (p:Prop) [Decidable p],(if a != 0 then a else if p then 5 else 0)=(0:Int)↔a=0∧¬ p:=fun a c p _=>by
  grind
 have h1:zYK (fun i p=>if zNc p != 0 then zNc p else if z3M b p.1<(i:Int) then 5 else 0) 0 b.1=0↔(∀ p∈b.1,zNc p=0)∧∀(i j:Nat) p q,b.1[i]?=some p->b.1[j]?=some q->p.1=q.1->i=j:=by
  rw[zXL,←zY5 (fun p:qZ=>p.1)]
  simp only[UF,hcnd _ 0]
  exact⟨fun h=>⟨fun p hp=>by grind [List.mem_iff_getElem?],fun i p hp=>(h i p hp).2⟩,fun h i p hp=>⟨h.1 p (wF hp),h.2 i p hp⟩⟩
 have h2:zYK (fun i r=>if uJ r != 0 then uJ r else if uY b r.1<(i:Int) then 5 else 0) 0 b.2.1=0↔(∀ p∈b.2.1,uJ p=0)∧∀(i j:Nat) p q,b.2.1[i]?=some p->b.2.1[j]?=some q->p.1=q.1->i=j:=by
  rw[zXL,←zY5 (fun p:zR=>p.1)]
  simp only[UF,hcnd _ 0]
  exact⟨fun h=>⟨fun p hp=>by grind [List.mem_iff_getElem?],fun i p hp=>(h i p hp).2⟩,fun h i p hp=>⟨h.1 p (wF hp),h.2 i p hp⟩⟩
 have h3:zYK (fun _ p=>zRj b p) 0 b.2.2=0↔∀ p∈b.2.2,zRj b p=0:=by
  rw[zXL]
  exact⟨fun h p hp=>by grind [List.mem_iff_getElem?],fun h i p hp=>h p (wF hp)⟩
 unfold zNb
 cases hc:(decide (16<b.1.length)||decide (24<b.2.1.length)||decide (8<b.2.2.length)) with
 | true =>
  refine⟨fun h=>(by cases h),fun h=>?_⟩
  simp at hc
  have:=h.np;have:=h.nr;have:=h.nm
  omega
 | false =>
  simp at hc
  simp only[zbf,Qb]
  constructor
  ·intro h
   have e1:zYK (fun i p=>if zNc p != 0 then zNc p else if z3M b p.1<(i:Int) then 5 else 0) 0 b.1=0:=by
    refine Decidable.byContradiction fun hn=>?_
    rw[Qu (by grind)] at h
    exact hn h
   rw[Qq (by grind)] at h
   have e2:zYK (fun i r=>if uJ r != 0 then uJ r else if uY b r.1<(i:Int) then 5 else 0) 0 b.2.1=0:=by
    refine Decidable.byContradiction fun hn=>?_
    rw[Qu (by grind)] at h
    exact hn h
   rw[Qq (by grind)] at h
   exact⟨by omega,by omega,by omega,(h1.1 e1).1,(h2.1 e2).1,(h1.1 e1).2,(h2.1 e2).2,h3.1 h⟩
  ·intro h
   rw[Qq (by rw[h1.2 ⟨h.prem,h.dp⟩];simp),Qq (by rw[h2.2 ⟨h.rule,h.dr⟩];simp)]
   exact h3.2 h.prom
end
section
variable {b:zI}{l m:List zF}
structure FormC (b:zI)(l:List zF): Prop extends FormB b l where
 l41:l.length≤41
 pr:∀(i:Nat) a p,l[i]?=some a->0≤a.1->zB b.1 a.1=some p->a.2.2.2=p.1∧a.2.2.1=[]
 ru:∀(i:Nat) a r,l[i]?=some a->0≤a.2.1->zB b.2.1 a.2.1=some r->a.2.2.2=r.2.2.2.2∧a.2.2.1.length=r.2.2.2.1.length∧∀(j:Nat) k y,a.2.2.1[j]?=some k->r.2.2.2.1[j]?=some y->∃ a',zB l k=some a'∧a'.2.2.2=y
structure Good (b:zI)(l:List zF)(a:zF): Prop where
 p:a.1=-1
 r:∃ q,zB b.2.1 a.2.1=some q∧a.2.2.2=q.2.2.2.2∧a.2.2.1.length=q.2.2.2.1.length∧a.2.2.1.length≤100∧∀(j:Nat) k y,a.2.2.1[j]?=some k->q.2.2.2.1[j]?=some y->∃ a',zB l k=some a'∧a'.2.2.2=y
theorem zSf{α:Type}{l:List α}{i:Int}{x:α}(h:zB l i=some x): 0≤i∧i<l.length:=by
 obtain⟨n,rfl,hn⟩:=zPM h
 grind
theorem zWq{α:Type}{l m:List α}{i:Int}{x:α}(h:zB l i=some x): zB (l++m) i=some x:=by
 obtain⟨n,rfl,hn⟩:=zPM h
 rw[xW,QY (vV hn)]
 exact hn
theorem zOF{α:Type}{l m:List α}{i:Int}(h1:i<l.length): zB (l++m) i=zB l i:=by grind [zB]
theorem Good.sub{a:zF}(h:Good b l a): ∀ k∈a.2.2.1,0≤k∧k<l.length:=by
 intro k hk
 obtain⟨q,_,_,h3,_,h5⟩:=h.r
 obtain⟨j,hj⟩:=Qn.1 hk
 have hjl:=vV hj
 obtain⟨a',h6,_⟩:=h5 j k _ hj (Qe (by omega))
 exact zSf h6
theorem FormC.app (h:FormC b l)(hm:∀ a∈m,Good b l a)(hl:l.length+m.length≤41): FormC b (l++m):=by
 have hlen:(l++m).length≤41:=by rw[Qh];exact hl
 have key:∀(i:Nat) a,(l++m)[i]?=some a->(l[i]?=some a∧i<l.length)∨(l.length≤i∧a∈m):=fun i a ha=>by
  grind
 refine⟨⟨⟨by omega,fun a ha=>?_,fun i a ha k hk=>?_⟩,h.np,h.nr,fun i a ha=>?_⟩,hlen,fun i a p ha h0 hp=>?_,fun i a r ha h0 hr=>?_⟩
 ·rcases Qd.1 ha with ha | ha
  ·exact h.nsub a ha
  ·obtain⟨q,_,_,_,h4,_⟩:=(hm a ha).r;exact h4
 ·rcases key i a ha with⟨h1,_⟩ | ⟨h1,h2⟩
  ·exact h.sub i a h1 k hk
  ·have:=(hm a h2).sub k hk;omega
 ·rcases key i a ha with⟨h1,_⟩ | ⟨h1,h2⟩
  ·exact h.kind i a h1
  ·obtain⟨q,h3,_⟩:=(hm a h2).r
   have:=zSf h3
   exact .inr ⟨(hm a h2).p,this⟩
 ·rcases key i a ha with⟨h1,_⟩ | ⟨h1,h2⟩
  ·exact h.pr i a p h1 h0 hp
  ·rw[(hm a h2).p] at h0;omega
 ·rcases key i a ha with⟨h1,_⟩ | ⟨h1,h2⟩
  ·obtain⟨g1,g2,g3⟩:=h.ru i a r h1 h0 hr
   grind [zWq]
  ·obtain⟨q,g1,g2,g3,_,g5⟩:=(hm a h2).r
   grind [zWq]
theorem sub_app (h:FormA l){i j:Int}(h0:0≤i)(h1:i<l.length): xP (l++m) i j↔xP l i j:=by
 constructor
 ·intro hs
  induction hs with
  | self i=>exact .self i
  | step hi hk _ ih =>
   rw[zOF h1] at hi
   have:=(h.at hi).2.2.2 _ hk
   exact .step hi hk (ih this.1 (by omega))
 ·intro hs
  clear h0 h1
  induction hs with
  | self i=>exact .self i
  | step hi hk _ ih=>exact .step (zWq hi) hk ih
theorem z9P (h:FormA l)(h':FormA (l++m)){i:Int}(h0:0≤i)(h1:i<l.length): vK (l++m) i=vK l i:=by grind [vX.ext,zE9,zTP,zEC,sub_app]
theorem z9R (h:FormC b l)(h':FormC b (l++m)){i:Int}(h0:0≤i)(h1:i<l.length): vG b (l++m) i=vG b l i:=by
 refine vX.ext zE9 (z6n _) (z6n _) fun y=>?_
 rw[zKD h.toFormB h0 h1,zKD h'.toFormB h0 (by grind),z9P h.toFormA h'.toFormA h0 h1]
 refine exists_congr fun j=>and_congr_right fun hj=>?_
 have:=((zEC h.toFormA h0 h1 j).1 hj).le h.toFormA h0
 rw[zOF (by omega)]
inductive zOv (b:zI)(l:List zF): Int->zC->Prop
 | here {i:Int} {a:zF}:zB l i=some a->zOv b l i a.2.2.2
 | step {i k:Int} {a:zF} {r:zR} {y:zC}:zB l i=some a->0≤a.2.1->zB b.2.1 a.2.1=some r->r.2.1=true->k∈a.2.2.1->zOv b l k y->zOv b l i y
theorem run_app (h:FormA l){i:Int}{y:zC}(h0:0≤i)(h1:i<l.length): zOv b (l++m) i y↔zOv b l i y:=by
 constructor
 ·intro hs
  induction hs with
  | here hi=>rw[zOF h1] at hi;exact .here hi
  | step hi hr hq hs hk _ ih =>
   rw[zOF h1] at hi
   have:=(h.at hi).2.2.2 _ hk
   exact .step hi hr hq hs hk (ih this.1 (by omega))
 ·intro hs
  clear h0 h1
  induction hs with
  | here hi=>exact .here (zWq hi)
  | step hi hr hq hs hk _ ih=>exact .step (zWq hi) hr hq hs hk ih
structure RunsA (b:zI)(l:List zF): Prop where
 arg:∀ i:Int,0≤i->i<l.length->∃ r,zH4 b l i=some r∧r.length<2199023255552∧∀ y,y∈r↔zOv b l i y
structure z8D (b:zI)(l:List zF)(sz:Int->Nat): Prop where
 one:∀ i,1≤sz i
 big:∀ i:Int,0≤i->i<l.length->sz i<2199023255552
 step:∀ i a r,zB l i=some a->0≤a.2.1->zB b.2.1 a.2.1=some r->r.2.1=true->1+(a.2.2.1.map sz).sum≤sz i
theorem z2q (f:Int->Nat)(l:List Int)(q:Nat): ((l.take q).map f).sum≤(l.map f).sum:=by
 have h:=congrArg (fun x=>(x.map f).sum) (QT q l)
 grind
theorem apw_ok{α:Type}{l m:List α}(h:l.length+m.length<2199023255552): apw l m=some (l++m):=by simp[apw,h]
theorem z5b{sz:Int->Nat}(h:FormB b l)(hz:z8D b l sz): ∀(n:Nat) (i:Int),0≤i->i<l.length->i<n->∃ r,zBW n b l i=some r∧r.length≤sz i∧∀ y,y∈r↔zOv b l i y:=by
 intro n
 induction n with
 | zero=>grind
 | succ n ih =>
  intro i h0 h1 h2
  obtain⟨a,ha⟩:=zLM h0 h1
  obtain⟨hn,_,_,hsub⟩:=h.toFormA.at ha
  have h1z:=hz.one i
  show ∃ r,zD8 (zBW n) b l i=some r∧_
  unfold zD8
  simp only[ha,zob]
  have hone:∀(hno:∀ r,0≤a.2.1->zB b.2.1 a.2.1=some r->r.2.1=false) y,y∈[a.2.2.2]↔zOv b l i y:=fun hno y=>by
   rw[Qa]
   constructor
   ·rintro rfl;exact .here ha
   ·intro hr
    cases hr with
    | here h1=>grind
    | step h1 h2 h3 h4 _ _=>grind
  by_cases hr:0≤a.2.1
  ·obtain⟨r,hr2⟩:=(h.prem ha).2.1 ((h.prem ha).2.2.1 hr)
   simp only[hr,decide_true,Qc,hr2,zob]
   cases hs:r.2.1 with
   | false =>
    grind
   | true =>
    simp only[Qc]
    have hst:=hz.step i a r ha hr hr2 hs
    have hbig:=hz.big i h0 h1
    refine(xS (B:=zCt a (zBW n) b l) (fun q (s:List zC)=>(s,(q:Int))) a.2.2.1 (fun q s=>s.length≤1+((a.2.2.1.take q).map sz).sum∧∀ y,y∈s↔y=a.2.2.2∨∃ k∈a.2.2.1.take q,zOv b l k y)
     (fun r=>r.length≤sz i∧∀ y,y∈r↔zOv b l i y) (fun q k s hk hI=>?_) (fun s hI=>?_) [a.2.2.2] (by simp))
    ·obtain⟨g1,g2⟩:=hI
     have hks:=hsub k (wF hk)
     obtain⟨r1,e1,e2,e3⟩:=ih k hks.1 (by omega) (by omega)
     have hq:=z2q sz a.2.2.1 (q+1)
     rw[xY hk,We,List.sum_append] at hq
     simp only[Ua,List.map_nil,List.sum_cons,List.sum_nil] at hq
     refine .inl ⟨s++r1,?_,?_,fun y=>?_⟩
     ·unfold zCt
      simp only[ha,zob,qY hk,Qc,qM hk,e1]
      rw[apw_ok (by omega)]
      simp[qR hk (show a.2.2.1.length<4294967296 by omega)]
     ·rw[xY hk,We,List.sum_append,Qh]
      grind
     ·rw[Qd,g2,e3,xY hk]
      grind
    ·obtain⟨g1,g2⟩:=hI
     rw[QU] at g1 g2
     refine⟨s,by unfold zCt;grind,by omega,fun y=>?_⟩
     rw[g2]
     constructor
     ·rintro (rfl | ⟨k,h1,h2⟩)
      ·exact .here ha
      ·exact .step ha hr hr2 hs h1 h2
     ·intro hrun
      cases hrun with
      | here h1=>grind
      | step h1 _ _ _ h5 h6=>grind
  ·simp[hr]
   grind
theorem z1Y{n n':Nat}(b:zI)(l:List zF): n≤n'->∀ i r,zBW n b l i=some r->zBW n' b l i=some r:=by
 have key:∀ n n',n≤n'->∀ i r,zBW n b l i=some r->zBW n' b l i=some r:=by
  intro n
  induction n with
  | zero=>intro n' _ i r h;cases h
  | succ n ih =>
   intro n' hn i r h
   obtain⟨n',rfl⟩:∃ q,n'=q+1:=⟨n' - 1,by omega⟩
   have hle:Le (zD8 (zBW n) b l i) (zD8 (zBW n') b l i):=by
    have hrec:∀ x,Le (zBW n b l x) (zBW n' b l x):=fun x=>⟨fun r hr=>ih n' (by omega) x r hr⟩
    unfold zD8
    refine Le.bind (Le.refl _) fun x1=>Le.bind (Le.refl _) fun x2=>Le.bind (Le.refl _) fun s1=>?_
    refine Le.ite (Le.bind (Le.refl _) fun x4=>?_) (Le.refl _)
    refine⟨fun r hr=>?_⟩
    obtain⟨q,hq⟩:=zNK hr
    refine(Le.lp (B:=zCt x4 (zBW n) b l) (fun s=>?_) q _).el r hq
    unfold zCt
    refine Le.ite ?_ (Le.refl _)
    refine Le.bind (Le.refl _) fun x5=>Le.bind (hrec _) fun r1=>Le.refl _
   exact hle.el r h
 grind
theorem arg_run{sz:Int->Nat}(h:FormB b l)(hz:z8D b l sz){i:Int}(h0:0≤i)(h1:i<l.length): ∃ r,zH4 b l i=some r∧r.length<2199023255552∧∀ y,y∈r↔zOv b l i y:=by
 obtain⟨r,e1,e2,e3⟩:=z5b h hz (i.toNat+1) i h0 h1 (by omega)
 have:=hz.big i h0 h1
 exact⟨r,zUN (i.toNat+1) fun m hm=>z1Y b l hm i r e1,by omega,e3⟩
theorem runsA{sz:Int->Nat}(h:FormB b l)(hz:z8D b l sz): RunsA b l :=
 ⟨fun _ h0 h1=>arg_run h hz h0 h1⟩
open Classical in
noncomputable def z7s (b:zI)(l:List zF)(q:Int)(r:zR)(k:Int): Bool:=if r.2.1 then decide (zOv b l k r.2.2.2.2) else decide (q∈vG b l k)
noncomputable def zEe (b:zI)(l:List zF)(q:Int)(r:zR)(subs:List Int): Bool:=!subs.any (z7s b l q r)
theorem zUQ (h:FormC b l)(h':FormC b (l++m)){q:Int}{r:zR}{subs:List Int}(hs:∀ k∈subs,0≤k∧k<l.length): zEe b (l++m) q r subs=zEe b l q r subs:=by
 unfold zEe
 congr 1
 rw[QV,QX,QX]
 refine exists_congr fun k=>and_congr_right fun hk=>?_
 have:=hs k hk
 unfold z7s
 rw[z9R h h' this.1 this.2]
 split
 ·simp;exact run_app h.toFormA this.1 this.2
 grind
theorem z5G (h:FormC b l)(hr:RunsA b l){q:Int}{r:zR}{subs:List Int}(hq:zB b.2.1 q=some r)(hs:∀ k∈subs,0≤k∧k<l.length)(hn:subs.length<4294967296): zD4 b l q subs=some (zEe b l q r subs):=by
 have hl:=h.len
 unfold zD4
 have hL:=z1M (B:=zDK subs b q l) subs (z7s b l q r) false true (fun i k hk=>?_) (by unfold zDK;simp only[uU,zbf,Qb])
 ·rw[hL]
  unfold zEe
  cases subs.any (z7s b l q r) <;> rfl
 ·have hks:=hs k (wF hk)
  unfold zDK
  simp only[qY hk,Qc,qM hk,zob,qR hk hn,hq]
  unfold z7s
  cases hst:r.2.1 with
  | true =>
   obtain⟨ru,e1,e2,e3⟩:=hr.arg k hks.1 hks.2
   simp only[Qc,e1,zob,z5d r.2.2.2.2 (show ru.length<9223372036854775807 by omega)]
   by_cases hm:zOv b l k r.2.2.2.2
   ·simp[(e3 _).2 hm,hm]
   ·have:¬ r.2.2.2.2∈ru:=fun hc=>hm ((e3 _).1 hc)
    simp[this,hm]
  | false =>
   have hd:=zSx b l k
   simp only[zbf,Qb,zR1 h.toFormB hks.1 hks.2,zob,zLC (vG b l k) q (by omega)]
   by_cases hm:q∈vG b l k <;> simp[hm]
def chS (l:List zF)(n:Nat): List zC->List Int->List (List Int)
 | [],sofar=>[sofar]
 | y::ys,sofar=>(qS n).flatMap fun i=>match zB l i with
  | some a=>if a.2.2.2==y then chS l n ys (sofar++[i]) else[]
  | none=>[]
theorem zUA (l:List zF)(n:Nat): ∀(ys:List zC) (sofar s:List Int),s∈chS l n ys sofar↔∃ t,s=sofar++t∧t.length=ys.length∧∀(j:Nat) k y,t[j]?=some k->ys[j]?=some y->0≤k∧k<n∧∃ a,zB l k=some a∧a.2.2.2=y
 | [],sofar,s=>by
  simp only[chS,Qa]
  simp_all
 | y::ys,sofar,s=>by
  simp only[chS,Qz,xO]
  constructor
  ·rintro ⟨i,hi,hs⟩
   split at hs
   ·rename_i a ha
    split at hs
    ·rename_i hc
     obtain⟨t,h1,h2,h3⟩:=(zUA l n ys _ s).1 hs
     grind
    ·cases hs
   ·cases hs
  ·rintro ⟨t,h1,h2,h3⟩
   cases t with
   | nil=>simp at h2
   | cons i t =>
    obtain⟨i0,i1,a,ha,hay⟩:=h3 0 i y rfl rfl
    refine⟨i,⟨i0,i1⟩,?_⟩
    simp only[ha]
    rw[Qu (by simp[hay])]
    exact(zUA l n ys _ s).2 ⟨t,by grind,by grind,fun j k z hk hz=>h3 (j+1) k z (by grind) (by grind)⟩
end
section
variable {b:zI}{l m:List zF}
structure zO0 (b:zI)(l:List zF): Prop extends FormC b l where
 cut:∀(i:Nat) a r,l[i]?=some a->0≤a.2.1->zB b.2.1 a.2.1=some r->zEe b l a.2.1 r a.2.2.1=true
structure zOg (b:zI)(D:List zC)(c:Nat): Prop where
 valid:xH b
theorem zOV{r:zR}(h:uJ r=0): r.2.2.2.1.length≤4:=by
 unfold uJ at h
 grind
theorem zOg.body{D:List zC}{c:Nat}(h:zOg b D c){q:Int}{r:zR}(hq:zB b.2.1 q=some r): r.2.2.2.1.length≤4:=by
 obtain⟨n,rfl,hn⟩:=zPM hq
 exact zOV (h.valid.rule r (wF hn))
theorem FormC.prI (h:FormC b l){i:Int}{a:zF}(ha:zB l i=some a){p:qZ}(h0:0≤a.1)(hp:zB b.1 a.1=some p): a.2.2.2=p.1∧a.2.2.1=[]:=by
 obtain⟨n,rfl,hn⟩:=zPM ha
 exact h.pr n a p hn h0 hp
theorem FormC.ruI (h:FormC b l){i:Int}{a:zF}(ha:zB l i=some a){r:zR}(h0:0≤a.2.1)(hr:zB b.2.1 a.2.1=some r): a.2.2.2=r.2.2.2.2∧a.2.2.1.length=r.2.2.2.1.length∧∀(j:Nat) k y,a.2.2.1[j]?=some k->r.2.2.2.1[j]?=some y->∃ a',zB l k=some a'∧a'.2.2.2=y:=by
 obtain⟨n,rfl,hn⟩:=zPM ha
 exact h.ru n a r hn h0 hr
theorem z6X{r:zR}(h:uJ r=0): z2w r.2.2.2.1=true:=by
 unfold uJ at h
 grind
theorem z3k:∀ {l:List zC},z2w l=true->vX wQ l
 | [],_=>.nil
 | [x],_=>List.pairwise_singleton _ x
 | x::y::r,h=>by
  simp[z2w] at h
  have ih:=z3k h.2
  refine QJ.2 ⟨fun z hz=>?_,ih⟩
  rcases Qv.1 hz with rfl | hz
  ·exact h.1
  ·exact zMQ h.1 ((QJ.1 ih).1 z hz)
theorem z3R:∀(n:Nat) (l:List Int),l.Nodup->(∀ k∈l,0≤k∧k<(n:Int))->1+(l.map fun k:Int=>2 ^ k.toNat).sum≤2 ^ n
 | 0,l,_,h=>by
  cases l with
  | nil=>simp
  | cons k l=>have:=h k Qm;omega
 | n+1,l,hd,h=>by
  by_cases hm:(n:Int)∈l
  ·have hp:=(List.perm_cons_erase hm).map (fun k:Int=>2 ^ k.toNat)
   have h1:=z3R n (l.erase (n:Int)) (hd.erase _) fun k hk=>by
    have:=h k (List.mem_of_mem_erase hk)
    have h2:=(hd.mem_erase_iff.1 hk).1
    omega
   rw[hp.sum_nat,Ua,List.sum_cons,Ql,Nat.pow_succ]
   omega
  ·have h1:=z3R n l hd fun k hk=>by
    have:=h k hk
    have h2:k≠(n:Int):=fun e=>hm (e▸hk)
    omega
   rw[Nat.pow_succ]
   omega
theorem runSz{D:List zC}{c:Nat}(hs:zOg b D c)(h:zO0 b l): z8D b l fun i=>2 ^ i.toNat:=by
 refine⟨fun i=>Nat.one_le_two_pow,fun i h0 hi=>?_,fun i a r ha h0 hr hst=>?_⟩
 ·have:=h.l41
  have h2:2 ^ i.toNat≤2 ^ 40:=Nat.pow_le_pow_right (by omega) (by omega)
  exact Nat.lt_of_le_of_lt h2 (by decide)
 ·obtain⟨g1,g2,g3⟩:=h.toFormC.ruI ha h0 hr
  obtain⟨_,hi0,_,hsub⟩:=h.toFormA.at ha
  obtain⟨n,rfl⟩:=Qw hi0
  rw[Ql]
  refine z3R n _ ?_ hsub
  obtain⟨q,_,hq⟩:=zPM hr
  have hnd:r.2.2.2.1.Nodup:=List.Pairwise.imp (fun {x y} h=>z83 h) (z3k (z6X (hs.valid.rule r (wF hq))))
  refine UU.2 fun j1 j2 h1 h2 h12 e=>?_
  have hne:=UU.1 hnd j1 j2 (by omega) (by omega) h12
  obtain⟨a1,e1,e2⟩:=g3 j1 _ _ (Qe h1) (Qe (by omega))
  obtain⟨a2,e3,e4⟩:=g3 j2 _ _ (Qe h2) (Qe (by omega))
  rw[←e,e1] at e3
  cases e3
  exact hne (e2.symm.trans e4)
theorem zO0.app (h:zO0 b l)(hm:∀ a∈m,Good b l a∧∀ r,zB b.2.1 a.2.1=some r->zEe b l a.2.1 r a.2.2.1=true)(hl:l.length+m.length≤41): zO0 b (l++m):=by
 have h':=h.toFormC.app (fun a ha=>(hm a ha).1) hl
 refine⟨h',fun i a r ha h0 hr=>?_⟩
 by_cases hi:i<l.length
 ·rw[QY hi] at ha
  rw[zUQ h.toFormC h' fun k hk=>by have:=h.sub i a ha k hk;omega]
  exact h.cut i a r ha h0 hr
 ·rw[Uf (by omega)] at ha
  obtain⟨g1,g2⟩:=hm a (wF ha)
  rw[zUQ h.toFormC h' g1.sub]
  grind
def zRX (f:Int)(first:Bool)(s:List Int): Bool:=s.any (fun k=>decide (f≤k))||(first&&s.isEmpty)
noncomputable def zK9 (b:zI)(l:List zF)(f:Int)(first:Bool)(q:Int): List zF :=
 match zB b.2.1 q with
 | some r=>((chS l l.length r.2.2.2.1 []).filter fun s=>zRX f first s&&zEe b l q r s).map fun s=>(-1,q,s,r.2.2.2.2)
 | none=>[]
noncomputable def xI (b:zI)(l:List zF)(f:Int)(first:Bool): List zF:=(qS b.2.1.length).flatMap (zK9 b l f first)
noncomputable def zQ4 (b:zI): Nat->List zF->Int->Bool->Option (List zF)
 | 0,_,_,_=>none
 | k+1,l,f,first =>
  if 40<(l++xI b l f first).length then none
  else if xI b l f first=[] then some l
  else zQ4 b k (l++xI b l f first) l.length false
def zPT (b:zI): List zF:=b.1.mapIdx fun i p=>((i:Int),-1,[],p.1)
theorem zQs{f:Int}{first:Bool}{a:zF}: a∈xI b l f first↔a.1=-1∧∃ r,zB b.2.1 a.2.1=some r∧a.2.2.2=r.2.2.2.2∧zRX f first a.2.2.1=true∧zEe b l a.2.1 r a.2.2.1=true∧a.2.2.1.length=r.2.2.2.1.length∧∀(j:Nat) k y,a.2.2.1[j]?=some k->r.2.2.2.1[j]?=some y->∃ a',zB l k=some a'∧a'.2.2.2=y:=by
 unfold xI zK9
 simp only[Qz,xO]
 constructor
 ·rintro ⟨q,hq,ha⟩
  cases hr:zB b.2.1 q with
  | none=>grind
  | some r =>
   rw[hr] at ha
   obtain⟨s,hs,rfl⟩:=Qj.1 ha
   obtain⟨hs1,hs2⟩:=Qk.1 hs
   obtain⟨t,rfl,ht1,ht2⟩:=(zUA l l.length r.2.2.2.1 [] s).1 hs1
   grind
 ·rintro ⟨h1,r,hr,h2,h3,h4,h5,h6⟩
  refine⟨a.2.1,by have:=zSf hr;omega,?_⟩
  rw[hr]
  refine Qj.2 ⟨a.2.2.1,Qk.2 ⟨(zUA l l.length r.2.2.2.1 [] _).2 ⟨a.2.2.1,rfl,h5,fun j k y hk hy=>?_⟩,by grind⟩,?_⟩
  ·grind [zB]
  grind
theorem zY7{D:List zC}{c:Nat}(hs:zOg b D c){f:Int}{first:Bool}: ∀ a∈xI b l f first,Good b l a∧∀ r,zB b.2.1 a.2.1=some r->zEe b l a.2.1 r a.2.2.1=true:=fun a ha=>by
 obtain⟨h1,r,hr,h2,h3,h4,h5,h6⟩:=zQs.1 ha
 refine⟨⟨h1,r,hr,h2,h5,?_,h6⟩,fun r' hr'=>?_⟩
 ·have:=hs.body hr;omega
 grind
theorem zO0.round{D:List zC}{c:Nat}(h:zO0 b l)(hs:zOg b D c){f:Int}{first:Bool}(hl:(l++xI b l f first).length≤41): zO0 b (l++xI b l f first) :=
 h.app (zY7 hs) (by grind)
theorem zPh (b:zI): (zPT b).length=b.1.length:=by simp[zPT]
theorem zJV{i:Nat}{a:zF}(h:(zPT b)[i]?=some a): ∃ p,b.1[i]?=some p∧a=((i:Int),-1,[],p.1):=by
 unfold zPT at h
 grind
theorem zU4 (h:xH b): zO0 b (zPT b):=by
 have hl:=zPh b
 have hn:=h.np
 have hr:=h.nr
 refine⟨⟨⟨⟨by omega,fun a ha=>?_,fun i a ha=>?_⟩,by omega,by omega,fun i a ha=>?_⟩,by omega,fun i a p ha h0 hp=>?_,fun i a r ha h0 hr=>?_⟩,fun i a r ha h0 hr=>?_⟩
 ·obtain⟨i,hi⟩:=Qn.1 ha
  obtain⟨p,_,rfl⟩:=zJV hi
  simp
 ·obtain⟨p,_,rfl⟩:=zJV ha
  grind
 ·obtain⟨p,h1,rfl⟩:=zJV ha
  grind
 ·obtain⟨p',h1,rfl⟩:=zJV ha
  rw[xW,h1] at hp
  grind
 ·obtain⟨p',h1,rfl⟩:=zJV ha
  grind
 ·obtain⟨p',h1,rfl⟩:=zJV ha
  grind
theorem zXU{D:List zC}{c:Nat}(hs:zOg b D c): ∀(k:Nat) (l:List zF) (f:Int) (first:Bool) (x:List zF),zO0 b l->l.length≤40->zQ4 b k l f first=some x->zO0 b x∧x.length≤40
 | 0,_,_,_,_,_,_,h=>by cases h
 | k+1,l,f,first,x,h,hl,hx=>by
  unfold zQ4 at hx
  split at hx
  ·cases hx
  ·split at hx
   ·grind
   ·exact zXU hs k _ _ _ x (h.round hs (by omega)) (by omega) hx
end
section
variable {b:zI}{l:List zF}
def ansB:Option (List zF)->List zF×Int
 | some x=>(x,0)
 | none=>([],2)
theorem zJa (h:xH b): Cnt b:=by
 have h1:=h.np
 have h2:=h.nr
 have h3:=h.nm
 exact⟨by omega,by omega,by omega,fun r hr=>by have:=zOV (h.rule r hr);omega⟩
noncomputable def zPt (b:zI): Option (List zF):=zQ4 b 50 (zPT b) 0 true
end
end Go.GD
