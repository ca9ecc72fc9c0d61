/- A part. Conditions: none. -/
import Derived.Test.YtplpdfimlnppcaaGreatDoorPlQ1
namespace Go.GD
set_option autoImplicit false
set_option linter.unusedVariables false
section
theorem z1F {σ ρ:Type} {B B':σ->Option (σ⊕ρ)} (I:σ->Prop) (h:∀ s,I s->B s=B' s) (hs:∀ s s',I s->B s=some (.inl s')->I s'):∀ n s,I s->tR B n s=tR B' n s:=by
 intro n
 induction n with
 | zero=>intro s _;rfl
 | succ n ih =>
  intro s hI
  simp only [tR]
  rw [←h s hI]
  cases hb:B s with
  | none=>rfl
  | some o =>
   cases o with
   | inr r=>rfl
   | inl s'=>exact ih s' (hs s s' hI hb)
theorem z1Z {σ ρ:Type} {B B':σ->Option (σ⊕ρ)} (I:σ->Prop) (h:∀ s,I s->B s=B' s) (hs:∀ s s',I s->B s=some (.inl s')->I s') (s:σ) (hI:I s):zU B s=zU B' s:=by
 have hit:=z1F I h hs
 cases h1:zU B s with
 | some r =>
  obtain ⟨n,hn⟩:=zJM h1
  rw [hit n s hI] at hn
  exact (zKp hn).symm
 | none =>
  cases h2:zU B' s with
  | none=>rfl
  | some r =>
   obtain ⟨n,hn⟩:=zJM h2
   rw [←hit n s hI] at hn
   rw [zKp hn] at h1;cases h1
def tY (n:Int) (p:wD):Bool:=decide (p.1<0)||decide (n≤p.1)||decide (p.2<0)||decide (n≤p.2)
theorem zOF (x y:wD):zCl x y=some (orF [zY2 x.1 y.1,zY2 x.2 y.2]):=by
 unfold zCl
 rw [zPW,zPW]
 simp only [zob]
 rw [z1f _ (by simp)]
 rfl
theorem zXV (x y:wD):decide (0≤orF [zY2 x.1 y.1,zY2 x.2 y.2])=!xY x y:=by
 have h:decide (orF [zY2 x.1 y.1,zY2 x.2 y.2] < 0)=xY x y:=zQ7 (by rw [zQ7 (r:=[]) (b:=false) (by simp [orF])];simp)
 rw [←h,Bool.eq_iff_iff]
 simp
def zOL (n:Int) (L:List wD) (i:Nat):Option Int:=match L[i]? with
 | none=>some 0
 | some p=>if tY n p then some 1 else if i=0 then none else match L[i-1]? with
  | none=>none
  | some q=>if !xY q p then some 8 else none
theorem zLs (n:Int) (L:List wD) (hL:L.length<4294967296) (i:Nat) (hi:i≤L.length):zBm (n,L) (i:Int)=match zOL n L i with
  | some e=>some (.inr e)
  | none=>some (.inl ((i+1:Nat):Int)):=by
 unfold zBm zOL
 by_cases he:i=L.length
 ·subst he
  simp [len]
 ·have hx:L[i]?=some L[i]:=List.getElem?_eq_getElem (by omega)
  generalize L[i]=x at hx
  simp only [wS hx,if_true,wP hx,zob,hx,wR hx hL]
  have hb:(decide ((if x.2<x.1 then x.2 else x.1)<0)||decide (n≤(if x.2 > x.1 then x.2 else x.1)))=tY n x:=by
   rw [Bool.eq_iff_iff]
   simp only [tY,Bool.or_eq_true,decide_eq_true_eq]
   split <;> split <;> omega
  rw [hb]
  cases tY n x with
  | true=>simp
  | false =>
   simp only [zbf,if_false]
   by_cases h0:i=0
   ·subst h0;simp
   ·obtain ⟨j,rfl⟩:∃ j,i=j+1:=⟨i-1,by omega⟩
    have hy:L[j]?=some L[j]:=List.getElem?_eq_getElem (by omega)
    generalize L[j]=y at hy
    have hd:decide (0<((j+1:Nat):Int))=true:=by rw [decide_eq_true_eq];omega
    have hw:zS (((j+1:Nat):Int)-1)=(j:Int):=by rw [xV (by omega) (by omega)];omega
    simp only [hd,if_true,hw,wP hy,zob,zOF,zXV,Nat.add_sub_cancel,hy,h0,if_false]
    cases xY y x <;> simp
theorem zTw (n:Int) (L:List wD) (hL:L.length<4294967296) (i:Nat) (hi:i≤L.length):zGZ (n,L) (i:Int)=match zOL n L i with
  | some e=>some (.inr e)
  | none=>some (.inl ((i+1:Nat):Int)):=by
 unfold zGZ zOL
 by_cases he:i=L.length
 ·subst he
  simp [len]
 ·have hx:L[i]?=some L[i]:=List.getElem?_eq_getElem (by omega)
  generalize L[i]=x at hx
  simp only [wS hx,if_true,wP hx,zob,hx,wR hx hL]
  have hb:(decide (x.1<0)||(decide (n≤x.1)||(decide (x.2<0)||decide (n≤x.2))))=tY n x:=by simp [tY,Bool.or_assoc]
  rw [hb]
  cases tY n x with
  | true=>simp
  | false =>
   simp only [zbf,if_false]
   by_cases h0:i=0
   ·subst h0;simp
   ·obtain ⟨j,rfl⟩:∃ j,i=j+1:=⟨i-1,by omega⟩
    have hy:L[j]?=some L[j]:=List.getElem?_eq_getElem (by omega)
    generalize L[j]=y at hy
    have hd:decide (0<((j+1:Nat):Int))=true:=by rw [decide_eq_true_eq];omega
    have hw:zS (((j+1:Nat):Int)-1)=(j:Int):=by rw [xV (by omega) (by omega)];omega
    simp only [hd,if_true,hw,wP hy,zob,Nat.add_sub_cancel,hy,h0,if_false]
    have hlt:xY y x=(yS y.1 x.1||(y.1==x.1&&yS y.2 x.2)):=rfl
    rw [hlt]
    simp only [yS]
    by_cases h1:x.1<y.1
    ·have h2:¬ y.1<x.1:=by omega
     have h3:(y.1==x.1)=false:=by simp;omega
     simp [h1,h2,h3]
    ·by_cases h3:y.1=x.1
     ·have h2:¬ y.1<x.1:=by omega
      by_cases h4:x.2≤y.2
      ·have h5:¬ y.2<x.2:=by omega
       simp [h3,h4,h5]
      ·have h5:y.2<x.2:=by omega
       simp [h3,h4,h5]
     ·have h2:y.1<x.1:=by omega
      have h4:(y.1==x.1)=false:=by simpa using h3
      simp [h1,h2,h4]
def z2M (g:wJ):Prop:=0≤g.1∧g.1≤40∧∀ p∈g.2,tY g.1 p=false
theorem z1w (g:wJ) (hL:g.2.length<4294967296):∃ e,zBb g=some e∧zGs g=some e∧(e=0->z2M g):=by
 obtain ⟨n,L⟩:=g
 unfold zBb zGs
 cases h0:(decide (n<0)||decide (40<n)) with
 | true=>exact ⟨1,by simp,by simp,by simp⟩
 | false =>
  simp only [Bool.or_eq_false_iff,decide_eq_false_iff_not] at h0
  simp only [zbf,if_false]
  have hc:zU (zGZ (n,L)) 0=zU (zBm (n,L)) 0:=by
   refine z1Z (fun s=>∃ i:Nat,s=(i:Int)∧i≤L.length) ?_ ?_ 0 ⟨0,rfl,Nat.zero_le _⟩
   ·rintro s ⟨i,rfl,hi⟩
    rw [zLs n L hL i hi,zTw n L hL i hi]
   ·rintro s s' ⟨i,rfl,hi⟩ hb
    rw [zTw n L hL i hi] at hb
    cases hv:zOL n L i with
    | some e=>rw [hv] at hb;cases hb
    | none =>
     rw [hv] at hb
     simp only [Option.some.injEq,Sum.inl.injEq] at hb
     refine ⟨i+1,hb.symm,?_⟩
     by_cases he:i=L.length
     ·subst he;simp [zOL] at hv
     ·omega
  have h:=uW (B:=zBm (n,L)) (fun i (_:Unit)=>(i:Int)) L (fun i _=>∀ p∈L.take i,tY n p=false) (fun e=>e=0->∀ p∈L,tY n p=false) ?_ ?_ () (by simp)
  ·obtain ⟨e,h1,h2⟩:=h
   exact ⟨e,h1,by rw [hc];exact h1,fun he=>⟨by omega,by omega,h2 he⟩⟩
  ·intro i x _ hx hI
   have hi:=vF hx
   rw [zLs n L hL i (by omega)]
   cases hv:zOL n L i with
   | some e =>
    refine .inr ⟨e,rfl,fun he=>?_⟩
    subst he
    exfalso
    unfold zOL at hv
    rw [hx] at hv
    simp only at hv
    split at hv
    ·cases hv
    ·split at hv
     ·cases hv
     ·split at hv
      ·cases hv
      ·split at hv <;> cases hv
   | none =>
    refine .inl ⟨(),rfl,fun p hp=>?_⟩
    rw [xA hx,List.mem_append,List.mem_singleton] at hp
    rcases hp with hp | rfl
    ·exact hI p hp
    ·cases hb:tY n p with
     | false=>rfl
     | true=>unfold zOL at hv;rw [hx] at hv;simp [hb] at hv
  ·intro _ hI
   rw [zLs n L hL _ (Nat.le_refl _)]
   refine ⟨0,by simp [zOL],fun _=>?_⟩
   rwa [List.take_length] at hI
theorem z2M.inN {N:Nat} {L:List wD} (h:z2M ((N:Int),L)):inN N L:=fun a b he=>by
 have:=h.2.2 _ (zSq.1 he)
 simp only [tY,Bool.or_eq_false_iff,decide_eq_false_iff_not] at this
 exact ⟨a.toNat,b.toNat,by omega,by omega,by omega,by omega⟩
end
section
section
variable {N:Nat} (hN:N≤10) {L:List wD} (hV:inN N L) (hL:L.length<4294967296) (a:Nat) (ha:a<N)
def vG (N:Nat) (L:List wD) (a k:Nat):List Nat:=(List.range k).filter fun X=>X.testBit a&&admS L (zPR X)
end
end
section
theorem z02:∀ (n m:Nat) (acc:List Int),m<18446744073709551616->(zPR m).length≤n->acc.length+n≤64->zU zF6 ((m:Int),acc)=some (acc++zPR m):=by
 intro n
 induction n with
 | zero =>
  intro m acc hm hn ha
  have h0:zPR m=[]:=List.eq_nil_of_length_eq_zero (by omega)
  have hz:m=0:=by
   apply Nat.eq_of_testBit_eq
   intro i
   rw [Nat.zero_testBit]
   cases ht:m.testBit i with
   | false=>rfl
   | true =>
    have:=(zVj hm).2 ht
    rw [h0] at this;cases this
  subst hz
  rw [yF]
  simp [zF6,h0]
 | succ n ih =>
  intro m acc hm hn ha
  by_cases h0:m=0
  ·subst h0
   have hb:zPR 0=[]:=by
    apply List.eq_nil_iff_forall_not_mem.2
    intro x hx
    obtain ⟨i,_,_,h⟩:=zMI.1 hx
    rw [Nat.zero_testBit] at h;cases h
   rw [yF]
   simp [zF6,hb]
  ·obtain ⟨k,q,ht,hk,hmq⟩:=tz_nat h0 hm
   have hcons:zPR m=(k:Int)::zPR (2 ^ (k+1)*q):=by
    have hq2:∀ j,(2 ^ (k+1)*q).testBit j=(decide (k<j)&&q.testBit (j-k-1)):=by
     intro j
     have e2:2 ^ (k+1)*q=2 ^ (k+1)*q+0:=rfl
     rw [e2,Nat.testBit_two_pow_mul_add _ (Nat.pow_pos (by decide))]
     by_cases hj:j<k+1
     ·have h1:decide (k<j)=false:=by simp;omega
      rw [if_pos hj,Nat.zero_testBit,h1,Bool.false_and]
     ·have h1:decide (k<j)=true:=by simp;omega
      rw [if_neg hj,h1,Bool.true_and]
      congr 1
    apply vZ.ext tG (zTs m)
    ·refine List.pairwise_cons.2 ⟨fun x hx=>?_,zTs _⟩
     obtain ⟨j,rfl,hj,hb⟩:=zMI.1 hx
     rw [hq2,Bool.and_eq_true,decide_eq_true_eq] at hb
     simp [yS];omega
    ·intro x
     rw [List.mem_cons,zMI,zMI]
     constructor
     ·rintro ⟨i,rfl,h1,h2⟩
      rw [hmq,zT8,Bool.or_eq_true,decide_eq_true_eq] at h2
      rcases h2 with rfl | h2
      ·exact .inl rfl
      ·exact .inr ⟨i,rfl,h1,by rw [hq2];exact h2⟩
     ·rintro (rfl | ⟨i,rfl,h1,h2⟩)
      ·exact ⟨k,rfl,hk,by rw [hmq,zT8];simp⟩
      ·rw [hq2] at h2
       exact ⟨i,rfl,h1,by rw [hmq,zT8,h2,Bool.or_true]⟩
   have hw:IntKind.u64.wrap ((m:Int)-1)=((m-1:Nat):Int):=by rw [wrapU (by omega) (by omega)];omega
   have hand:m &&& (m-1)=2 ^ (k+1)*q:=by rw [hmq];exact z1A q k
   have hlt:2 ^ (k+1)*q<18446744073709551616:=by rw [←hand];exact zZu hm
   have hne:((m:Int) != 0)=true:=by simp;omega
   have hstep:zF6 ((m:Int),acc)=some (.inl (((2 ^ (k+1)*q:Nat):Int),acc++[(k:Int)])):=by
    unfold zF6
    simp only [hne,if_true,ht,zob]
    rw [vY (by simp;omega)]
    simp only [zob]
    rw [hw,zR0 hm (by omega),hand]
   rw [yF,hstep]
   have:=ih (2 ^ (k+1)*q) (acc++[(k:Int)]) hlt (by rw [hcons] at hn;simp at hn;omega) (by simp;omega)
   rw [hcons]
   simpa using this
theorem z2K {m:Nat} (hm:m<18446744073709551616):zHf (m:Int)=some (zPR m):=by
 have:=z02 64 m [] hm (zXX m) (by simp)
 simpa [zHf] using this
structure vX (N:Nat) (L:List wD):Prop where
 hN:N≤40
 inr:∀ p∈L,tY (N:Int) p=false
 asc:vZ xY L
theorem zK6 {N:Nat} {p:wD} (h:tY (N:Int) p=false):∃ i j:Nat,i<N∧j<N∧p=((i:Int),(j:Int)):=by
 obtain ⟨a,b⟩:=p
 simp only [tY,Bool.or_eq_false_iff,decide_eq_false_iff_not] at h
 exact ⟨a.toNat,b.toNat,by omega,by omega,by simp only [Prod.mk.injEq];omega⟩
theorem z6U {N i j:Nat} (hi:i<N) (hj:j<N):tY (N:Int) ((i:Int),(j:Int))=false:=by
 simp only [tY,Bool.or_eq_false_iff,decide_eq_false_iff_not]
 omega
section
variable {N:Nat} {L:List wD}
theorem vX.nodup (h:vX N L):L.Nodup:=h.asc.imp fun {x y} hh e=>by subst e;rw [z3m.irrefl] at hh;cases hh
theorem vX.inN (h:vX N L):inN N L:=fun a b he=>by
 obtain ⟨i,j,h1,h2,h3⟩:=zK6 (h.inr _ (zSq.1 he))
 simp only [Prod.mk.injEq] at h3
 exact ⟨i,j,h1,h2,h3.1,h3.2⟩
theorem zSC {α:Type} [DecidableEq α]:∀ {l m:List α},l.Nodup->(∀ x∈l,x∈m)->l.length≤m.length
 | [],_,_,_=>Nat.zero_le _
 | x::l,m,hn,hs=>by
  obtain ⟨h1,h2⟩:=List.nodup_cons.1 hn
  have hx:x∈m:=hs x List.mem_cons_self
  have h3:=zSC (m:=m.erase x) h2 fun y hy=>(List.mem_erase_of_ne (fun e=>by subst e;exact h1 hy)).2 (hs y (List.mem_cons_of_mem _ hy))
  rw [List.length_erase_of_mem hx] at h3
  have:0<m.length:=List.length_pos_of_mem hx
  simp only [List.length_cons]
  omega
theorem vX.len (h:vX N L):L.length≤1600:=by
 have h1:=zSC (m:=(wW N).flatMap fun i=>(wW N).map fun j=>(i,j)) h.nodup fun p hp=>by
  obtain ⟨i,j,hi,hj,rfl⟩:=zK6 (h.inr p hp)
  exact List.mem_flatMap.2 ⟨(i:Int),xJ.2 ⟨by omega,by omega⟩,List.mem_map.2 ⟨(j:Int),xJ.2 ⟨by omega,by omega⟩,rfl⟩⟩
 have h2:=zOA (fun i:Int=>(wW N).map fun j:Int=>(i,j)) N (wW N) fun x _=>by simp [tE]
 rw [tE] at h2
 have h3:N*N≤40*40:=Nat.mul_le_mul h.hN h.hN
 omega
theorem vX.len' (h:vX N L):L.length<4294967296:=by have:=h.len;omega
theorem zV0 {n:Int} {i:Nat} {p:wD} (hp:L[i]?=some p):zOL n L i=none↔tY n p=false∧(i=0∨∃ q,L[i-1]?=some q∧xY q p=true):=by
 unfold zOL
 rw [hp]
 cases hb:tY n p with
 | true=>simp [hb]
 | false =>
  by_cases h0:i=0
  ·subst h0;simp [hb]
  ·have hi:=vF hp
   obtain ⟨q,hq⟩:∃ q,L[i-1]?=some q:=⟨L[i-1],List.getElem?_eq_getElem (by omega)⟩
   simp only [hb,h0,if_false,hq,false_or,zbf,Option.some.injEq,exists_eq_left',true_and]
   cases xY q p <;> simp
theorem vLoop (n:Int) (hL:L.length<4294967296):∃ e,zU (zBm (n,L)) 0=some e∧(e=0↔∀ i,i<L.length->zOL n L i=none):=by
 have h:=uW (B:=zBm (n,L)) (fun i (_:Unit)=>(i:Int)) L (fun i _=>∀ j,j<i->zOL n L j=none) (fun e=>e=0↔∀ i,i<L.length->zOL n L i=none) ?_ ?_ () (fun j hj=>absurd hj (Nat.not_lt_zero _))
 ·obtain ⟨e,h1,h2⟩:=h
  exact ⟨e,h1,h2⟩
 ·intro i x _ hx hI
  have hi:=vF hx
  rw [zLs n L hL i (by omega)]
  cases hv:zOL n L i with
  | some e =>
   refine .inr ⟨e,rfl,?_⟩
   constructor
   ·intro he
    subst he
    exfalso
    unfold zOL at hv
    rw [hx] at hv
    simp only at hv
    split at hv
    ·cases hv
    ·split at hv
     ·cases hv
     ·split at hv
      ·cases hv
      ·split at hv <;> cases hv
   ·intro h
    rw [h i hi] at hv;cases hv
  | none =>
   refine .inl ⟨(),rfl,fun j hj=>?_⟩
   by_cases he:j=i
   ·subst he;exact hv
   ·exact hI j (by omega)
 ·intro _ hI
  rw [zLs n L hL _ (Nat.le_refl _)]
  exact ⟨0,by simp [zOL],by simp;exact hI⟩
theorem z0Z {α:Type} {lt:α->α->Bool} (O:zVK lt):∀ {l:List α},(∀ i x y,l[i]?=some x->l[i+1]?=some y->lt x y=true)->vZ lt l
 | [],_=>List.Pairwise.nil
 | [x],_=>List.pairwise_singleton _ _
 | x::y::l,h=>by
  have h1:=z0Z O (l:=y::l) fun i a b ha hb=>h (i+1) a b (by simpa using ha) (by simpa using hb)
  have h2:lt x y=true:=h 0 x y rfl rfl
  refine List.pairwise_cons.2 ⟨fun z hz=>?_,h1⟩
  rcases List.mem_cons.1 hz with rfl | hz
  ·exact h2
  ·exact O.trans _ _ _ h2 ((List.pairwise_cons.1 h1).1 z hz)
theorem zZt {α:Type} {lt:α->α->Bool} {l:List α} (h:vZ lt l) {i:Nat} {x y:α} (hx:l[i]?=some x) (hy:l[i+1]?=some y):lt x y=true:=by
 obtain ⟨h1,rfl⟩:=List.getElem?_eq_some_iff.1 hx
 obtain ⟨h2,rfl⟩:=List.getElem?_eq_some_iff.1 hy
 exact List.pairwise_iff_getElem.1 h i (i+1) h1 h2 (Nat.lt_succ_self i)
theorem zVb {n:Int}:(∀ i,i<L.length->zOL n L i=none)↔(∀ p∈L,tY n p=false)∧vZ xY L:=by
 constructor
 ·intro h
  have h1:∀ (i:Nat) p,L[i]?=some p->tY n p=false∧(i=0∨∃ q,L[i-1]?=some q∧xY q p=true):=fun i p hp=>(zV0 hp).1 (h i (vF hp))
  refine ⟨fun p hp=>?_,z0Z z3m fun i x y hx hy=>?_⟩
  ·obtain ⟨i,hi⟩:=List.getElem?_of_mem hp
   exact (h1 i p hi).1
  ·rcases (h1 (i+1) y hy).2 with h2 | ⟨q,h2,h3⟩
   ·omega
   ·rw [Nat.add_sub_cancel,hx] at h2
    cases h2;exact h3
 ·rintro ⟨h1,h2⟩ i hi
  have hp:L[i]?=some L[i]:=List.getElem?_eq_getElem hi
  refine (zV0 hp).2 ⟨h1 _ (List.getElem_mem hi),?_⟩
  by_cases h0:i=0
  ·exact .inl h0
  ·have hq:L[i-1]?=some L[i-1]:=List.getElem?_eq_getElem (by omega)
   exact .inr ⟨_,hq,zZt h2 hq (by rw [show i-1+1=i by omega];exact hp)⟩
theorem zM7 (n:Int) (hL:L.length<4294967296):∃ e,zBb (n,L)=some e∧zGs (n,L)=some e∧(e=0↔∃ N:Nat,n=(N:Int)∧vX N L):=by
 obtain ⟨e,h1,h2,h3⟩:=z1w (n,L) hL
 refine ⟨e,h1,h2,?_⟩
 constructor
 ·intro he
  obtain ⟨k1,k2,k3⟩:=h3 he
  obtain ⟨N,rfl⟩:=Int.eq_ofNat_of_zero_le k1
  refine ⟨N,rfl,by have:(N:Int)≤40:=k2;omega,k3,?_⟩
  subst he
  unfold zBb at h1
  have hc:(decide ((N:Int)<0)||decide (40<(N:Int)))=false:=by
   have:(N:Int)≤40:=k2
   simp;omega
  simp only [hc,zbf,if_false] at h1
  obtain ⟨e',h4,h5⟩:=vLoop (L:=L) (N:Int) hL
  rw [h4] at h1
  exact (zVb.1 (h5.1 (Option.some.inj h1))).2
 ·rintro ⟨N,rfl,hG⟩
  unfold zBb at h1
  have hc:(decide ((N:Int)<0)||decide (40<(N:Int)))=false:=by
   have:=hG.hN
   simp;omega
  simp only [hc,zbf,if_false] at h1
  obtain ⟨e',h4,h5⟩:=vLoop (L:=L) (N:Int) hL
  rw [h4] at h1
  rw [←Option.some.inj h1]
  exact h5.2 (zVb.2 ⟨hG.inr,hG.asc⟩)
theorem vX.v1 (h:vX N L):zBb ((N:Int),L)=some 0:=by
 obtain ⟨e,h1,_,h3⟩:=zM7 (N:Int) h.len'
 rw [h1,h3.2 ⟨N,rfl,h⟩]
theorem vX.v2 (h:vX N L):zGs ((N:Int),L)=some 0:=by
 obtain ⟨e,_,h1,h3⟩:=zM7 (N:Int) h.len'
 rw [h1,h3.2 ⟨N,rfl,h⟩]
theorem vX.proper (h:vX N L):zEz ((N:Int),L)=some ((N:Int),L):=by
 unfold zEz;rw [h.v1];rfl
theorem vX.valid (h:vX N L):zRv ((N:Int),L)=some ((N:Int),L):=by
 unfold zRv;rw [h.v2];rfl
theorem zZa {n:Int} {l:List wV} {g:wJ} (h:zTr n l=(g,0)):∃ N:Nat,n=(N:Int)∧g.1=(N:Int)∧vX N g.2∧g.2=xM xY (zHk l):=by
 unfold zTr at h
 cases h0:(decide (n<0)||decide (40<n)) with
 | true=>simp [h0] at h
 | false =>
  cases h1:l.any (z1Y n) with
  | true=>simp [h0,h1] at h
  | false =>
   simp only [h0,h1,zbf,if_false,Prod.mk.injEq,and_true] at h
   subst h
   simp only [Bool.or_eq_false_iff,decide_eq_false_iff_not] at h0
   refine ⟨n.toNat,by omega,by show n=_;omega,⟨by omega,fun p hp=>?_,(zKd z3m _).1⟩,rfl⟩
   have hp:p∈zHk l:=((zKd z3m _).2 p).1 hp
   obtain ⟨a,ha,rfl⟩:=List.mem_map.1 hp
   have:=List.any_eq_false.1 h1 a ha
   simp only [z1Y,Bool.or_eq_true,decide_eq_true_eq,not_or] at this
   simp only [tY,Bool.or_eq_false_iff,decide_eq_false_iff_not]
   omega
def z3l (L:List wD) (i:Nat):Nat:=zPl ((L.filter fun p=>p.1==(i:Int)).map (·.2))
theorem z1t (h:vX N L) (i:Nat):z3l L i<18446744073709551616:=zW4 fun x hx=>by
 obtain ⟨p,hp,rfl⟩:=List.mem_map.1 hx
 obtain ⟨a,b,h1,h2,rfl⟩:=zK6 (h.inr p (List.mem_filter.1 hp).1)
 have:=h.hN
 show (b:Int)<64
 omega
theorem z0K (h:vX N L) (i j:Nat):(z3l L i).testBit j=ed L (i:Int) (j:Int):=by
 unfold z3l
 rw [zYQ (fun x hx=>?_),Bool.eq_iff_iff,decide_eq_true_eq,zSq]
 ·constructor
  ·intro hx
   obtain ⟨p,hp,h2⟩:=List.mem_map.1 hx
   obtain ⟨h3,h4⟩:=List.mem_filter.1 hp
   have h5:p.1=(i:Int):=by simpa using h4
   have:p=((i:Int),(j:Int)):=by rw [←h5,←h2]
   rw [←this];exact h3
  ·intro hx
   exact List.mem_map.2 ⟨_,List.mem_filter.2 ⟨hx,by simp⟩,rfl⟩
 ·obtain ⟨p,hp,rfl⟩:=List.mem_map.1 hx
  obtain ⟨a,b,h1,h2,rfl⟩:=zK6 (h.inr p (List.mem_filter.1 hp).1)
  show (0:Int)≤(b:Int)
  omega
theorem z07 (l:List Int) (x:Int):zPl (l++[x])=zPl l ||| 2 ^ x.toNat:=by simp [zPl]
theorem zWQ {i:Nat} (h:i<64):z3b .u64 1 (i:Int)=some ((2 ^ i:Nat):Int):=by
 have:=z4j h
 rwa [zJe (by omega)] at this
theorem zYf (h:vX N L):zHy ((N:Int),L)=some (qU N fun i=>((z3l L i:Nat):Int)):=by
 unfold zHy
 have hN:=h.hN
 rw [z2j (by omega)]
 simp only [zob]
 have hlp:=uW (B:=zIu ((N:Int),L)) (fun i (s:List Int)=>(s,(i:Int))) L (fun i s=>s=qU N fun a=>((z3l (L.take i) a:Nat):Int)) (fun r=>r=qU N fun i=>((z3l L i:Nat):Int)) ?_ ?_ (qU N fun _=>0) (by
   apply zBk;intro i _;simp [z3l,zPl])
 ·obtain ⟨r,h1,rfl⟩:=hlp
  exact h1
 ·rintro i p s hp rfl
  refine .inl ⟨_,?_,rfl⟩
  obtain ⟨a,b,h1,h2,rfl⟩:=zK6 (h.inr p (wZ hp))
  have hg:∀ q∈L.take i,q∈L:=fun q hq=>List.mem_of_mem_take hq
  have hgood:vX N (L.take i):=⟨hN,fun q hq=>h.inr q (hg q hq),h.asc.sublist (List.take_sublist _ _)⟩
  unfold zIu
  simp only [wS hp,if_true,wP hp,zob,zQA _ h1,zWQ (i:=b) (by omega),wR hp h.len',Int.toNat_natCast,zRG]
  rw [zWq (z1t hgood a) (zOB (by omega))]
  congr 3
  apply zBk
  intro q _
  rw [xA hp]
  by_cases hq:q=a
  ·subst hq
   simp only [if_true]
   unfold z3l
   rw [List.filter_append,List.map_append]
   simp [z07]
  ·have hf:(((a:Nat):Int)==(q:Int))=false:=by simp;omega
   simp only [hq,if_false]
   unfold z3l
   rw [List.filter_append]
   simp [hf]
 ·rintro s rfl
  refine ⟨_,?_,rfl⟩
  unfold zIu
  simp [len]
abbrev zN4 (N:Nat) (L:List wD) (i:Int):List Int:=(wW N).filter fun j=>ed L i j
abbrev yX (N:Nat) (L:List wD) (i:Int):List Int:=(wW N).filter fun j=>ed L j i
theorem z3z (h:vX N L) (i:Nat):zPR (z3l L i)=zN4 N L (i:Int):=by
 apply vZ.ext tG (zTs _) ((zKO N).filter _)
 intro x
 rw [zMI,List.mem_filter,xJ]
 constructor
 ·rintro ⟨j,rfl,h1,h2⟩
  rw [z0K h] at h2
  obtain ⟨a,b,h3,h4,h5,h6⟩:=h.inN _ _ h2
  exact ⟨by omega,h2⟩
 ·rintro ⟨h1,h2⟩
  obtain ⟨j,rfl⟩:=Int.eq_ofNat_of_zero_le h1.1
  have:=h.hN
  exact ⟨j,rfl,by omega,by rw [z0K h];exact h2⟩
theorem zMz (h:vX N L) (i:Int):zCq ((N:Int),L) i=some (zN4 N L i):=by
 unfold zCq
 rw [h.proper]
 simp only [zob]
 cases hc:(decide (i<0)||decide ((N:Int)≤i)) with
 | true =>
  simp only [if_true,Option.some.injEq]
  symm
  apply List.filter_eq_nil_iff.2
  intro x _ he
  obtain ⟨a,b,h1,h2,h3,h4⟩:=h.inN _ _ he
  simp only [Bool.or_eq_true,decide_eq_true_eq] at hc
  omega
 | false =>
  simp only [Bool.or_eq_false_iff,decide_eq_false_iff_not] at hc
  obtain ⟨k,rfl⟩:=Int.eq_ofNat_of_zero_le (show 0≤i by omega)
  simp only [zbf,if_false,zYf h,zob,zQA _ (show k<N by omega),z2K (z1t h k),z3z h]
def z2I (p:wD):wD:=(p.2,p.1)
def revL (L:List wD):List wD:=(L.map z2I).mergeSort fun x y=>!xY y x
theorem ed_rev {a b:Int}:ed (revL L) a b=ed L b a:=by
 rw [Bool.eq_iff_iff,zSq,zSq,revL,List.mem_mergeSort,List.mem_map]
 constructor
 ·rintro ⟨⟨c,d⟩,h1,h2⟩
  simp only [z2I,Prod.mk.injEq] at h2
  rw [←h2.1,←h2.2];exact h1
 ·intro h
  exact ⟨_,h,rfl⟩
theorem zYE {α:Type} {lt:α->α->Bool} (O:zVK lt) {l:List α} (h:l.Pairwise fun x y=>lt y x=false) (hn:l.Nodup):vZ lt l:=by
 have:=List.Pairwise.and h hn
 exact this.imp fun {x y} hh=>by
  rcases O.tri x y with h1 | h1 | h1
  ·exact h1
  ·exact absurd h1 hh.2
  ·rw [hh.1] at h1;cases h1
theorem vX.rev (h:vX N L):vX N (revL L):=by
 refine ⟨h.hN,fun p hp=>?_,zYE z3m (zM5 z3m _) ?_⟩
 ·obtain ⟨q,hq,rfl⟩:=List.mem_map.1 (List.mem_mergeSort.1 hp)
  obtain ⟨i,j,hi,hj,rfl⟩:=zK6 (h.inr q hq)
  exact z6U hj hi
 ·have hp:(revL L).Perm (L.map z2I):=List.mergeSort_perm _ _
  rw [hp.nodup_iff]
  refine List.pairwise_map.2 (h.nodup.imp ?_)
  rintro ⟨a,b⟩ ⟨c,d⟩ hne he
  simp only [z2I,Prod.mk.injEq] at he
  exact hne (by rw [he.1,he.2])
theorem zSz (x y:wD):uK zCl x y=xY x y:=by
 simp only [uK,zOF,Option.getD_some]
 exact zQ7 (by rw [zQ7 (r:=[]) (b:=false) (by simp [orF])];simp)
theorem zYj {l:List wD} (hl:l.length<4294967296):zBJ l=some (l.mergeSort fun x y=>!xY y x) :=
 zVu z3m (fun x y=>⟨_,zOF x y⟩) zSz hl
theorem zWd (h:vX N L):zFo ((N:Int),L)=some ((N:Int),revL L):=by
 unfold zFo
 rw [h.proper]
 simp only [zob]
 have hl:=zQC (B:=zHX ((N:Int),L)) L (fun s p=>s++[z2I p]) id (fun i s=>s.length≤i) ([]:List wD) (by simp) ?_ ?_
 ·rw [hl.1,zJ8]
  simp only [id,List.nil_append,zob]
  rw [zYj (by rw [List.length_map];exact h.len')]
  rfl
 ·intro i p s hp hI
  have:=h.len
  have:=vF hp
  unfold zHX
  simp only [wS hp,if_true,wP hp,zob,wR hp h.len']
  rw [vY (by simp;omega)]
  exact ⟨rfl,by simp;omega⟩
 ·intro s _
  unfold zHX
  simp [len]
theorem zUW (h:vX N L) (i:Int):zDw ((N:Int),L) i=some (yX N L i):=by
 unfold zDw
 rw [zWd h]
 simp only [zob]
 rw [zMz h.rev]
 simp only [zob,Option.some.injEq]
 exact List.filter_congr fun x _=>ed_rev
end
end
section
theorem zIk {N i:Nat} (f:Nat->Int):(qU N f)[i]?=if i<N then some (f i) else none:=by
 unfold qU
 by_cases h:i<N
 ·simp [h]
 ·simp [h]
theorem z2t (N:Nat) (f:Nat->Int):qU (N+1) f=qU N f++[f N]:=by simp [qU,List.range_succ]
theorem zYO {N c:Nat} (f:Nat->Int) (h:c≤N):(qU N f).take c=qU c f:=by
 apply List.ext_getElem?
 intro i
 rw [List.getElem?_take,zIk,zIk]
 by_cases h1:i<c
 ·simp [h1,show i<N by omega]
 ·simp [h1]
theorem zU7 (k:Nat) (f:Nat->Int) {x:Nat} (hx:x<k) (v:Int):xR k (qU k f) (x:Int) v=qU k fun j=>if j=x then v else f j:=by
 unfold xR qU
 apply List.map_congr_left
 intro j hj
 have hj:=List.mem_range.1 hj
 rw [Int.toNat_natCast]
 by_cases h:j=x
 ·simp [h]
 ·simp only [h,if_false]
  simp [List.getD,hj]
theorem zPL (k:Nat) (f:Nat->Int) {x:Nat} (hx:x<k):yR (qU k f) (x:Int)=f x:=by
 unfold yR qU
 simp [List.getD,hx]
theorem z0E (k:Nat) (v:Int):List.replicate k v=qU k fun _=>v:=by
 apply List.ext_getElem?
 intro i
 rw [zIk,List.getElem?_replicate]
theorem zMf {x k:Nat} {K:Int} (hK:K=(k:Int)) (h:x<k):yC (decide (0≤(x:Int))&&decide ((x:Int)<K))=some ():=by
 subst hK
 simp [yC];omega
theorem z2o:∀ n,n<41->zLk (IntKind.u64.wrap 1) (IntKind.u64.wrap ((n:Nat):Int))=some (0,(n:Int)):=by decide +kernel
theorem zYl {n c:Nat} (x:Int) (hc:c≤n):zJF (qU n fun i=>if i<c then x else 0) (c:Int) (qU c fun i=>if i<c then x else 0)=qU n fun i=>if i<min (c+c) n then x else 0:=by
 unfold zJF
 apply List.ext_getElem?
 intro i
 rw [Int.toNat_natCast,zG5,zG5,zYO _ hc]
 rw [List.getElem?_append,List.getElem?_append,List.length_append,zG5,List.length_take,zG5,List.getElem?_take,List.getElem?_drop]
 rw [zIk,zIk,zIk,zIk]
 by_cases h1:i<c
 ·have h2:i<c+min (n-c) c:=by omega
  have h3:i<n:=by omega
  have h4:i<min (c+c) n:=by omega
  simp only [h1,h2,h3,h4,if_true]
 ·by_cases h2:i<c+min (n-c) c
  ·have h3:i<n:=by omega
   have h4:i<min (c+c) n:=by omega
   have h5:i-c<n-c:=by omega
   have h6:i-c<c:=by omega
   simp only [h1,h2,h3,h4,h5,h6,if_true,if_false]
  ·by_cases h3:i<n
   ·have h4:c+c+(i-(c+min (n-c) c))=i:=by omega
    have h5:¬ i<min (c+c) n:=by omega
    rw [h4]
    simp only [h1,h2,h3,h5,if_true,if_false]
   ·have h4:¬ c+c+(i-(c+min (n-c) c))<n:=by omega
    simp only [h1,h2,h3,h4,if_false]
theorem zV2 (x:Int) {n:Nat} (hn:n≤40):zCb [x] (n:Int)=some (qU n fun _=>x):=by
 unfold zCb
 have h0:decide ((n:Int)<0)=false:=decide_eq_false (by omega)
 have h1:IntKind.u64.wrap (len [x])=IntKind.u64.wrap 1:=rfl
 have h2:(decide ((0:Int)<0)||decide (9223372036854775807<(n:Int)))=false:=by simp;omega
 simp only [h0,zbf,if_false,zob,h1,z2o n (by omega),h2,zWZ n (by omega)]
 rw [z2j (by omega)]
 simp only [zob,zG5]
 have hs:zJF (qU n fun _=>(0:Int)) 0 [x]=qU n fun i=>if i<min 1 n then x else 0:=by
  cases n with
  | zero=>rfl
  | succ n =>
   unfold zJF qU
   rw [List.range_succ_eq_map]
   simp only [List.map_cons,List.map_map]
   have h4:min 1 (n+1)=1:=by omega
   simp [Function.comp_def,h4]
 rw [hs]
 have hm:((Nat.min (List.length [x]) n:Nat):Int)=((min 1 n:Nat):Int):=rfl
 rw [hm]
 have hl:=zVr (B:=zHI (qU n fun _=>0)) (fun s=>n-s.2.toNat) (fun s=>∃ c:Nat,c≤n∧min 1 n≤c∧s=(qU n (fun i=>if i<c then x else 0),(c:Int))) (fun r=>r=qU n fun _=>x) ?_ (qU n (fun i=>if i<min 1 n then x else 0),((min 1 n:Nat):Int)) ⟨min 1 n,by omega,Nat.le_refl _,rfl⟩
 ·obtain ⟨r,h3,rfl⟩:=hl
  exact h3
 ·rintro _ ⟨c,hc,h1c,rfl⟩
  unfold zHI
  by_cases hlt:c<n
  ·refine .inl ⟨(qU n (fun i=>if i<min (c+c) n then x else 0),((min (c+c) n:Nat):Int)),?_,⟨min (c+c) n,by omega,by omega,rfl⟩,?_⟩
   ·have hd:decide ((c:Int)<len (qU n fun _=>(0:Int)))=true:=decide_eq_true (by simp only [len,zG5];omega)
    have hck:(decide (0≤(c:Int))&&decide ((c:Int)≤len (qU n fun i=>if i<c then x else 0)))=true:=by
     rw [decide_eq_true (show 0≤(c:Int) by omega),decide_eq_true (show (c:Int)≤len (qU n fun i=>if i<c then x else 0) by simp only [len,zG5];omega)]
     rfl
    simp only [hd,if_true,hck,yC,zob]
    rw [zOO (by omega) (by rw [zG5];omega)]
    simp only [zob,Int.toNat_natCast,zYO _ hc,zYl x hc,zG5]
    have hnum:((Nat.min c (Int.toNat (((n:Nat):Int)-(c:Int))):Nat):Int)=((min c (n-c):Nat):Int):=by
     have:Int.toNat (((n:Nat):Int)-(c:Int))=n-c:=by omega
     rw [this]
    rw [hnum,xV (by omega) (by omega)]
    congr 3
    omega
   ·simp only [Int.toNat_natCast]
    omega
  ·have hcn:c=n:=by omega
   subst hcn
   have hd:decide ((c:Int)<len (qU c fun _=>(0:Int)))=false:=by simp [len,zG5]
   refine .inr ⟨qU c fun i=>if i<c then x else 0,by simp only [hd,zbf,if_false],?_⟩
   apply zBk
   intro i hi
   simp [hi]
section
variable (N:Nat) (L:List wD)
noncomputable def rnk:Nat->Nat->Int
 | 0,_=>0
 | k+1,i=>if vD N L (k+1) i=vD N L k i then rnk k i else ((k+1:Nat):Int)
theorem zPI (k i:Nat):vD N L k i=1∨vD N L k i=2∨vD N L k i=3:=by
 unfold vD
 by_cases h1:uR N L k i
 ·simp [h1]
 ·by_cases h2:att (yJ L) (uR N L k) i <;> simp [h1,h2]
theorem now3 {k i:Nat} (h:tP N L k i):vD N L k i=3:=(z5r N L).2 ⟨h.2,fun ⟨m,h3,h4⟩=>zSY N L h3 (h.1.2 m h4)⟩
theorem z2B {k i:Nat} (h:vD N L k i=2):vD N L (k+1) i=2:=(zVF N L).2 (by obtain ⟨m,h1,h2⟩:=(zVF N L).1 h;exact ⟨m,zPh h1,h2⟩)
theorem zWN {k:Nat} (h:∀ i,¬ tP N L k i):∀ m,k≤m->∀ i,vD N L m i=vD N L k i:=by
 intro m hm i
 have hs:=z1d (D:=(· < N)) (R:=yJ L) (k:=k) fun i hi=>Classical.byContradiction fun hn=>h i ⟨hi,hn⟩
 have he:∀ i,uR N L m i↔uR N L k i:=fun i=>⟨hs m hm i,z6Z hm⟩
 unfold vD
 have ha:att (yJ L) (uR N L m) i↔att (yJ L) (uR N L k) i:=⟨fun ⟨j,h1,h2⟩=>⟨j,(he j).1 h1,h2⟩,fun ⟨j,h1,h2⟩=>⟨j,(he j).2 h1,h2⟩⟩
 by_cases h1:uR N L k i
 ·rw [if_pos ((he i).2 h1),if_pos h1]
 ·rw [if_neg (fun h=>h1 ((he i).1 h)),if_neg h1]
  by_cases h2:att (yJ L) (uR N L k) i
  ·rw [if_pos (ha.2 h2),if_pos h2]
  ·rw [if_neg (fun h=>h2 (ha.1 h)),if_neg h2]
theorem z5n {k:Nat} (h:∀ i,¬ tP N L k i):∀ m,k≤m->∀ i,rnk N L m i=rnk N L k i:=by
 intro m hm i
 induction m with
 | zero=>rw [show k=0 by omega]
 | succ m ih =>
  by_cases he:k=m+1
  ·rw [he]
  ·have h1:vD N L (m+1) i=vD N L m i:=by rw [zWN N L h (m+1) hm,zWN N L h m (by omega)]
   rw [rnk,if_pos h1,ih (by omega)]
theorem zT2 {i:Nat}:¬ tP N L N i:=fun h=>h.2 (z6Q (D:=(· < N)) (fun _ h=>h) h.1)
end
section
variable {N:Nat} {L:List wD}
noncomputable abbrev lb (N:Nat) (L:List wD) (k:Nat):List Int:=qU N (vD N L k)
noncomputable abbrev rn (N:Nat) (L:List wD) (k:Nat):List Int:=qU N (rnk N L k)
noncomputable def zQT (N:Nat) (L:List wD):List Int:=lb N L (N+1)
noncomputable def z6n (N:Nat) (L:List wD):List Int:=rn N L (N+1)
theorem zZD:lb N L 0=qU N fun _=>3:=zBk fun i _=>(z5r N L).2 ⟨fun h:uR N L 0 i=>h.elim,fun ⟨m,(h:uR N L 0 m),_⟩=>h.elim⟩
theorem z5c {k:Nat} (hk:k≤N) (h:∀ i,¬ tP N L k i):lb N L k=zQT N L∧rn N L k=z6n N L:=by
 refine ⟨zBk fun i _=>(zWN N L h (N+1) (by omega) i).symm,zBk fun i _=>(z5n N L h (N+1) (by omega) i).symm⟩
theorem vX.hR (h:vX N L):∀ a b:Int,ed L a b=true->∃ m,m<N∧a=(m:Int):=fun a b he=>by
 obtain ⟨i,j,h1,_,h3,_⟩:=h.inN a b he
 exact ⟨i,h1,h3⟩
theorem z6W {i:Int} {q:Nat} {x:Int} (h:(yX N L i)[q]?=some x):∃ a:Nat,x=(a:Int)∧a<N∧ed L (a:Int) i=true:=by
 obtain ⟨h1,h2⟩:=List.mem_filter.1 (wZ h)
 obtain ⟨h3,h4⟩:=xJ.1 h1
 obtain ⟨a,rfl⟩:=Int.eq_ofNat_of_zero_le h3
 exact ⟨a,rfl,by omega,h2⟩
theorem zWr (i:Int):(yX N L i).length≤N:=Nat.le_trans (List.length_filter_le _ _) (by rw [tE];exact Nat.le_refl _)
theorem zZs (i:Int):(zN4 N L i).length≤N:=Nat.le_trans (List.length_filter_le _ _) (by rw [tE];exact Nat.le_refl _)
open Classical in
noncomputable def zXc (N:Nat) (L:List wD) (k i:Nat):Int:=if tP N L k i then 1 else vD N L k i
open Classical in
noncomputable def z5Y (N:Nat) (L:List wD) (k i:Nat):Int:=if tP N L k i then ((k+1:Nat):Int) else rnk N L k i
end
end
section
section
variable {N:Nat} {L:List wD}
theorem z5w (h:vX N L) (i:Int):(L.filter fun p=>p.2==i).map (·.1)=yX N L i:=by
 apply vZ.ext tG ?_ ((zKO N).filter _)
 ·intro x
  rw [List.mem_map,List.mem_filter,xJ,zSq]
  constructor
  ·rintro ⟨p,hp,rfl⟩
   obtain ⟨h1,h2⟩:=List.mem_filter.1 hp
   have h3:p.2=i:=by simpa using h2
   obtain ⟨a,b,h4,h5,h6⟩:=zK6 (h.inr p h1)
   subst h6
   exact ⟨⟨by show (0:Int)≤(a:Int);omega,by show (a:Int)<(N:Int);omega⟩,by rw [←h3];exact h1⟩
  ·rintro ⟨_,h1⟩
   exact ⟨_,List.mem_filter.2 ⟨h1,by simp⟩,rfl⟩
 ·have h1:=h.asc.filter fun p:wD=>p.2==i
  rw [vZ,List.pairwise_map]
  refine List.Pairwise.imp_of_mem ?_ h1
  intro p q hp hq hlt
  have h2:p.2=i:=by simpa using (List.mem_filter.1 hp).2
  have h3:q.2=i:=by simpa using (List.mem_filter.1 hq).2
  simp only [xY,zXb,h2,h3,tG.irrefl,Bool.and_false,Bool.or_false] at hlt
  exact hlt
def vE (N:Nat) (L:List wD) (f:Nat->Int) (j:Nat):Nat:=((yX N L (j:Int)).filter fun b=>!(f b.toNat==2)).length
theorem cnt_le (f:Nat->Int) (j:Nat):vE N L f j≤N:=Nat.le_trans (List.length_filter_le _ _) (zWr _)
theorem z0U {f:Nat->Int} {j:Nat}:vE N L f j=0↔∀ b,b<N->yJ L b j->f b=2:=by
 unfold vE
 rw [List.length_eq_zero_iff,List.filter_eq_nil_iff]
 constructor
 ·intro h b hb he
  have:=h (b:Int) (List.mem_filter.2 ⟨xJ.2 ⟨by omega,by omega⟩,he⟩)
  simpa using this
 ·intro h x hx
  obtain ⟨h1,h2⟩:=List.mem_filter.1 hx
  obtain ⟨h3,h4⟩:=xJ.1 h1
  obtain ⟨a,rfl⟩:=Int.eq_ofNat_of_zero_le h3
  simp [h a (by omega) h2]
theorem zVf {α:Type} [DecidableEq α] {p q:α->Bool} {x:α}:∀ {l:List α},l.Nodup->x∈l->p x=true->q x=false->(∀ y∈l,y≠x->p y=q y)->(l.filter p).length=(l.filter q).length+1
 | [],_,hx,_,_,_=>by cases hx
 | y::l,hn,hx,h1,h2,h3=>by
  obtain ⟨hy,hl⟩:=List.nodup_cons.1 hn
  by_cases he:y=x
  ·subst he
   have:l.filter p=l.filter q:=List.filter_congr fun z hz=>h3 z (List.mem_cons_of_mem _ hz) fun e=>by subst e;exact hy hz
   simp [h1,h2,this]
  ·have hm:x∈l:=by
    rcases List.mem_cons.1 hx with h | h
    ·exact absurd h.symm he
    ·exact h
   have ih:=zVf hl hm h1 h2 fun z hz=>h3 z (List.mem_cons_of_mem _ hz)
   have hpq:=h3 y List.mem_cons_self he
   cases hq:q y with
   | true=>simp [hpq,hq,ih]
   | false=>simp [hpq,hq,ih]
theorem z6p {f:Nat->Int} {a:Nat} (ha:a<N) (h3:f a=3) (j:Nat) :
  vE N L f j=vE N L (fun b=>if b=a then 2 else f b) j+(if ed L (a:Int) (j:Int)=true then 1 else 0):=by
 unfold vE
 by_cases he:ed L (a:Int) (j:Int)=true
 ·rw [if_pos he]
  refine zVf (x:=(a:Int)) ?_ (List.mem_filter.2 ⟨xJ.2 ⟨by omega,by omega⟩,he⟩) (by simp [h3]) (by simp) ?_
  ·exact ((zKO N).filter _).imp fun {x y} hh e=>by subst e;simp at hh
  ·intro y hy hne
   obtain ⟨h1,h2⟩:=List.mem_filter.1 hy
   obtain ⟨h4,h5⟩:=xJ.1 h1
   obtain ⟨b,rfl⟩:=Int.eq_ofNat_of_zero_le h4
   have h6:b≠a:=fun e=>hne (by rw [e])
   simp [h6]
 ·rw [if_neg he,Nat.add_zero]
  congr 1
  apply List.filter_congr
  intro x hx
  obtain ⟨h1,h2⟩:=List.mem_filter.1 hx
  obtain ⟨h4,h5⟩:=xJ.1 h1
  obtain ⟨b,rfl⟩:=Int.eq_ofNat_of_zero_le h4
  have hne:b≠a:=fun e=>by subst e;exact he h2
  simp [hne]
theorem zT9 {k b:Nat}:zXc N L k b=2↔vD N L k b=2:=by
 unfold zXc
 by_cases h:tP N L k b
 ·have:=now3 N L h
  simp [h,this]
 ·rw [if_neg h]
theorem zTg {f f':Nat->Int} (h:∀ b,b<N->(f b=2↔f' b=2)) (j:Nat):vE N L f j=vE N L f' j:=by
 unfold vE
 congr 1
 apply List.filter_congr
 intro x hx
 obtain ⟨h4,h5⟩:=xJ.1 (List.mem_filter.1 hx).1
 obtain ⟨b,rfl⟩:=Int.eq_ofNat_of_zero_le h4
 have h1:=h b (by omega)
 rw [Int.toNat_natCast,Bool.eq_iff_iff]
 simp [h1]
theorem zTd (h:vX N L) {k j:Nat} (hj:j<N):(vD N L k j=3∧vE N L (vD N L k) j=0)↔tP N L k j:=by
 rw [z0U,z6e N L hj h.hR]
structure Nxt (N:Nat) (L:List wD) (f:Nat->Int) (nx:List Int):Prop where
 nd:nx.Nodup
 rg:∀ x∈nx,0≤x∧x<N
 mem:∀ j:Nat,(j:Int)∈nx↔j<N∧f j=3∧vE N L f j=0
theorem zZh {nx:List Int} (h1:nx.Nodup) (h2:∀ x∈nx,0≤x∧x<(N:Int)):nx.length≤N:=by
 have:=zSC (m:=wW N) h1 fun x hx=>xJ.2 (h2 x hx)
 rwa [tE] at this
theorem z2a {i:Int} {q:Nat} {x:Int} (h:(zN4 N L i)[q]?=some x):∃ a:Nat,x=(a:Int)∧a<N∧ed L i (a:Int)=true:=by
 obtain ⟨h1,h2⟩:=List.mem_filter.1 (wZ h)
 obtain ⟨h3,h4⟩:=xJ.1 h1
 obtain ⟨a,rfl⟩:=Int.eq_ofNat_of_zero_le h3
 exact ⟨a,rfl,by omega,h2⟩
theorem z0g (i:Int):(zN4 N L i).Nodup:=((zKO N).filter _).imp fun {x y} hh e=>by subst e;simp at hh
theorem zZf {i:Int} {j:Nat} (hj:j<N):(j:Int)∈zN4 N L i↔ed L i (j:Int)=true:=by
 rw [List.mem_filter,xJ]
 exact ⟨fun h=>h.2,fun h=>⟨⟨by omega,by omega⟩,h⟩⟩
theorem z3n {α:Type} {l:List α} (hn:l.Nodup) {i:Nat} {x:α} (hx:l[i]?=some x):x∉l.take i:=by
 intro hm
 obtain ⟨j,hj⟩:=List.getElem?_of_mem hm
 rw [List.getElem?_take] at hj
 split at hj
 ·rename_i hji
  obtain ⟨h1,h2⟩:=List.getElem?_eq_some_iff.1 hj
  obtain ⟨h3,h4⟩:=List.getElem?_eq_some_iff.1 hx
  have:=(List.getElem_inj hn).1 (h2.trans h4.symm)
  omega
 ·cases hj
theorem grp_L7 (h:vX N L) {f:Nat->Int} (l2:List Int) {a:Nat} (ha:a<N) (h3:f a=3) (hca:vE N L f a≠0) (q:Int) (s6:List Int×List Int×List Int×Int×List Int) {nx:List Int} (hnx:Nxt N L f nx) (hq:0≤q∧q<1000) :
  ∃ nx',Nxt N L (fun b=>if b=a then 2 else f b) nx' ∧
   zU (zEA (zN4 N L (a:Int)) (qU N f,l2,nx,q,qU 40 fun j=>(vE N L f j:Int)) (a:Int) s6) (nx,0,qU 40 fun j=>(vE N L f j:Int)) =
    some (.inl (qU N (fun b=>if b=a then 2 else f b),List.set l2 a s6.2.2.2.1,nx',q+1,qU 40 fun j=>(vE N L (fun b=>if b=a then 2 else f b) j:Int))):=by
 have hN:=h.hN
 let f':Nat->Int:=fun b=>if b=a then 2 else f b
 let o (t j:Nat):Nat:=vE N L f' j+if ed L (a:Int) (j:Int)=true∧(j:Int)∉(zN4 N L (a:Int)).take t then 1 else 0
 have ho0:∀ j,o 0 j=vE N L f j:=fun j=>by
  show vE N L f' j+_=_
  rw [z6p ha h3 j]
  simp [f']
 have hsl:=zZs (N:=N) (L:=L) (a:Int)
 have hl:=uW (B:=zEA (zN4 N L (a:Int)) (qU N f,l2,nx,q,qU 40 fun j=>(vE N L f j:Int)) (a:Int) s6) (fun t (s:List Int×List Int)=>(s.1,(t:Int),s.2)) (zN4 N L (a:Int))
  (fun t s=>s.2=qU 40 (fun j=>(o t j:Int))∧s.1.Nodup∧(∀ x∈s.1,0≤x∧x<(N:Int))∧∀ j:Nat,(j:Int)∈s.1↔j<N∧f' j=3∧o t j=0)
  (fun r=>∃ nx',Nxt N L f' nx'∧r=.inl (qU N f',List.set l2 a s6.2.2.2.1,nx',q+1,qU 40 fun j=>(vE N L f' j:Int))) ?_ ?_ (nx,qU 40 fun j=>(vE N L f j:Int)) ?_
 ·obtain ⟨r,h1,nx',h2,rfl⟩:=hl
  exact ⟨nx',h2,h1⟩
 ·rintro t x ⟨n1,op⟩ hx ⟨hop,hnd,hrg,hmem⟩
  simp only at hop hnd hrg hmem
  subst hop
  obtain ⟨j0,rfl,hj0,he⟩:=z2a hx
  have hnot:=z3n (z0g (N:=N) (L:=L) (a:Int)) hx
  have hn1:=zZh hnd hrg
  have ho1:o t j0=vE N L f' j0+1:=by
   show vE N L f' j0+_=_
   rw [if_pos ⟨he,hnot⟩]
  have ho2:o (t+1) j0=vE N L f' j0:=by
   show vE N L f' j0+_=_
   rw [if_neg (fun hh=>hh.2 (by rw [xA hx];simp)),Nat.add_zero]
  have ho3:∀ j,j≠j0->o (t+1) j=o t j:=fun j hj=>by
   show vE N L f' j+_=vE N L f' j+_
   congr 1
   have:(j:Int)∉(zN4 N L (a:Int)).take (t+1)↔(j:Int)∉(zN4 N L (a:Int)).take t:=by
    rw [xA hx,List.mem_append,List.mem_singleton]
    have:¬ (j:Int)=(j0:Int):=by omega
    simp [this]
   simp only [this]
  have hc0:=cnt_le (N:=N) (L:=L) f' j0
  have hnew:xR 40 (qU 40 fun j=>(o t j:Int)) (j0:Int) (zS ((yR (qU 40 fun j=>(o t j:Int)) (j0:Int))-1))=qU 40 fun j=>(o (t+1) j:Int):=by
   rw [zPL _ _ (by omega),zU7 _ _ (by omega),xV (by omega) (by omega)]
   apply zBk
   intro j _
   by_cases hj:j=j0
   ·subst hj;rw [if_pos rfl,ho1,ho2];omega
   ·rw [if_neg hj,ho3 j hj]
  have hset:List.set (qU N f) (Int.toNat (a:Int)) 2=qU N f':=by rw [Int.toNat_natCast,zRG]
  unfold zEA
  simp only [wS hx,if_true,wP hx,zob,zMf (show (40:Int)=((40:Nat):Int) from rfl) (show j0<40 by omega),hnew,zPL 40 (fun j=>(o (t+1) j:Int)) (show j0<40 by omega),hset,zQA f' hj0,wR hx (show (zN4 N L (a:Int)).length<4294967296 by omega),ho2]
  cases hz:(((vE N L f' j0:Nat):Int)==0)&&(f' j0==3) with
  | true =>
   rw [Bool.and_eq_true,beq_iff_eq,beq_iff_eq] at hz
   have hnin:(j0:Int)∉n1:=fun hm=>by have:=((hmem j0).1 hm).2.2;omega
   refine .inl ⟨(n1++[(j0:Int)],qU 40 fun j=>(o (t+1) j:Int)),?_,rfl,?_,?_,?_⟩
   ·simp only [hz.1,hz.2,beq_self_eq_true,if_true,zob]
    rw [vY (by simp;omega)]
    rfl
   ·rw [List.nodup_append]
    exact ⟨hnd,by simp,fun x hx y hy e=>by rw [List.mem_singleton] at hy;subst hy;subst e;exact hnin hx⟩
   ·intro x hx
    rcases List.mem_append.1 hx with hx | hx
    ·exact hrg x hx
    ·rw [List.mem_singleton] at hx;subst hx;omega
   ·intro j
    rw [List.mem_append,List.mem_singleton]
    by_cases hj:j=j0
    ·subst hj
     exact ⟨fun _=>⟨hj0,hz.2,by rw [ho2];omega⟩,fun _=>.inr rfl⟩
    ·rw [ho3 j hj,hmem j]
     exact ⟨fun hh=>hh.elim id fun e=>absurd (by omega) hj,.inl⟩
  | false =>
   refine .inl ⟨(n1,qU 40 fun j=>(o (t+1) j:Int)),?_,rfl,hnd,hrg,?_⟩
   ·cases h1:(((vE N L f' j0:Nat):Int)==0) with
    | false=>simp only [zbf,if_false,zob]
    | true =>
     rw [h1,Bool.true_and] at hz
     simp only [if_true,zob,hz,zbf,if_false]
   ·intro j
    by_cases hj:j=j0
    ·subst hj
     rw [hmem j,ho1,ho2]
     constructor
     ·rintro ⟨_,_,h0⟩;omega
     ·rintro ⟨_,h1,h0⟩
      rw [h0,h1] at hz
      simp at hz
    ·rw [ho3 j hj,hmem j]
 ·rintro ⟨n1,op⟩ ⟨hop,hnd,hrg,hmem⟩
  simp only at hop hnd hrg hmem
  subst hop
  have hoe:∀ j,j<40->o (zN4 N L (a:Int)).length j=vE N L f' j:=fun j _=>by
   show vE N L f' j+_=_
   rw [List.take_length,if_neg]
   ·rfl
   ·rintro ⟨h1,h2⟩
    obtain ⟨x,y,_,h4,_,h6⟩:=h.inN _ _ h1
    exact h2 ((zZf (by omega)).2 h1)
  refine ⟨_,?_,n1,⟨hnd,hrg,fun j=>?_⟩,rfl⟩
  ·unfold zEA
   have hset:List.set (qU N f) a 2=qU N f':=zRG f 2
   have hm:(qU 40 fun j=>(o (zN4 N L (a:Int)).length j:Int))=qU 40 fun j=>(vE N L f' j:Int):=zBk fun j hj=>by rw [hoe j hj]
   simp only [yU,zbf,if_false,Int.toNat_natCast,hset,hm]
   rw [xV (by omega) (by omega)]
  ·rw [hmem j]
   constructor
   ·rintro ⟨h1,h2,h4⟩;exact ⟨h1,h2,by rw [hoe j (by omega)] at h4;exact h4⟩
   ·rintro ⟨h1,h2,h4⟩;exact ⟨h1,h2,by rw [hoe j (by omega)];exact h4⟩
 ·refine ⟨?_,hnx.nd,hnx.rg,fun j=>?_⟩
  ·show (qU 40 fun j=>(vE N L f j:Int))=_
   exact zBk fun j _=>by rw [ho0]
  ·show (j:Int)∈nx↔_
   rw [hnx.mem j,ho0]
   show _↔j<N∧(if j=a then 2 else f j)=3∧vE N L f j=0
   by_cases hj:j=a
   ·subst hj
    rw [if_pos rfl]
    exact ⟨fun hh=>absurd hh.2.2 hca,fun hh=>absurd hh.2.2 hca⟩
   ·rw [if_neg hj]
structure Mid (N:Nat) (L:List wD) (k:Nat) (f g:Nat->Int) (nx:List Int):Prop where
 v:∀ j,j<N->f j=1∨f j=2∨f j=3
 one:∀ j,j<N->(f j=1↔vD N L (k+1) j=1)
 two:∀ j,j<N->f j=2->vD N L (k+1) j=2
 old:∀ j,j<N->vD N L k j=2->f j=2
 rk:∀ j,j<N->g j=if f j=vD N L k j then rnk N L k j else ((k+1:Nat):Int)
 nx:Nxt N L f nx
theorem grp_L6 (h:vX N L) {k:Nat} (hk:k≤100) {i:Nat} (hi:tP N L k i) (s6:List Int×List Int×List Int×Int×List Int) (hs6:s6.2.2.2.1=((k+1:Nat):Int)) (D:Nat->Prop)
  {f g:Nat->Int} {nx:List Int} (hM:Mid N L k f g nx) (hD:∀ j,D j->f j≠3) (q:Nat) (hq:q<1000) (z1 z2 z3 z5:List Int) :
  ∃ f' g' nx',Mid N L k f' g' nx'∧(∀ j,j<N->D j∨yJ L i j->f' j≠3) ∧
   zU (zCJ (zN4 N L (i:Int)) ((N:Int),L) s6 (z1,z2,z3,(q:Int),z5)) (qU N f,qU N g,nx,0,qU 40 fun j=>(vE N L f j:Int)) =
    some (.inl (qU N f',qU N g',nx',((q+1:Nat):Int),qU 40 fun j=>(vE N L f' j:Int))):=by
 have hN:=h.hN
 have hsl:=zZs (N:=N) (L:=L) (i:Int)
 have hl:=uW (B:=zCJ (zN4 N L (i:Int)) ((N:Int),L) s6 (z1,z2,z3,(q:Int),z5)) (fun t (s:List Int×List Int×List Int×List Int)=>(s.1,s.2.1,s.2.2.1,(t:Int),s.2.2.2)) (zN4 N L (i:Int))
  (fun t s=>∃ f' g' nx',Mid N L k f' g' nx'∧(∀ j,j<N->D j∨(j:Int)∈(zN4 N L (i:Int)).take t->f' j≠3)∧s=(qU N f',qU N g',nx',qU 40 fun j=>(vE N L f' j:Int)))
  (fun r=>∃ f' g' nx',Mid N L k f' g' nx'∧(∀ j,j<N->D j∨yJ L i j->f' j≠3)∧r=.inl (qU N f',qU N g',nx',((q+1:Nat):Int),qU 40 fun j=>(vE N L f' j:Int))) ?_ ?_ (qU N f,qU N g,nx,qU 40 fun j=>(vE N L f j:Int)) ⟨f,g,nx,hM,fun j _ hj=>by simp at hj;exact hD j hj,rfl⟩
 ·obtain ⟨r,h1,f',g',nx',h2,h3,rfl⟩:=hl
  exact ⟨f',g',nx',h2,h3,h1⟩
 ·rintro t x _ hx ⟨f',g',nx',hM',hD',rfl⟩
  obtain ⟨a,rfl,ha,he⟩:=z2a hx
  by_cases h3:f' a=3
  ·have hb:(f' a != 3)=false:=by simp [h3]
   have hfi:f' i=1:=(hM'.one i (zV1 (D:=(· < N)) hi.1)).2 ((z5K N L).2 hi.1)
   have hca:vE N L f' a≠0:=fun h0=>by have:=z0U.1 h0 i (zV1 (D:=(· < N)) hi.1) he;omega
   have ht:t<1000:=by have:=vF hx;omega
   obtain ⟨n2,hn2,h7⟩:=grp_L7 h (qU N g') ha h3 hca (t:Int) s6 hM'.nx ⟨by omega,by omega⟩
   have hla:vD N L k a≠2:=fun e=>by have:=hM'.old a ha e;omega
   refine .inl ⟨(qU N (fun b=>if b=a then 2 else f' b),qU N (fun b=>if b=a then ((k+1:Nat):Int) else g' b),n2,qU 40 fun j=>(vE N L (fun b=>if b=a then 2 else f' b) j:Int)),?_,_,_,n2,⟨?_,?_,?_,?_,?_,hn2⟩,?_,rfl⟩
   ·unfold zCJ
    simp only [wS hx,if_true,wP hx,zob,zQA _ ha,hb,zbf,if_false,zMz h]
    rw [h7,hs6,zRG]
    rfl
   ·intro j hj
    by_cases e:j=a
    ·simp [e]
    ·simpa [e] using hM'.v j hj
   ·intro j hj
    by_cases e:j=a
    ·subst e
     have h1:=hM'.one j hj
     rw [h3] at h1
     simp only [if_true]
     constructor
     ·intro h2;cases h2
     ·intro h2;have:=h1.2 h2;omega
    ·simpa [e] using hM'.one j hj
   ·intro j hj
    by_cases e:j=a
    ·subst e
     intro _
     exact (zVF N L).2 ⟨i,hi.1,he⟩
    ·simpa [e] using hM'.two j hj
   ·intro j hj hj2
    by_cases e:j=a
    ·subst e;exact absurd hj2 hla
    ·simpa [e] using hM'.old j hj hj2
   ·intro j hj
    by_cases e:j=a
    ·subst e
     rw [if_pos rfl,if_pos rfl,if_neg (fun e2=>hla e2.symm)]
    ·simpa [e] using hM'.rk j hj
   ·intro j hj hjd
    by_cases e:j=a
    ·simp [e]
    ·simp only [e,if_false]
     refine hD' j hj (hjd.imp id fun hm=>?_)
     rw [xA hx,List.mem_append,List.mem_singleton] at hm
     exact hm.resolve_right (by omega)
  ·have hb:(f' a != 3)=true:=by simp [h3]
   refine .inl ⟨(qU N f',qU N g',nx',qU 40 fun j=>(vE N L f' j:Int)),?_,f',g',nx',hM',?_,rfl⟩
   ·unfold zCJ
    simp only [wS hx,if_true,wP hx,zob,zQA _ ha,hb,wR hx (show (zN4 N L (i:Int)).length<4294967296 by omega)]
   ·intro j hj hjd
    by_cases e:j=a
    ·subst e;exact h3
    ·refine hD' j hj (hjd.imp id fun hm=>?_)
     rw [xA hx,List.mem_append,List.mem_singleton] at hm
     exact hm.resolve_right (by omega)
 ·rintro _ ⟨f',g',nx',hM',hD',rfl⟩
  refine ⟨_,?_,f',g',nx',hM',fun j hj hjd=>hD' j hj (hjd.imp id fun he=>?_),rfl⟩
  ·unfold zCJ
   simp only [yU,zbf,if_false,yM q (by omega)]
  ·rw [List.take_length]
   exact (zZf hj).2 he
structure zPV (N:Nat) (L:List wD) (k:Nat) (Q:List Int):Prop where
 nd:Q.Nodup
 rg:∀ x∈Q,0≤x∧x<N
 mem:∀ j:Nat,(j:Int)∈Q↔tP N L k j
theorem z2m (h:vX N L) (k:Nat):Mid N L k (zXc N L k) (z5Y N L k) []:=by
 have h1:∀ j,zXc N L k j=1↔vD N L (k+1) j=1:=fun j=>by
  rw [z5K N L]
  unfold zXc
  by_cases hn:tP N L k j
  ·simp [hn,hn.1]
  ·rw [if_neg hn,z5K N L]
   exact ⟨fun hg=>zPh hg,fun hg=>Classical.byContradiction fun hc=>hn ⟨hg,hc⟩⟩
 refine ⟨fun j _=>?_,fun j _=>h1 j,fun j _ h2=>z2B N L (zT9.1 h2),fun j _ h2=>zT9.2 h2,fun j _=>?_,⟨List.nodup_nil,(fun x hx=>by cases hx),fun j=>?_⟩⟩
 ·unfold zXc
  by_cases hn:tP N L k j
  ·simp [hn]
  ·rw [if_neg hn];exact zPI N L k j
 ·unfold zXc z5Y
  by_cases hn:tP N L k j
  ·have:=now3 N L hn
   simp [hn,this]
  ·simp [hn]
 ·constructor
  ·intro hm;cases hm
  ·rintro ⟨hj,h3,h0⟩
   exfalso
   have hc:vE N L (zXc N L k) j=vE N L (vD N L k) j:=zTg (fun b _=>zT9) j
   rw [hc] at h0
   by_cases hn:tP N L k j
   ·unfold zXc at h3;rw [if_pos hn] at h3;cases h3
   ·unfold zXc at h3;rw [if_neg hn] at h3
    exact hn ((zTd h hj).1 ⟨h3,h0⟩)
theorem grp_L5 (h:vX N L) {k:Nat} (hk:k≤100) {Q:List Int} (hQ:zPV N L k Q) (z1 z2 z5:List Int) :
  ∃ Q',zPV N L (k+1) Q'∧zU (zCf (z1,z2,Q,((k+1:Nat):Int),z5) ((N:Int),L)) (qU N (zXc N L k),qU N (z5Y N L k),([]:List Int),0,qU 40 fun j=>(vE N L (vD N L k) j:Int)) =
   some (.inl (lb N L (k+1),rn N L (k+1),Q',((k+2:Nat):Int),qU 40 fun j=>(vE N L (vD N L (k+1)) j:Int))):=by
 have hN:=h.hN
 have hql:=zZh hQ.nd hQ.rg
 have hl:=uW (B:=zCf (z1,z2,Q,((k+1:Nat):Int),z5) ((N:Int),L)) (fun t (s:List Int×List Int×List Int×List Int)=>(s.1,s.2.1,s.2.2.1,(t:Int),s.2.2.2)) Q
  (fun t s=>∃ f' g' nx',Mid N L k f' g' nx'∧(∀ j,j<N->(∃ i:Nat,(i:Int)∈Q.take t∧yJ L i j)->f' j≠3)∧s=(qU N f',qU N g',nx',qU 40 fun j=>(vE N L f' j:Int)))
  (fun r=>∃ Q',zPV N L (k+1) Q'∧r=.inl (lb N L (k+1),rn N L (k+1),Q',((k+2:Nat):Int),qU 40 fun j=>(vE N L (vD N L (k+1)) j:Int))) ?_ ?_ (qU N (zXc N L k),qU N (z5Y N L k),[],qU 40 fun j=>(vE N L (vD N L k) j:Int)) ?_
 ·obtain ⟨r,h1,Q',h2,rfl⟩:=hl
  exact ⟨Q',h2,h1⟩
 ·rintro t x _ hx ⟨f',g',nx',hM,hD,rfl⟩
  have ht:=vF hx
  obtain ⟨h0,h1⟩:=hQ.rg x (wZ hx)
  obtain ⟨i,rfl⟩:=Int.eq_ofNat_of_zero_le h0
  have hi:=(hQ.mem i).1 (wZ hx)
  obtain ⟨f2,g2,n2,hM2,hD2,h6⟩:=grp_L6 h hk hi (z1,z2,Q,((k+1:Nat):Int),z5) rfl (fun j=>j<N∧∃ i:Nat,(i:Int)∈Q.take t∧yJ L i j) hM (fun j hj=>hD j hj.1 hj.2) t (by omega) (qU N f') (qU N g') nx' (qU 40 fun j=>(vE N L f' j:Int))
  refine .inl ⟨(qU N f2,qU N g2,n2,qU 40 fun j=>(vE N L f2 j:Int)),?_,f2,g2,n2,hM2,?_,rfl⟩
  ·unfold zCf
   simp only [wS hx,if_true,wP hx,zob,zMz h]
   rw [h6]
  ·rintro j hj ⟨i',hi',he⟩
   rw [xA hx,List.mem_append,List.mem_singleton] at hi'
   rcases hi' with hi' | hi'
   ·exact hD2 j hj (.inl ⟨hj,i',hi',he⟩)
   ·have:i'=i:=by omega
    subst this
    exact hD2 j hj (.inr he)
 ·rintro _ ⟨f',g',nx',hM,hD,rfl⟩
  rw [List.take_length] at hD
  have hf:∀ j,j<N->f' j=vD N L (k+1) j:=fun j hj=>by
   rcases hM.v j hj with h1 | h1 | h1
   ·rw [h1,(hM.one j hj).1 h1]
   ·rw [h1,hM.two j hj h1]
   ·rcases zPI N L (k+1) j with h2 | h2 | h2
    ·have:=(hM.one j hj).2 h2;omega
    ·exfalso
     rw [z3s] at h2
     by_cases hn:tP N L k j
     ·rw [if_pos hn] at h2;cases h2
     ·rw [if_neg hn] at h2
      by_cases hc:vD N L k j=3∧att (yJ L) (tP N L k) j
      ·obtain ⟨m,h4,h5⟩:=hc.2
       exact hD j hj ⟨m,(hQ.mem m).2 h4,h5⟩ h1
      ·rw [if_neg hc] at h2
       have:=hM.old j hj h2;omega
    ·rw [h1,h2]
  have hg:∀ j,j<N->g' j=rnk N L (k+1) j:=fun j hj=>by
   rw [hM.rk j hj,hf j hj,rnk]
  have hc:∀ j,vE N L f' j=vE N L (vD N L (k+1)) j:=zTg fun b hb=>by rw [hf b hb]
  refine ⟨_,?_,nx',⟨hM.nx.nd,hM.nx.rg,fun j=>?_⟩,rfl⟩
  ·unfold zCf
   have e1:qU N f'=lb N L (k+1):=zBk hf
   have e2:qU N g'=rn N L (k+1):=zBk hg
   have e3:(qU 40 fun j=>(vE N L f' j:Int))=qU 40 fun j=>(vE N L (vD N L (k+1)) j:Int):=zBk fun j _=>by rw [hc]
   simp only [yU,zbf,if_false,e1,e2,e3,yM (k+1) (show k+1+1<9223372036854775808 by omega)]
  ·rw [hM.nx.mem j,hc j]
   constructor
   ·rintro ⟨h1,h2,h3⟩;rw [hf j h1] at h2;exact (zTd h h1).1 ⟨h2,h3⟩
   ·intro hn
    have h1:j<N:=zV1 (D:=(· < N)) hn.1
    obtain ⟨h2,h3⟩:=(zTd h h1).2 hn
    exact ⟨h1,by rw [hf j h1];exact h2,h3⟩
 ·refine ⟨zXc N L k,z5Y N L k,[],z2m h k,fun j _ hj=>by obtain ⟨i,hi,_⟩:=hj;simp at hi,?_⟩
  have:(qU 40 fun j=>(vE N L (vD N L k) j:Int))=qU 40 fun j=>(vE N L (zXc N L k) j:Int):=zBk fun j _=>by rw [zTg fun b _=>zT9]
  rw [this]
open Classical in
theorem grp_L4 (h:vX N L) {k:Nat} {Q:List Int} (hQ:zPV N L k Q) (z1 z2 z5:List Int) :
  zU (zEH (z1,z2,Q,((k+1:Nat):Int),z5)) (lb N L k,rn N L k,0)=some (qU N (zXc N L k),qU N (z5Y N L k)):=by
 have hN:=h.hN
 have hql:=zZh hQ.nd hQ.rg
 have hl:=uW (B:=zEH (z1,z2,Q,((k+1:Nat):Int),z5)) (fun t (s:List Int×List Int)=>(s.1,s.2,(t:Int))) Q
  (fun t s=>s=(qU N (fun j=>if (j:Int)∈Q.take t then 1 else vD N L k j),qU N (fun j=>if (j:Int)∈Q.take t then ((k+1:Nat):Int) else rnk N L k j)))
  (fun r=>r=(qU N (zXc N L k),qU N (z5Y N L k))) ?_ ?_ (lb N L k,rn N L k) (by simp)
 ·obtain ⟨r,h1,rfl⟩:=hl
  exact h1
 ·rintro t x _ hx rfl
  obtain ⟨h0,h1⟩:=hQ.rg x (wZ hx)
  obtain ⟨i,rfl⟩:=Int.eq_ofNat_of_zero_le h0
  refine .inl ⟨_,?_,rfl⟩
  unfold zEH
  simp only [wS hx,if_true,wP hx,zob,zQA _ (show i<N by omega),Int.toNat_natCast,zRG,wR hx (show Q.length<4294967296 by omega)]
  congr 3
  ·apply zBk
   intro j _
   rw [xA hx]
   by_cases e:j=i
   ·subst e;simp
   ·have:¬ (j:Int)=(i:Int):=by omega
    simp [e,this]
  ·congr 1
   apply zBk
   intro j _
   rw [xA hx]
   by_cases e:j=i
   ·subst e;simp
   ·have:¬ (j:Int)=(i:Int):=by omega
    simp [e,this]
 ·rintro _ rfl
  rw [List.take_length]
  refine ⟨_,?_,rfl⟩
  unfold zEH
  simp only [yU,zbf,if_false]
  have e1:(qU N fun j=>if (j:Int)∈Q then 1 else vD N L k j)=qU N (zXc N L k):=zBk fun j _=>by simp only [hQ.mem j];rfl
  have e2:(qU N fun j=>if (j:Int)∈Q then ((k+1:Nat):Int) else rnk N L k j)=qU N (z5Y N L k):=zBk fun j _=>by simp only [hQ.mem j];rfl
  rw [e1,e2]
theorem grp_L1 (h:vX N L):zU (zEF ((N:Int),L)) (0,List.replicate 40 (0:Int))=some (qU 40 fun j=>(vE N L (vD N L 0) j:Int)):=by
 have hN:=h.hN
 have hL:=h.len
 have hl:=uW (B:=zEF ((N:Int),L)) (fun t (s:List Int)=>((t:Int),s)) L
  (fun t s=>s=qU 40 fun j=>(((L.take t).filter fun p=>p.2==(j:Int)).length:Int)) (fun r=>r=qU 40 fun j=>(vE N L (vD N L 0) j:Int)) ?_ ?_ (List.replicate 40 (0:Int)) (by rw [z0E];simp)
 ·obtain ⟨r,h1,rfl⟩:=hl
  exact h1
 ·rintro t p _ hp rfl
  obtain ⟨a,b,ha,hb,rfl⟩:=zK6 (h.inr p (wZ hp))
  have hle:((L.take t).filter fun p=>p.2==(b:Int)).length≤1600:=Nat.le_trans (List.length_filter_le _ _) (Nat.le_trans (List.length_take_le _ _) (by have:=vF hp;omega))
  refine .inl ⟨_,?_,rfl⟩
  unfold zEF
  simp only [wS hp,if_true,wP hp,zob,zMf (show (40:Int)=((40:Nat):Int) from rfl) (show b<40 by omega),wR hp h.len',zPL 40 _ (show b<40 by omega),zU7 40 _ (show b<40 by omega)]
  congr 3
  apply zBk
  intro j _
  rw [xA hp,List.filter_append,List.length_append]
  by_cases e:j=b
  ·subst e
   rw [if_pos rfl,xV (by omega) (by omega)]
   simp
  ·have:¬ (b:Int)=(j:Int):=by omega
   simp [e,this]
 ·rintro _ rfl
  rw [List.take_length]
  refine ⟨_,?_,rfl⟩
  unfold zEF
  have e1:(qU 40 fun j=>((L.filter fun p=>p.2==(j:Int)).length:Int))=qU 40 fun j=>(vE N L (vD N L 0) j:Int):=zBk fun j _=>by
   have h1:(L.filter fun p=>p.2==(j:Int)).length=(yX N L (j:Int)).length:=by rw [←z5w h,List.length_map]
   rw [h1]
   unfold vE
   rw [List.filter_eq_self.2]
   intro x hx
   obtain ⟨q,hq⟩:=List.getElem?_of_mem hx
   obtain ⟨a,rfl,ha,_⟩:=z6W hq
   have:vD N L 0 a=3:=by
    have:=congrArg (fun l:List Int=>l[a]?) (zZD (N:=N) (L:=L))
    simpa [zIk,ha] using this
   simp [this]
  simp only [yU,zbf,if_false,e1]
theorem grp_L2 (h:vX N L):∃ Q,zPV N L 0 Q∧zU (zEJ ((N:Int),L) (qU 40 fun j=>(vE N L (vD N L 0) j:Int))) (([]:List Int),0)=some Q:=by
 have hN:=h.hN
 refine ⟨(wW N).filter fun j=>vE N L (vD N L 0) j.toNat==0,⟨((zKO N).filter _).imp fun {x y} hh e=>by subst e;simp at hh,fun x hx=>xJ.1 (List.mem_filter.1 hx).1,fun j=>?_⟩,?_⟩
 ·rw [List.mem_filter,xJ,Int.toNat_natCast,beq_iff_eq]
  have h0:∀ j,j<N->vD N L 0 j=3:=fun j hj=>by
   have:=congrArg (fun l:List Int=>l[j]?) (zZD (N:=N) (L:=L))
   simpa [zIk,hj] using this
  constructor
  ·rintro ⟨h1,h2⟩
   exact (zTd h (show j<N by omega)).1 ⟨h0 j (by omega),h2⟩
  ·intro hn
   have hj:j<N:=zV1 (D:=(· < N)) hn.1
   exact ⟨⟨by omega,by omega⟩,((zTd h hj).2 hn).2⟩
 ·have hl:=zDz (B:=zEJ ((N:Int),L) (qU 40 fun j=>(vE N L (vD N L 0) j:Int))) (wW N) (fun s j=>if (vE N L (vD N L 0) j.toNat==0) then s++[j] else s) id (fun i s=>s.length≤i) ([]:List Int) (by simp) ?_ ?_
  ·have h2:=zGj (fun j:Int=>vE N L (vD N L 0) j.toNat==0) id (wW N) []
   simp only [id,List.map_id,List.nil_append] at h2
   rw [hl.1,h2];rfl
  ·intro i x s hx hI
   obtain ⟨rfl,hi⟩:=zQY hx
   unfold zEJ
   have hd:decide ((i:Int)<(N:Int))=true:=decide_eq_true (by omega)
   simp only [hd,if_true,zMf (show (40:Int)=((40:Nat):Int) from rfl) (show i<40 by omega),zob,zPL 40 _ (show i<40 by omega),yM i (by omega),Int.toNat_natCast]
   have hz:(((vE N L (vD N L 0) i:Nat):Int)==0)=(vE N L (vD N L 0) i==0):=by rw [Bool.eq_iff_iff,beq_iff_eq,beq_iff_eq];omega
   rw [hz]
   by_cases hc:(vE N L (vD N L 0) i==0)=true
   ·rw [if_pos hc,if_pos hc,vY (by simp;omega)]
    exact ⟨rfl,by simp;omega⟩
   ·rw [if_neg hc,if_neg hc]
    exact ⟨rfl,by omega⟩
  ·intro s _
   rw [tE]
   unfold zEJ
   simp
theorem zUt (h:vX N L):zE4 ((N:Int),L)=some (zQT N L,z6n N L):=by
 have hN:=h.hN
 unfold zE4
 simp only
 rw [zV2 3 hN,z2j (by omega)]
 simp only [zob]
 rw [grp_L1 h]
 simp only [zob]
 obtain ⟨Q0,hQ0,h2⟩:=grp_L2 h
 rw [h2,←zZD (N:=N) (L:=L)]
 simp only [zob]
 have hstep:∀ k,k≤N->∀ Q,zPV N L k Q->(Q=[]∧zBo ((N:Int),L) (lb N L k,rn N L k,Q,((k+1:Nat):Int),qU 40 fun j=>(vE N L (vD N L k) j:Int))=some (.inr (lb N L k,rn N L k))) ∨
   ∃ Q',zPV N L (k+1) Q'∧zBo ((N:Int),L) (lb N L k,rn N L k,Q,((k+1:Nat):Int),qU 40 fun j=>(vE N L (vD N L k) j:Int))=some (.inl (lb N L (k+1),rn N L (k+1),Q',((k+2:Nat):Int),qU 40 fun j=>(vE N L (vD N L (k+1)) j:Int))):=by
  intro k hk Q hQ
  by_cases he:Q=[]
  ·subst he
   refine .inl ⟨rfl,?_⟩
   unfold zBo
   simp [len]
  ·obtain ⟨Q',hQ',h5⟩:=grp_L5 h (k:=k) (by omega) hQ (lb N L k) (rn N L k) (qU 40 fun j=>(vE N L (vD N L k) j:Int))
   refine .inr ⟨Q',hQ',?_⟩
   have hd:decide (0<len Q)=true:=decide_eq_true (by have:=List.length_pos_iff.2 he;simp only [len];omega)
   unfold zBo
   simp only [hd,if_true]
   rw [grp_L4 h hQ]
   simp only [zob]
   rw [h5]
 have hl:=z1U (B:=zBo ((N:Int),L)) (fun (Q:List Int) k=>(lb N L k,rn N L k,Q,((k+1:Nat):Int),qU 40 fun j=>(vE N L (vD N L k) j:Int))) N (fun k Q=>zPV N L k Q) (fun r=>r=(zQT N L,z6n N L)) ?_ ?_ Q0 hQ0
 ·obtain ⟨r,h1,rfl⟩:=hl
  exact h1
 ·intro k Q hk hQ
  rcases hstep k (by omega) Q hQ with ⟨he,h1⟩ | ⟨Q',hQ',h1⟩
  ·subst he
   have hno:∀ i,¬ tP N L k i:=fun i hi=>by have:=(hQ.mem i).2 hi;cases this
   obtain ⟨e1,e2⟩:=z5c (by omega) hno
   exact .inr ⟨_,h1,by rw [e1,e2]⟩
  ·exact .inl ⟨Q',h1,hQ'⟩
 ·intro Q hQ
  rcases hstep N (Nat.le_refl _) Q hQ with ⟨he,h1⟩ | ⟨Q',hQ',h1⟩
  ·subst he
   have hno:∀ i,¬ tP N L N i:=fun i=>zT2 N L
   obtain ⟨e1,e2⟩:=z5c (Nat.le_refl _) hno
   exact ⟨_,h1,by rw [e1,e2]⟩
  ·exfalso
   have hne:Q≠[]:=by
    intro e
    subst e
    unfold zBo at h1
    simp [len] at h1
   obtain ⟨x,hx⟩:=List.exists_mem_of_ne_nil Q hne
   obtain ⟨h3,_⟩:=hQ.rg x hx
   obtain ⟨i,rfl⟩:=Int.eq_ofNat_of_zero_le h3
   exact zT2 N L ((hQ.mem i).1 hx)
theorem zQ1 (h:vX N L):zDd ((N:Int),L)=some (zQT N L):=by
 unfold zDd
 rw [zUt h]
 rfl
end
end
section
variable {b:zO} {l:List zI} {D:List zG} {c:Nat}
theorem uQ.runsA (h:uQ b l) (hs:tQ b D c):z69 b l:=Go.GD.z5x h.toFormB (runSz hs h)
noncomputable def zOy (b:zO) (l:List zI) (f:Int) (q:Int) (r:qL) (ys:List zG) (s:List Int):List zI :=
 ((xO l l.length ys s).filter fun s=>s.any (fun k=>decide (f≤k))&&uV b l q r s).map fun s=>(-1,q,s,r.2.2.2.2)
theorem z0t {f q:Int} {r:qL} {s:List Int}:zOy b l f q r [] s=if s.any (fun k=>decide (f≤k))&&uV b l q r s then [(-1,q,s,r.2.2.2.2)] else []:=by
 unfold zOy
 simp only [xO,List.filter_cons,List.filter_nil]
 split <;> rfl
theorem zZY {f q:Int} {r:qL} {y:zG} {ys:List zG} {s:List Int}:zOy b l f q r (y::ys) s=(wW l.length).flatMap fun i=>match zF l i with | some a=>if a.2.2.2==y then zOy b l f q r ys (s++[i]) else [] | none=>[]:=by
 unfold zOy
 simp only [xO,List.filter_flatMap,List.map_flatMap]
 congr 1
 funext i
 cases zF l i with
 | none=>rfl
 | some a =>
  dsimp only
  split <;> rfl
def tI (l new h res:List zI):Prop:=res=(new++h).take (41-l.length)
theorem zW0 {α:Type} (n:Nat) (x y:List α):(x.take n++y).take n=(x++y).take n:=by
 by_cases h:x.length≤n
 ·rw [List.take_of_length_le h]
 ·rw [List.take_append_of_le_length (by rw [List.length_take];omega),List.take_append_of_le_length (by omega),List.take_take,Nat.min_self]
theorem tI.nil {new:List zI} (h:l.length+new.length≤41):tI l new [] new:=by
 unfold tI
 rw [List.append_nil,List.take_of_length_le (by omega)]
theorem tI.trans {new h1 r1 h2 r2:List zI} (a:tI l new h1 r1) (b:tI l r1 h2 r2):tI l new (h1++h2) r2:=by
 unfold tI at a b ⊢
 rw [b,a,zW0,List.append_assoc]
theorem tI.le {new h res:List zI} (hl:l.length≤41) (a:tI l new h res):l.length+res.length≤41:=by
 unfold tI at a
 rw [a,List.length_take]
 omega
theorem tI.stay {new h:List zI} (hf:l.length+new.length=41):tI l new h new:=by
 unfold tI
 rw [List.take_append_of_le_length (by omega),List.take_of_length_le (by omega)]
theorem tI.all {new h:List zI} (hf:l.length+new.length+h.length≤41):tI l new h (new++h):=by
 unfold tI
 rw [List.take_of_length_le (by rw [List.length_append];omega)]
theorem zYk (b:zO) (l new:List zI) (f:Int) (h1:l.length≤100) (h2:new.length≤100):zBp (b,l,new,f)=some (decide (40<l.length+new.length)):=by
 unfold zBp
 simp only [len]
 rw [xV (by omega) (by omega)]
 refine congrArg some (decide_eq_decide.2 ?_)
 omega
theorem z1b {s:List Int} (h:s.length<4294967296):zEh s=some s:=by
 simp [zEh,vY (l:=([]:List Int)) (m:=s) (by simpa using h)]
theorem zXU (s:List Int) (b:zO) (l new:List zI) (f:Int) (h:s.length<1000000):zAA s (b,l,new,f)=some (s.any fun k=>decide (f≤k)):=by
 unfold zAA zAT
 obtain ⟨r,h1,h2⟩:=uW (B:=zA5 s (b,l,new,f)) (fun i (_:Unit)=>(i:Int)) s (fun i _=>∀ (j:Nat) k,j<i->s[j]?=some k->¬ f≤k) (fun r=>decide (0≤r)=s.any fun k=>decide (f≤k)) (fun i k _ hi hI=>by
  unfold zA5 zE0
  simp only [wS hi,if_true,wP hi,zob,wR hi (show s.length<4294967296 by omega)]
  by_cases hk:f≤k
  ·simp only [hk,decide_true,if_true]
   refine .inr ⟨(i:Int),rfl,?_⟩
   have:(s.any fun k=>decide (f≤k))=true:=List.any_eq_true.2 ⟨k,wZ hi,by simpa using hk⟩
   rw [this]
   exact decide_eq_true (by omega)
  ·simp only [hk,decide_false,zbf,if_false]
   exact .inl ⟨(),by trivial,fun j x hj hx=>by
    by_cases hji:j=i
    ·subst hji;rw [hi] at hx;cases hx;exact hk
    ·exact hI j x (by omega) hx⟩) (fun _ hI=>⟨-1,by
  unfold zA5
  simp only [yU,zbf,if_false],by
  have:(s.any fun k=>decide (f≤k))=false:=by
   rw [List.any_eq_false]
   intro k hk
   obtain ⟨j,hj⟩:=List.mem_iff_getElem?.1 hk
   simpa using hI j k (vF hj) hj
  rw [this]
  rfl⟩) () (fun j k hj=>by omega)
 rw [show ((0:Nat):Int)=0 from rfl] at h1
 rw [h1]
 simp only [zob,h2]
theorem zYo (hs:tQ b D c) (h:uQ b l) (hl:l.length≤40) {f:Int} {q:Int} {r:qL} (hr:zF b.2.1 q=some r):∀ (k:Nat) (ys:List zG) (s:List Int) (new:List zI),ys=r.2.2.2.1.drop s.length->s.length≤r.2.2.2.1.length->ys.length<k->(∀ k∈s,0≤k∧k<l.length)->l.length+new.length≤41->
  ∃ res,zBI k (b,l,new,f) q s=some res∧tI l new (zOy b l f q r ys s) res:=by
 have hb:=hs.body hr
 intro k
 induction k with
 | zero=>intro ys _ _ _ _ hk;omega
 | succ k ih =>
  intro ys s new hys hsl hk hsub hnew
  show ∃ res,zBj (zBI k) (b,l,new,f) q s=some res∧_
  unfold zBj
  simp only [hr,zob,zYk b l new f (by omega) (by omega)]
  by_cases hf:40<l.length+new.length
  ·simp only [hf,decide_true,if_true]
   exact ⟨new,rfl,tI.stay (by omega)⟩
  ·simp only [hf,decide_false,zbf,if_false]
   cases ys with
   | nil =>
    have hlen:s.length=r.2.2.2.1.length:=by
     have:=congrArg List.length hys
     simp at this
     omega
    have hd:decide (len s<len r.2.2.2.1)=false:=by simp [len];omega
    simp only [hd,zbf,if_false,yD,zob]
    rw [zXU s b l new f (by omega),z0t]
    simp only [zob]
    rw [z0n h.toFormC (h.runsA hs) hr hsub (by omega)]
    cases h1:s.any fun k=>decide (f≤k) with
    | false =>
     simp only [zbf,if_false,zob,Bool.false_and]
     exact ⟨new,rfl,tI.nil hnew⟩
    | true =>
     simp only [if_true,zob,Bool.true_and]
     cases h2:uV b l q r s with
     | false =>
      simp only [zbf,if_false]
      exact ⟨new,rfl,tI.nil hnew⟩
     | true =>
      simp only [if_true]
      rw [vY (by simp;omega)]
      exact ⟨_,rfl,tI.all (by simp only [List.length_singleton];omega)⟩
   | cons y ys =>
    have hlen:s.length<r.2.2.2.1.length:=by
     have:=congrArg List.length hys
     simp at this
     omega
    have hd:decide (len s<len r.2.2.2.1)=true:=by simp [len];omega
    have hy:r.2.2.2.1[s.length]?=some y:=by
     have:=congrArg (fun l=>l[0]?) hys
     simpa using this.symm
    have hys2:ys=r.2.2.2.1.drop (s.length+1):=by
     have:=congrArg List.tail hys
     simpa using this
    have hix:zF r.2.2.2.1 (len s)=some y:=by rw [show len s=((s.length:Nat):Int) from rfl,xL];exact hy
    simp only [hd,if_true]
    have hloop:=uW (B:=zB2 (b,l,new,f) r s (zBI k) q) (fun i (t:List zI)=>((i:Int),t)) (wW l.length)
     (fun i t=>tI l new (((wW l.length).take i).flatMap fun i=>match zF l i with | some a=>if a.2.2.2==y then zOy b l f q r ys (s++[i]) else [] | none=>[]) t)
     (fun res=>∃ t,res=.inr t∧tI l new (zOy b l f q r (y::ys) s) t) (fun i x t hi hI=>.inl ?_) (fun t hI=>?_) new (tI.nil hnew)
    ·obtain ⟨res,h1,t,h2,h3⟩:=hloop
     rw [show ((0:Nat):Int)=0 from rfl] at h1
     subst h2
     exact ⟨t,by rw [h1];rfl,h3⟩
    ·obtain ⟨rfl,hin⟩:=zQY hi
     obtain ⟨a,ha⟩:=zIg (l:=l) (j:=(i:Int)) (by omega) (by omega)
     have hdl:decide ((i:Int)<len l)=true:=by simp [len];omega
     have ht:=hI.le (by omega)
     unfold zB2
     simp only [hdl,if_true,ha,zob,hix,yM i (by omega)]
     rw [xA hi,List.flatMap_append,List.flatMap_singleton,ha]
     dsimp only
     cases hc:a.2.2.2==y with
     | false =>
      simp only [zbf,if_false,List.append_nil]
      exact ⟨t,rfl,hI⟩
     | true =>
      simp only [if_true]
      rw [z1b (by omega)]
      simp only [zob]
      rw [vY (by simp;omega)]
      simp only [zob]
      obtain ⟨res,e1,e2⟩:=ih ys (s++[(i:Int)]) t (by simpa using hys2) (by simp;omega) (by simp at hk;omega) (fun k hk=>by
       rcases List.mem_append.1 hk with hk | hk
       ·exact hsub k hk
       ·simp only [List.mem_singleton] at hk;subst hk;omega) ht
      rw [e1]
      exact ⟨res,rfl,hI.trans e2⟩
    ·refine ⟨_,?_,t,rfl,?_⟩
     ·unfold zB2
      have hdl:decide (((wW l.length).length:Int)<len l)=false:=by rw [tE];simp [len]
      simp only [hdl,zbf,if_false]
     ·rw [zZY]
      rw [List.take_length] at hI
      exact hI
theorem z1y (hs:tQ b D c) (h:uQ b l) (hl:l.length≤40) {f:Int} {q:Int} {r:qL} (hr:zF b.2.1 q=some r) (new:List zI) (hnew:l.length+new.length≤41) :
  zBi (b,l,new,f) q []=some ((new++zOy b l f q r r.2.2.2.1 []).take (41-l.length)) :=
 zNw 5 fun k hk=>by
  obtain ⟨res,h1,h2⟩:=zYo hs h hl hr k r.2.2.2.1 [] new (f:=f) (by simp) (by simp) (by have:=hs.body hr;omega) (by simp) hnew
  rw [h1,h2]
theorem z3N {f:Int} {first:Bool} {q:Int} {r:qL} (hr:zF b.2.1 q=some r):tU b l f first q=if r.2.2.2.1=[] then (if first then [(-1,q,[],r.2.2.2.2)] else []) else zOy b l f q r r.2.2.2.1 []:=by
 unfold tU zOy
 rw [hr]
 dsimp only
 split
 ·rename_i hb
  rw [hb]
  simp only [xO,List.filter_cons,List.filter_nil]
  cases first <;> simp [zLn,uV]
 ·rename_i hb
  congr 1
  refine List.filter_congr fun s hs=>?_
  obtain ⟨t,ht,htl,_⟩:=(zPO l l.length r.2.2.2.1 [] s).1 hs
  rw [List.nil_append] at ht
  subst ht
  unfold zLn
  have:s.isEmpty=false:=by
   cases s with
   | nil=>exact absurd (List.eq_nil_of_length_eq_zero htl.symm) hb
   | cons _ _=>rfl
  rw [this,Bool.and_false,Bool.or_false]
theorem zXq (h:zKI b):zU (zED b) (0,([]:List zI))=some (zMr b):=by
 have hn:=h.np
 have hl:=zJ0 b
 have:=(zQC (B:=zED b) (zMr b) (fun s a=>s++[a]) (fun s=>s) (fun i s=>s.length≤i) [] (by simp) (fun i a s hi hs=>by
  obtain ⟨p,hp,rfl⟩:=zHU hi
  have hlt:=vF hp
  refine ⟨?_,by simp;omega⟩
  unfold zED
  simp only [wS hp,if_true,wP hp,zob]
  rw [vY (by simp;omega)]
  simp only [zob,wR hp (by omega)]) (fun s _=>by
  unfold zED
  rw [hl]
  simp only [yU,zbf,if_false])).1
 rw [this]
 have:=zJ8 (fun a:zI=>a) (zMr b) []
 simpa using this
theorem zXu (hs:tQ b D c) (h:uQ b l) (hl:l.length≤40) {f:Int} {r:Nat} (hr0:1≤r) (hr:r<1000) (z:List zI) :
  ∃ res,zU (zCc b ((r:Int),l,z,f)) (0,[])=some res ∧
   (if 40<(l++uP b l f (decide (r≤1))).length then ∃ x,res=.inr (.inr (l,x,f))∧l.length+x.length=41 else res=.inl (uP b l f (decide (r≤1)))):=by
 have hnr:=hs.valid.nr
 have hone:((r:Int)==1)=decide (r≤1):=by
  rw [Bool.eq_iff_iff]
  simp only [beq_iff_eq,decide_eq_true_eq]
  omega
 refine uW (B:=zCc b ((r:Int),l,z,f)) (fun i (t:List zI)=>((i:Int),t)) (wW b.2.1.length)
  (fun i t=>t=((wW b.2.1.length).take i).flatMap (tU b l f (decide (r≤1)))∧l.length+t.length≤40)
  (fun res=>if 40<(l++uP b l f (decide (r≤1))).length then ∃ x,res=.inr (.inr (l,x,f))∧l.length+x.length=41 else res=.inl (uP b l f (decide (r≤1)))) (fun i x t hi hI=>?_) (fun t hI=>?_) [] ⟨by simp,by simpa using hl⟩
 ·obtain ⟨rfl,hin⟩:=zQY hi
  obtain ⟨ru,hru⟩:=zIg (l:=b.2.1) (j:=(i:Int)) (by omega) (by omega)
  have hd:decide ((i:Int)<len b.2.1)=true:=by simp [len];omega
  obtain ⟨hI1,hI2⟩:=hI
  have hnext:((wW b.2.1.length).take (i+1)).flatMap (tU b l f (decide (r≤1)))=t++tU b l f (decide (r≤1)) i:=by
   rw [xA hi,List.flatMap_append,List.flatMap_singleton,←hI1]
  have hpart:(t++tU b l f (decide (r≤1)) i).length≤(uP b l f (decide (r≤1))).length:=by
   rw [←hnext]
   unfold uP
   conv=>rhs;rw [←List.take_append_drop (i+1) (wW b.2.1.length),List.flatMap_append]
   rw [List.length_append]
   omega
  have hs7:(if decide (0<len ru.2.2.2.1)=true then (zBi (b,l,t,f) i []).bind fun r2=>some r2
    else if ((r:Int)==1)=true then (wE t [((-1:Int),(i:Int),([]:List Int),ru.2.2.2.2)]).bind fun x4=>some x4 else some t)=some ((t++tU b l f (decide (r≤1)) i).take (41-l.length)):=by
   rw [z3N hru,hone]
   by_cases hb:ru.2.2.2.1=[]
   ·have hd0:decide (0<len ru.2.2.2.1)=false:=by rw [hb];rfl
    rw [if_pos hb]
    simp only [hd0,zbf,if_false]
    cases hr1:decide (r≤1) with
    | true =>
     simp only [if_true]
     rw [vY (by simp;omega)]
     simp only [zob]
     rw [List.take_of_length_le (by simp;omega)]
    | false =>
     simp only [zbf,if_false,List.append_nil]
     rw [List.take_of_length_le (by omega)]
   ·have hd0:decide (0<len ru.2.2.2.1)=true:=by
     have:=List.length_pos_iff.2 hb
     simp [len];omega
    rw [if_neg hb]
    simp only [hd0,if_true]
    rw [z1y hs h hl hru t (by omega)]
    rfl
  unfold zCc
  simp only [hd,if_true,hru,zob]
  rw [hs7]
  simp only [zob]
  rw [zYk b l _ f (by omega) (by rw [List.length_take];omega)]
  simp only [zob,yM i (by omega)]
  by_cases hlim:40<l.length+(t++tU b l f (decide (r≤1)) i).length
  ·have hx:l.length+((t++tU b l f (decide (r≤1)) i).take (41-l.length)).length=41:=by rw [List.length_take];omega
   have hd4:decide (40<l.length+((t++tU b l f (decide (r≤1)) i).take (41-l.length)).length)=true:=by simp only [decide_eq_true_eq];omega
   simp only [hd4,if_true]
   refine .inr ⟨_,rfl,?_⟩
   rw [if_pos (by rw [List.length_append];omega)]
   exact ⟨_,rfl,hx⟩
  ·have hx:(t++tU b l f (decide (r≤1)) i).take (41-l.length)=t++tU b l f (decide (r≤1)) i:=List.take_of_length_le (by omega)
   rw [hx]
   have hd4:decide (40<l.length+(t++tU b l f (decide (r≤1)) i).length)=false:=by simp only [decide_eq_false_iff_not];omega
   simp only [hd4,zbf,if_false]
   exact .inl ⟨_,rfl,hnext.symm,by omega⟩
 ·obtain ⟨hI1,hI2⟩:=hI
  rw [List.take_length] at hI1
  have:t=uP b l f (decide (r≤1)):=hI1
  unfold zCc
  have hd:decide (((wW b.2.1.length).length:Int)<len b.2.1)=false:=by rw [tE];simp [len]
  simp only [hd,zbf,if_false]
  refine ⟨_,rfl,?_⟩
  rw [if_neg (by rw [List.length_append,←this];omega),this]
theorem zXn (hs:tQ b D c):∀ (k:Nat) (l z:List zI) (f:Int) (r:Nat),uQ b l->l.length≤40->41≤l.length+k->r+k≤900->1≤r->
  ∃ l' x' f',zU (zB6 b) ((r:Int),l,z,f)=some (l',x',f')∧l'.length≤100∧x'.length≤100 ∧
   match zN8 b k l f (decide (r≤1)) with | none=>40<l'.length+x'.length | some y=>l'=y∧x'=[]∧y.length≤40:=by
 intro k
 induction k with
 | zero=>intros;omega
 | succ k ih =>
  intro l z f r h hl hk hr h1
  obtain ⟨res,e1,e2⟩:=zXu hs h hl (f:=f) h1 (by omega) z
  unfold zN8
  by_cases hlim:40<(l++uP b l f (decide (r≤1))).length
  ·rw [if_pos hlim] at e2
   obtain ⟨x,rfl,hx⟩:=e2
   refine ⟨l,x,f,?_,by omega,by omega,?_⟩
   ·have hstep:zB6 b ((r:Int),l,z,f)=some (.inr (l,x,f)):=by
     unfold zB6
     rw [e1]
     rfl
    rw [yF,hstep]
   ·rw [if_pos hlim]
    dsimp only
    omega
  ·rw [if_neg hlim] at e2
   subst e2
   by_cases hn:uP b l f (decide (r≤1))=[]
   ·refine ⟨l,[],f,?_,by omega,by simp,?_⟩
    ·have hstep:zB6 b ((r:Int),l,z,f)=some (.inr (l,[],f)):=by
      unfold zB6
      rw [e1,hn]
      rfl
     rw [yF,hstep]
    ·rw [if_neg hlim,if_pos hn]
     exact ⟨rfl,rfl,hl⟩
   ·rw [if_neg hlim,if_neg hn]
    have hpos:0<(uP b l f (decide (r≤1))).length:=List.length_pos_iff.2 hn
    rw [List.length_append] at hlim
    obtain ⟨l',x',f',g1,g2,g3,g4⟩:=ih (l++uP b l f (decide (r≤1))) (uP b l f (decide (r≤1))) l.length (r+1) (h.round hs (by rw [List.length_append];omega)) (by rw [List.length_append];omega) (by rw [List.length_append];omega) (by omega) (by omega)
    rw [show decide (r+1≤1)=false from by simp;omega] at g4
    refine ⟨l',x',f',?_,g2,g3,g4⟩
    have hstep:zB6 b ((r:Int),l,z,f)=some (.inl (((r+1:Nat):Int),l++uP b l f (decide (r≤1)),uP b l f (decide (r≤1)),(l.length:Int))):=by
     unfold zB6
     rw [e1]
     simp only [yD,zob]
     have hl0:((len (uP b l f (decide (r≤1))))==0)=false:=by simp only [len,beq_eq_false_iff_ne];omega
     simp only [hl0,zbf,if_false]
     rw [vY (by omega)]
     simp only [zob,yM r (by omega)]
    rw [yF,hstep]
    exact g1
theorem z3P (hs:tQ b D c):zE6 b=some (ansB (zRh b)):=by
 unfold zE6
 rw [zZW (zOw hs.valid),zLa.2 hs.valid]
 simp only [zob,bne_self_eq_false,zbf,if_false]
 rw [zXq hs.valid]
 have hn:=hs.valid.np
 obtain ⟨l',x',f',g1,g2,g3,g4⟩:=zXn hs 50 (zMr b) [] 0 1 (zQD hs.valid) (by rw [zJ0];omega) (by omega) (by omega) (by omega)
 rw [show ((1:Nat):Int)=1 from rfl] at g1
 simp only [zob,g1]
 rw [zYk b l' x' f' g2 g3]
 simp only [zob]
 unfold zRh
 rw [show decide (1≤1)=true from rfl] at g4
 cases hb:zN8 b 50 (zMr b) 0 true with
 | none =>
  rw [hb] at g4
  dsimp only at g4
  simp only [g4,decide_true,if_true]
  rfl
 | some y =>
  rw [hb] at g4
  obtain ⟨rfl,rfl,g5⟩:=g4
  have hd:decide (40<l'.length+([]:List zI).length)=false:=by simp;omega
  simp only [hd,zbf,if_false]
  rfl
end
section
variable {b:zO} {l m:List zI} {D:List zG} {c:Nat}
theorem FormC.pre (h:FormC b (l++m)):FormC b l:=by
 have key:∀ (i:Nat) a,l[i]?=some a->(l++m)[i]?=some a:=fun i a ha=>by rw [List.getElem?_append_left (vF ha)];exact ha
 have hl:=h.len
 have hl41:=h.l41
 rw [List.length_append] at hl hl41
 refine ⟨⟨⟨by omega,fun a ha=>h.nsub a (List.mem_append_left _ ha),fun i a ha=>h.sub i a (key i a ha)⟩,h.np,h.nr,fun i a ha=>h.kind i a (key i a ha)⟩,by omega,fun i a p ha=>h.pr i a p (key i a ha),fun i a r ha h0 hr=>?_⟩
 obtain ⟨g1,g2,g3⟩:=h.ru i a r (key i a ha) h0 hr
 refine ⟨g1,g2,fun j k y hk hy=>?_⟩
 obtain ⟨a',e1,e2⟩:=g3 j k y hk hy
 have:=h.sub i a (key i a ha) k (wZ hk)
 have hi:=vF ha
 rw [zKY (by omega)] at e1
 exact ⟨a',e1,e2⟩
theorem uQ.pre (h:uQ b (l++m)):uQ b l:=by
 refine ⟨h.toFormC.pre,fun i a r ha h0 hr=>?_⟩
 have hi:=vF ha
 have hk:(l++m)[i]?=some a:=by rw [List.getElem?_append_left hi];exact ha
 rw [←zLb h.toFormC.pre h.toFormC fun k hk2=>by have:=h.sub i a hk k hk2;omega]
 exact h.cut i a r hk h0 hr
theorem uQ.take (h:uQ b l) (n:Nat):uQ b (l.take n):=by
 rw [←List.take_append_drop n l] at h
 exact h.pre
theorem zVq:∀ (k:Nat) (l:List zI) (f:Int) (first:Bool) (x:List zI),zN8 b k l f first=some x->∃ m,x=l++m
 | 0,_,_,_,_,h=>by cases h
 | k+1,l,f,first,x,hx=>by
  unfold zN8 at hx
  split at hx
  ·cases hx
  ·split at hx
   ·cases hx
    exact ⟨[],by simp⟩
   ·obtain ⟨m,hm⟩:=zVq k _ _ _ x hx
    exact ⟨uP b l f first++m,by rw [hm,List.append_assoc]⟩
theorem zSP {α β:Type} {g:α->List β}:∀ {l:List α},l.Nodup->(∀ x∈l,(g x).Nodup)->(∀ x∈l,∀ y∈l,∀ z,z∈g x->z∈g y->x=y)->(l.flatMap g).Nodup
 | [],_,_,_=>by simp
 | x::l,h1,h2,h3=>by
  obtain ⟨a1,a2⟩:=List.nodup_cons.1 h1
  rw [List.flatMap_cons]
  refine List.nodup_append.2 ⟨h2 x List.mem_cons_self,zSP a2 (fun y hy=>h2 y (List.mem_cons_of_mem _ hy)) (fun y hy z hz=>h3 y (List.mem_cons_of_mem _ hy) z (List.mem_cons_of_mem _ hz)),fun z hz w hw e=>?_⟩
  subst e
  obtain ⟨y,hy,hyz⟩:=List.mem_flatMap.1 hw
  have:=h3 x List.mem_cons_self y (List.mem_cons_of_mem _ hy) z hz hyz
  subst this
  exact a1 hy
theorem zYG (n:Nat):(wW n).Nodup:=(zKO n).imp fun {x y} h=>by
 simp at h
 omega
theorem zXe (n:Nat):∀ (ys:List zG) (sofar:List Int),(xO l n ys sofar).Nodup
 | [],sofar=>by simp [xO]
 | y::ys,sofar=>by
  refine zSP (zYG n) (fun i _=>?_) (fun i _ j _ s hi hj=>?_)
  ·split
   ·split
    ·exact zXe n ys _
    ·exact List.nodup_nil
   ·exact List.nodup_nil
  ·have key:∀ i,(s∈match zF l i with | some a=>if a.2.2.2==y then xO l n ys (sofar++[i]) else [] | none=>[])->s[sofar.length]?=some i:=fun i hs=>by
    cases hx:zF l i with
    | none=>rw [hx] at hs;cases hs
    | some a =>
     rw [hx] at hs
     dsimp only at hs
     split at hs
     ·obtain ⟨t,rfl,_⟩:=(zPO l n ys (sofar++[i]) s).1 hs
      rw [List.append_assoc,List.getElem?_append_right (Nat.le_refl _)]
      simp
     ·cases hs
   have h1:=key i hi
   have h2:=key j hj
   rw [h1] at h2
   exact Option.some.inj h2
theorem zY0 {f:Int} {first:Bool}:(uP b l f first).Nodup:=by
 refine zSP (zYG _) (fun q _=>?_) (fun q _ q' _ a h1 h2=>?_)
 ·unfold tU
  split
  ·refine List.Pairwise.map _ (fun s t hst=>?_) (List.Pairwise.filter _ (zXe (l:=l) l.length _ []))
   exact fun e=>hst (by simpa using congrArg (fun a:zI=>a.2.2.1) e)
  ·exact List.nodup_nil
 ·have key:∀ q,a∈tU b l f first q->a.2.1=q:=fun q h=>by
   unfold tU at h
   split at h
   ·obtain ⟨s,_,rfl⟩:=List.mem_map.1 h
    rfl
   ·cases h
  rw [←key q h1,←key q' h2]
structure Now (b:zO) (l:List zI) (f:Int) (first:Bool):Prop where
 nd:l.Nodup
 old:∀ a∈l,∀ k∈a.2.2.1,k<f
 fst:first=true->f=0∧∀ a∈l,a.2.1<0
 done:∀ q r s,zF b.2.1 q=some r->s.length=r.2.2.2.1.length->(∀ (j:Nat) k y,s[j]?=some k->r.2.2.2.1[j]?=some y->∃ a',zF l k=some a'∧a'.2.2.2=y)->uV b l q r s=true->zLn f first s=false->((-1:Int),q,s,r.2.2.2.2)∈l
theorem zVk {s:List Int} {bd:List zG} (h1:s.length=bd.length) (h:∀ (j:Nat) k y,s[j]?=some k->bd[j]?=some y->∃ a':zI,zF l k=some a'∧a'.2.2.2=y):∀ k∈s,0≤k∧k<l.length:=fun k hk=>by
 obtain ⟨j,hj⟩:=List.mem_iff_getElem?.1 hk
 have:=vF hj
 obtain ⟨a',e1,_⟩:=h j k _ hj (List.getElem?_eq_getElem (by omega))
 exact zQW e1
theorem Now.nodup {f:Int} {first:Bool} (hn:Now b l f first):(l++uP b l f first).Nodup:=by
 refine List.nodup_append.2 ⟨hn.nd,zY0,fun a ha a' ha' e=>?_⟩
 subst e
 obtain ⟨_,r,g1,_,g2,_⟩:=zPy.1 ha'
 unfold zLn at g2
 rw [Bool.or_eq_true] at g2
 rcases g2 with g2 | g2
 ·obtain ⟨k,hk,hk2⟩:=List.any_eq_true.1 g2
  have:=hn.old a ha k hk
  simp at hk2
  omega
 ·rw [Bool.and_eq_true] at g2
  have:=(hn.fst g2.1).2 a ha
  have:=(zQW g1).1
  omega
theorem Now.next (hs:tQ b D c) (h:uQ b l) {f:Int} {first:Bool} (hn:Now b l f first) (hl:(l++uP b l f first).length≤41) (hf:f≤l.length):Now b (l++uP b l f first) l.length false:=by
 have h':=h.round hs hl
 refine ⟨hn.nodup,fun a ha k hk=>?_,(fun h=>by cases h),fun q r s hq h1 h2 h3 h4=>?_⟩
 ·rcases List.mem_append.1 ha with ha | ha
  ·have:=hn.old a ha k hk
   omega
  ·exact ((zSG hs a ha).1.sub k hk).2
 ·have hk:∀ k∈s,k<l.length:=fun k hk=>by
   unfold zLn at h4
   simp only [Bool.false_and,Bool.or_false,List.any_eq_false,decide_eq_true_eq] at h4
   have:=h4 k hk
   omega
  have hr:=zVk h1 h2
  have h2':∀ (j:Nat) k y,s[j]?=some k->r.2.2.2.1[j]?=some y->∃ a',zF l k=some a'∧a'.2.2.2=y:=fun j k y hj hy=>by
   obtain ⟨a',e1,e2⟩:=h2 j k y hj hy
   rw [zKY (hk k (wZ hj))] at e1
   exact ⟨a',e1,e2⟩
  rw [zLb h.toFormC h'.toFormC fun k hk2=>⟨(hr k hk2).1,hk k hk2⟩] at h3
  cases hfr:zLn f first s with
  | true=>exact List.mem_append_right _ (zPy.2 ⟨rfl,r,hq,rfl,hfr,h3,h1,h2'⟩)
  | false=>exact List.mem_append_left _ (hn.done q r s hq h1 h2' h3 hfr)
theorem Now.first (h:zKI b):Now b (zMr b) 0 true:=by
 refine ⟨?_,fun a ha k hk=>?_,fun _=>⟨rfl,fun a ha=>?_⟩,fun q r s hq h1 h2 h3 h4=>?_⟩
 ·rw [List.nodup_iff_pairwise_ne,List.pairwise_iff_getElem]
  intro i j hi hj hij e
  obtain ⟨p,_,h1⟩:=zHU (List.getElem?_eq_getElem hi)
  obtain ⟨p',_,h2⟩:=zHU (List.getElem?_eq_getElem hj)
  rw [h1,h2] at e
  have:=congrArg (fun a:zI=>a.1) e
  simp at this
  omega
 ·obtain ⟨i,hi⟩:=List.mem_iff_getElem?.1 ha
  obtain ⟨p,_,rfl⟩:=zHU hi
  cases hk
 ·obtain ⟨i,hi⟩:=List.mem_iff_getElem?.1 ha
  obtain ⟨p,_,rfl⟩:=zHU hi
  show (-1:Int)<0
  omega
 ·have hr:=zVk h1 h2
  unfold zLn at h4
  rw [Bool.or_eq_false_iff] at h4
  cases s with
  | nil=>simp at h4
  | cons k s =>
   have h5:=List.any_eq_false.1 h4.1 k List.mem_cons_self
   have h6:=hr k List.mem_cons_self
   simp at h5
   omega
structure zUN (b:zO) (x:List zI):Prop where
 form:uQ b x
 len:x.length≤40
 pre:∃ m,x=zMr b++m
 nd:x.Nodup
 all:∀ q r s,zF b.2.1 q=some r->s.length=r.2.2.2.1.length->(∀ (j:Nat) k y,s[j]?=some k->r.2.2.2.1[j]?=some y->∃ a',zF x k=some a'∧a'.2.2.2=y)->uV b x q r s=true->((-1:Int),q,s,r.2.2.2.2)∈x
theorem zVi (hs:tQ b D c):∀ (k:Nat) (l:List zI) (f:Int) (first:Bool) (x:List zI),uQ b l->l.length≤40->f≤l.length->Now b l f first->zN8 b k l f first=some x->x.Nodup∧∀ q r s,zF b.2.1 q=some r->s.length=r.2.2.2.1.length->(∀ (j:Nat) k y,s[j]?=some k->r.2.2.2.1[j]?=some y->∃ a',zF x k=some a'∧a'.2.2.2=y)->uV b x q r s=true->((-1:Int),q,s,r.2.2.2.2)∈x
 | 0,_,_,_,_,_,_,_,_,h=>by cases h
 | k+1,l,f,first,x,h,hl,hf,hn,hx=>by
  unfold zN8 at hx
  split at hx
  ·cases hx
  ·rename_i hlim
   split at hx
   ·rename_i hr
    cases hx
    refine ⟨hn.nd,fun q r s hq h1 h2 h3=>?_⟩
    cases hfr:zLn f first s with
    | true =>
     have:((-1:Int),q,s,r.2.2.2.2)∈uP b l f first:=zPy.2 ⟨rfl,r,hq,rfl,hfr,h3,h1,h2⟩
     rw [hr] at this
     cases this
    | false=>exact hn.done q r s hq h1 h2 h3 hfr
   ·exact zVi hs k _ _ _ x (h.round hs (by omega)) (by omega) (by rw [List.length_append];omega) (hn.next hs h (by omega) hf) hx
theorem zMe (hs:tQ b D c) {x:List zI} (hx:zRh b=some x):zUN b x:=by
 have hp:=hs.valid.np
 have hl:(zMr b).length≤40:=by rw [zJ0];omega
 obtain ⟨g1,g2⟩:=zUE hs 50 (zMr b) 0 true x (zQD hs.valid) hl hx
 obtain ⟨g3,g4⟩:=zVi hs 50 (zMr b) 0 true x (zQD hs.valid) hl (by omega) (Now.first hs.valid) hx
 exact ⟨g1,g2,zVq _ _ _ _ _ hx,g3,g4⟩
end
section
variable {b:zO} {l:List zI}
theorem FormC.nil (hp:b.1.length≤100) (hr:b.2.1.length≤100):FormC b [] :=
 ⟨⟨⟨by simp,by simp,by simp⟩,hp,hr,by simp⟩,by simp,by simp,by simp⟩
theorem zZr (h:l.length≤100) (o:yN):(zDZ b l o).length≤3000000:=Nat.le_trans (List.length_filter_le _ _) (zU0 h)
def ords:List yN:=[(1,1),(1,2),(2,1),(2,2)]
theorem zVR:zLK=some ords:=rfl
theorem zT0 (h:FormA l) {c:Int} (h0:0≤c) (h1:c<l.length):c∈yB l c:=(zC4 h h0 h1 c).2 (.self c)
theorem z3i (h:FormB b l) {i k c kd:Int} (k0:0≤k) (k1:k<l.length) (hc:c∈yB l k):(i,c,c,kd)∈zS3 b l↔(i,k,c,kd)∈zS3 b l:=by
 have hr:=z0X hc
 rw [zPf,zPf]
 constructor
 ·rintro ⟨h1,_,_,h4⟩
  exact ⟨h1,⟨k0,k1⟩,hc,h4⟩
 ·rintro ⟨h1,_,_,h4⟩
  exact ⟨h1,hr,zT0 h.toFormA hr.1 hr.2,h4⟩
theorem zR1 (h:FormB b l) {i k c kd:Int} (o:yN) (k0:0≤k) (k1:k<l.length) (hc:c∈yB l k):(i,c,c,kd)∈zDZ b l o↔(i,k,c,kd)∈zDZ b l o:=by
 unfold zDZ
 rw [List.mem_filter,List.mem_filter,z3i h k0 k1 hc]
 exact Iff.rfl
theorem zZ7 (y:List Int) (o:Int):zIz [] y o=false:=by simp [zIz]
end
section
variable {b:zO} {l:List zI}
theorem zUN.prem {x:List zI} (h:zUN b x) {i:Nat} {a:zI} (hi:x[i]?=some a) (hn:i<b.1.length):∃ p,b.1[i]?=some p∧a=((i:Int),-1,[],p.1):=by
 obtain ⟨m,hm⟩:=h.pre
 rw [hm,List.getElem?_append_left (by rw [zJ0];exact hn)] at hi
 exact zHU hi
theorem zUN.np {x:List zI} (h:zUN b x):b.1.length≤x.length:=by
 obtain ⟨m,hm⟩:=h.pre
 rw [hm,List.length_append,zJ0]
 omega
theorem zUN.rule {x:List zI} (h:zUN b x) {i:Nat} {a:zI} (hi:x[i]?=some a) (hn:b.1.length≤i):a.1=-1∧∃ r,zF b.2.1 a.2.1=some r∧0≤a.2.1∧a.2.1<b.2.1.length∧a.2.2.2=r.2.2.2.2∧a.2.2.1.length=r.2.2.2.1.length∧∀ (j:Nat) k y,a.2.2.1[j]?=some k->r.2.2.2.1[j]?=some y->∃ a',zF x k=some a'∧a'.2.2.2=y:=by
 rcases h.form.kind i a hi with ⟨_,g,_⟩ | ⟨g1,g2,g3⟩
 ·omega
 ·obtain ⟨r,hr⟩:=zIg (l:=b.2.1) g2 g3
  obtain ⟨e1,e2,e3⟩:=h.form.ru i a r hi g2 hr
  exact ⟨g1,r,hr,g2,g3,e1,e2,e3⟩
end
section
variable {b:zO} {l:List zI}
theorem z1E {i:Int} (h:¬ (0≤i∧i<l.length)):zBY l i=some false:=by
 unfold zBY
 congr 1
 rw [Bool.and_eq_false_iff]
 by_cases h0:0≤i
 ·exact .inr (by simp [len];omega)
 ·exact .inl (by simpa using h0)
def zSe (l:List zI) (i:Int):List zG:=match zF l i with | some a=>[a.2.2.2] | none=>[]
theorem z6l {α:Type} {l:List α} {i:Int} (h:¬ (0≤i∧i<l.length)):zF l i=none:=by
 unfold zF
 split
 ·rename_i h0
  exact List.getElem?_eq_none (by omega)
 ·rfl
theorem zUl (is:List Int):(is.flatMap (zSe l)).length≤is.length*1:=zOA (zSe l) 1 is fun i _=>by
 unfold zSe
 split <;> simp
theorem zPN (is:List Int) (h:is.length<1000000):zB9 l is=some (xM vH (is.flatMap (zSe l))):=by
 unfold zB9
 have hloop:=zMF (B:=zDD is l) is (zSe l) (fun s=>s) 1 (fun i _=>by unfold zSe;split <;> simp) [] (fun i x s hi hs=>by
  have hlt:=vF hi
  unfold zDD zSe
  simp only [wS hi,if_true,wP hi,zob,wR hi (show is.length<4294967296 by omega)]
  by_cases hin:0≤x∧x<l.length
  ·obtain ⟨a,ha⟩:=zIg (l:=l) hin.1 hin.2
   have:zBY l x=some true:=by
    unfold zBY
    congr 1
    rw [Bool.and_eq_true]
    exact ⟨by simpa using hin.1,by simpa [len] using hin.2⟩
   simp only [this,zob,if_true,ha]
   rw [vY (by simp at hs ⊢;omega)]
   rfl
  ·simp only [z1E hin,zob,zbf,if_false,z6l hin,List.append_nil]) (fun s=>by
  unfold zDD
  simp only [yU,zbf,if_false])
 rw [hloop]
 have hl:=zUl (l:=l) is
 simp only [zob,List.nil_append]
 rw [z0j (by omega)]
 rfl
end
section
theorem zP0 {σ ρ:Type} {B:σ->Option (σ⊕ρ)} {s s':σ} (h:B s=some (.inl s')):zU B s=zU B s':=by rw [yF,h]
theorem z1n {σ ρ:Type} {B:σ->Option (σ⊕ρ)} {s:σ} {r:ρ} (h:B s=some (.inr r)):zU B s=some r:=by rw [yF,h]
end
section
def z1c (y:List zG) (r:qL) (k:Int) (p:vQ):Int:=if (!r.2.1&&p.1==r.1&&decide (p.2.2∈y))=true then p.2.1 else k
def rankS (ps:List vQ) (y:List zG) (r:qL):Int:=ps.foldl (z1c y r) r.2.2.1
def zTL (ps:List vQ) (y:List zG) (r:qL):qL:=(r.1,r.2.1,rankS ps y r,r.2.2.2.1,r.2.2.2.2)
def uA (b:zO) (y:List zG):zO:=(b.1,b.2.1.map (zTL b.2.2 y),b.2.2)
def upto (b:zO) (y:List zG) (i:Nat):List qL:=(b.2.1.take i).map (zTL b.2.2 y)++b.2.1.drop i
theorem z3p (b:zO) (y:List zG) (i:Nat):(upto b y i).length=b.2.1.length:=by simp [upto];omega
theorem z65 {b:zO} {y:List zG} {i:Nat} {r:qL} (hr:b.2.1[i]?=some r):(upto b y i)[i]?=some r:=by
 have hi:=(List.getElem?_eq_some_iff.1 hr).1
 unfold upto
 rw [List.getElem?_append_right (by simp;omega)]
 simp only [List.length_map,List.length_take,List.getElem?_drop]
 rw [show i+(i-min i b.2.1.length)=i by omega]
 exact hr
theorem z4Z {b:zO} {y:List zG} {i:Nat} {r:qL} (hr:b.2.1[i]?=some r):(upto b y i).set i (zTL b.2.2 y r)=upto b y (i+1):=by
 have hi:=(List.getElem?_eq_some_iff.1 hr).1
 have h1:((b.2.1.take i).map (zTL b.2.2 y)).length=i:=by simp;omega
 unfold upto
 rw [List.set_append_right _ _ (by omega),h1,Nat.sub_self,List.take_add_one,hr]
 have h2:b.2.1.drop i=r::b.2.1.drop (i+1):=by
  rw [List.drop_eq_getElem_cons hi]
  congr 1
  rw [List.getElem?_eq_getElem hi] at hr
  exact Option.some.inj hr
 rw [h2]
 simp
theorem z5H (b:zO) (y:List zG):upto b y b.2.1.length=b.2.1.map (zTL b.2.2 y):=by simp [upto]
def mid (b:zO) (y:List zG) (i:Nat) (r:qL) (k:Nat):List qL:=(upto b y i).set i (r.1,r.2.1,(b.2.2.take k).foldl (z1c y r) r.2.2.1,r.2.2.2.1,r.2.2.2.2)
theorem z6R {b:zO} {y:List zG} {i:Nat} {r:qL} (hr:b.2.1[i]?=some r):mid b y i r b.2.2.length=upto b y (i+1):=by
 unfold mid
 rw [List.take_of_length_le (Nat.le_refl _)]
 exact z4Z hr
theorem z4m {b:zO} {y:List zG} {i:Nat} {r:qL}:mid b y i r 0=(upto b y i).set i r:=by simp [mid]
theorem mid_at {b:zO} {y:List zG} {i:Nat} {r:qL} (hr:b.2.1[i]?=some r) (k:Nat):(mid b y i r k)[i]?=some (r.1,r.2.1,(b.2.2.take k).foldl (z1c y r) r.2.2.1,r.2.2.2.1,r.2.2.2.2):=by
 have hi:=(List.getElem?_eq_some_iff.1 hr).1
 unfold mid
 rw [List.getElem?_set_self (by rw [z3p];exact hi)]
theorem z6O {b:zO} {y:List zG} {i:Nat} {r:qL} {k:Nat} {p:vQ} (hp:b.2.2[k]?=some p) :
  (if (!r.2.1&&p.1==r.1&&decide (p.2.2∈y))=true then (mid b y i r k).set i (r.1,r.2.1,p.2.1,r.2.2.2.1,r.2.2.2.2) else mid b y i r k)=mid b y i r (k+1):=by
 unfold mid
 rw [List.take_add_one,hp]
 simp only [Option.toList,List.foldl_append,List.foldl_cons,List.foldl_nil]
 show _=List.set _ i (r.1,r.2.1,z1c y r _ p,r.2.2.2.1,r.2.2.2.2)
 unfold z1c
 by_cases hc:(!r.2.1&&p.1==r.1&&decide (p.2.2∈y))=true
 ·rw [if_pos hc,if_pos hc,List.set_set]
 ·rw [if_neg hc,if_neg hc]
theorem z1X {b:zO} {y:List zG} (h:Cnt b) (hy:y.length<4294967296):zD4 b y=some (uA b y):=by
 unfold zD4
 have c1:zEQ b.1=some b.1:=by simp [zEQ,zL9 h.p]
 have c2:zGX b.2.1=some b.2.1:=by simp [zGX,zL9 h.r]
 have c3:zDa b.2.2=some b.2.2:=by simp [zDa,zL9 h.m]
 simp only [c1,c2,c3,zob]
 suffices hh:Ok (zU (zCj b y) (0,b.2.1)) fun r=>r=upto b y b.2.1.length by
  obtain ⟨r,e,rfl⟩:=hh
  rw [e,z5H]
  rfl
 refine Ok.forI (fun i (s:List qL)=>((i:Int),s)) b.2.1 (fun i s=>s=upto b y i) _ (fun i r s hr hs=>?_) (fun s hs=>?_) b.2.1 (by simp [upto])
 ·have hi:=(List.getElem?_eq_some_iff.1 hr).1
  have hbr:=h.r
  subst hs
  unfold zCj
  have hx:=z65 (y:=y) hr
  simp only [z3G hr,if_true,xL,hr,hx,zob,zX3 (h.q r (List.mem_of_getElem? hr)),Int.toNat_natCast]
  refine Ok.forI (fun k (s:List qL)=>((k:Int),s)) b.2.2 (fun k s=>s=mid b y i r k) _ (fun k p s hp hs=>?_) (fun s hs=>?_) _ z4m.symm
  ·have hk:=(List.getElem?_eq_some_iff.1 hp).1
   have hbm:=h.m
   subst hs
   unfold zDJ
   simp only [z3G hp,if_true,xL,hp,zob,zYr _ (show y.length<9223372036854775807 by omega),Int.toNat_natCast,mid_at hr k]
   have hif:(if (!r.2.1)=true then (if (p.1==r.1)=true then some (decide (p.2.2∈y)) else some false) else some false)=some (!r.2.1&&p.1==r.1&&decide (p.2.2∈y)):=by
    cases hg:(!r.2.1) <;> cases hh:(p.1==r.1) <;> simp
   rw [hif,zob]
   have hm:=z6O (b:=b) (y:=y) (i:=i) (r:=r) hp
   refine .ite (fun hc=>?_) fun hc=>?_
   ·rw [if_pos hc] at hm
    exact .ret ⟨_,by rw [yM k (by omega)],hm⟩
   ·rw [hc] at hm
    simp only [zbf,if_false] at hm
    exact .ret ⟨_,by rw [yM k (by omega)],hm⟩
  ·subst hs
   unfold zDJ
   simp only [zZ1,zbf,if_false]
   exact .ret ⟨_,by simp only [yM i (by omega)],z6R hr⟩
 ·subst hs
  unfold zCj
  simp only [zZ1,zbf,if_false]
  exact .ret rfl
theorem z5D {b:zO} (h:Cnt b):zM1 b=some b:=by
 unfold zM1
 simp only [zL9 h.p,zL9 h.m,zob]
 have hl:=zQC (B:=zJf b) b.2.1 (fun s x=>s++[x]) (fun s=>s) (fun i s=>s.length=i) [] rfl (fun i x s hx hI=>?_) (fun s _=>?_)
 ·rw [hl.1,zV5,List.nil_append]
  rfl
 ·have hlt:=(List.getElem?_eq_some_iff.1 hx).1
  have hbr:=h.r
  refine ⟨?_,by simp [hI]⟩
  unfold zJf
  simp only [z3G hx,if_true,xL,hx,zob]
  rw [zL9 (h.q x (List.mem_of_getElem? hx))]
  simp only [zob]
  rw [vY (by simp;omega),yM i (by omega)]
  rfl
 ·unfold zJf
  simp only [zZ1,zbf,if_false]
end
section
def uL (l:List Int) (x:Int):List Int:=(wW l.length).filter fun i=>decide (l[i.toNat]?=some x)
theorem zJc (l:List Int) (x:Int):(uL l x).length≤l.length:=Nat.le_trans (List.length_filter_le _ _) (by rw [tE];exact Nat.le_refl _)
theorem zXK {l:List Int} {x:Int} {j:Nat}:(j:Int)∈uL l x↔l[j]?=some x:=by
 rw [uL,List.mem_filter,xJ,Int.toNat_natCast,decide_eq_true_eq]
 exact ⟨fun h=>h.2,fun h=>⟨⟨by omega,by have:=vF h;omega⟩,h⟩⟩
theorem zL2 (l:List Int) (x:Int) (hl:l.length<4294967000):zBR l x=some (uL l x):=by
 unfold zBR
 have h:=zDz (B:=zGK l x) (wW l.length) (fun s i=>if decide (l[i.toNat]?=some x) then s++[i] else s) id (fun i s=>s.length≤i) ([]:List Int) (by simp) ?_ ?_
 ·have h2:=zGj (fun i:Int=>decide (l[i.toNat]?=some x)) id (wW l.length) []
  simp only [id,List.map_id,List.nil_append] at h2
  rw [h.1,h2];rfl
 ·intro i y s hy hI
  obtain ⟨rfl,hi⟩:=zQY hy
  have hx:l[i]?=some l[i]:=List.getElem?_eq_getElem hi
  unfold zGK
  simp only [wS hx,if_true,wP hx,zob,wR hx (by omega),Int.toNat_natCast,hx,Option.some.injEq]
  by_cases he:l[i]=x
  ·simp only [he,beq_self_eq_true,if_true,decide_true]
   rw [vY (by simp;omega)]
   exact ⟨rfl,by simp;omega⟩
  ·have hb:(l[i]==x)=false:=by simpa using he
   simp only [hb,he,decide_false,zbf,if_false]
   exact ⟨trivial,by omega⟩
 ·intro s _
  rw [tE]
  unfold zGK
  simp [len]
def badO (o:yN):Bool:=if o.1 != 1 then (o.1 != 2)||((o.2 != 1)&&(o.2 != 2)) else (o.2 != 1)&&(o.2 != 2)
noncomputable def tA (b:zO) (l:List zI) (o:yN):List wD:=xM xY (zHk (zDZ b l o))
noncomputable def z4D (b:zO) (l:List zI) (o:yN):List zG:=xM vH ((uL (zQT l.length (tA b l o)) 1).flatMap (zSe l))
noncomputable def z4A (b:zO) (l:List zI) (o:yN):zBu:=(uA b (z4D b l o),l,zDZ (uA b (z4D b l o)) l o,((l.length:Int),tA (uA b (z4D b l o)) l o))
theorem zPU {b:zO} {l:List zI} (hl:l.length≤40) (o:yN):zTr (len l) (zDZ b l o)=(((l.length:Int),tA b l o),0)∧vX l.length (tA b l o):=by
 have h0:(decide (len l<0)||decide (40<len l))=false:=by
  simp only [len,Bool.or_eq_false_iff,decide_eq_false_iff_not];omega
 have h1:(zDZ b l o).any (z1Y (len l))=false:=by
  rw [List.any_eq_false]
  intro y hy
  have hy:=zPf (b:=b) (l:=l) y |>.1 (List.mem_filter.1 hy).1
  simp only [z1Y,len,Bool.or_eq_true,decide_eq_true_eq,not_or]
  omega
 have h2:zTr (len l) (zDZ b l o)=(((l.length:Int),tA b l o),0):=by
  unfold zTr tA
  simp only [h0,h1,zbf,if_false]
 refine ⟨h2,?_⟩
 obtain ⟨N,e1,e2,e3,_⟩:=zZa h2
 have:N=l.length:=by simp only [len] at e1;omega
 rw [←this];exact e3
theorem zUR {b:zO} {l:List zI} {y:List zG} (h:FormB b l):FormB (uA b y) l :=
 ⟨h.toFormA,by simpa [uA] using h.np,by simpa [uA] using h.nr,fun i a ha=>by simpa [uA] using h.kind i a ha⟩
theorem z4c (b:zO) (l:List zI) (o:yN):(z4D b l o).length≤l.length:=by
 refine Nat.le_trans (zS1 _ _) (Nat.le_trans (zUl _) ?_)
 rw [Nat.mul_one]
 refine Nat.le_trans (zJc _ _) ?_
 rw [zQT,zG5];exact Nat.le_refl _
end
section
theorem zVg:zLQ=some ():=rfl
theorem zXI {N:Nat} {L:List wD} (h:vX N L):zBT ((N:Int),L) 1=some ([uL (zQT N L) 1],0):=by
 have hgl:(zQT N L).length=N:=zG5 _ _
 have hN:=h.hN
 have h1:zAo ((N:Int),L)=some ([zQT N L],0):=by
  unfold zAo zEm
  rw [zQ1 h]
  rfl
 have h2:zBM ((N:Int),L)=some ([uL (zQT N L) 1],0):=by
  unfold zBM
  rw [h1]
  simp only [zob,bne_self_eq_false,zbf,if_false]
  have hl:=zDz (B:=zAq ([zQT N L],0)) [zQT N L] (fun s x=>s++[uL x 1]) (fun s=>(s,(0:Int))) (fun i s=>s.length≤i) ([]:List (List Int)) (by simp) ?_ ?_
  ·rw [hl.1];rfl
  ·intro i x s hx hI
   have:=vF hx
   have hx2:x.length=N:=by
    have:=wZ hx
    simp only [List.mem_singleton] at this
    rw [this,hgl]
   unfold zAq
   simp only [wS hx,if_true,wP hx,zob,wR hx (by simp),zL2 x 1 (by omega)]
   rw [vY (by simp at this ⊢;omega)]
   exact ⟨rfl,by simp;omega⟩
  ·intro s _
   unfold zAq
   simp [len]
 unfold zBT
 rw [h.v1]
 simp only [zob,bne_self_eq_false,zbf,if_false,zVg]
 have hd:(decide ((1:Int)<1)||decide (((10:Nat):Int)≤1))=false:=by decide
 rw [hd]
 simp only [zbf,if_false,beq_self_eq_true,if_true]
 rw [h2]
 rfl
def zZe (l:List zI) (s:List Int):List zG:=xM vH (s.flatMap (zSe l))
theorem z03 (l:List zI) (s:List Int):(zZe l s).length≤s.length:=Nat.le_trans (zS1 _ _) (by have:=zUl (l:=l) s;omega)
end
section
theorem z48 {i:Int} {o:yN} (h:zF ords i=some o):badO o=false:=by
 obtain ⟨n,rfl,hn⟩:=zNG h
 have hm:=wZ hn
 have:∀ o∈ords,badO o=false:=by decide
 exact this o hm
end
section
abbrev Dm:=Bool×Bool×Bool
def eD (x:Dm):Int:=(if x.1 then 2 else 0)+(if x.2.1 then 4 else 0)+(if x.2.2 then 8 else 0)
def iD (x y:Dm):Dm:=(x.1&&y.1,x.2.1&&y.2.1,x.2.2&&y.2.2)
def mD (x y:Dm):Bool:=(x.1&&y.1)||(x.2.1&&y.2.1)||(x.2.2&&y.2.2)
theorem zWL:∀ x y:Dm,yE .i64 (eD x) (eD y)=eD (iD x y):=by
 rintro ⟨a,b,c⟩ ⟨d,e,f⟩
 revert a b c d e f
 decide +kernel
theorem z5o:∀ x:Dm,(eD x==0)=(!(x.1||x.2.1||x.2.2)):=by
 rintro ⟨a,b,c⟩;revert a b c;decide
theorem zYh (x y:Dm):(yE .i64 (eD x) (eD y) != 0)=mD x y:=by
 rw [zWL]
 show (!(eD (iD x y)==0))=_
 rw [z5o]
 simp [iD,mD]
theorem zZm:∀ x y:Dm,eD x=eD y->x=y:=by
 rintro ⟨a,b,c⟩ ⟨d,e,f⟩
 revert a b c d e f
 decide +kernel
def tJ (x y:Dm):Prop:=(x.1=true->y.1=true)∧(x.2.1=true->y.2.1=true)∧(x.2.2=true->y.2.2=true)
theorem tJ.refl (x:Dm):tJ x x:=⟨id,id,id⟩
theorem tJ.trans {x y z:Dm} (h:tJ x y) (k:tJ y z):tJ x z:=⟨fun a=>k.1 (h.1 a),fun a=>k.2.1 (h.2.1 a),fun a=>k.2.2 (h.2.2 a)⟩
theorem tJ.anti {x y:Dm} (h:tJ x y) (k:tJ y x):x=y:=by
 obtain ⟨a,b,c⟩:=x
 obtain ⟨d,e,f⟩:=y
 simp only [tJ] at h k
 have h1:a=d:=by cases a <;> cases d <;> simp_all
 have h2:b=e:=by cases b <;> cases e <;> simp_all
 have h3:c=f:=by cases c <;> cases f <;> simp_all
 rw [h1,h2,h3]
theorem z6j (x y:Dm):tJ (iD x y) x:=by
 refine ⟨fun h=>?_,fun h=>?_,fun h=>?_⟩ <;> (simp [iD] at h;exact h.1)
theorem iD_le2 (x y:Dm):tJ (iD x y) y:=by
 refine ⟨fun h=>?_,fun h=>?_,fun h=>?_⟩ <;> (simp [iD] at h;exact h.2)
def z0R (x:Dm):Nat:=(if x.1 then 1 else 0)+(if x.2.1 then 1 else 0)+(if x.2.2 then 1 else 0)
theorem zYz:∀ {x y:Dm},tJ x y->z0R x≤z0R y∧(z0R x=z0R y->x=y):=by
 rintro ⟨a,b,c⟩ ⟨d,e,f⟩ h
 simp only [tJ] at h
 cases a <;> cases b <;> cases c <;> cases d <;> cases e <;> cases f <;> simp_all [z0R]
abbrev DD:=Nat->Dm
def dA (D:DD):List Int:=qU 40 fun j=>eD (D j)
def leF (D E:DD):Prop:=∀ j,tJ (D j) (E j)
theorem leF.refl (D:DD):leF D D:=fun _=>tJ.refl _
theorem leF.trans {D E G:DD} (h:leF D E) (k:leF E G):leF D G:=fun j=>(h j).trans (k j)
theorem leF.anti {D E:DD} (h:leF D E) (k:leF E D):D=E:=funext fun j=>(h j).anti (k j)
def tL (D:DD) (i:Nat) (x:Dm):DD:=fun j=>if j=i then x else D j
theorem zX4 (D:DD) {i:Nat} (hi:i<40) (x:Dm):xR 40 (dA D) (i:Int) (eD x)=dA (tL D i x):=by
 unfold dA
 rw [zU7 40 _ hi]
 apply zBk
 intro j _
 simp only [tL]
 split <;> rfl
theorem zKr (D:DD) {i:Nat} (hi:i<40):yR (dA D) (i:Int)=eD (D i):=zPL 40 _ hi
theorem zSh {D:DD} {i:Nat} {x:Dm} (h:tJ x (D i)):leF (tL D i x) D:=fun j=>by
 unfold tL
 split
 ·rename_i e;subst e;exact h
 ·exact tJ.refl _
def zYM (D:DD):Nat->Nat
 | 0=>0
 | n+1=>zYM D n+z0R (D n)
theorem zTm {D E:DD} (h:leF D E):∀ n,zYM D n≤zYM E n
 | 0=>Nat.le_refl _
 | n+1=>Nat.add_le_add (zTm h n) (zYz (h n)).1
theorem z1g {D E:DD} (h:leF D E):∀ n,zYM D n=zYM E n->∀ j,j<n->D j=E j
 | 0,_,j,hj=>absurd hj (Nat.not_lt_zero _)
 | n+1,he,j,hj=>by
  have h1:=zTm h n
  have h2:=(zYz (h n)).1
  simp only [zYM] at he
  rcases Nat.lt_succ_iff_lt_or_eq.1 hj with hj | rfl
  ·exact z1g h n (by omega) j hj
  ·exact (zYz (h j)).2 (by omega)
def Emp (N:Nat) (D:DD):Prop:=∀ j,N≤j->D j=(false,false,false)
theorem Emp.le {N:Nat} {D E:DD} (h:Emp N E) (k:leF D E):Emp N D:=fun j hj=>by
 have h1:=k j
 rw [h j hj] at h1
 exact tJ.anti h1 ⟨fun h=>Bool.noConfusion h,fun h=>Bool.noConfusion h,fun h=>Bool.noConfusion h⟩
section
variable {N:Nat} {L:List wD}
def tN (N:Nat) (L:List wD):List (List Int):=(wW N).map (yX N L)
theorem z1x {i:Nat} (hi:i<N):zF (tN N L) (i:Int)=some (yX N L (i:Int)):=by
 rw [xL,tN,List.getElem?_map,wW,List.getElem?_map,List.getElem?_range hi]
 rfl
theorem zRP (hN:N≤40) (D:DD) (at0 vG:List (List Int)) (n:Int) (full:Bool) (a:List Int) (ha:∀ x∈a,∃ k:Nat,x=(k:Int)∧k<N) (hl:a.length≤40) (t:Dm) :
  zB7 (n,at0,dA D,vG,full) a (eD t)=some (a.filter fun x=>mD (D x.toNat) t):=by
 unfold zB7
 have h:=zDz (B:=zEU a (n,at0,dA D,vG,full) (eD t)) a (fun s x=>if mD (D x.toNat) t then s++[x] else s) id (fun i s=>s.length≤i) ([]:List Int) (by simp) ?_ ?_
 ·have h2:=zGj (fun x:Int=>mD (D x.toNat) t) id a []
  simp only [id,List.map_id,List.nil_append] at h2
  rw [h.1,h2];rfl
 ·intro i y s hy hI
  have hlt:=vF hy
  obtain ⟨k,rfl,hk⟩:=ha y (wZ hy)
  unfold zEU
  simp only [wS hy,if_true,wP hy,zob,wR hy (by omega)]
  rw [zMf (K:=40) rfl (show k<40 by omega),zob,zKr D (by omega),zYh,Int.toNat_natCast]
  cases mD (D k) t with
  | true =>
   simp only [if_true]
   rw [vY (by simp;omega)]
   exact ⟨rfl,by simp;omega⟩
  | false =>
   simp only [zbf,if_false]
   exact ⟨trivial,by omega⟩
 ·intro s _
  unfold zEU
  simp [len]
theorem z6C:zDH=zB7:=rfl
theorem zKU {i:Nat}:∀ x∈yX N L (i:Int),∃ k:Nat,x=(k:Int)∧k<N:=fun x hx=>by
 have h:=(List.mem_filter.1 hx).1
 rw [xJ] at h
 exact ⟨x.toNat,by omega,by omega⟩
theorem zL0 {i j:Nat} (hj:j<N):(j:Int)∈yX N L (i:Int)↔yJ L j i:=by
 rw [List.mem_filter,xJ]
 exact ⟨fun h=>h.2,fun h=>⟨⟨by omega,by omega⟩,h⟩⟩
def zWs (N:Nat) (L:List wD) (D:DD) (i:Nat):Dm :=
 ((yX N L (i:Int)).all fun x=>(D x.toNat).2.1,(yX N L (i:Int)).any fun x=>(D x.toNat).1,
  ((yX N L (i:Int)).all fun x=>(D x.toNat).2.1||(D x.toNat).2.2)&&(yX N L (i:Int)).any fun x=>(D x.toNat).2.2)
theorem z18 {α:Type} (p:α->Bool) (l:List α):decide (len (l.filter p)<len l)=!(l.all p):=by
 induction l with
 | nil=>rfl
 | cons x l ih =>
  rw [List.filter_cons]
  have hle:=List.length_filter_le p l
  cases hp:p x with
  | true =>
   simp only [if_true,List.all_cons,hp,Bool.true_and]
   rw [←ih]
   simp only [len,List.length_cons]
   congr 1
   exact propext (by omega)
  | false =>
   simp only [zbf,if_false,List.all_cons,hp,Bool.false_and,Bool.not_false,decide_eq_true_eq,len,List.length_cons]
   omega
theorem zNJ {α:Type} (p:α->Bool) (l:List α):(len (l.filter p)==0)=!(l.any p):=by
 induction l with
 | nil=>rfl
 | cons x l ih =>
  rw [List.filter_cons]
  cases hp:p x with
  | true =>
   simp only [if_true,List.any_cons,hp,Bool.true_or,Bool.not_true,len,List.length_cons]
   exact beq_eq_false_iff_ne.2 (by omega)
  | false=>simp only [zbf,if_false,List.any_cons,hp,Bool.false_or];exact ih
theorem zWW (hN:N≤40) (D:DD) (vG:List (List Int)) (full:Bool) {i:Nat} (hi:i<N) :
  zCA ((N:Int),tN N L,dA D,vG,full) (i:Int)=some (eD (zWs N L D i)):=by
 have hl:(yX N L (i:Int)).length≤40:=Nat.le_trans (zWr _) hN
 have c4:=zRP hN D (tN N L) vG (N:Int) full (yX N L (i:Int)) zKU hl (false,true,false)
 have c2:=zRP hN D (tN N L) vG (N:Int) full (yX N L (i:Int)) zKU hl (true,false,false)
 have c12:=zRP hN D (tN N L) vG (N:Int) full (yX N L (i:Int)) zKU hl (false,true,true)
 have c8:=zRP hN D (tN N L) vG (N:Int) full (yX N L (i:Int)) zKU hl (false,false,true)
 simp only [mD,Bool.and_false,Bool.and_true,Bool.false_or,Bool.or_false] at c4 c2 c12 c8
 rw [show eD (false,true,false)=4 from rfl] at c4
 rw [show eD (true,false,false)=2 from rfl] at c2
 rw [show eD (false,true,true)=12 from rfl] at c12
 rw [show eD (false,false,true)=8 from rfl] at c8
 unfold zCA
 simp only [z1x hi,zob,c4,c2,c12,c8,z18,zNJ]
 unfold zWs
 generalize ((yX N L (i:Int)).all fun x=>(D x.toNat).2.1)=q1
 generalize ((yX N L (i:Int)).any fun x=>(D x.toNat).1)=q2
 generalize ((yX N L (i:Int)).all fun x=>(D x.toNat).2.1||(D x.toNat).2.2)=q3
 generalize ((yX N L (i:Int)).any fun x=>(D x.toNat).2.2)=q4
 revert q1 q2 q3 q4
 decide +kernel
structure CL (N:Nat) (L:List wD) (f:Nat->Nat):Prop where
 r:∀ i,i<N->f i=1∨f i=2∨f i=3
 i1:∀ i,i<N->f i=1->∀ j,j<N->yJ L j i->f j=2
 i2:∀ i,i<N->f i=2->∃ j,j<N∧yJ L j i∧f j=1
 i3:∀ i,i<N->f i=3->(∃ j,j<N∧yJ L j i∧f j=3)∧∀ j,j<N->yJ L j i->f j≠1
def zWK (x:Dm) (k:Nat):Bool:=match k with
 | 1=>x.1
 | 2=>x.2.1
 | 3=>x.2.2
 | _=>false
def zZG (N:Nat) (D:DD) (f:Nat->Nat):Prop:=∀ i,i<N->zWK (D i) (f i)=true
theorem z1m (x y:Dm) (k:Nat):zWK (iD x y) k=(zWK x k&&zWK y k):=by
 match k with
 | 0 | 1 | 2 | 3=>rfl
 | _+4=>rfl
theorem zYs {x y:Dm} (h:tJ x y) {k:Nat} (hk:zWK x k=true):zWK y k=true:=by
 match k,hk with
 | 1,hk=>exact h.1 hk
 | 2,hk=>exact h.2.1 hk
 | 3,hk=>exact h.2.2 hk
theorem z62 {D:DD} {f:Nat->Nat} (hf:CL N L f) (hc:zZG N D f) {i:Nat} (hi:i<N):zWK (zWs N L D i) (f i)=true:=by
 have hpr:∀ x∈yX N L (i:Int),∃ k:Nat,x=(k:Int)∧k<N∧yJ L k i:=fun x hx=>by
  obtain ⟨k,rfl,hk⟩:=zKU x hx
  exact ⟨k,rfl,hk,(zL0 hk).1 hx⟩
 rcases hf.r i hi with h | h | h <;> rw [h]
 ·show ((yX N L (i:Int)).all fun x=>(D x.toNat).2.1)=true
  rw [List.all_eq_true]
  intro x hx
  obtain ⟨k,rfl,hk,he⟩:=hpr x hx
  have:=hc k hk
  rw [hf.i1 i hi h k hk he] at this
  exact this
 ·show ((yX N L (i:Int)).any fun x=>(D x.toNat).1)=true
  obtain ⟨k,hk,he,h1⟩:=hf.i2 i hi h
  rw [List.any_eq_true]
  have:=hc k hk
  rw [h1] at this
  exact ⟨(k:Int),(zL0 hk).2 he,this⟩
 ·show (_&&_)=true
  obtain ⟨⟨k,hk,he,h3⟩,h4⟩:=hf.i3 i hi h
  rw [Bool.and_eq_true,List.all_eq_true,List.any_eq_true]
  refine ⟨fun x hx=>?_,(k:Int),(zL0 hk).2 he,?_⟩
  ·obtain ⟨k,rfl,hk,he⟩:=hpr x hx
   have:=hc k hk
   rcases hf.r k hk with q | q | q
   ·exact absurd q (h4 k hk he)
   ·rw [q] at this;simp [show (D k).2.1=true from this]
   ·rw [q] at this;simp [show (D k).2.2=true from this]
  ·have:=hc k hk
   rw [h3] at this
   exact this
end
end
section
section
variable {N:Nat} {L:List wD}
def xP (N:Nat) (L:List wD) (D E:DD):Prop:=leF E D∧∀ f,CL N L f->zZG N D f->zZG N E f
theorem xP.refl (D:DD):xP N L D D:=⟨leF.refl D,fun _ _ h=>h⟩
theorem xP.trans {D E G:DD} (h:xP N L D E) (k:xP N L E G):xP N L D G:=⟨k.1.trans h.1,fun f hf hc=>k.2 f hf (h.2 f hf hc)⟩
theorem zXk {D E:DD} (h:xP N L D E) {k:Nat} (t:Dm) (ht:∀ f,CL N L f->zZG N D f->zWK t (f k)=true):xP N L D (tL E k (iD (E k) t)):=by
 refine ⟨(zSh (z6j _ _)).trans h.1,fun f hf hc j hj=>?_⟩
 unfold tL
 split
 ·rename_i e;subst e
  rw [z1m,h.2 f hf hc j hj,ht f hf hc];rfl
 ·exact h.2 f hf hc j hj
theorem zVp {ρ:Type} {B:Int×List Int->Option ((Int×List Int)⊕ρ)} (hN:N≤40) (D:DD) (a:List Int) (ha:∀ x∈a,∃ k:Nat,x=(k:Int)∧k<N) (t:Dm) (ht:∀ f,CL N L f->zZG N D f->∀ k:Nat,(k:Int)∈a->zWK t (f k)=true) (fin:List Int->ρ)
  (hB:∀ (i:Nat) (k:Nat) s,a[i]?=some (k:Int)->k<40->B ((i:Int),s)=some (.inl (((i+1:Nat):Int),xR 40 s (k:Int) (yE .i64 (yR s (k:Int)) (eD t)))))
  (he:∀ s,B ((a.length:Int),s)=some (.inr (fin s))):∃ E,zU B (0,dA D)=some (fin (dA E))∧xP N L D E:=by
 have h:=zQC (B:=B) a (fun s x=>xR 40 s x (yE .i64 (yR s x) (eD t))) fin (fun _ s=>∃ E,s=dA E∧xP N L D E) (dA D) ⟨D,rfl,xP.refl D⟩ ?_ fun s _=>he s
 ·obtain ⟨h1,E,h2,h3⟩:=h
  exact ⟨E,by rw [h1,h2],h3⟩
 ·rintro i x s hx ⟨E,rfl,hE⟩
  obtain ⟨k,rfl,hk⟩:=ha x (wZ hx)
  refine ⟨hB i k _ hx (by omega),tL E k (iD (E k) t),?_,zXk hE t fun f hf hc=>ht f hf hc k (wZ hx)⟩
  rw [zKr E (by omega),zWL,zX4 E (by omega)]
theorem zZO (x y:Dm):(eD x==eD y)=decide (x=y):=by
 by_cases h:x=y
 ·subst h;simp
 ·simp only [h,decide_false,beq_eq_false_iff_ne]
  exact fun e=>h (zZm _ _ e)
theorem z01 (hN:N≤40) (D:DD) (vG:List (List Int)) (full:Bool) {i:Nat} (hi:i<N) :
  ∃ E,zCO ((N:Int),tN N L,dA D,vG,full) (i:Int)=some (dA E,vG)∧xP N L D E:=by
 have hl:(yX N L (i:Int)).length≤40:=Nat.le_trans (zWr _) hN
 have hne:∀ f,CL N L f->zZG N D f->zWK (D i) (f i)=true:=fun f _ hc=>hc i hi
 have hon:∀ (f:Nat->Nat) (k:Nat),CL N L f->zZG N D f->(∀ q,q=1∨q=2∨q=3->zWK (D i) q=true->q=k)->f i=k:=fun f k hf hc hq=>hq _ (hf.r i hi) (hc i hi)
 have first:∃ (t:Dm) (E:DD),((yC (decide (0≤(i:Int))&&decide ((i:Int)<40))).bind fun _ =>
   if (yR (dA D) (i:Int))==2 then
    zU (zCT (yX N L (i:Int))) (0,dA D)
   else
    if (yR (dA D) (i:Int))==4 then
     some (2,dA D)
    else
     if (yR (dA D) (i:Int))==8 then
      (zU (zCS (yX N L (i:Int))) (0,dA D):Option (List Int)).bind fun s3 =>
      some (8,s3)
     else
      some (0,dA D):Option (Int×(List Int)))=some (eD t,dA E)∧xP N L D E∧(t=(false,false,false)∨∃ c:Nat,(t=(true,false,false)∧c=1∨t=(false,false,true)∧c=3) ∧
    ∀ f,CL N L f->zZG N D f->∃ j,j<N∧yJ L j i∧f j=c):=by
  rw [zMf (K:=40) rfl (show i<40 by omega),zob,zKr D (by omega)]
  rw [show (2:Int)=eD (true,false,false) from rfl,show (4:Int)=eD (false,true,false) from rfl,show (8:Int)=eD (false,false,true) from rfl,zZO,zZO,zZO]
  by_cases h1:D i=(true,false,false)
  ·have hf1:∀ f,CL N L f->zZG N D f->f i=1:=fun f hf hc=>hon f 1 hf hc fun q hq hh=>by
    rw [h1] at hh
    rcases hq with rfl | rfl | rfl
    ·rfl
    ·exact Bool.noConfusion hh
    ·exact Bool.noConfusion hh
   obtain ⟨E,h2,h3⟩:=zVp (B:=zCT (yX N L (i:Int))) hN D (yX N L (i:Int)) zKU (false,true,false) (fun f hf hc k hk=>by
    have hkN:k<N:=by obtain ⟨k',e,h⟩:=zKU _ hk;omega
    rw [hf.i1 i hi (hf1 f hf hc) k hkN ((zL0 hkN).1 hk)];rfl) (fun s=>(0,s)) (fun q k s hq hk=>by
     unfold zCT
     simp only [wS hq,if_true,wP hq,zob,wR hq (by omega)]
     rw [zMf (K:=40) rfl hk]
     rfl) (fun s=>by unfold zCT;simp [len])
   refine ⟨(false,false,false),E,?_,h3,.inl rfl⟩
   simp only [h1,decide_true,if_true]
   exact h2
  ·simp only [h1,decide_false,zbf,if_false]
   by_cases h2:D i=(false,true,false)
   ·refine ⟨(true,false,false),D,by simp only [h2,decide_true,if_true],xP.refl D,.inr ⟨1,.inl ⟨rfl,rfl⟩,fun f hf hc=>?_⟩⟩
    refine hf.i2 i hi (hon f 2 hf hc fun q hq hh=>?_)
    rw [h2] at hh
    rcases hq with rfl | rfl | rfl
    ·exact Bool.noConfusion hh
    ·rfl
    ·exact Bool.noConfusion hh
   ·simp only [h2,decide_false,zbf,if_false]
    by_cases h3:D i=(false,false,true)
    ·have hf3:∀ f,CL N L f->zZG N D f->f i=3:=fun f hf hc=>hon f 3 hf hc fun q hq hh=>by
      rw [h3] at hh
      rcases hq with rfl | rfl | rfl
      ·exact Bool.noConfusion hh
      ·exact Bool.noConfusion hh
      ·rfl
     obtain ⟨E,h4,h5⟩:=zVp (B:=zCS (yX N L (i:Int))) hN D (yX N L (i:Int)) zKU (false,true,true) (fun f hf hc k hk=>by
      have hkN:k<N:=by obtain ⟨k',e,h⟩:=zKU _ hk;omega
      have h6:=(hf.i3 i hi (hf3 f hf hc)).2 k hkN ((zL0 hkN).1 hk)
      rcases hf.r k hkN with h | h | h
      ·exact absurd h h6
      ·rw [h];rfl
      ·rw [h];rfl) (fun s=>s) (fun q k s hq hk=>by
       unfold zCS
       simp only [wS hq,if_true,wP hq,zob,wR hq (by omega)]
       rw [zMf (K:=40) rfl hk]
       rfl) (fun s=>by unfold zCS;simp [len])
     refine ⟨(false,false,true),E,?_,h5,.inr ⟨3,.inr ⟨rfl,rfl⟩,fun f hf hc=>(hf.i3 i hi (hf3 f hf hc)).1⟩⟩
     simp only [h3,decide_true,if_true]
     rw [h4];rfl
    ·refine ⟨(false,false,false),D,by simp only [h3,decide_false,zbf,if_false];rfl,xP.refl D,.inl rfl⟩
 obtain ⟨t,E,h1,h2,h3⟩:=first
 unfold zCO
 simp only [z1x hi,zob]
 rw [h1,zob,z6C,zRP hN E _ vG (N:Int) full _ zKU hl t,zob]
 by_cases hlen:len ((yX N L (i:Int)).filter fun x=>mD (E x.toNat) t)=1
 ·have hb:(len ((yX N L (i:Int)).filter fun x=>mD (E x.toNat) t)==1)=true:=by rw [hlen];rfl
  rw [hb]
  simp only [if_true]
  obtain ⟨x,hx⟩:∃ x,(yX N L (i:Int)).filter (fun x=>mD (E x.toNat) t)=[x]:=by
   have:((yX N L (i:Int)).filter fun x=>mD (E x.toNat) t).length=1:=by simp only [len] at hlen;omega
   exact List.length_eq_one_iff.1 this
  rw [hx]
  have hxm:x∈(yX N L (i:Int)).filter fun x=>mD (E x.toNat) t:=by rw [hx];exact List.mem_cons_self
  obtain ⟨k,rfl,hk⟩:=zKU x (List.mem_filter.1 hxm).1
  refine ⟨tL E k (iD (E k) t),?_,zXk h2 t fun f hf hc=>?_⟩
  ·rw [show zF [(k:Int)] 0=some (k:Int) from rfl,zob,zMf (K:=40) rfl (show k<40 by omega),zob,zob,zKr E (by omega),zWL,zX4 E (by omega)]
  ·rcases h3 with rfl | ⟨c,hc1,hc2⟩
   ·have:=(List.mem_filter.1 hxm).2
    simp [mD] at this
   ·obtain ⟨j,hj,he,hfj⟩:=hc2 f hf hc
    have hEj:=h2.2 f hf hc j hj
    rw [hfj] at hEj
    have hjm:(j:Int)∈(yX N L (i:Int)).filter fun x=>mD (E x.toNat) t:=by
     rw [List.mem_filter]
     refine ⟨(zL0 hj).2 he,?_⟩
     rw [Int.toNat_natCast]
     rcases hc1 with ⟨rfl,rfl⟩ | ⟨rfl,rfl⟩
     ·have:(E j).1=true:=hEj
      simp [mD,this]
     ·have:(E j).2.2=true:=hEj
      simp [mD,this]
    rw [hx,List.mem_singleton] at hjm
    have:j=k:=by omega
    subst this
    rw [hfj]
    rcases hc1 with ⟨rfl,rfl⟩ | ⟨rfl,rfl⟩ <;> rfl
 ·have hb:(len ((yX N L (i:Int)).filter fun x=>mD (E x.toNat) t)==1)=false:=beq_eq_false_iff_ne.2 hlen
  rw [hb]
  exact ⟨E,rfl,h2⟩
def Dead (N:Nat) (L:List wD) (D:DD):Prop:=∀ f,CL N L f->¬ zZG N D f
def Fix (N:Nat) (L:List wD) (D:DD):Prop:=∀ i,i<N->tJ (D i) (zWs N L D i)
theorem z3g {D E:DD} (h:xP N L D E) {i:Nat} (hi:i<N) (h0:E i=(false,false,false)):Dead N L D:=fun f hf hc=>by
 have:=h.2 f hf hc i hi
 rw [h0] at this
 rcases hf.r i hi with h | h | h <;> rw [h] at this <;> exact Bool.noConfusion this
theorem zZ0 (hN:N≤40) (D:DD) (vG:List (List Int)) (n2:List Int) (f2:List (List Int)) (full:Bool) :
  (∃ E,zU (zAU ((N:Int),tN N L,n2,f2,full)) (0,dA D,vG)=some (.inl (dA E,vG))∧xP N L D E∧(E=D->Fix N L D)) ∨
  ∃ E,zU (zAU ((N:Int),tN N L,n2,f2,full)) (0,dA D,vG)=some (.inr (.inr (false,dA E,vG)))∧leF E D∧Dead N L D:=by
 have key:∀ (m i:Nat) (E:DD),i+m=N->xP N L D E->(E=D->∀ j,j<i->tJ (D j) (zWs N L D j))->
   (∃ G,zU (zAU ((N:Int),tN N L,n2,f2,full)) ((i:Int),dA E,vG)=some (.inl (dA G,vG))∧xP N L D G∧(G=D->Fix N L D)) ∨
   ∃ G,zU (zAU ((N:Int),tN N L,n2,f2,full)) ((i:Int),dA E,vG)=some (.inr (.inr (false,dA G,vG)))∧leF G D∧Dead N L D:=by
  intro m
  induction m with
  | zero =>
   intro i E h hE hI
   rw [Nat.add_zero] at h
   subst h
   refine .inl ⟨E,?_,hE,fun e j hj=>hI e j hj⟩
   rw [yF]
   unfold zAU
   simp
  | succ m ih =>
   intro i E h hE hI
   have hi:i<N:=by omega
   have hd:decide ((i:Int)<(N:Int))=true:=by simp;omega
   have hp:=zWW (L:=L) hN E vG full hi
   have hK1:xP N L D (tL E i (iD (E i) (zWs N L E i))):=by
    refine hE.trans ⟨zSh (z6j _ _),fun f hf hc j hj=>?_⟩
    unfold tL
    split
    ·rename_i e;subst e
     rw [z1m,hc j hj,z62 hf hc hj];rfl
    ·exact hc j hj
   obtain ⟨G,hG1,hG2⟩:=z01 (L:=L) hN (tL E i (iD (E i) (zWs N L E i))) vG full hi
   have hstep:zAU ((N:Int),tN N L,n2,f2,full) ((i:Int),dA E,vG) =
     if (tL E i (iD (E i) (zWs N L E i)) i)=(false,false,false) then some (.inr (.inr (.inr (false,dA (tL E i (iD (E i) (zWs N L E i))),vG)))) else some (.inl (((i+1:Nat):Int),dA G,vG)):=by
    unfold zAU
    simp only [hd,if_true]
    rw [zMf (K:=40) rfl (show i<40 by omega),zob,hp,zob,zob,zob,zKr E (by omega),zWL,zX4 E (by omega),zKr _ (by omega)]
    rw [show (0:Int)=eD (false,false,false) from rfl,zZO]
    by_cases h0:tL E i (iD (E i) (zWs N L E i)) i=(false,false,false)
    ·simp only [h0,decide_true,if_true]
    ·simp only [h0,decide_false,zbf,if_false]
     rw [hG1,zob,yM i (by omega)]
   rw [yF,hstep]
   by_cases h0:tL E i (iD (E i) (zWs N L E i)) i=(false,false,false)
   ·rw [if_pos h0]
    exact .inr ⟨_,rfl,hK1.1,z3g hK1 hi h0⟩
   ·rw [if_neg h0]
    refine ih (i+1) G (by omega) (hK1.trans hG2) fun e j hj=>?_
    have e1:tL E i (iD (E i) (zWs N L E i))=D:=hK1.1.anti (by rw [←e];exact hG2.1)
    have e2:E=D:=hE.1.anti (by rw [←e1];exact zSh (z6j _ _))
    rcases Nat.lt_succ_iff_lt_or_eq.1 hj with hj | rfl
    ·exact hI e2 j hj
    ·have h3:iD (E j) (zWs N L E j)=E j:=by
      have:=congrFun (e1.trans e2.symm) j
      simpa [tL] using this
     rw [e2] at h3
     have:=iD_le2 (D j) (zWs N L D j)
     rwa [h3] at this
 exact key N 0 D (by omega) (xP.refl D) fun _ j hj=>absurd hj (Nat.not_lt_zero _)
theorem z56 (D E:DD):aeq 40 (dA D) (dA E)=true↔∀ j,j<40->D j=E j:=by
 unfold aeq
 rw [List.all_eq_true]
 refine ⟨fun h j hj=>?_,fun h j hj=>?_⟩
 ·have:=h j (List.mem_range.2 hj)
  rw [beq_iff_eq] at this
  have h1:=zKr D hj
  have h2:=zKr E hj
  simp only [yR,Int.toNat_natCast] at h1 h2
  rw [h1,h2] at this
  exact zZm _ _ this
 ·have hj:=List.mem_range.1 hj
  have h1:=zKr D hj
  have h2:=zKr E hj
  simp only [yR,Int.toNat_natCast] at h1 h2
  rw [h1,h2,h j hj];simp
theorem z5z (hN:N≤40) (D:DD):z4y 40 (dA D) (N:Int)=some (qU N fun j=>eD (D j)):=by
 unfold z4y
 rw [if_pos ⟨by omega,by omega⟩,Int.toNat_natCast]
 congr 1
 apply List.map_congr_left
 intro j hj
 have hj:=List.mem_range.1 hj
 have h1:=zKr D (show j<40 by omega)
 simpa only [yR,Int.toNat_natCast] using h1
theorem z2G (D:DD):((0:Int)∈qU N fun j=>eD (D j))↔∃ j,j<N∧D j=(false,false,false):=by
 constructor
 ·intro h
  obtain ⟨j,hj,he⟩:=List.mem_map.1 h
  refine ⟨j,List.mem_range.1 hj,zZm _ _ ?_⟩
  rw [he];rfl
 ·rintro ⟨j,hj,he⟩
  refine List.mem_map.2 ⟨j,List.mem_range.2 hj,?_⟩
  rw [he];rfl
theorem zYg (hN:N≤40) (D:DD) (hD:Emp N D) (vG:List (List Int)) (full:Bool) :
  (∃ E,zBe ((N:Int),tN N L,dA D,vG,full)=some (true,dA E,vG)∧xP N L D E∧Fix N L E∧∀ i,i<N->E i≠(false,false,false)) ∨
  ∃ E,zBe ((N:Int),tN N L,dA D,vG,full)=some (false,dA E,vG)∧leF E D∧Dead N L D:=by
 have h:=zN2 (B:=zCL ((N:Int),tN N L,dA D,vG,full)) (fun s=>∃ E,s=(dA E,vG)∧xP N L D E)
  (fun s=>open Classical in if h:∃ E,s=(dA E,vG)∧xP N L D E then zYM (Classical.choose h) 40 else 0)
  (fun r=>(∃ E,r=(true,dA E,vG)∧xP N L D E∧Fix N L E∧∀ i,i<N->E i≠(false,false,false))∨∃ E,r=(false,dA E,vG)∧leF E D∧Dead N L D) ?_ (dA D,vG) ⟨D,rfl,xP.refl D⟩
 ·obtain ⟨r,h1,⟨E,rfl,h2⟩ | ⟨E,rfl,h2⟩⟩:=h
  ·exact .inl ⟨E,h1,h2⟩
  ·exact .inr ⟨E,h1,h2⟩
 ·rintro s ⟨E,rfl,hE⟩
  have dinj:∀ {G H:DD},leF G D->leF H D->dA G=dA H->G=H:=by
   intro G H hG hH he
   funext j
   by_cases hj:j<40
   ·have h1:=zKr G hj
    rw [he,zKr H hj] at h1
    exact (zZm _ _ h1).symm
   ·rw [hD.le hG j (by omega),hD.le hH j (by omega)]
  have hmu:∀ G,xP N L D G->(open Classical in if h:∃ E,((dA G,vG):List Int×List (List Int))=(dA E,vG)∧xP N L D E then zYM (Classical.choose h) 40 else 0)=zYM G 40:=by
   intro G hG
   have hex:∃ E,((dA G,vG):List Int×List (List Int))=(dA E,vG)∧xP N L D E:=⟨G,rfl,hG⟩
   rw [dif_pos hex]
   have h1:=Classical.choose_spec hex
   exact congrArg (fun z=>zYM z 40) (dinj h1.2.1 hG.1 (congrArg Prod.fst h1.1).symm)
  unfold zCL
  rcases zZ0 (L:=L) hN E vG (dA D) vG full with ⟨G,h1,h2,h3⟩ | ⟨G,h1,h2,h3⟩
  ·rw [h1]
   simp only [yD,zob]
   rw [z5z hN,zob,zJJ _ _ (by simp only [qU,List.length_map,List.length_range];omega),zob]
   by_cases h0:(0:Int)∈qU N fun j=>eD (G j)
   ·simp only [h0,decide_true,if_true]
    obtain ⟨j,hj,hz⟩:=(z2G G).1 h0
    exact .inr ⟨_,rfl,.inr ⟨G,rfl,h2.1.trans hE.1,z3g (hE.trans h2) hj hz⟩⟩
   ·simp only [h0,decide_false,zbf,if_false]
    by_cases he:∀ j,j<40->G j=E j
    ·rw [(z56 G E).2 he]
     simp only [if_true]
     have hGE:G=E:=funext fun j=>by
      by_cases hj:j<40
      ·exact he j hj
      ·rw [hD.le (h2.1.trans hE.1) j (by omega),hD.le hE.1 j (by omega)]
     subst hGE
     refine .inr ⟨_,rfl,.inl ⟨G,rfl,hE,h3 rfl,fun i hi hz=>h0 ((z2G G).2 ⟨i,hi,hz⟩)⟩⟩
    ·have hb:aeq 40 (dA G) (dA E)=false:=by
      cases hq:aeq 40 (dA G) (dA E) with
      | false=>rfl
      | true=>exact absurd ((z56 G E).1 hq) he
     rw [hb]
     simp only [zbf,if_false]
     refine .inl ⟨_,rfl,⟨G,rfl,hE.trans h2⟩,?_⟩
     rw [hmu G (hE.trans h2),hmu E hE]
     have h4:=zTm h2.1 40
     rcases Nat.lt_or_eq_of_le h4 with h5 | h5
     ·exact h5
     ·exact absurd (z1g h2.1 40 h5) he
  ·rw [h1]
   simp only [yD,zob]
   exact .inr ⟨_,rfl,.inr ⟨G,rfl,h2.trans hE.1,fun f hf hc=>h3 f hf (hE.2 f hf hc)⟩⟩
end
end
section
def uT (N:Nat) (f:Nat->Nat):List Int:=qU N fun j=>((f j:Nat):Int)
theorem zNj {N i:Nat} (hi:i<N) (f:Nat->Nat):(uT N f)[i]?=some ((f i:Nat):Int):=by rw [uT,zIk,if_pos hi]
theorem zRU (N:Nat) (f:Nat->Nat):(uT N f).length=N:=by simp [uT,qU]
theorem z6a {N:Nat} {f g:Nat->Nat} (h:∀ j,j<N->f j=g j):uT N f=uT N g:=zBk fun j hj=>by rw [h j hj]
theorem z0M {N:Nat} {f g:Nat->Nat} (h:uT N f=uT N g):∀ j,j<N->f j=g j:=fun j hj=>by
 have h1:=zNj hj f
 rw [h,zNj hj g] at h1
 simp only [Option.some.injEq] at h1
 omega
def yT (c:Nat):Dm:=(decide (c=1),decide (c=2),decide (c=3))
theorem z0W {c k:Nat} (hc:c=1∨c=2∨c=3) (h:zWK (yT c) k=true):k=c:=by
 match k,h with
 | 1,h=>simpa [zWK,yT,eq_comm] using h
 | 2,h=>simpa [zWK,yT,eq_comm] using h
 | 3,h=>simpa [zWK,yT,eq_comm] using h
theorem z3R {c:Nat} (hc:c=1∨c=2∨c=3):zWK (yT c) c=true:=by
 rcases hc with rfl | rfl | rfl <;> rfl
theorem sgl_le {c:Nat} {x:Dm} (hc:c=1∨c=2∨c=3) (h:zWK x c=true):tJ (yT c) x:=by
 rcases hc with rfl | rfl | rfl
 ·exact ⟨fun _=>h,fun k=>by simp [yT] at k,fun k=>by simp [yT] at k⟩
 ·exact ⟨fun k=>by simp [yT] at k,fun _=>h,fun k=>by simp [yT] at k⟩
 ·exact ⟨fun k=>by simp [yT] at k,fun k=>by simp [yT] at k,fun _=>h⟩
theorem z1h:∀ x:Dm,x≠(false,false,false)->(∃ c,(c=1∨c=2∨c=3)∧x=yT c)∨2≤z0R x:=by
 rintro ⟨a,b,c⟩ h
 cases a <;> cases b <;> cases c
 ·exact absurd rfl h
 ·exact .inl ⟨3,by decide,rfl⟩
 ·exact .inl ⟨2,by decide,rfl⟩
 ·exact .inr (by decide)
 ·exact .inl ⟨1,by decide,rfl⟩
 ·exact .inr (by decide)
 ·exact .inr (by decide)
 ·exact .inr (by decide)
theorem z3L {c:Nat} (hc:c=1∨c=2∨c=3):z0R (yT c)=1:=by rcases hc with rfl | rfl | rfl <;> rfl
theorem z0J {D:DD} {i:Nat} {x:Dm} (h:tJ x (D i)) (hp:z0R x<z0R (D i)):∀ n,i<n->zYM (tL D i x) n<zYM D n
 | 0,hn=>absurd hn (Nat.not_lt_zero _)
 | n+1,hn=>by
  simp only [zYM]
  rcases Nat.lt_succ_iff_lt_or_eq.1 hn with h1 | rfl
  ·have h2:=z0J h hp n h1
   have h3:tL D i x n=D n:=if_neg (by omega)
   rw [h3];omega
  ·have h2:=zTm (zSh h) i
   have h3:tL D i x i=x:=if_pos rfl
   rw [h3];omega
section
variable {N:Nat} {L:List wD}
theorem zZT (hN:N≤40) (D:DD) (h0:∀ i,i<N->D i≠(false,false,false)) (at0 vG:List (List Int)) (full:Bool) :
  (∃ f:Nat->Nat,zBd ((N:Int),at0,dA D,vG,full)=some (uT N f,-1)∧∀ j,j<N->(f j=1∨f j=2∨f j=3)∧D j=yT (f j)) ∨
  ∃ i,i<N∧zBd ((N:Int),at0,dA D,vG,full)=some ([],(i:Int))∧2≤z0R (D i):=by
 have key:∀ (m i:Nat) (f:Nat->Nat),i+m=N->(∀ j,j<i->(f j=1∨f j=2∨f j=3)∧D j=yT (f j))->
   (∃ g:Nat->Nat,zU (zAu ((N:Int),at0,dA D,vG,full)) (uT i f,(i:Int))=some (uT N g,-1)∧∀ j,j<N->(g j=1∨g j=2∨g j=3)∧D j=yT (g j)) ∨
   ∃ q,q<N∧zU (zAu ((N:Int),at0,dA D,vG,full)) (uT i f,(i:Int))=some ([],(q:Int))∧2≤z0R (D q):=by
  intro m
  induction m with
  | zero =>
   intro i f h hf
   rw [Nat.add_zero] at h
   subst h
   refine .inl ⟨f,?_,hf⟩
   rw [yF]
   unfold zAu
   simp
  | succ m ih =>
   intro i f h hf
   have hi:i<N:=by omega
   have hd:decide ((i:Int)<(N:Int))=true:=by simp;omega
   have hstep:∀ c:Nat,c=1∨c=2∨c=3->D i=yT c->zAu ((N:Int),at0,dA D,vG,full) (uT i f,(i:Int))=some (.inl (uT i f++[(c:Int)],((i+1:Nat):Int))):=by
    intro c hc hDi
    unfold zAu
    simp only [hd,if_true]
    rw [zMf (K:=40) rfl (show i<40 by omega),zob,zKr D (by omega),hDi]
    have hl:=zRU i f
    rcases hc with rfl | rfl | rfl
    ·rw [show (eD (yT 1)==2)=true from rfl]
     simp only [if_true]
     rw [vY (by simp only [List.length_cons,List.length_nil];omega),zob,yM i (by omega)];rfl
    ·rw [show (eD (yT 2)==2)=false from rfl,show (eD (yT 2)==4)=true from rfl]
     simp only [if_true,zbf,if_false]
     rw [vY (by simp only [List.length_cons,List.length_nil];omega),zob,yM i (by omega)];rfl
    ·rw [show (eD (yT 3)==2)=false from rfl,show (eD (yT 3)==4)=false from rfl,show (eD (yT 3)==8)=true from rfl]
     simp only [if_true,zbf,if_false]
     rw [vY (by simp only [List.length_cons,List.length_nil];omega),zob,yM i (by omega)];rfl
   rcases z1h (D i) (h0 i hi) with ⟨c,hc,hDi⟩ | hp
   ·rw [yF,hstep c hc hDi]
    have e1:uT i f++[(c:Int)]=uT (i+1) fun j=>if j=i then c else f j:=by
     unfold uT
     rw [z2t]
     congr 1
     ·exact zBk fun j hj=>by
       have:¬ j=i:=by omega
       simp only [this,if_false]
     ·simp
    rw [e1]
    refine ih (i+1) _ (by omega) fun j hj=>?_
    rcases Nat.lt_succ_iff_lt_or_eq.1 hj with hj | rfl
    ·have:¬ j=i:=by omega
     simp only [this,if_false]
     exact hf j hj
    ·simp only [if_true]
     exact ⟨hc,hDi⟩
   ·refine .inr ⟨i,hi,?_,hp⟩
    rw [yF]
    have:zAu ((N:Int),at0,dA D,vG,full) (uT i f,(i:Int))=some (.inr ([],(i:Int))):=by
     unfold zAu
     simp only [hd,if_true]
     rw [zMf (K:=40) rfl (show i<40 by omega),zob,zKr D (by omega)]
     rw [show (2:Int)=eD (yT 1) from rfl,show (4:Int)=eD (yT 2) from rfl,show (8:Int)=eD (yT 3) from rfl,zZO,zZO,zZO]
     have hn:∀ c,c=1∨c=2∨c=3->¬ D i=yT c:=fun c hc he=>by rw [he,z3L hc] at hp;omega
     simp only [hn 1 (by decide),hn 2 (by decide),hn 3 (by decide),decide_false,zbf,if_false]
    rw [this]
 exact key N 0 (fun _=>0) (by omega) fun j hj=>absurd hj (Nat.not_lt_zero _)
structure Sp (N:Nat) (L:List wD) (P:(Nat->Nat)->Prop) (n0:Nat) (full:Bool) (new:List (List Int)) (full':Bool):Prop where
 snd:∀ x∈new,∃ f,CL N L f∧P f∧x=uT N f
 nd:new.Nodup
 ful:full=true->new=[]∧full'=true
 hi:full=false->full'=true->n0+new.length=201
 lo:full=false->full'=false->n0+new.length≤200∧∀ f,CL N L f->P f->uT N f∈new
theorem Sp.none {P:(Nat->Nat)->Prop} {n0:Nat} {full:Bool} (h:full=false->n0≤200) (hP:∀ f,CL N L f->¬ P f):Sp N L P n0 full [] full :=
 ⟨fun x hx=>(by cases hx),List.nodup_nil,fun h=>⟨rfl,h⟩,fun h1 h2=>(by rw [h1] at h2;cases h2),fun h1 _=>⟨h h1,fun f hf hp=>absurd hp (hP f hf)⟩⟩
theorem Sp.or {P Q:(Nat->Nat)->Prop} {n0:Nat} {full f1 f2:Bool} {new1 new2:List (List Int)} (h1:Sp N L P n0 full new1 f1) (h2:Sp N L Q (n0+new1.length) f1 new2 f2) (hd:∀ f g,P f->Q g->uT N f≠uT N g) :
  Sp N L (fun f=>P f∨Q f) n0 full (new1++new2) f2:=by
 refine ⟨fun x hx=>?_,?_,fun hf=>?_,fun h3 h4=>?_,fun h3 h4=>?_⟩
 ·rcases List.mem_append.1 hx with h | h
  ·obtain ⟨f,a,b,c⟩:=h1.snd x h;exact ⟨f,a,.inl b,c⟩
  ·obtain ⟨f,a,b,c⟩:=h2.snd x h;exact ⟨f,a,.inr b,c⟩
 ·refine List.nodup_append.2 ⟨h1.nd,h2.nd,fun x hx y hy e=>?_⟩
  obtain ⟨f,_,a,b⟩:=h1.snd x hx
  obtain ⟨g,_,c,d⟩:=h2.snd y hy
  exact hd f g a c (by rw [←b,←d];exact e)
 ·obtain ⟨rfl,k1⟩:=h1.ful hf
  obtain ⟨rfl,k2⟩:=h2.ful k1
  exact ⟨rfl,k2⟩
 ·rw [List.length_append]
  cases hq:f1 with
  | true =>
   obtain ⟨rfl,_⟩:=h2.ful hq
   have:=h1.hi h3 hq
   simpa using this
  | false =>
   have:=h2.hi hq h4
   omega
 ·have hq:f1=false:=by
   cases hq:f1 with
   | false=>rfl
   | true=>rw [(h2.ful hq).2] at h4;cases h4
  have k1:=h1.lo h3 hq
  have k2:=h2.lo hq h4
  rw [List.length_append]
  refine ⟨by omega,fun f hf hp=>List.mem_append.2 ?_⟩
  rcases hp with h | h
  ·exact .inl (k1.2 f hf h)
  ·exact .inr (k2.2 f hf h)
theorem Sp.of {P Q:(Nat->Nat)->Prop} {n0:Nat} {full f1:Bool} {new:List (List Int)} (h:Sp N L P n0 full new f1) (h1:∀ f,CL N L f->P f->Q f) (h2:∀ f,CL N L f->Q f->P f):Sp N L Q n0 full new f1 :=
 ⟨fun x hx=>by obtain ⟨f,a,b,c⟩:=h.snd x hx;exact ⟨f,a,h1 f a b,c⟩,h.nd,h.ful,h.hi,fun a b=>⟨(h.lo a b).1,fun f hf hq=>(h.lo a b).2 f hf (h2 f hf hq)⟩⟩
theorem Sp.pre {P:(Nat->Nat)->Prop} {n0:Nat} {full f1:Bool} {new:List (List Int)} (h:Sp N L P n0 full new f1):f1=false->n0+new.length≤200:=fun hf=>by
 cases hq:full with
 | true=>rw [(h.ful hq).2] at hf;cases hf
 | false=>exact (h.lo hq hf).1
theorem Sp.len {P:(Nat->Nat)->Prop} {n0:Nat} {full f1:Bool} {new:List (List Int)} (h:Sp N L P n0 full new f1) (h0:n0≤201):n0+new.length≤201:=by
 cases hq:full with
 | true=>rw [(h.ful hq).1];simpa using h0
 | false =>
  cases hf:f1 with
  | true=>rw [h.hi hq hf];exact Nat.le_refl _
  | false=>have:=(h.lo hq hf).1;omega
theorem fix_CL {E:DD} (hF:Fix N L E) {f:Nat->Nat} (h:∀ j,j<N->(f j=1∨f j=2∨f j=3)∧E j=yT (f j)):CL N L f:=by
 have hpr:∀ {i j:Nat},j<N->yJ L j i->(j:Int)∈yX N L (i:Int):=fun hj he=>(zL0 hj).2 he
 refine ⟨fun i hi=>(h i hi).1,fun i hi h1 j hj he=>?_,fun i hi h1=>?_,fun i hi h1=>?_⟩
 ·have h2:=hF i hi
  rw [(h i hi).2,h1] at h2
  have h3:(zWs N L E i).1=true:=h2.1 rfl
  have h4:=List.all_eq_true.1 h3 (j:Int) (hpr hj he)
  rw [Int.toNat_natCast,(h j hj).2] at h4
  simpa [yT] using h4
 ·have h2:=hF i hi
  rw [(h i hi).2,h1] at h2
  have h3:(zWs N L E i).2.1=true:=h2.2.1 rfl
  obtain ⟨x,hx,h4⟩:=List.any_eq_true.1 h3
  obtain ⟨j,rfl,hj⟩:=zKU x hx
  rw [Int.toNat_natCast,(h j hj).2] at h4
  exact ⟨j,hj,(zL0 hj).1 hx,by simpa [yT] using h4⟩
 ·have h2:=hF i hi
  rw [(h i hi).2,h1] at h2
  have h3:(zWs N L E i).2.2=true:=h2.2.2 rfl
  unfold zWs at h3
  simp only [Bool.and_eq_true] at h3
  obtain ⟨h4,h5⟩:=h3
  obtain ⟨x,hx,h6⟩:=List.any_eq_true.1 h5
  obtain ⟨j,rfl,hj⟩:=zKU x hx
  rw [Int.toNat_natCast,(h j hj).2] at h6
  refine ⟨⟨j,hj,(zL0 hj).1 hx,by simpa [yT] using h6⟩,fun j hj he h7=>?_⟩
  have h8:=List.all_eq_true.1 h4 (j:Int) (hpr hj he)
  rw [Int.toNat_natCast,(h j hj).2,h7] at h8
  exact Bool.noConfusion h8
theorem zXd (hN:N≤40):∀ (k:Nat) (D:DD) (vG:List (List Int)) (full:Bool),Emp N D->zYM D 40<k->vG.length≤201->(full=false->vG.length≤200)->
  ∃ d' new full',(∀ m,k≤m->zBa m ((N:Int),tN N L,dA D,vG,full)=some (d',vG++new,full'))∧Sp N L (zZG N D) vG.length full new full'
 | 0,_,_,_,_,h,_,_=>absurd h (Nat.not_lt_zero _)
 | k+1,D,vG,full,hE,hk,hl,hf=>by
  cases full with
  | true =>
   refine ⟨dA D,[],true,fun m hm=>?_,⟨fun x hx=>(by cases hx),List.nodup_nil,fun _=>⟨rfl,rfl⟩,fun h=>(by cases h),fun h=>(by cases h)⟩⟩
   obtain ⟨m,rfl⟩:∃ q,m=q+1:=⟨m-1,by omega⟩
   simp [zBa,zBK]
  | false =>
   have hf:=hf rfl
   rcases zYg (L:=L) hN D hE vG false with ⟨E,hs,hK,hF,hne⟩ | ⟨E,hs,hle,hdead⟩
   ·rcases zZT hN E hne (tN N L) vG false with ⟨f,hlab,hsg⟩ | ⟨i,hi,hlab,hp⟩
    ·
     have hcl:=fix_CL hF hsg
     have hcE:zZG N E f:=fun j hj=>by rw [(hsg j hj).2];exact z3R (hsg j hj).1
     refine ⟨dA E,[uT N f],decide (vG.length=200),fun m hm=>?_,?_⟩
     ·obtain ⟨m,rfl⟩:∃ q,m=q+1:=⟨m-1,by omega⟩
      show zBK _ _=_
      unfold zBK
      simp only [zbf,if_false,hs,zob,Bool.not_true,hlab]
      rw [show decide ((-1:Int)<0)=true from rfl]
      simp only [if_true]
      rw [vY (by simp only [List.length_cons,List.length_nil];omega),zob]
      congr 3
      rw [Bool.eq_iff_iff]
      simp only [len,beq_iff_eq,decide_eq_true_eq]
      omega
     ·refine ⟨fun x hx=>?_,List.nodup_cons.2 ⟨by simp,List.nodup_nil⟩,fun h=>(by cases h),fun _ h=>?_,fun _ h=>?_⟩
      ·simp only [List.mem_singleton] at hx
       exact ⟨f,hcl,fun j hj=>zYs (hK.1 j) (hcE j hj),hx⟩
      ·simp only [decide_eq_true_eq] at h
       simp only [List.length_cons,List.length_nil];omega
      ·simp only [decide_eq_false_iff_not] at h
       simp only [List.length_cons,List.length_nil]
       refine ⟨by omega,fun g hg hc=>List.mem_singleton.2 (z6a fun j hj=>?_)⟩
       have:=hK.2 g hg hc j hj
       rw [(hsg j hj).2] at this
       exact z0W (hsg j hj).1 this
    ·
     have hlt:zYM E 40≤zYM D 40:=zTm hK.1 40
     have hEmpE:=hE.le hK.1
     have one:∀ c:Nat,c=1∨c=2∨c=3->∀ (fn:List (List Int)) (fu:Bool),fn.length≤201->(fu=false->fn.length≤200)->
       ∃ new fu',(∀ m,k≤m->∀ (q:Int) (z:List Int),zF ([2,4,8]:List Int) q=some (eD (yT c))->decide (q<(len ([2,4,8]:List Int)))=true->
        zB4 ([],(i:Int)) (false,dA E,vG) (zBa m) ((N:Int),tN N L,dA D,vG,false) (q,fn,fu)=some (.inl (zS (q+1),fn++new,fu')))∧Sp N L (fun f=>zZG N E f∧f i=c) fn.length fu new fu':=by
      intro c hc fn fu hfn hfu
      by_cases hh:zWK (E i) c=true
      ·have hle:=sgl_le hc hh
       have hpp:z0R (yT c)<z0R (E i):=by rw [z3L hc];omega
       have hsum:=z0J hle hpp 40 (by omega)
       obtain ⟨d',new,fu',h1,h2⟩:=zXd hN k (tL E i (yT c)) fn fu (hEmpE.le (zSh hle)) (by omega) hfn hfu
       refine ⟨new,fu',fun m hm q z hq hd=>?_,h2.of (fun f hf hcn=>⟨fun j hj=>zYs (zSh hle j) (hcn j hj),z0W hc (by have:=hcn i hi;rwa [show tL E i (yT c) i=yT c from if_pos rfl] at this)⟩)
        (fun f hf hcn j hj=>by
         unfold tL
         split
         ·rename_i e;subst e;rw [hcn.2];exact z3R hc
         ·exact hcn.1 j hj)⟩
       unfold zB4
       simp only [hd,if_true,hq,zob]
       rw [zMf (K:=40) rfl (show i<40 by omega),zob,zKr E (by omega),zYh]
       have hm1:mD (E i) (yT c)=true:=by
        rcases hc with rfl | rfl | rfl
        ·simp [mD,yT,show (E i).1=true from hh]
        ·simp [mD,yT,show (E i).2.1=true from hh]
        ·simp [mD,yT,show (E i).2.2=true from hh]
       rw [hm1]
       simp only [if_true,zob]
       rw [zX4 E (by omega),h1 m hm,zob]
      ·refine ⟨[],fu,fun m hm q z hq hd=>?_,Sp.none hfu fun f hf hcn=>hh (by have:=hcn.1 i hi;rwa [hcn.2] at this)⟩
       unfold zB4
       simp only [hd,if_true,hq,zob]
       rw [zMf (K:=40) rfl (show i<40 by omega),zob,zKr E (by omega),zYh]
       have hm1:mD (E i) (yT c)=false:=by
        have hh':zWK (E i) c=false:=by simpa using hh
        rcases hc with rfl | rfl | rfl
        ·simp [mD,yT,show (E i).1=false from hh']
        ·simp [mD,yT,show (E i).2.1=false from hh']
        ·simp [mD,yT,show (E i).2.2=false from hh']
       rw [hm1]
       simp only [zbf,if_false,List.append_nil]
     obtain ⟨n1,f1,a1,b1⟩:=one 1 (by decide) vG false hl fun _=>hf
     obtain ⟨n2,f2,a2,b2⟩:=one 2 (by decide) (vG++n1) f1 (by rw [List.length_append];exact b1.len hl) (by rw [List.length_append];exact b1.pre)
     rw [List.length_append] at b2
     have c2:=b1.or b2 fun f g hf hg he=>by have:=z0M he i hi;omega
     obtain ⟨n3,f3,a3,b3⟩:=one 3 (by decide) (vG++n1++n2) f2 (by rw [List.append_assoc,List.length_append];exact c2.len hl) (by rw [List.append_assoc,List.length_append];exact c2.pre)
     rw [List.append_assoc,List.length_append] at b3
     have c3:=c2.or b3 fun f g hf hg he=>by have:=z0M he i hi;rcases hf with hf | hf <;> omega
     refine ⟨dA E,n1++n2++n3,f3,fun m hm=>?_,c3.of (fun f hf hp=>?_) fun f hf hc=>?_⟩
     ·obtain ⟨m,rfl⟩:∃ q,m=q+1:=⟨m-1,by omega⟩
      show zBK _ _=_
      unfold zBK
      simp only [zbf,if_false,hs,zob,Bool.not_true,hlab]
      have hneg:decide ((i:Int)<0)=false:=by simp
      rw [hneg]
      simp only [zbf,if_false]
      rw [yF,a1 m (by omega) 0 [] rfl rfl]
      show zU _ (zS (0+1),_)=_
      rw [show zS (0+1)=1 from rfl,yF,a2 m (by omega) 1 [] rfl rfl]
      show zU _ (zS (1+1),_)=_
      rw [show zS (1+1)=2 from rfl,yF,a3 m (by omega) 2 [] rfl rfl]
      show zU _ (zS (2+1),_)=_
      rw [show zS (2+1)=3 from rfl,yF]
      have hend:zB4 ([],(i:Int)) (false,dA E,vG) (zBa m) ((N:Int),tN N L,dA D,vG,false) (3,vG++n1++n2++n3,f3)=some (.inr (dA E,vG++n1++n2++n3,f3)):=by
       unfold zB4
       rw [show decide ((3:Int)<(len ([2,4,8]:List Int)))=false from rfl]
       rfl
      rw [hend]
      simp only [List.append_assoc]
     ·rcases hp with (hp | hp) | hp <;> exact fun j hj=>zYs (hK.1 j) (hp.1 j hj)
     ·have hcE:=hK.2 f hf hc
      rcases hf.r i hi with h | h | h
      ·exact .inl (.inl ⟨hcE,h⟩)
      ·exact .inl (.inr ⟨hcE,h⟩)
      ·exact .inr ⟨hcE,h⟩
   ·refine ⟨dA E,[],false,fun m hm=>?_,Sp.none (fun _=>hf) fun f hcl hc=>hdead f hcl hc⟩
    obtain ⟨m,rfl⟩:∃ q,m=q+1:=⟨m-1,by omega⟩
    show zBK _ _=_
    unfold zBK
    simp only [zbf,if_false,hs,zob,Bool.not_false,if_true,List.append_nil]
theorem zY8 (h:vX N L):zU (zBv ((N:Int),L)) (0,([]:List (List Int)),(List.replicate 40 (0:Int)))=some (tN N L,dA fun j=>if j<N then (true,true,true) else (false,false,false)):=by
 have hN:=h.hN
 have key:∀ (m i:Nat),i+m=N->zU (zBv ((N:Int),L)) ((i:Int),(wW i).map (yX N L),dA fun j=>if j<i then (true,true,true) else (false,false,false))=some (tN N L,dA fun j=>if j<N then (true,true,true) else (false,false,false)):=by
  intro m
  induction m with
  | zero =>
   intro i hi
   rw [Nat.add_zero] at hi
   subst hi
   rw [yF]
   unfold zBv
   simp [tN]
  | succ m ih =>
   intro i hi
   have hd:decide ((i:Int)<(N:Int))=true:=by simp;omega
   rw [yF]
   have hstep:zBv ((N:Int),L) ((i:Int),(wW i).map (yX N L),dA fun j=>if j<i then (true,true,true) else (false,false,false)) =
     some (.inl (((i+1:Nat):Int),(wW (i+1)).map (yX N L),dA fun j=>if j<i+1 then (true,true,true) else (false,false,false))):=by
    unfold zBv
    simp only [hd,if_true]
    rw [zUW h,zob,vY (by simp [tE];omega),zob,zMf (K:=40) rfl (show i<40 by omega),zob,show (14:Int)=eD (true,true,true) from rfl,zX4 _ (by omega),yM i (by omega)]
    congr 4
    ·simp [wW,List.range_succ]
    ·refine congrArg dA (funext fun j=>?_)
     unfold tL
     by_cases hj:j=i
     ·simp [hj]
     ·simp only [hj,if_false]
      have:j<i↔j<i+1:=by omega
      simp only [this]
   rw [hstep]
   exact ih (i+1) (by omega)
 have:=key N 0 (by omega)
 rw [z0E]
 refine Eq.trans ?_ this
 congr 1
theorem zTz (h:vX N L):∃ l:List (List Int),(∀ x∈l,∃ f,CL N L f∧x=uT N f)∧l.Nodup ∧
  ((zBB ((N:Int),L)=some (l,0)∧l.length≤200∧∀ f,CL N L f->uT N f∈l)∨(zBB ((N:Int),L)=some ([],2)∧l.length=201)):=by
 have hN:=h.hN
 obtain ⟨d',new,fu,h1,h2⟩:=zXd (L:=L) hN (zYM (fun j=>if j<N then (true,true,true) else (false,false,false)) 40+1) (fun j=>if j<N then (true,true,true) else (false,false,false)) [] false
  (fun j hj=>if_neg (by omega)) (Nat.lt_succ_self _) (by simp) (fun _=>by simp)
 have hfind:zDl ((N:Int),tN N L,dA (fun j=>if j<N then (true,true,true) else (false,false,false)),[],false)=some (d',new,fu):=zNw _ h1
 refine ⟨new,fun x hx=>by obtain ⟨f,a,_,b⟩:=h2.snd x hx;exact ⟨f,a,b⟩,h2.nd,?_⟩
 have hall:∀ f,CL N L f->zZG N (fun j=>if j<N then (true,true,true) else (false,false,false)) f:=fun f hf j hj=>by
  simp only [hj,if_true]
  rcases hf.r j hj with q | q | q <;> rw [q] <;> rfl
 unfold zBB
 rw [h.v1]
 simp only [zob,bne_self_eq_false,zbf,if_false]
 rw [zY8 h,zob,hfind]
 simp only [zob]
 cases hfu:fu with
 | true =>
  have:=h2.hi rfl hfu
  exact .inr ⟨by simp,by simpa using this⟩
 | false =>
  have:=h2.lo rfl hfu
  exact .inl ⟨by simp,by simpa using this.1,fun f hf=>this.2 f hf (hall f hf)⟩
end
end
section
inductive SD (b:zO) (S:zG->Prop):Nat->zG->Prop
 | base {n:Nat} {x:zG}:S x->SD b S n x
 | step {n:Nat} {r:qL}:r∈b.2.1->r.2.1=true->(∀ y,y∈r.2.2.2.1->SD b S n y)->SD b S (n+1) r.2.2.2.2
def uD (b:zO) (S:zG->Prop) (x:zG):Prop:=∃ n,SD b S n x
section
variable {b:zO} {S S':zG->Prop}
theorem SD.mono {n m:Nat} {x:zG} (h:SD b S n x) (hm:n≤m):SD b S m x:=by
 induction h generalizing m with
 | base hx=>exact .base hx
 | step hr hs _ ih =>
  obtain ⟨k,rfl⟩:∃ k,m=k+1:=⟨m-1,by omega⟩
  exact .step hr hs fun y hy=>ih y hy (by omega)
theorem SD.sub {n:Nat} {x:zG} (h:SD b S n x) (hS:∀ y,S y->S' y):SD b S' n x:=by
 induction h with
 | base hx=>exact .base (hS _ hx)
 | step hr hs _ ih=>exact .step hr hs fun y hy=>ih y hy
theorem uD.sub {x:zG} (h:uD b S x) (hS:∀ y,S y->S' y):uD b S' x:=by
 obtain ⟨n,h⟩:=h
 exact ⟨n,h.sub hS⟩
theorem uD.base {x:zG} (h:S x):uD b S x:=⟨0,.base h⟩
theorem zXT:∀ (l:List zG),(∀ y∈l,uD b S y)->∃ n,∀ y∈l,SD b S n y
 | [],_=>⟨0,fun _ h=>by cases h⟩
 | x::l,h=>by
  obtain ⟨n,hn⟩:=zXT l fun y hy=>h y (List.mem_cons_of_mem _ hy)
  obtain ⟨m,hm⟩:=h x List.mem_cons_self
  refine ⟨max n m,fun y hy=>?_⟩
  rcases List.mem_cons.1 hy with rfl | hy
  ·exact hm.mono (by omega)
  ·exact (hn y hy).mono (by omega)
theorem uD.rule {r:qL} (hr:r∈b.2.1) (hs:r.2.1=true) (h:∀ y∈r.2.2.2.1,uD b S y):uD b S r.2.2.2.2:=by
 obtain ⟨n,hn⟩:=zXT _ h
 exact ⟨n+1,.step hr hs hn⟩
theorem uD.trans {T:zG->Prop} {x:zG} (h:uD b T x) (hT:∀ y,T y->uD b S y):uD b S x:=by
 obtain ⟨n,h⟩:=h
 induction h with
 | base hx=>exact hT _ hx
 | step hr hs _ ih=>exact uD.rule hr hs fun y hy=>ih y hy
def TrC (b:zO):Prop:=∀ r∈b.2.1,r.2.1=true->∀ y∈r.2.2.2.1,∃ r'∈b.2.1,r'.2.1=true∧r'.2.2.2.2=xG y∧∀ z∈r'.2.2.2.1,z=xG r.2.2.2.2∨z∈r.2.2.2.1
def Inc (b:zO) (S:zG->Prop):Prop:=∃ p,uD b S p∧uD b S (xG p)
theorem contra (hT:TrC b) {x:zG} (hc:¬ Inc b S) (hi:Inc b fun y=>S y∨y=x):uD b (fun y=>S y∨y=x) (xG x):=by
 apply Classical.byContradiction
 intro hx
 have key:∀ n y,SD b (fun y=>S y∨y=x) n y->uD b (fun y=>S y∨y=x) (xG y)->uD b S y:=by
  intro n y h
  induction h with
  | base hy =>
   intro hc
   rcases hy with hy | rfl
   ·exact uD.base hy
   ·exact absurd hc hx
  | step hr hs hb ih =>
   intro hc
   refine uD.rule hr hs fun z hz=>ih z hz ?_
   obtain ⟨r',h1,h2,h3,h4⟩:=hT _ hr hs z hz
   rw [←h3]
   refine uD.rule h1 h2 fun w hw=>?_
   rcases h4 w hw with rfl | hw
   ·exact hc
   ·exact ⟨_,hb w hw⟩
 obtain ⟨p,⟨n,h1⟩,⟨m,h2⟩⟩:=hi
 exact hc ⟨p,key n p h1 ⟨m,h2⟩,key m _ h2 (by rw [zTe];exact ⟨n,h1⟩)⟩
end
inductive xT (b:zO) (l:List zI):Int->Int->Prop
 | prem {i:Int} {a:zI}:zF l i=some a->0≤a.1->xT b l i i
 | dfs {i:Int} {a:zI} {r:qL}:zF l i=some a->0≤a.2.1->zF b.2.1 a.2.1=some r->r.2.1=false->xT b l i i
 | step {i k j:Int} {a:zI} {r:qL}:zF l i=some a->0≤a.2.1->zF b.2.1 a.2.1=some r->r.2.1=true->k∈a.2.2.1->xT b l k j->xT b l i j
structure Rb (b:zO) (l:List zI):Prop where
 form:FormC b l
 pre:∀ (p:Nat) q,b.1[p]?=some q->∃ a,zF l (p:Int)=some a∧a.1=(p:Int)
 all:∀ q r s,zF b.2.1 q=some r->s.length=r.2.2.2.1.length->(∀ (j:Nat) k y,s[j]?=some k->r.2.2.2.1[j]?=some y->∃ a',zF l k=some a'∧a'.2.2.2=y)->uV b l q r s=true->((-1:Int),q,s,r.2.2.2.2)∈l
 kd:∀ p∈b.1,p.2.1=1∨p.2.1=2∨p.2.1=3
section
variable {b:zO} {l:List zI}
theorem xT.sub {i j:Int} (h:xT b l i j):xC l i j:=by
 induction h with
 | prem _ _=>exact .self _
 | dfs _ _ _ _=>exact .self _
 | step h1 _ _ _ h2 _ ih=>exact .step h1 h2 ih
def zQ8 (b:zO) (l:List zI) (j:Int):Prop:=∃ a,zF l j=some a∧(0≤a.1∨(0≤a.2.1∧∃ r,zF b.2.1 a.2.1=some r∧r.2.1=false))
theorem xT.leaf {i j:Int} (h:xT b l i j):zQ8 b l j:=by
 induction h with
 | prem h1 h2=>exact ⟨_,h1,.inl h2⟩
 | dfs h1 h2 h3 h4=>exact ⟨_,h1,.inr ⟨h2,_,h3,h4⟩⟩
 | step _ _ _ _ _ _ ih=>exact ih
theorem zQ8.self {j:Int} (h:zQ8 b l j):xT b l j j:=by
 obtain ⟨a,h1,h2 | ⟨h2,r,h3,h4⟩⟩:=h
 ·exact .prem h1 h2
 ·exact .dfs h1 h2 h3 h4
theorem zQ8.only (hf:FormB b l) {j k:Int} (h:zQ8 b l j) (hk:xT b l j k):k=j:=by
 obtain ⟨a,h1,h2⟩:=h
 cases hk with
 | prem _ _=>rfl
 | dfs _ _ _ _=>rfl
 | step g1 g2 g3 g4 _ _ =>
  rw [h1] at g1
  cases g1
  rcases h2 with h2 | ⟨_,r,h3,h4⟩
  ·have:=(hf.prem h1).2.2;omega
  ·rw [h3] at g3;cases g3;rw [h4] at g4;cases g4
theorem zYv (hf:FormB b l) {i:Int} {a:zI} (hi:zF l i=some a):zQ8 b l i∨(a.1<0∧0≤a.2.1∧∃ r,zF b.2.1 a.2.1=some r∧r.2.1=true):=by
 by_cases h:0≤a.1
 ·exact .inl ⟨a,hi,.inl h⟩
 ·obtain ⟨r,hr⟩:=(hf.prem hi).2.1 (by omega)
  have h0:=(hf.prem hi).2.2.2 (by omega)
  cases hs:r.2.1 with
  | true=>exact .inr ⟨by omega,h0,r,hr,hs⟩
  | false=>exact .inl ⟨a,hi,.inr ⟨h0,r,hr,hs⟩⟩
theorem z0Q (hf:FormB b l) {i j:Int} (h:xC l i j) {a:zI} (hj:zF l j=some a):(∃ k,xT b l i k∧xC l k j)∨(a.1<0∧0≤a.2.1∧∃ r,zF b.2.1 a.2.1=some r∧r.2.1=true):=by
 induction h with
 | self i =>
  rcases zYv hf hj with h | h
  ·exact .inl ⟨i,h.self,.self i⟩
  ·exact .inr h
 | @step i k j a' hi hk hs ih =>
  rcases zYv hf hi with h | ⟨h1,h2,r,h3,h4⟩
  ·exact .inl ⟨i,h.self,.step hi hk hs⟩
  ·rcases ih hj with ⟨q,g1,g2⟩ | g
   ·exact .inl ⟨q,.step hi h2 h3 h4 hk g1,g2⟩
   ·exact .inr g
theorem z6L {i:Int} {y:zG} (h:tM b l i y):∃ j a,xC l i j∧zF l j=some a∧a.2.2.2=y∧∀ k,xT b l j k->xT b l i k:=by
 induction h with
 | here hi=>exact ⟨_,_,.self _,hi,rfl,fun _ h=>h⟩
 | step hi h0 hr hs hk _ ih =>
  obtain ⟨j,a,h1,h2,h3,h4⟩:=ih
  exact ⟨j,a,.step hi hk h1,h2,h3,fun k hk'=>.step hi h0 hr hs hk (h4 k hk')⟩
theorem z3k {i y:Int} (h:zMi b l i y):∃ j,xT b l i j∧zMi b l j y:=by
 induction h with
 | here h1 h2 h3 h4=>exact ⟨_,.dfs h1 h2 h3 h4,.here h1 h2 h3 h4⟩
 | step h1 h2 h3 h4 hk _ ih =>
  obtain ⟨j,g1,g2⟩:=ih
  exact ⟨j,.step h1 h2 h3 h4 hk g1,g2⟩
theorem z3H {i j y:Int} (h:xT b l i j) (hy:zMi b l j y):zMi b l i y:=by
 induction h with
 | prem _ _=>exact hy
 | dfs _ _ _ _=>exact hy
 | step h1 h2 h3 h4 hk _ ih=>exact .step h1 h2 h3 h4 hk (ih hy)
theorem zZb (hf:FormA l) {i j:Int} (h:xC l i j) (h0:0≤i) (h1:i<l.length):0≤j∧j<l.length:=by
 have:=h.le hf h0
 exact ⟨this.1,by omega⟩
theorem z3j (hf:FormB b l) {i:Int} (h0:0≤i) (h1:i<l.length) {y:Int} (hy:y∈yG b l i):∃ j,xT b l i j∧y∈yG b l j:=by
 obtain ⟨m,hm,a,ha,h2,h3,rfl⟩:=(zI7 hf h0 h1 y).1 hy
 have hsm:=(zC4 hf.toFormA h0 h1 m).1 hm
 rcases z0Q hf hsm ha with ⟨j,g1,g2⟩ | ⟨_,_,r,g1,g2⟩
 ·have hj:=zZb hf.toFormA g1.sub h0 h1
  exact ⟨j,g1,(zI7 hf hj.1 hj.2 _).2 ⟨m,(zC4 hf.toFormA hj.1 hj.2 m).2 g2,a,ha,h2,h3,rfl⟩⟩
 ·simp only [zPd,g1,g2] at h3
  cases h3
theorem z1z (hf:FormB b l) {i j:Int} (h0:0≤i) (h1:i<l.length) (h:xT b l i j) {y:Int} (hy:y∈yG b l j):y∈yG b l i:=by
 have hj:=zZb hf.toFormA h.sub h0 h1
 obtain ⟨m,hm,k⟩:=(zI7 hf hj.1 hj.2 y).1 hy
 exact (zI7 hf h0 h1 y).2 ⟨m,(zC4 hf.toFormA h0 h1 m).2 (h.sub.trans ((zC4 hf.toFormA hj.1 hj.2 m).1 hm)),k⟩
theorem zNQ (hf:FormB b l) {i:Int} (h0:0≤i) (h1:i<l.length) {p:Int}:p∈zIi l i↔xC l i p∧∃ a,zF l p=some a∧0≤a.1:=by
 unfold zIi
 rw [List.mem_filter,zC4 hf.toFormA h0 h1]
 constructor
 ·rintro ⟨g1,g2⟩
  refine ⟨g1,?_⟩
  split at g2
  ·rename_i a ha;exact ⟨a,ha,by simpa using g2⟩
  ·cases g2
 ·rintro ⟨g1,a,ha,g2⟩
  refine ⟨g1,?_⟩
  rw [ha];simpa using g2
theorem z3E (hf:FormB b l) {i:Int} (h0:0≤i) (h1:i<l.length) {p:Int} (hp:p∈zIi l i):∃ j,xT b l i j∧p∈zIi l j:=by
 obtain ⟨g1,a,ha,g2⟩:=(zNQ hf h0 h1).1 hp
 rcases z0Q hf g1 ha with ⟨j,k1,k2⟩ | ⟨k1,_⟩
 ·have hj:=zZb hf.toFormA k1.sub h0 h1
  exact ⟨j,k1,(zNQ hf hj.1 hj.2).2 ⟨k2,a,ha,g2⟩⟩
 ·omega
theorem z3X (hf:FormB b l) {i j:Int} (h0:0≤i) (h1:i<l.length) (h:xT b l i j) {p:Int} (hp:p∈zIi l j):p∈zIi l i:=by
 have hj:=zZb hf.toFormA h.sub h0 h1
 obtain ⟨g1,g2⟩:=(zNQ hf hj.1 hj.2).1 hp
 exact (zNQ hf h0 h1).2 ⟨h.sub.trans g1,g2⟩
end
theorem zZw:∀ {l:List Int},l≠[]->z5W l∈l∧∀ x∈l,z5W l≤x:=by
 have key:∀ (r:List Int) (x:Int),(r.foldl (fun m y=>if y<m then y else m) x=x∨r.foldl (fun m y=>if y<m then y else m) x∈r)∧r.foldl (fun m y=>if y<m then y else m) x≤x∧∀ y∈r,r.foldl (fun m y=>if y<m then y else m) x≤y:=by
  intro r
  induction r with
  | nil=>intro x;exact ⟨.inl rfl,Int.le_refl _,fun _ h=>by cases h⟩
  | cons z r ih =>
   intro x
   obtain ⟨h1,h2,h3⟩:=ih (if z<x then z else x)
   simp only [List.foldl_cons]
   by_cases hz:z<x
   ·simp only [hz,if_true] at h1 h2 h3 ⊢
    refine ⟨.inr ?_,by omega,fun y hy=>?_⟩
    ·rcases h1 with h1 | h1
     ·rw [h1];exact List.mem_cons_self
     ·exact List.mem_cons_of_mem _ h1
    ·rcases List.mem_cons.1 hy with rfl | hy
     ·exact h2
     ·exact h3 y hy
   ·simp only [hz,if_false] at h1 h2 h3 ⊢
    refine ⟨h1.imp id (List.mem_cons_of_mem _),h2,fun y hy=>?_⟩
    rcases List.mem_cons.1 hy with rfl | hy
    ·omega
    ·exact h3 y hy
 intro l hl
 cases l with
 | nil=>exact absurd rfl hl
 | cons x r =>
  obtain ⟨h1,h2,h3⟩:=key r x
  refine ⟨?_,fun y hy=>?_⟩
  ·rcases h1 with h1 | h1
   ·show r.foldl _ x∈_;rw [h1];exact List.mem_cons_self
   ·exact List.mem_cons_of_mem _ h1
  ·rcases List.mem_cons.1 hy with rfl | hy
   ·exact h2
   ·exact h3 y hy
theorem zZx:∀ {l:List Int},l≠[]->z5g l∈l∧∀ x∈l,x≤z5g l:=by
 have key:∀ (r:List Int) (x:Int),(r.foldl (fun m y=>if y > m then y else m) x=x∨r.foldl (fun m y=>if y > m then y else m) x∈r)∧x≤r.foldl (fun m y=>if y > m then y else m) x∧∀ y∈r,y≤r.foldl (fun m y=>if y > m then y else m) x:=by
  intro r
  induction r with
  | nil=>intro x;exact ⟨.inl rfl,Int.le_refl _,fun _ h=>by cases h⟩
  | cons z r ih =>
   intro x
   obtain ⟨h1,h2,h3⟩:=ih (if z > x then z else x)
   simp only [List.foldl_cons]
   by_cases hz:z > x
   ·simp only [hz,if_true] at h1 h2 h3 ⊢
    refine ⟨.inr ?_,by omega,fun y hy=>?_⟩
    ·rcases h1 with h1 | h1
     ·rw [h1];exact List.mem_cons_self
     ·exact List.mem_cons_of_mem _ h1
    ·rcases List.mem_cons.1 hy with rfl | hy
     ·exact h2
     ·exact h3 y hy
   ·simp only [hz,if_false] at h1 h2 h3 ⊢
    refine ⟨h1.imp id (List.mem_cons_of_mem _),h2,fun y hy=>?_⟩
    rcases List.mem_cons.1 hy with rfl | hy
    ·omega
    ·exact h3 y hy
 intro l hl
 cases l with
 | nil=>exact absurd rfl hl
 | cons x r =>
  obtain ⟨h1,h2,h3⟩:=key r x
  refine ⟨?_,fun y hy=>?_⟩
  ·rcases h1 with h1 | h1
   ·show r.foldl _ x∈_;rw [h1];exact List.mem_cons_self
   ·exact List.mem_cons_of_mem _ h1
  ·rcases List.mem_cons.1 hy with rfl | hy
   ·exact h2
   ·exact h3 y hy
theorem zXO {α:Type} (f:α->Int):∀ (l:List α),l≠[]->∃ i∈l,∀ j∈l,f i≤f j
 | [],h=>absurd rfl h
 | [x],_=>⟨x,List.mem_cons_self,fun j hj=>by rw [List.mem_singleton.1 hj];exact Int.le_refl _⟩
 | x::y::l,_=>by
  obtain ⟨i,h1,h2⟩:=zXO f (y::l) (by simp)
  by_cases h:f x≤f i
  ·refine ⟨x,List.mem_cons_self,fun j hj=>?_⟩
   rcases List.mem_cons.1 hj with rfl | hj
   ·exact Int.le_refl _
   ·have:=h2 j hj;omega
  ·refine ⟨i,List.mem_cons_of_mem _ h1,fun j hj=>?_⟩
   rcases List.mem_cons.1 hj with rfl | hj
   ·omega
   ·exact h2 j hj
theorem zWM (D:List Int) (X:Int->List Int) (q:Int) (h:∃ j∈D,X j≠[]):∃ i∈D,X i≠[]∧∀ z:List Int,(∀ v∈z,∃ j∈D,v∈X j∧∀ w∈X j,w∈z)->zIz z (X i) q=false:=by
 have hne:(D.filter fun j=>!(X j).isEmpty)≠[]:=by
  obtain ⟨j,hj,hx⟩:=h
  intro e
  have:j∈D.filter fun j=>!(X j).isEmpty:=List.mem_filter.2 ⟨hj,by cases hX:X j with | nil=>exact absurd hX hx | cons _ _=>rfl⟩
  rw [e] at this
  cases this
 obtain ⟨i,hi,hmin⟩:=zXO (fun j=>if q=1 then z5W (X j) else z5g (X j)) _ hne
 have hf:∀ {j},j∈D.filter (fun j=>!(X j).isEmpty)↔j∈D∧X j≠[]:=fun {j}=>by
  rw [List.mem_filter]
  cases X j <;> simp
 obtain ⟨hiD,hiX⟩:=hf.1 hi
 refine ⟨i,hiD,hiX,fun z hz=>?_⟩
 unfold zIz
 by_cases hze:z=[]
 ·subst hze;simp
 ·have hzE:z.isEmpty=false:=by cases z with | nil=>exact absurd rfl hze | cons _ _=>rfl
  have hiE:(X i).isEmpty=false:=by cases hX:X i with | nil=>exact absurd hX hiX | cons _ _=>rfl
  rw [hzE,hiE]
  by_cases h1:q=1
  ·subst h1
   simp only [if_true] at hmin
   have hm:=zZw hze
   obtain ⟨j,hj,hv,_⟩:=hz _ hm.1
   have hjX:X j≠[]:=fun e=>by rw [e] at hv;cases hv
   have h2:=(zZw hjX).2 _ hv
   have h3:=hmin j (hf.2 ⟨hj,hjX⟩)
   have:¬ z5W z<z5W (X i):=by omega
   simp [this]
  ·simp only [h1,if_false] at hmin
   have hq:(q==1)=false:=beq_eq_false_iff_ne.2 h1
   obtain ⟨v,hv⟩:∃ v,v∈z:=by cases z with | nil=>exact absurd rfl hze | cons v _=>exact ⟨v,List.mem_cons_self⟩
   obtain ⟨j,hj,hvj,hw⟩:=hz v hv
   have hjX:X j≠[]:=fun e=>by rw [e] at hvj;cases hvj
   have h2:=(zZx hze).2 _ (hw _ (zZx hjX).1)
   have h3:=hmin j (hf.2 ⟨hj,hjX⟩)
   have:¬ z5g z<z5g (X i):=by omega
   simp [hq,this]
end
section
section
variable {b:zO} {l:List zI} {o:yN} {f:Nat->Nat}
def Inn (l:List zI) (f:Nat->Nat) (i:Int):Prop:=0≤i∧i<l.length∧f i.toNat=1
theorem z0L {i j:Nat}:yJ (tA b l o) i j↔∃ c kd,((i:Int),(j:Int),c,kd)∈zDZ b l o:=by
 show ed _ _ _=true↔_
 rw [zSq,tA,(zKd z3m _).2,zHk,List.mem_map]
 constructor
 ·rintro ⟨⟨a,b',c,kd⟩,h1,h2⟩
  simp only [Prod.mk.injEq] at h2
  obtain ⟨rfl,rfl⟩:=h2
  exact ⟨c,kd,h1⟩
 ·rintro ⟨c,kd,h⟩
  exact ⟨_,h,rfl⟩
theorem zSV {m j c kd:Int}:(m,j,c,kd)∈zDZ b l o↔((0≤m∧m<l.length)∧(0≤j∧j<l.length)∧c∈yB l j∧(kd=1∨kd=2∨kd=3)∧z1I b l m c kd=true)∧(kd=3∨zQj b l m c o=false):=by
 rw [zDZ,List.mem_filter,zPf,z2W]
 show _∧((kd==3)||!zQj b l m c o)=true↔_
 rw [Bool.or_eq_true,beq_iff_eq,Bool.not_eq_true']
theorem z2k (hf:CL l.length (tA b l o) f) {j m c kd:Int} (hj:Inn l f j) (h:(m,j,c,kd)∈zDZ b l o):f m.toNat=2:=by
 have hm:=(zSV.1 h).1.1
 obtain ⟨j0,j1,j2⟩:=hj
 refine hf.i1 j.toNat (by omega) j2 m.toNat (by omega) (z0L.2 ⟨c,kd,?_⟩)
 rw [show ((m.toNat:Nat):Int)=m by omega,show ((j.toNat:Nat):Int)=j by omega]
 exact h
theorem z6N (hf:CL l.length (tA b l o) f) {j:Int} (j0:0≤j) (j1:j<l.length) (h:∀ m c kd,(m,j,c,kd)∈zDZ b l o->f m.toNat=2):Inn l f j:=by
 have hall:∀ m:Nat,m<l.length->yJ (tA b l o) m j.toNat->f m=2:=fun m hm he=>by
  obtain ⟨c,kd,h1⟩:=z0L.1 he
  rw [show ((j.toNat:Nat):Int)=j by omega] at h1
  have:=h _ c kd h1
  rwa [Int.toNat_natCast] at this
 refine ⟨j0,j1,?_⟩
 have hjN:j.toNat<l.length:=by omega
 rcases hf.r j.toNat hjN with h1 | h1 | h1
 ·exact h1
 ·obtain ⟨m,hm,he,h2⟩:=hf.i2 _ hjN h1
  have:=hall m hm he
  omega
 ·obtain ⟨⟨m,hm,he,h2⟩,_⟩:=hf.i3 _ hjN h1
  have:=hall m hm he
  omega
theorem z30 (hB:FormB b l) (hf:CL l.length (tA b l o) f) {i j:Int} (hi:Inn l f i) (hs:xC l i j):Inn l f j:=by
 have hj:=zZb hB.toFormA hs hi.1 hi.2.1
 refine z6N hf hj.1 hj.2 fun m c kd h=>?_
 have hc:=(zSV.1 h).1.2.2.1
 have hci:c∈yB l i:=(zC4 hB.toFormA hi.1 hi.2.1 c).2 (hs.trans ((zC4 hB.toFormA hj.1 hj.2 c).1 hc))
 exact z2k hf hi ((zR1 hB o hi.1 hi.2.1 hci).1 ((zR1 hB o hj.1 hj.2 hc).2 h))
theorem z0u {m i kd:Int} {a:zI} {r:qL} (ha:zF l i=some a) (h0:0≤a.2.1) (hr:zF b.2.1 a.2.1=some r) (hs:r.2.1=true):z1I b l m i kd=false:=by
 unfold z1I
 rw [ha]
 cases zF l m with
 | none=>rfl
 | some x =>
  have:¬ a.2.1<0:=by omega
  simp only [this,decide_false,zbf,if_false,hr,hs,Bool.not_true,Bool.false_and]
theorem z28 {m i kd:Int} {a:zI} {p:vT} (ha:zF l i=some a) (h0:a.2.1<0) (hp:zF b.1 a.1=some p) (hk:p.2.1=1):z1I b l m i kd=false:=by
 unfold z1I
 rw [ha]
 cases zF l m with
 | none=>rfl
 | some x=>simp [h0,hp,hk]
theorem z2Z (hB:FormB b l) (hf:CL l.length (tA b l o) f) {i:Int} {a:zI} {r:qL} (ha:zF l i=some a) (h0:0≤a.2.1) (hr:zF b.2.1 a.2.1=some r) (hs:r.2.1=true) (hsub:∀ k∈a.2.2.1,Inn l f k):Inn l f i:=by
 have hi:=zQW ha
 refine z6N hf hi.1 hi.2 fun m c kd h=>?_
 have hd:=zSV.1 h
 have hc:=(zC4 hB.toFormA hi.1 hi.2 c).1 hd.1.2.2.1
 rcases (xC.iff ha).1 hc with rfl | ⟨k,hk,hck⟩
 ·rw [z0u ha h0 hr hs] at hd
  exact Bool.noConfusion hd.1.2.2.2.2
 ·have hkin:=hsub k hk
  have hck':c∈yB l k:=(zC4 hB.toFormA hkin.1 hkin.2.1 c).2 hck
  exact z2k hf hkin ((zR1 hB o hkin.1 hkin.2.1 hck').1 ((zR1 hB o hi.1 hi.2 hd.1.2.2.1).2 h))
def zZN (b:zO) (l:List zI) (j:Int):Prop:=∃ a p,zF l j=some a∧0≤a.1∧zF b.1 a.1=some p∧p.2.1=1
def Cnc (b:zO) (l:List zI) (D:Int->Prop) (x:zG):Prop:=(∃ j a,D j∧zF l j=some a∧a.2.2.2=x)∨∃ p∈b.1,p.2.1=1∧p.1=x
theorem z17 {α:Type} {l:List α} {x:α} (h:x∈l):∃ i:Int,zF l i=some x:=by
 obtain ⟨n,hn⟩:=List.mem_iff_getElem?.1 h
 exact ⟨(n:Int),by rw [xL];exact hn⟩
theorem zY9 {α:Type} {l:List α} {i:Int} {x:α} (h:zF l i=some x):x∈l:=by
 obtain ⟨n,rfl,hn⟩:=zNG h
 exact wZ hn
theorem zTx {α β:Type} {P:α->β->Prop}:∀ (l:List α),(∀ x∈l,∃ y,P x y)->∃ m:List β,m.length=l.length∧∀ (j:Nat) x y,l[j]?=some x->m[j]?=some y->P x y
 | [],_=>⟨[],rfl,fun j x y h=>by simp at h⟩
 | x::l,h=>by
  obtain ⟨y,hy⟩:=h x List.mem_cons_self
  obtain ⟨m,h1,h2⟩:=zTx l fun z hz=>h z (List.mem_cons_of_mem _ hz)
  refine ⟨y::m,by simp [h1],fun j u v hu hv=>?_⟩
  cases j with
  | zero=>simp at hu hv;subst hu hv;exact hy
  | succ j=>exact h2 j u v (by simpa using hu) (by simpa using hv)
theorem z5d (hR:Rb b l) (hf:CL l.length (tA b l o) f) {D:Int->Prop} (hD:∀ j,D j->Inn l f j∧zQ8 b l j) {n:Nat} {x:zG} (h:SD b (Cnc b l D) n x) :
  ∃ i a,Inn l f i∧zF l i=some a∧a.2.2.2=x∧∀ j,xT b l i j->D j∨zZN b l j:=by
 have hB:=hR.form.toFormB
 induction h with
 | base hx =>
  rcases hx with ⟨j,a,hj,ha,rfl⟩ | ⟨p,hp,hk,rfl⟩
  ·obtain ⟨h1,h2⟩:=hD j hj
   exact ⟨j,a,h1,ha,rfl,fun k hk=>by rw [h2.only hB hk];exact .inl hj⟩
  ·obtain ⟨q,hq⟩:=List.mem_iff_getElem?.1 hp
   obtain ⟨a,ha,h1⟩:=hR.pre q p hq
   have hpq:zF b.1 a.1=some p:=by rw [h1,xL];exact hq
   have h0:0≤a.1:=by rw [h1];omega
   have hneg:a.2.1<0:=by have:=(hB.prem ha).2.2;omega
   have hpr:=hR.form.prI ha h0 hpq
   have hi:=zQW ha
   refine ⟨(q:Int),a,z6N hf hi.1 hi.2 fun m c kd hd=>?_,ha,hpr.1,fun k hk'=>?_⟩
   ·have hd':=(zSV.1 hd).1
    have hc:=(zC4 hB.toFormA hi.1 hi.2 c).1 hd'.2.2.1
    rcases (xC.iff ha).1 hc with rfl | ⟨k,hk',_⟩
    ·rw [z28 ha hneg hpq hk] at hd'
     exact Bool.noConfusion hd'.2.2.2.2
    ·rw [hpr.2] at hk';cases hk'
   ·have hlf:zQ8 b l (q:Int):=⟨a,ha,.inl h0⟩
    rw [hlf.only hB hk']
    exact .inr ⟨a,p,ha,h0,hpq,hk⟩
 | @step n r hr hs hb ih =>
  obtain ⟨q,hq⟩:=z17 hr
  obtain ⟨s,h1,h2⟩:=zTx (P:=fun y i=>∃ a,Inn l f i∧zF l i=some a∧a.2.2.2=y∧∀ j,xT b l i j->D j∨zZN b l j) r.2.2.2.1 fun y hy=>ih y hy
  have hs2:∀ k∈s,∃ a y,Inn l f k∧zF l k=some a∧a.2.2.2=y∧∀ j,xT b l k j->D j∨zZN b l j:=fun k hk=>by
   obtain ⟨j,hj⟩:=List.mem_iff_getElem?.1 hk
   have hjl:=vF hj
   obtain ⟨a,g⟩:=h2 j _ k (List.getElem?_eq_getElem (by omega)) hj
   exact ⟨a,_,g⟩
  cases hw:uV b l q r s with
  | true =>
   have hm:=hR.all q r s hq h1 (fun j k y hk hy=>by
    obtain ⟨a,_,g2,g3,_⟩:=h2 j y k hy hk
    exact ⟨a,g2,g3⟩) hw
   obtain ⟨i,hi⟩:=z17 hm
   have h0:(0:Int)≤q:=(zQW hq).1
   refine ⟨i,_,z2Z hB hf hi h0 hq hs fun k hk=>?_,hi,rfl,fun j hj=>?_⟩
   ·obtain ⟨_,_,g,_⟩:=hs2 k hk;exact g
   ·cases hj with
    | prem g1 g2=>rw [hi] at g1;cases g1;omega
    | dfs g1 g2 g3 g4=>rw [hi] at g1;cases g1;rw [hq] at g3;cases g3;rw [hs] at g4;cases g4
    | step g1 g2 g3 g4 g5 g6 =>
     rw [hi] at g1;cases g1
     obtain ⟨_,_,_,_,_,g⟩:=hs2 _ g5
     exact g j g6
  | false =>
   unfold uV at hw
   have hw':s.any (zYe b l q r)=true:=by simpa using hw
   obtain ⟨k,hk,hc⟩:=List.any_eq_true.1 hw'
   unfold zYe at hc
   simp only [hs,if_true,decide_eq_true_eq] at hc
   obtain ⟨_,_,g1,g2,_,g4⟩:=hs2 k hk
   obtain ⟨j,a,k1,k2,k3,k4⟩:=z6L hc
   exact ⟨j,a,z30 hB hf g1 k1,k2,k3,fun w hw=>g4 w (k4 w hw)⟩
theorem z5R (hR:Rb b l) {D:Int->Prop}:∀ (n:Nat) (i:Int) (a:zI),i<n->zF l i=some a->(∀ j,xT b l i j->D j∨zZN b l j)->uD b (Cnc b l D) a.2.2.2
 | 0,i,a,hn,ha,_=>by have:=(zQW ha).1;omega
 | n+1,i,a,hn,ha,hl=>by
  have hB:=hR.form.toFormB
  rcases zYv hB ha with h | ⟨h1,h2,r,hr,hs⟩
  ·rcases hl i h.self with hd | ⟨a',p,g1,g2,g3,g4⟩
   ·exact uD.base (.inl ⟨i,a,hd,ha,rfl⟩)
   ·rw [ha] at g1;cases g1
    exact uD.base (.inr ⟨p,zY9 g3,g4,(hR.form.prI ha g2 g3).1.symm⟩)
  ·have hru:=hR.form.ruI ha h2 hr
   rw [hru.1]
   refine uD.rule (zY9 hr) hs fun y hy=>?_
   obtain ⟨j,hj⟩:=List.mem_iff_getElem?.1 hy
   have hjl:=vF hj
   have hk:a.2.2.1[j]?=some a.2.2.1[j]:=List.getElem?_eq_getElem (by omega)
   obtain ⟨a',g1,g2⟩:=hru.2.2 j _ y hk hj
   have hkm:=wZ hk
   have hlt:=(hB.toFormA.at ha).2.2.2 _ hkm
   rw [←g2]
   exact z5R hR n _ a' (by omega) g1 fun w hw=>hl w (.step ha h2 hr hs hkm hw)
theorem z2e (hR:Rb b l) (D:List Int) (hD:∀ j∈D,(0≤j∧j<l.length)∧zQ8 b l j∧¬ zZN b l j) (hne:D≠[]):∃ i∈D,∀ m:Int,0≤m->m<l.length->(∀ j,xT b l m j->j∈D∨zZN b l j)->zQj b l m i o=false:=by
 have hB:=hR.form.toFormB
 have ax_last:∀ {j y:Int},zZN b l j->¬ zMi b l j y:=fun {j y} ⟨a,p,g1,g2,_,_⟩ h=>by
  have:=(hB.prem g1).2.2
  cases h with
  | here k1 k2 _ _=>rw [g1] at k1;cases k1;omega
  | step k1 k2 _ _ _ _=>rw [g1] at k1;cases k1;omega
 have ax_sub:∀ {j k:Int},zZN b l j->xC l j k->k=j:=fun {j k} ⟨a,p,g1,g2,g3,_⟩ h=>by
  rcases (xC.iff g1).1 h with h | ⟨q,hq,_⟩
  ·exact h
  ·rw [(hR.form.prI g1 g2 g3).2] at hq;cases hq
 have ax_defs:∀ {j y:Int},0≤j->j<l.length->zZN b l j->y∉yG b l j:=fun {j y} h0 h1 hj hy=>by
  obtain ⟨m,hm,a,ha,h2,_⟩:=(zI7 hB h0 h1 y).1 hy
  have hmj:=ax_sub hj ((zC4 hB.toFormA h0 h1 m).1 hm)
  obtain ⟨a',p,g1,g2,_⟩:=hj
  rw [hmj,g1] at ha;cases ha
  have:=(hB.prem g1).2.2;omega
 have ax_prem:∀ {j v:Int},0≤j->j<l.length->zZN b l j->v∉tC b l j:=fun {j v} h0 h1 hj hv=>by
  obtain ⟨p,hp,hv⟩:=List.mem_flatMap.1 hv
  have hpj:=ax_sub hj ((zNQ hB h0 h1).1 hp).1
  obtain ⟨a,q,g1,g2,g3,g4⟩:=hj
  have:a.1=j:=((hB.prem g1).1 g2).1
  rw [this] at g3
  rw [hpj] at hv
  simp [zLY,g3,g4] at hv
 have unL:∀ m:Int,0≤m->m<l.length->(∀ j,xT b l m j->j∈D∨zZN b l j)->∀ v∈xD b (uB b l m),∃ j∈D,v∈xD b (uB b l j)∧∀ w∈xD b (uB b l j),w∈xD b (uB b l m):=by
  intro m m0 m1 hm v hv
  obtain ⟨y,hy,rfl⟩:=List.mem_map.1 hv
  obtain ⟨j,hj,hyj⟩:=z3k ((zJj hB m y).1 hy)
  rcases hm j hj with hjD | hax
  ·refine ⟨j,hjD,List.mem_map.2 ⟨y,(zJj hB j y).2 hyj,rfl⟩,fun w hw=>?_⟩
   obtain ⟨z,hz,rfl⟩:=List.mem_map.1 hw
   exact List.mem_map.2 ⟨z,(zJj hB m z).2 (z3H hj ((zJj hB j z).1 hz)),rfl⟩
  ·exact absurd hyj (ax_last hax)
 have unD:∀ m:Int,0≤m->m<l.length->(∀ j,xT b l m j->j∈D∨zZN b l j)->∀ v∈xD b (yG b l m),∃ j∈D,v∈xD b (yG b l j)∧∀ w∈xD b (yG b l j),w∈xD b (yG b l m):=by
  intro m m0 m1 hm v hv
  obtain ⟨y,hy,rfl⟩:=List.mem_map.1 hv
  obtain ⟨j,hj,hyj⟩:=z3j hB m0 m1 hy
  have hjr:=zZb hB.toFormA hj.sub m0 m1
  rcases hm j hj with hjD | hax
  ·refine ⟨j,hjD,List.mem_map.2 ⟨y,hyj,rfl⟩,fun w hw=>?_⟩
   obtain ⟨z,hz,rfl⟩:=List.mem_map.1 hw
   exact List.mem_map.2 ⟨z,z1z hB m0 m1 hj hz,rfl⟩
  ·exact absurd hyj (ax_defs hjr.1 hjr.2 hax)
 have unP:∀ m:Int,0≤m->m<l.length->(∀ j,xT b l m j->j∈D∨zZN b l j)->∀ v∈tC b l m,∃ j∈D,v∈tC b l j∧∀ w∈tC b l j,w∈tC b l m:=by
  intro m m0 m1 hm v hv
  obtain ⟨p,hp,hv⟩:=List.mem_flatMap.1 hv
  obtain ⟨j,hj,hpj⟩:=z3E hB m0 m1 hp
  have hjr:=zZb hB.toFormA hj.sub m0 m1
  rcases hm j hj with hjD | hax
  ·refine ⟨j,hjD,List.mem_flatMap.2 ⟨p,hpj,hv⟩,fun w hw=>?_⟩
   obtain ⟨z,hz,hw⟩:=List.mem_flatMap.1 hw
   exact List.mem_flatMap.2 ⟨z,z3X hB m0 m1 hj hz,hw⟩
  ·exact absurd (List.mem_flatMap.2 ⟨p,hpj,hv⟩) (ax_prem hjr.1 hjr.2 hax)
 have premD:∀ j∈D,(uB b l j=[]∨yG b l j=[])->tC b l j≠[]:=by
  intro j hj he
  obtain ⟨⟨j0,j1⟩,⟨a,ha,h1 | ⟨h2,r,hr,hs⟩⟩,hnax⟩:=hD j hj
  ·obtain ⟨p,hp⟩:=((hB.prem ha).1 h1).2.1
   have hk:=hR.kd p (zY9 hp)
   have haj:a.1=j:=((hB.prem ha).1 h1).1
   have hmem:j∈zIi l j:=(zNQ hB j0 j1).2 ⟨.self j,a,ha,h1⟩
   intro e
   have hnil:∀ v,v∉zLY b j:=fun v hv=>by
    have:v∈tC b l j:=List.mem_flatMap.2 ⟨j,hmem,hv⟩
    rw [e] at this;cases this
   rw [haj] at hp
   unfold zLY at hnil
   rw [hp] at hnil
   rcases hk with hk | hk | hk
   ·exact hnax ⟨a,p,ha,h1,by rw [haj];exact hp,hk⟩
   ·simp [hk] at hnil
   ·simp [hk] at hnil
  ·rcases he with he | he
   ·have:a.2.1∈uB b l j:=(zJj hB j _).2 (.here ha h2 hr hs)
    rw [he] at this;cases this
   ·have:a.2.1∈yG b l j:=(zI7 hB j0 j1 _).2 ⟨j,zT0 hB.toFormA j0 j1,a,ha,h2,by simp [zPd,hr,hs],rfl⟩
    rw [he] at this;cases this
 have hne':∃ j,j∈D:=by cases D with | nil=>exact absurd rfl hne | cons j _=>exact ⟨j,List.mem_cons_self⟩
 have bool4:∀ {p q r s t x:Bool},x=false->(p&&q&&r&&s&&t&&x)=false:=fun h=>by rw [h,Bool.and_false]
 by_cases ho1:o.1=1
 ·
  have e1:(o.1==1)=true:=by simpa using ho1
  by_cases hex:∃ j∈D,xD b (uB b l j)≠[]
  ·obtain ⟨i,hi,hX,hw⟩:=zWM D (fun j=>xD b (uB b l j)) o.2 hex
   refine ⟨i,hi,fun m m0 m1 hm=>?_⟩
   unfold zQj
   refine bool4 ?_
   have hX':(uB b l i).isEmpty=false:=by
    cases hq:uB b l i with
    | nil=>exact absurd (by rw [hq];rfl) hX
    | cons _ _=>rfl
   simp only [e1,if_true,hw _ (unL m m0 m1 hm),hX',Bool.and_false,Bool.false_and,Bool.or_false]
  ·have hall:∀ j∈D,uB b l j=[]:=fun j hj=>by
    cases hq:uB b l j with
    | nil=>rfl
    | cons y z=>exact absurd ⟨j,hj,by rw [hq];simp⟩ hex
   obtain ⟨j0,hj0⟩:=hne'
   obtain ⟨i,hi,hX,hw⟩:=zWM D (fun j=>tC b l j) o.2 ⟨j0,hj0,premD j0 hj0 (.inl (hall j0 hj0))⟩
   refine ⟨i,hi,fun m m0 m1 hm=>?_⟩
   have hme:uB b l m=[]:=by
    cases hq:uB b l m with
    | nil=>rfl
    | cons y z =>
     obtain ⟨j,hj,h2,_⟩:=unL m m0 m1 hm (zYS b y) (by rw [hq];exact List.mem_cons_self)
     rw [hall j hj] at h2;cases h2
   unfold zQj
   refine bool4 ?_
   simp only [e1,if_true,hme,hw _ (unP m m0 m1 hm),Bool.and_false,Bool.or_false]
   exact zZ7 _ _
 ·have e1:(o.1==1)=false:=beq_eq_false_iff_ne.2 ho1
  by_cases ho2:o.1=2
  ·have e2:(o.1==2)=true:=by simpa using ho2
   by_cases hex:∃ j∈D,xD b (yG b l j)≠[]
   ·obtain ⟨i,hi,hX,hw⟩:=zWM D (fun j=>xD b (yG b l j)) o.2 hex
    refine ⟨i,hi,fun m m0 m1 hm=>?_⟩
    unfold zQj
    refine bool4 ?_
    have hX':(yG b l i).isEmpty=false:=by
     cases hq:yG b l i with
     | nil=>exact absurd (by rw [hq];rfl) hX
     | cons _ _=>rfl
    simp only [e1,e2,zbf,if_false,if_true,hX',Bool.and_false,hw _ (unD m m0 m1 hm)]
    split <;> rfl
   ·have hall:∀ j∈D,yG b l j=[]:=fun j hj=>by
     cases hq:yG b l j with
     | nil=>rfl
     | cons y z=>exact absurd ⟨j,hj,by rw [hq];simp⟩ hex
    obtain ⟨j0,hj0⟩:=hne'
    obtain ⟨i,hi,hX,hw⟩:=zWM D (fun j=>tC b l j) o.2 ⟨j0,hj0,premD j0 hj0 (.inr (hall j0 hj0))⟩
    refine ⟨i,hi,fun m m0 m1 hm=>?_⟩
    have hme:yG b l m=[]:=by
     cases hq:yG b l m with
     | nil=>rfl
     | cons y z =>
      obtain ⟨j,hj,h2,_⟩:=unD m m0 m1 hm (zYS b y) (by rw [hq];exact List.mem_cons_self)
      rw [hall j hj] at h2;cases h2
    unfold zQj
    refine bool4 ?_
    simp only [e1,e2,zbf,if_false,if_true,hme,hall i hi,List.isEmpty_nil,Bool.and_self,hw _ (unP m m0 m1 hm)]
  ·have e2:(o.1==2)=false:=beq_eq_false_iff_ne.2 ho2
   obtain ⟨j0,hj0⟩:=hne'
   refine ⟨j0,hj0,fun m m0 m1 hm=>?_⟩
   unfold zQj
   refine bool4 ?_
   simp only [e1,e2,zbf,if_false]
def Out (l:List zI) (f:Nat->Nat) (x:zG):Prop:=∃ i a,Inn l f i∧zF l i=some a∧a.2.2.2=x
abbrev Fal (b:zO) (l:List zI) (f:Nat->Nat) (j:Int):Prop:=Inn l f j∧zQ8 b l j∧¬ zZN b l j
theorem zVx (hR:Rb b l) (hf:CL l.length (tA b l o) f) (x:zG):Out l f x↔uD b (Cnc b l (Fal b l f)) x:=by
 constructor
 ·rintro ⟨i,a,h1,h2,rfl⟩
  refine z5R hR (i.toNat+1) i a (by have:=h1.1;omega) h2 fun j hj=>?_
  by_cases hax:zZN b l j
  ·exact .inr hax
  ·exact .inl ⟨z30 hR.form.toFormB hf h1 hj.sub,hj.leaf,hax⟩
 ·rintro ⟨n,h⟩
  obtain ⟨i,a,h1,h2,h3,_⟩:=z5d hR hf (D:=Fal b l f) (fun j hj=>⟨hj.1,hj.2.1⟩) h
  exact ⟨i,a,h1,h2,h3⟩
theorem z1B (hR:Rb b l) (hf:CL l.length (tA b l o) f) {x:zG} (h:uD b (fun y=>Out l f y∨∃ p∈b.1,p.2.1=1∧p.1=y) x):Out l f x:=by
 rw [zVx hR hf]
 refine h.trans fun y hy=>?_
 rcases hy with hy | hy
 ·exact (zVx hR hf y).1 hy
 ·exact uD.base (.inr hy)
theorem zVA (hR:Rb b l) (hT:TrC b) (hA:¬ Inc b fun x=>∃ p∈b.1,p.2.1=1∧p.1=x) (hf:CL l.length (tA b l o) f) (x:zG):¬ (Out l f x∧Out l f (xG x)):=by
 rintro ⟨h1,h2⟩
 have hB:=hR.form.toFormB
 have hinc:Inc b (Cnc b l (Fal b l f)):=⟨x,(zVx hR hf x).1 h1,(zVx hR hf _).1 h2⟩
 have hlist:∃ n,∃ D:List Int,D.length=n∧(∀ j∈D,Fal b l f j)∧Inc b (Cnc b l (·∈D)):=by
  classical
  refine ⟨_,(wW l.length).filter fun j=>decide (Fal b l f j),rfl,fun j hj=>by simpa using (List.mem_filter.1 hj).2,?_⟩
  obtain ⟨p,g1,g2⟩:=hinc
  have hsub:∀ y,Cnc b l (Fal b l f) y->Cnc b l (·∈(wW l.length).filter fun j=>decide (Fal b l f j)) y:=fun y hy=>by
   rcases hy with ⟨j,a,hj,ha,e⟩ | hy
   ·exact .inl ⟨j,a,List.mem_filter.2 ⟨xJ.2 ⟨hj.1.1,hj.1.2.1⟩,by simpa using hj⟩,ha,e⟩
   ·exact .inr hy
  exact ⟨p,g1.sub hsub,g2.sub hsub⟩
 have hmin:∃ D:List Int,(∀ j∈D,Fal b l f j)∧Inc b (Cnc b l (·∈D))∧∀ D':List Int,D'.length<D.length->(∀ j∈D',Fal b l f j)->¬ Inc b (Cnc b l (·∈D')):=by
  obtain ⟨n,hn⟩:=hlist
  induction n using Nat.strongRecOn with
  | _ n ih =>
   obtain ⟨D,hl,h3,h4⟩:=hn
   by_cases hex:∃ D':List Int,D'.length<D.length∧(∀ j∈D',Fal b l f j)∧Inc b (Cnc b l (·∈D'))
   ·obtain ⟨D',g1,g2,g3⟩:=hex
    exact ih D'.length (by omega) ⟨D',rfl,g2,g3⟩
   ·exact ⟨D,h3,h4,fun D' g1 g2 g3=>hex ⟨D',g1,g2,g3⟩⟩
 obtain ⟨D,hD,hDi,hDm⟩:=hmin
 have hne:D≠[]:=by
  rintro rfl
  obtain ⟨p,g1,g2⟩:=hDi
  have hsub:∀ y,Cnc b l (·∈([]:List Int)) y->∃ p∈b.1,p.2.1=1∧p.1=y:=fun y hy=>by
   rcases hy with ⟨j,a,hj,_⟩ | hy
   ·cases hj
   ·exact hy
  exact hA ⟨p,g1.sub hsub,g2.sub hsub⟩
 obtain ⟨i,hi,hw⟩:=z2e (o:=o) hR D (fun j hj=>⟨⟨(hD j hj).1.1,(hD j hj).1.2.1⟩,(hD j hj).2⟩) hne
 obtain ⟨hin,hleaf,hnax⟩:=hD i hi
 obtain ⟨a,ha⟩:=zIg hin.1 hin.2.1
 have hcon:¬ Inc b (Cnc b l (·∈D.erase i)):=hDm _ (by
  have:=List.length_pos_of_mem hi
  rw [List.length_erase_of_mem hi];omega) fun j hj=>hD j (List.mem_of_mem_erase hj)
 have hsub1:∀ y,Cnc b l (·∈D) y->Cnc b l (·∈D.erase i) y∨y=a.2.2.2:=fun y hy=>by
  rcases hy with ⟨j,a',hj,ha',e⟩ | hy
  ·by_cases hji:j=i
   ·subst hji;rw [ha] at ha';cases ha';exact .inr e.symm
   ·exact .inl (.inl ⟨j,a',(List.mem_erase_of_ne hji).2 hj,ha',e⟩)
  ·exact .inl (.inr hy)
 have hsub2:∀ y,(Cnc b l (·∈D.erase i) y∨y=a.2.2.2)->Cnc b l (·∈D) y:=fun y hy=>by
  rcases hy with (⟨j,a',hj,ha',e⟩ | hy) | rfl
  ·exact .inl ⟨j,a',List.mem_of_mem_erase hj,ha',e⟩
  ·exact .inr hy
  ·exact .inl ⟨i,a,hi,ha,rfl⟩
 have hinc2:Inc b fun y=>Cnc b l (·∈D.erase i) y∨y=a.2.2.2:=by
  obtain ⟨p,g1,g2⟩:=hDi
  exact ⟨p,g1.sub hsub1,g2.sub hsub1⟩
 obtain ⟨n,hn⟩:=(contra hT hcon hinc2).sub hsub2
 obtain ⟨m,am,hm,ham,hcm,hlm⟩:=z5d hR hf (D:=(·∈D)) (fun j hj=>⟨(hD j hj).1,(hD j hj).2.1⟩) hn
 have hless:=hw m hm.1 hm.2.1 hlm
 have hdef:∃ kd,(m,i,i,kd)∈zDZ b l o:=by
  obtain ⟨a',ha',h3 | ⟨h3,r,hr,hs⟩⟩:=hleaf
  ·rw [ha] at ha';cases ha'
   obtain ⟨p,hp⟩:=((hB.prem ha).1 h3).2.1
   have hk:p.2.1≠1:=fun e=>hnax ⟨a,p,ha,h3,hp,e⟩
   have hneg:a.2.1<0:=by have:=(hB.prem ha).2.2;omega
   refine ⟨1,zSV.2 ⟨⟨⟨hm.1,hm.2.1⟩,⟨hin.1,hin.2.1⟩,zT0 hB.toFormA hin.1 hin.2.1,.inl rfl,?_⟩,.inr hless⟩⟩
   unfold z1I
   rw [ham,ha]
   simp [hneg,hp,hk,hcm]
  ·rw [ha] at ha';cases ha'
   have hneg:¬ a.2.1<0:=by omega
   refine ⟨2,zSV.2 ⟨⟨⟨hm.1,hm.2.1⟩,⟨hin.1,hin.2.1⟩,zT0 hB.toFormA hin.1 hin.2.1,.inr (.inl rfl),?_⟩,.inr hless⟩⟩
   unfold z1I
   rw [ham,ha]
   simp [hneg,hr,hs,hcm]
 obtain ⟨kd,hd⟩:=hdef
 have:=z2k hf hin hd
 have:=hm.2.2
 omega
end
end
section
def trS (r:qL) (y:zG):qL:=([],true,0,xM vH ((r.2.2.2.1.filter fun x=>!(x==y))++[xG r.2.2.2.2]),xG y)
theorem zRj {r:qL} {i:Nat} {y:zG} (hy:r.2.2.2.1[i]?=some y) (hl:r.2.2.2.1.length<1000000):zFb r (i:Int)=some (trS r y):=by
 obtain ⟨v,h1,rfl⟩:=uW (B:=zFS r (i:Int)) (fun k (s:List zG)=>(s,(k:Int))) r.2.2.2.1 (fun k s=>s=(r.2.2.2.1.take k).filter fun x=>!(x==y)) (fun v=>v=r.2.2.2.1.filter fun x=>!(x==y))
  (fun k x s hx hI=>by
   have hk:=vF hx
   left
   subst hI
   have hlen:((r.2.2.2.1.take k).filter fun x=>!(x==y)).length≤k:=Nat.le_trans (List.length_filter_le _ _) (by rw [List.length_take];omega)
   refine ⟨_,?_,rfl⟩
   unfold zFS
   simp only [wS hx,if_true,wP hx,wP hy,zob,wR hx (show r.2.2.2.1.length<4294967296 by omega)]
   rw [xA hx,List.filter_append]
   cases he:(x==y) with
   | true=>simp [he]
   | false=>simp [he,vY (show ((r.2.2.2.1.take k).filter fun x=>!(x==y)).length + [x].length<4294967296 by simp;omega)])
  (fun s hI=>⟨s,by unfold zFS;simp [len],by rw [hI,List.take_length]⟩) [] (by simp)
 have hlen:=List.length_filter_le (fun x=>!(x==y)) r.2.2.2.1
 unfold zFb
 rw [show ((0:Int))=((0:Nat):Int) from rfl,h1]
 simp only [zob,zUs]
 rw [vY (by simp;omega)]
 simp only [zob,wP hy]
 rw [zVm (by simp;omega)]
 rfl
def zWz (b:zO) (r:qL):Bool:=b.2.1.any fun x=>x.2.1&&((x.2.2.2.2==r.2.2.2.2)&&decide (x.2.2.2.1=r.2.2.2.1))
theorem zXw {b:zO} (hc:Cnt b) (r:qL):zLX b r=some (zWz b r):=by
 refine zWF b.2.1 _ (fun i x hx=>?_) (by unfold zLE;simp [len])
 have hq:=hc.q x (wZ hx)
 unfold zLE
 simp only [wS hx,if_true,wP hx,zob,wR hx hc.r,z5B x.2.2.2.1 r.2.2.2.1 (by omega)]
 cases h1:x.2.1 <;> cases h2:(x.2.2.2.2==r.2.2.2.2) <;> cases h3:decide (x.2.2.2.1=r.2.2.2.1) <;> rfl
theorem z1k {b:zO} {r:qL}:zWz b r=true↔∃ x∈b.2.1,x.2.1=true∧x.2.2.2.2=r.2.2.2.2∧x.2.2.2.1=r.2.2.2.1:=by
 rw [zWz,List.any_eq_true]
 constructor
 ·rintro ⟨x,h1,h2⟩
  simp only [Bool.and_eq_true,beq_iff_eq,decide_eq_true_eq] at h2
  exact ⟨x,h1,h2⟩
 ·rintro ⟨x,h1,h2,h3,h4⟩
  exact ⟨x,h1,by simp [h2,h3,h4]⟩
theorem Ok.Closed {b:zO} (hc:Cnt b) (hq:∀ r∈b.2.1,r.2.2.2.1.length<1000000):Ok (zK7 b) fun v=>v=true->TrC b:=by
 unfold zK7
 refine Ok.forI (B:=zIB b) (fun i (_:Unit)=>(i:Int)) b.2.1 (fun i _=>∀ (j:Nat) r,j<i->b.2.1[j]?=some r->r.2.1=true->∀ y∈r.2.2.2.1,zWz b (trS r y)=true) _ ?_ ?_ () (fun j r hj=>by omega)
 ·intro i x _ hx hI
  unfold zIB
  simp only [wS hx,if_true,wP hx,zob]
  have hxq:=hq x (wZ hx)
  refine Ok.forI (B:=zIS x b (i:Int)) (fun k (_:Unit)=>(k:Int)) x.2.2.2.1 (fun k _=>x.2.1=true->∀ (j:Nat) y,j<k->x.2.2.2.1[j]?=some y->zWz b (trS x y)=true) _ ?_ ?_ () (fun _ j r hj=>by omega)
  ·intro k y _ hy hK
   unfold zIS
   simp only [wS hy,Bool.true_and]
   refine Ok.ite (fun hs=>?_) (fun hs=>?_)
   ·rw [zRj hy hxq,zob,zXw hc,zob]
    refine Ok.ite (fun h=>Ok.ret ?_) (fun h=>Ok.ret ?_)
    ·exact fun h'=>by cases h'
    ·rw [wR hy (by omega)]
     refine ⟨(),rfl,fun hs j z hj hz=>?_⟩
     rcases Nat.lt_succ_iff_lt_or_eq.1 hj with h' | rfl
     ·exact hK hs j z h' hz
     ·rw [hy] at hz;cases hz;simpa using h
   ·refine Ok.ret ?_
    rw [wR hx hc.r]
    refine ⟨(),rfl,fun j r hj hr hst y hym=>?_⟩
    rcases Nat.lt_succ_iff_lt_or_eq.1 hj with h' | rfl
    ·exact hI j r h' hr hst y hym
    ·rw [hx] at hr;cases hr;rw [hs] at hst;cases hst
  ·intro _ hK
   unfold zIS
   simp only [yU,Bool.false_and,zbf,if_false]
   refine Ok.ret ?_
   rw [wR hx hc.r]
   refine ⟨(),rfl,fun j r hj hr hst y hym=>?_⟩
   rcases Nat.lt_succ_iff_lt_or_eq.1 hj with h' | rfl
   ·exact hI j r h' hr hst y hym
   ·rw [hx] at hr;cases hr
    obtain ⟨k,hk⟩:=List.mem_iff_getElem?.1 hym
    exact hK hst k y (vF hk) hk
 ·intro _ hI
  unfold zIB
  simp only [yU,zbf,if_false]
  refine Ok.ret fun _=>?_
  intro r hr hst y hy
  obtain ⟨j,hj⟩:=List.mem_iff_getElem?.1 hr
  obtain ⟨x,h1,h2,h3,h4⟩:=z1k.1 (hI j r (vF hj) hj hst y hy)
  refine ⟨x,h1,h2,h3,fun z hz=>?_⟩
  rw [h4] at hz
  have:=(zKd zSN _).2 z |>.1 hz
  rw [List.mem_append,List.mem_filter,List.mem_singleton] at this
  rcases this with h | h
  ·exact .inr h.1
  ·exact .inl h
theorem Ok.Axioms {b:zO} (hp:b.1.length<1000000):Ok (zK4 b) fun l=>vZ vH l∧(∀ x,x∈l↔∃ p∈b.1,p.2.1=1∧p.1=x)∧l.length≤b.1.length:=by
 unfold zK4
 refine Ok.forI (B:=zIK b) (fun i (s:List zG)=>(s,(i:Int))) b.1 (fun i s=>vZ vH s∧(∀ x,x∈s↔∃ p∈b.1.take i,p.2.1=1∧p.1=x)∧s.length≤i) _ ?_ ?_ [] ⟨by simp,by simp,by simp⟩
 ·rintro i p s hp' ⟨h1,h2,h3⟩
  have hi:=vF hp'
  unfold zIK
  simp only [wS hp',if_true,wP hp',zob,wR hp' (show b.1.length<4294967296 by omega)]
  refine Ok.ite (fun he=>?_) (fun he=>?_)
  ·obtain ⟨r,hr,g1,g2,g3⟩:=zSR p.1 (l:=s) (by omega) h1
   rw [hr,zob]
   refine Ok.ret ⟨r,rfl,g1,fun x=>?_,by omega⟩
   rw [g2,h2,xA hp']
   have he':p.2.1=1:=by simpa using he
   constructor
   ·rintro (rfl | ⟨q,hq,hq2⟩)
    ·exact ⟨p,by simp,he',rfl⟩
    ·exact ⟨q,List.mem_append_left _ hq,hq2⟩
   ·rintro ⟨q,hq,hq2,hq3⟩
    rcases List.mem_append.1 hq with hq | hq
    ·exact .inr ⟨q,hq,hq2,hq3⟩
    ·rw [List.mem_singleton] at hq;subst hq;exact .inl hq3.symm
  ·refine Ok.ret ⟨s,rfl,h1,fun x=>?_,by omega⟩
   rw [h2,xA hp']
   have he':¬ p.2.1=1:=by simpa using he
   constructor
   ·rintro ⟨q,hq,hq2⟩
    exact ⟨q,List.mem_append_left _ hq,hq2⟩
   ·rintro ⟨q,hq,hq2,hq3⟩
    rcases List.mem_append.1 hq with hq | hq
    ·exact ⟨q,hq,hq2,hq3⟩
    ·rw [List.mem_singleton] at hq;subst hq;exact absurd hq2 he'
 ·rintro s ⟨h1,h2,h3⟩
  unfold zIK
  simp only [yU,zbf,if_false]
  refine Ok.ret ⟨h1,fun x=>by rw [h2,List.take_length],h3⟩
theorem z6B {l m:List zG} (hl:l.length<1000000000) (hm:m.length<1000000000):zQd l m=some (m.all fun x=>decide (x∈l)):=by
 refine z4w m _ (fun i x hx=>?_) (by unfold zMx;simp [len])
 unfold zMx
 simp only [wS hx,if_true,wP hx,zob,zWP x (show l.length<9223372036854775807 by omega),wR hx (show m.length<4294967296 by omega)]
 cases decide (x∈l) <;> simp
structure CloI (b:zO) (S:zG->Prop) (s:List zG):Prop where
 asc:vZ vH s
 snd:∀ y∈s,uD b S y
 sup:∀ y,S y->y∈s
 bnd:s.length<1000000
def tO (b:zO) (s:List zG):Nat:=(b.2.1.filter fun r=>!decide (r.2.2.2.2∈s)).length
theorem z6P {b:zO} {s t:List zG} (h:∀ y∈s,y∈t) {r:qL} (hr:r∈b.2.1) (h1:r.2.2.2.2∉s) (h2:r.2.2.2.2∈t):tO b t<tO b s:=by
 unfold tO
 refine zWm b.2.1 (fun r hr=>?_) r hr (by simp [h1]) (by simp [h2])
 simp only [Bool.not_eq_true',decide_eq_false_iff_not] at hr ⊢
 exact fun h'=>hr (h _ h')
theorem Ok.Closure {b:zO} (hc:Cnt b) (hq:∀ r∈b.2.1,r.2.2.2.1.length<1000000) (hr:b.2.1.length≤1000) {xs:List zG} (hx:xs.length≤1000) :
  Ok (zJb b xs) fun l=>vZ vH l∧(∀ y,y∈l↔uD b (·∈xs) y)∧l.length≤10000:=by
 unfold zJb
 rw [zVm (by omega),zob]
 have hn:=zKd zSN xs
 have hnl:=zS1 vH xs
 refine Ok.nat (B:=zJp b) (fun s=>2*tO b s.1+(if s.2 then 1 else 0)) (fun s=>CloI b (·∈xs) s.1∧s.1.length+tO b s.1≤xs.length+b.2.1.length∧(s.2=false->∀ r∈b.2.1,r.2.1=true->(∀ y∈r.2.2.2.1,y∈s.1)->r.2.2.2.2∈s.1)) _ ?_ _ ⟨⟨hn.1,fun y hy=>uD.base ((hn.2 y).1 hy),fun y hy=>(hn.2 y).2 hy,(by show (xM vH xs).length<1000000;omega)⟩,?_,(fun h=>nomatch h)⟩
 ·rintro ⟨s,go⟩ ⟨hI,hL,hD⟩
  unfold zJp
  refine Ok.ite (fun hg=>?_) (fun hg=>?_)
  ·have hg':go=true:=hg
   subst hg'
   have hT:Ok (zU (zEk b) (s,false,((0:Nat):Int))) (fun o=>match o with
     | .inl t=>CloI b (·∈xs) t.1∧t.1.length+tO b t.1≤xs.length+b.2.1.length∧(t.2=true->tO b t.1<tO b s)∧tO b t.1≤tO b s∧(t.2=false->∀ r∈b.2.1,r.2.1=true->(∀ y∈r.2.2.2.1,y∈t.1)->r.2.2.2.2∈t.1)
     | .inr r=>False):=by
    refine Ok.forI (B:=zEk b) (fun i (t:List zG×Bool)=>(t.1,t.2,(i:Int))) b.2.1 (fun i t=>CloI b (·∈xs) t.1∧t.1.length+tO b t.1≤xs.length+b.2.1.length∧(t.2=true->tO b t.1<tO b s)∧tO b t.1≤tO b s∧(t.2=false->t.1=s)∧(t.2=false->∀ (j:Nat) r,j<i->b.2.1[j]?=some r->r.2.1=true->(∀ y∈r.2.2.2.1,y∈t.1)->r.2.2.2.2∈t.1)) _ ?_ ?_ (s,false) ⟨hI,hL,(fun h=>nomatch h),Nat.le_refl _,fun _=>rfl,(fun _ j r hj=>absurd hj (Nat.not_lt_zero _))⟩
    ·rintro i r ⟨t,c⟩ hr' ⟨h1,h2,h3,h4,h5,h6⟩
     have hrm:=wZ hr'
     have hrq:=hq r hrm
     have htb:t.length<1000000:=h1.bnd
     unfold zEk
     dsimp only
     simp only [wS hr',if_true,wP hr',zob,z6B (l:=t) (m:=r.2.2.2.1) (by omega) (by omega),zWP r.2.2.2.2 (show t.length<9223372036854775807 by omega),wR hr' hc.r]
     have hcase:(if r.2.1=true then if (r.2.2.2.1.all fun x=>decide (x∈t))=true then some (!decide (r.2.2.2.2∈t)) else some false else some false)=some (r.2.1&&((r.2.2.2.1.all fun x=>decide (x∈t))&&!decide (r.2.2.2.2∈t))):=by
      cases r.2.1 <;> cases (r.2.2.2.1.all fun x=>decide (x∈t)) <;> simp
     rw [hcase,zob]
     refine Ok.ite (fun he=>?_) (fun he=>?_)
     ·simp only [Bool.and_eq_true,List.all_eq_true,decide_eq_true_eq,Bool.not_eq_true',decide_eq_false_iff_not] at he
      obtain ⟨e1,e2,e3⟩:=he
      obtain ⟨u,hu,g1,g2,g3⟩:=zSR r.2.2.2.2 (l:=t) (by omega) h1.asc
      rw [hu,zob]
      have hlt:tO b u<tO b t:=z6P (fun y hy=>(g2 y).2 (.inr hy)) hrm e3 ((g2 _).2 (.inl rfl))
      refine Ok.ret ⟨(u,true),rfl,⟨g1,fun y hy=>?_,fun y hy=>(g2 y).2 (.inr (h1.sup y hy)),?_⟩,?_,fun _=>?_,?_,(fun h=>nomatch h),(fun h=>nomatch h)⟩
      ·rcases (g2 y).1 hy with rfl | hy
       ·exact uD.rule hrm e1 fun z hz=>h1.snd z (e2 z hz)
       ·exact h1.snd y hy
      ·show u.length<1000000;dsimp only at h2;omega
      ·show u.length+tO b u≤_;dsimp only at h2;omega
      ·show tO b u<tO b s;dsimp only at h4;omega
      ·show tO b u≤tO b s;dsimp only at h4;omega
     ·refine Ok.ret ⟨(t,c),rfl,h1,h2,h3,h4,h5,fun hcf j q hj hq' hst hb=>?_⟩
      rcases Nat.lt_succ_iff_lt_or_eq.1 hj with h' | rfl
      ·exact h6 hcf j q h' hq' hst hb
      ·rw [hr'] at hq';cases hq'
       apply Classical.byContradiction
       intro hno
       have:(r.2.1&&((r.2.2.2.1.all fun x=>decide (x∈t))&&!decide (r.2.2.2.2∈t)))=true:=by
        simp only [Bool.and_eq_true,List.all_eq_true,decide_eq_true_eq,Bool.not_eq_true',decide_eq_false_iff_not]
        exact ⟨hst,hb,hno⟩
       rw [this] at he;cases he
    ·rintro ⟨t,c⟩ ⟨h1,h2,h3,h4,h5,h6⟩
     unfold zEk
     simp only [yU,zbf,if_false]
     refine Ok.ret ⟨h1,h2,h3,h4,fun hcf r hr' hst hb=>?_⟩
     obtain ⟨j,hj⟩:=List.mem_iff_getElem?.1 hr'
     exact h6 hcf j r (vF hj) hj hst hb
   refine hT.imp fun o ho=>?_
   cases o with
   | inr r=>exact ho.elim
   | inl t =>
    obtain ⟨h1,h2,h3,h4,h5⟩:=ho
    refine ⟨⟨h1,h2,h5⟩,?_⟩
    obtain ⟨t,c⟩:=t
    dsimp only at h3 h4 ⊢
    cases c with
    | true=>have:=h3 rfl;simp;omega
    | false=>simp;omega
  ·have hg':go=false:=hg
   subst hg'
   refine Ok.ret ⟨hI.asc,fun y=>⟨hI.snd y,fun hy=>?_⟩,?_⟩
   ·obtain ⟨n,hn⟩:=hy
    induction hn with
    | base h=>exact hI.sup _ h
    | step hr' hs _ ih=>exact hD rfl _ hr' hs ih
   ·dsimp only at hL ⊢;omega
 ·show (xM vH xs).length+tO b (xM vH xs)≤_
  have:tO b (xM vH xs)≤b.2.1.length:=List.length_filter_le _ _
  omega
theorem Ok.Sound {b:zO} (hc:Cnt b):Ok (zLW b) fun v=>v=true->zKI b∧TrC b∧¬ Inc b fun x=>∃ p∈b.1,p.2.1=1∧p.1=x:=by
 unfold zLW
 rw [zPE hc,zob]
 refine Ok.bind (I:=fun v=>v=true->zKI b∧TrC b∧¬ Inc b fun x=>∃ p∈b.1,p.2.1=1∧p.1=x) ?_ fun v hv=>Ok.ret hv
 refine Ok.ite (fun h0=>?_) (fun _=>Ok.ret fun h=>by cases h)
 have hv:zKI b:=zLa.1 (by simpa using h0)
 have hq:∀ r∈b.2.1,r.2.2.2.1.length<1000000:=fun r hr=>by have:=zR2 (hv.rule r hr);omega
 refine Ok.bind (Ok.Closed hc hq) fun c hcl=>?_
 refine Ok.ite (fun h1=>?_) (fun _=>Ok.ret fun h=>by cases h)
 have hnp:=hv.np
 have hnr:=hv.nr
 refine Ok.bind (Ok.Axioms (by omega)) fun ax hax=>?_
 refine Ok.bind (Ok.Closure hc hq (by omega) (xs:=ax) (by omega)) fun cl hcl2=>?_
 obtain ⟨g1,g2,g3⟩:=hcl2
 rw [zVU (by omega),zob]
 refine Ok.ret fun hcon=>⟨hv,hcl h1,?_⟩
 rintro ⟨p,d1,d2⟩
 rw [zND,List.all_eq_true] at hcon
 have e1:=(g2 p).2 (d1.sub fun y hy=>(hax.2.1 y).2 hy)
 have e2:=(g2 (xG p)).2 (d2.sub fun y hy=>(hax.2.1 y).2 hy)
 have:=hcon p e1
 simp [e2] at this
end
section
def nmS (n:Nat):qD:=if n<10 then [UInt8.ofNat (48+n)] else [UInt8.ofNat (48+n / 10),UInt8.ofNat (48+n % 10)]
theorem z0O (n:Nat) (h:n<10):sub ([48,49,50,51,52,53,54,55,56,57]:qD) (n:Int) (zS ((n:Int)+1))=some [UInt8.ofNat (48+n)]:=by
 rw [yM n (by omega)]
 have:∀ k:_root_.Fin 10,sub ([48,49,50,51,52,53,54,55,56,57]:qD) ((k.val:Nat):Int) ((k.val+1:Nat):Int)=some [UInt8.ofNat (48+k.val)]:=by decide
 exact this ⟨n,h⟩
theorem z2q (n:Nat) (h:n<10) (k:Nat):zEL (k+1) (n:Int)=some [UInt8.ofNat (48+n)]:=by
 show zFv (zEL k) (n:Int)=_
 unfold zFv
 rw [if_pos (decide_eq_true (show (n:Int)<10 by omega)),z0O n h]
 rfl
theorem zUk (n:Nat) (h:n<100):zJ2 (n:Int)=some (nmS n):=by
 refine zNw 2 fun m hm=>?_
 obtain ⟨k,rfl⟩:∃ k,m=k+2:=⟨m-2,by omega⟩
 unfold nmS
 by_cases h1:n<10
 ·rw [if_pos h1];exact z2q n h1 (k+1)
 ·rw [if_neg h1]
  show zFv (zEL (k+1)) (n:Int)=_
  unfold zFv
  rw [if_neg (by simpa using (show ¬ (n:Int)<10 by omega))]
  have hq:z5U .i64 (n:Int) 10=some ((n / 10:Nat):Int):=by
   unfold z5U
   rw [if_neg (by decide)]
   have:((n:Int)).tdiv 10=((n / 10:Nat):Int):=by rw [Int.tdiv_eq_ediv_of_nonneg (by omega)];omega
   rw [this]
   exact congrArg some (zWZ _ (by omega))
  have hr:z5L (n:Int) 10=some ((n % 10:Nat):Int):=by
   unfold z5L
   rw [if_neg (by decide)]
   have:((n:Int)).tmod 10=((n % 10:Nat):Int):=by rw [Int.tmod_eq_emod_of_nonneg (by omega)];omega
   rw [this]
  rw [hq,zob,hr,zob,zob,z0O (n % 10) (by omega),zob,z2q (n / 10) (by omega) k,zob,z0I (by simp),zob]
  rfl
def zWB (n:Nat):qD:=116::nmS n
theorem z3Q:∀ i j:Nat,i<26->j<26->zWB i=zWB j->i=j:=by
 have:∀ i j:_root_.Fin 26,zWB i.val=zWB j.val->i.val=j.val:=by decide
 exact fun i j hi hj h=>this ⟨i,hi⟩ ⟨j,hj⟩ h
theorem Ok.name {b:zO} (hr:b.2.1.length≤24):Ok (zMh b) fun _=>True:=by
 unfold zMh
 have key:Ok (zU (zJr b) ((1:Nat):Int)) fun r=>∃ n:Nat,r=(n:Int)∧n<100:=by
  refine Ok.nat (B:=zJr b) (fun s=>26-s.toNat) (fun s=>∃ n:Nat,s=(n:Int)∧1≤n∧n≤25∧∀ j,1≤j->j<n->∃ r∈b.2.1,r.1=zWB j) _ ?_ _ ⟨1,rfl,Nat.le_refl _,by omega,fun j h1 h2=>by omega⟩
  rintro s ⟨n,rfl,h1,h2,h3⟩
  unfold zJr
  rw [zUk n (by omega),zob,z0I (by unfold nmS;split <;> simp),zob,zWV b _ (by omega),zob]
  refine Ok.ite (fun he=>?_) (fun he=>?_)
  ·have he':0≤zMt b ([116]++nmS n):=by simpa using he
   obtain ⟨k,x,_,hx,hq,_⟩:=zWn he'
   have hxn:x.1=zWB n:=by simpa [zWB] using hq
   have hall:∀ j,1≤j->j<n+1->∃ r∈b.2.1,r.1=zWB j:=fun j g1 g2=>by
    rcases Nat.lt_succ_iff_lt_or_eq.1 g2 with g | rfl
    ·exact h3 j g1 g
    ·exact ⟨x,wZ hx,hxn⟩
   have hlen:n≤24:=by
    have hnd:((List.range n).map fun j=>zWB (j+1)).Nodup:=by
     rw [List.nodup_iff_pairwise_ne,List.pairwise_map]
     refine List.Pairwise.imp_of_mem (R:=fun a b=>a≠b) (fun {a c} ha hc hne h=>hne ?_) List.nodup_range
     have:=z3Q _ _ (by have:=List.mem_range.1 ha;omega) (by have:=List.mem_range.1 hc;omega) h
     omega
    have:=zSC hnd (m:=b.2.1.map fun r=>r.1) fun y hy=>by
     obtain ⟨j,hj,rfl⟩:=List.mem_map.1 hy
     obtain ⟨r,g1,g2⟩:=hall (j+1) (by omega) (by have:=List.mem_range.1 hj;omega)
     exact List.mem_map.2 ⟨r,g1,g2⟩
    simp only [List.length_map,List.length_range] at this
    omega
   refine Ok.ret ⟨⟨n+1,?_,by omega,by omega,hall⟩,?_⟩
   ·rw [yM n (by omega)]
   ·rw [yM n (by omega)];simp only [Int.toNat_natCast];omega
  ·exact Ok.ret ⟨n,rfl,by omega⟩
 refine Ok.bind key fun r hr=>?_
 obtain ⟨n,rfl,hn⟩:=hr
 rw [zUk n hn,zob,z0I (by unfold nmS;split <;> simp)]
 exact Ok.ret trivial
structure Stk (D:List zG) (c:Nat) (rs:List qL):Prop where
 hd:∀ r∈rs,r.2.2.2.2∈D
 bd:∀ r∈rs,∀ y∈r.2.2.2.1,xG y∈D
 ln:∀ r∈rs,r.2.2.2.1.length≤c
theorem Stk.sub {D:List zG} {c:Nat} {rs rs':List qL} (h:Stk D c rs) (hs:∀ r∈rs',r∈rs):Stk D c rs' :=
 ⟨fun r hr=>h.hd r (hs r hr),fun r hr=>h.bd r (hs r hr),fun r hr=>h.ln r (hs r hr)⟩
theorem Stk.tr {D:List zG} {c:Nat} {rs:List qL} (h:Stk D c rs) {r:qL} (hr:r∈rs) {y:zG} (hy:y∈r.2.2.2.1) (nm:qD):Stk D c (rs++[(nm,(trS r y).2.1,(trS r y).2.2.1,(trS r y).2.2.2.1,(trS r y).2.2.2.2)]):=by
 have h1:(trS r y).2.2.2.2∈D:=h.bd r hr y hy
 have h2:∀ z∈(trS r y).2.2.2.1,xG z∈D:=fun z hz=>by
  have:=(zKd zSN _).2 z |>.1 hz
  rw [List.mem_append,List.mem_filter,List.mem_singleton] at this
  rcases this with g | g
  ·exact h.bd r hr z g.1
  ·rw [g,zTe];exact h.hd r hr
 have h3:(trS r y).2.2.2.1.length≤c:=by
  refine Nat.le_trans (zS1 _ _) ?_
  have g1:(r.2.2.2.1.filter fun x=>!(x==y)).length<r.2.2.2.1.length:=by
   rw [List.length_filter_lt_length_iff_exists]
   exact ⟨y,hy,by simp⟩
  have:=h.ln r hr
  simp only [List.length_append,List.length_singleton]
  omega
 refine ⟨fun q hq=>?_,fun q hq=>?_,fun q hq=>?_⟩ <;> rcases List.mem_append.1 hq with hq | hq
 ·exact h.hd q hq
 ·rw [List.mem_singleton] at hq;subst hq;exact h1
 ·exact h.bd q hq
 ·rw [List.mem_singleton] at hq;subst hq;exact h2
 ·exact h.ln q hq
 ·rw [List.mem_singleton] at hq;subst hq;exact h3
def z4l:zO:=([],[],[])
def TrAns (b:zO) (D:List zG) (c:Nat) (v:zO×Int):Prop :=
 (v.2=0∧v.1.1=b.1∧v.1.2.2=b.2.2∧Stk D c v.1.2.1∧v.1.2.1.length≤24)∨(v.2≠0∧v.1=z4l)
theorem Ok.Transpose {b:zO} (hc:Cnt b) {D:List zG} {c:Nat} (hD:Stk D c b.2.1) (hcc:c≤1000):Ok (zIJ b) (TrAns b D c):=by
 unfold zIJ
 rw [zPE hc,zob]
 refine Ok.ite (fun h0=>Ok.ret (.inr ⟨by simpa using h0,rfl⟩)) (fun h0=>?_)
 have hv:zKI b:=zLa.1 (by simpa using h0)
 have hnr:=hv.nr
 have hnp:=hv.np
 have hnm:=hv.nm
 rw [z5D hc,zob]
 have hloop:Ok (zU (zFT b) (((0:Nat):Int),b.2.1)) fun o=>match o with
   | .inl rs=>Stk D c rs∧rs.length≤24
   | .inr v=>v=(z4l,2):=by
  refine Ok.nat (B:=zFT b) (fun s=>25-s.1.toNat) (fun s=>∃ i:Nat,s.1=(i:Int)∧i≤24∧Stk D c s.2∧s.2.length≤24) _ ?_ _ ⟨0,rfl,by omega,hD,hnr⟩
  rintro ⟨s1,rs⟩ ⟨i,hi,hi2,hS,hL⟩
  dsimp only at hi hS hL
  subst hi
  unfold zFT
  refine Ok.ite (fun hlt=>?_) (fun hlt=>Ok.ret ⟨hS,hL⟩)
  have hlt':i<rs.length:=by have:=of_decide_eq_true hlt;simp only [len] at this;omega
  have hx:rs[i]?=some rs[i]:=List.getElem?_eq_getElem hlt'
  dsimp only
  rw [wP hx,zob]
  have hxm:=wZ hx
  generalize hxe:rs[i]=x at hx hxm
  have hxl:=hS.ln x hxm
  refine (Ok.forI (B:=zFP x b ((i:Int),rs)) (fun j (t:List qL)=>((j:Int),t)) x.2.2.2.1 (fun j t=>Stk D c t∧t.length≤24∧x∈t) (fun o=>match o with | .inl (i',t)=>i'=((i+1:Nat):Int)∧Stk D c t∧t.length≤24 | .inr o'=>match o' with | .inl _=>False | .inr v=>v=(z4l,2)) ?_ ?_ rs ⟨hS,hL,hxm⟩).imp ?_
  ·rintro j y t hy ⟨h1,h2,h3⟩
   unfold zFP
   dsimp only
   simp only [wS hy,Bool.true_and]
   refine Ok.ite (fun hs=>?_) (fun hs=>?_)
   ·have hcnt:Cnt (b.1,t,b.2.2):=⟨by show b.1.length<_;omega,by show t.length<_;omega,by show b.2.2.length<_;omega,fun r hr=>by have:=h1.ln r hr;omega⟩
    rw [zRj hy (by omega),zob,zXw hcnt,zob]
    refine Ok.ite (fun ha=>?_) (fun ha=>?_)
    ·exact Ok.ret ⟨t,by rw [wR hy (by omega)],h1,h2,h3⟩
    ·refine Ok.ite (fun hf=>Ok.ret rfl) (fun hf=>?_)
     have hf':t.length≠24:=by
      intro h'
      have:((len t)==24)=true:=by simp [len,h']
      rw [this] at hf;cases hf
     refine Ok.bind (Ok.name (b:=(b.1,t,b.2.2)) (by show t.length≤24;omega)) fun nm _=>?_
     rw [vY (by simp;omega),zob]
     refine Ok.ret ⟨_,by rw [wR hy (by omega)],h1.tr h3 (wZ hy) nm,by simp;omega,List.mem_append_left _ h3⟩
   ·exact Ok.ret ⟨by rw [yM i (by omega)],h1,h2⟩
  ·rintro t ⟨h1,h2,h3⟩
   unfold zFP
   simp only [yU,Bool.false_and,zbf,if_false]
   exact Ok.ret ⟨by rw [yM i (by omega)],h1,h2⟩
  ·rintro o ho
   match o,ho with
   | .inl (i',t),⟨h1,h2,h3⟩=>exact ⟨⟨i+1,h1,by omega,h2,h3⟩,by show 25-i'.toNat<25-((i:Int)).toNat;rw [h1];simp only [Int.toNat_natCast];omega⟩
   | .inr (.inr v),h=>exact h
 refine Ok.seqE hloop (fun rs h=>Ok.ret (.inl ⟨rfl,rfl,rfl,h.1,h.2⟩)) fun v h=>?_
 have h':v=(z4l,2):=h
 rw [h']
 exact .inr ⟨by decide,rfl⟩
end
section
section
variable {b:zO} {l:List zI} (y:List zG)
theorem zWA (q:Int):zF (uA b y).2.1 q=(zF b.2.1 q).map (zTL b.2.2 y):=by
 show zF (b.2.1.map _) q=_
 unfold zF
 split
 ·rw [List.getElem?_map]
 ·rfl
theorem z4L {q:Int} {r:qL} (h:zF b.2.1 q=some r):zF (uA b y).2.1 q=some (zTL b.2.2 y r):=by rw [zWA,h];rfl
theorem zWT {q:Int} {r:qL} (h:zF (uA b y).2.1 q=some r):∃ r',zF b.2.1 q=some r'∧r=zTL b.2.2 y r':=by
 rw [zWA] at h
 cases h1:zF b.2.1 q with
 | none=>rw [h1] at h;cases h
 | some r'=>rw [h1] at h;cases h;exact ⟨r',rfl,rfl⟩
theorem z3u {i:Int} {x:zG}:tM (uA b y) l i x↔tM b l i x:=by
 constructor
 ·intro h
  induction h with
  | here h=>exact .here h
  | step h1 h2 h3 h4 h5 _ ih =>
   obtain ⟨r',e1,rfl⟩:=zWT y h3
   exact .step h1 h2 e1 h4 h5 ih
 ·intro h
  induction h with
  | here h=>exact .here h
  | step h1 h2 h3 h4 h5 _ ih=>exact .step h1 h2 (z4L y h3) h4 h5 ih
theorem z1J (a:zI):zPd (uA b y) a=zPd b a:=by
 unfold zPd
 rw [zWA]
 cases zF b.2.1 a.2.1 <;> rfl
theorem z2C (i:Int):yG (uA b y) l i=yG b l i:=by
 unfold yG
 simp only [z1J]
open Classical in
theorem zYn (q:Int) (r:qL) (s:List Int):uV (uA b y) l q (zTL b.2.2 y r) s=uV b l q r s:=by
 unfold uV
 have:zYe (uA b y) l q (zTL b.2.2 y r)=zYe b l q r:=by
  funext k
  unfold zYe
  rw [z2C]
  have hh:tM (uA b y) l k r.2.2.2.2↔tM b l k r.2.2.2.2:=z3u y
  show (if r.2.1=true then decide (tM (uA b y) l k r.2.2.2.2) else decide (q∈yG b l k))=_
  cases r.2.1 with
  | true=>exact decide_eq_decide.2 hh
  | false=>rfl
 rw [this]
theorem z6Y (h:Rb b l):Rb (uA b y) l:=by
 refine ⟨⟨zUR h.form.toFormB,h.form.l41,fun i a p hi h0 hp=>h.form.pr i a p hi h0 hp,fun i a r hi h0 hr=>?_⟩,h.pre,fun q r s hr hs hk hw=>?_,h.kd⟩
 ·obtain ⟨r',e1,rfl⟩:=zWT y hr
  exact h.form.ru i a r' hi h0 e1
 ·obtain ⟨r',e1,rfl⟩:=zWT y hr
  rw [zYn] at hw
  exact h.all q r' s e1 hs hk hw
theorem z3x (h:TrC b):TrC (uA b y):=by
 intro r hr hs x hx
 obtain ⟨r',e1,rfl⟩:=List.mem_map.1 hr
 obtain ⟨q,g1,g2,g3,g4⟩:=h r' e1 hs x hx
 exact ⟨zTL b.2.2 y q,List.mem_map.2 ⟨q,g1,rfl⟩,g2,g3,g4⟩
theorem z0S {S:zG->Prop} {x:zG}:uD (uA b y) S x↔uD b S x:=by
 constructor
 ·rintro ⟨n,h⟩
  induction h with
  | base h=>exact uD.base h
  | step hr hs _ ih =>
   obtain ⟨r',e1,rfl⟩:=List.mem_map.1 hr
   exact uD.rule (r:=r') e1 hs ih
 ·rintro ⟨n,h⟩
  induction h with
  | base h=>exact uD.base h
  | @step _ r hr hs _ ih=>exact uD.rule (b:=uA b y) (r:=zTL b.2.2 y r) (List.mem_map.2 ⟨r,hr,rfl⟩) hs ih
theorem z3y {S:zG->Prop}:Inc (uA b y) S↔Inc b S:=by
 unfold Inc
 simp only [z0S]
theorem zUN.rb (h:zUN b l) (hv:zKI b):Rb b l:=by
 refine ⟨h.form.toFormC,fun p q hp=>?_,h.all,fun p hp=>?_⟩
 ·obtain ⟨m,rfl⟩:=h.pre
  have hlt:p<(zMr b).length:=by rw [zJ0];exact vF hp
  obtain ⟨a,ha⟩:∃ a,(zMr b)[p]?=some a:=⟨_,List.getElem?_eq_getElem hlt⟩
  obtain ⟨_,_,e⟩:=zHU ha
  exact ⟨a,by rw [xL,List.getElem?_append_left hlt];exact ha,by rw [e]⟩
 ·have:=hv.prem p hp
  unfold tD at this
  split at this
  ·rename_i h1
   simp only [Bool.or_eq_true,beq_iff_eq] at h1
   omega
  ·cases this
end
section
variable {b:zO} {D:List zG} {c:Nat}
theorem zXa (hs:tQ b D c) {x:List zI} (hx:zRh b=some x):uQ b x∧x.length≤40 :=
 ⟨(zMe hs hx).form,(zMe hs hx).len⟩
theorem zUF (hs:tQ b D c) {l:List zI} (hb:zRh b=some l) {o:yN} (ho:badO o=false):zDh b o=some (z4A b l o,0):=by
 have hv:=hs.valid
 obtain ⟨hf,hl⟩:=zXa hs hb
 have hB:=hf.toFormC.toFormB
 unfold zDh
 rw [z3P hs,hb]
 simp only [ansB,zob,bne_self_eq_false,zbf,if_false]
 show (if badO o=true then _ else _)=_
 have hd:=zZr (b:=b) (l:=l) (by omega) o
 obtain ⟨hg,hG⟩:=zPU (b:=b) hl o
 have hac:=z4c b l o
 have hd2:=zZr (b:=uA b (z4D b l o)) (l:=l) (by omega) o
 obtain ⟨hg2,_⟩:=zPU (b:=uA b (z4D b l o)) hl o
 have hgl:(zQT l.length (tA b l o)).length=l.length:=zG5 _ _
 have hw:=zJc (zQT l.length (tA b l o)) 1
 simp only [ho,zbf,if_false,zUV hB o,zob]
 rw [zSn _ _ (by omega),hg]
 simp only [zob,bne_self_eq_false,zbf,if_false]
 rw [zQ1 hG]
 simp only [zob]
 rw [zL2 _ _ (by omega)]
 simp only [zob]
 rw [zPN _ (by omega)]
 simp only [zob]
 rw [show xM vH ((uL (zQT l.length (tA b l o)) 1).flatMap (zSe l))=z4D b l o from rfl,z1X (zOw hv) (by omega)]
 simp only [zob,zUV (zUR hB) o]
 rw [zSn _ _ (by omega),hg2]
 rfl
end
structure z0G (b:zO) (l:List zI):Prop where
 small:∃ (D:List zG) (c:Nat),tQ b D c
 tr:TrC b
 ax:¬ Inc b fun x=>∃ p∈b.1,p.2.1=1∧p.1=x
 bld:zRh b=some l
 len:l.length≤16
theorem Ok.sound {s:uO} (h:uS s) {n:Int} (h1:1≤n) (h2:n≤26) :
  Ok (zL6 s n) fun r=>uS (s.1,r.2.2)∧(r.2.1=true->∃ l,z0G r.1 l):=by
 obtain ⟨b,k,e1,hk,hd⟩:=z3T h (n:=n) (p:=4) (q:=5) h1 h2 (by omega) (by omega) (by omega) (by omega)
 unfold zL6
 rw [e1,zob]
 have hnp:=hd.np
 have hnr:=hd.nr
 have hnm:=hd.nm
 have hst:∃ D:List zG,D.length≤15∧Stk D 2 b.2.1:=by
  refine ⟨(b.2.1.map fun r=>r.2.2.2.2)++b.2.1.flatMap (fun r=>r.2.2.2.1.map xG),?_,⟨fun r hr=>List.mem_append_left _ (List.mem_map.2 ⟨r,hr,rfl⟩),fun r hr y hy=>List.mem_append_right _ (List.mem_flatMap.2 ⟨r,hr,List.mem_map.2 ⟨y,hy,rfl⟩⟩),hd.bd⟩⟩
  have:∀ rs:List qL,(∀ r∈rs,r.2.2.2.1.length≤2)->(rs.flatMap fun r=>r.2.2.2.1.map xG).length≤rs.length*2:=by
   intro rs hrs
   induction rs with
   | nil=>simp
   | cons r rs ih =>
    have:=hrs r List.mem_cons_self
    have:=ih fun q hq=>hrs q (List.mem_cons_of_mem _ hq)
    simp only [List.flatMap_cons,List.length_append,List.length_map,List.length_cons]
    omega
  have:=this b.2.1 hd.bd
  simp only [List.length_append,List.length_map]
  omega
 obtain ⟨D,hDl,hD⟩:=hst
 refine Ok.nat (B:=zLH (b,k)) (fun t=>t.1.length) (fun t=>(∀ r∈t.1,r∈b.2.1)∧t.1.length≤5∧t.2.length≤2) _ ?_ _ ⟨fun r hr=>hr,(by show b.2.1.length≤5;omega),hnm⟩
 rintro ⟨rs,pm⟩ ⟨g1,g2,g3⟩
 unfold zLH
 dsimp only at g1 g2 g3 ⊢
 have hS:Stk D 2 rs:=hD.sub g1
 have hcnt:Cnt (b.1,rs,pm):=⟨by show b.1.length<_;omega,by show rs.length<_;omega,by show pm.length<_;omega,fun r hr=>by have:=hS.ln r hr;omega⟩
 refine Ok.bind (Ok.Transpose hcnt hS (by omega)) fun v hv=>?_
 obtain ⟨b',e⟩:=v
 have hcnt':Cnt b':=by
  rcases hv with ⟨_,a1,a2,a3,a4⟩ | ⟨_,a1⟩
  ·exact ⟨by rw [a1];show b.1.length<_;omega,by dsimp only at a4;omega,by rw [a2];show pm.length<_;omega,fun r hr=>by have:=a3.ln r hr;omega⟩
  ·dsimp only at a1;subst a1;exact ⟨by decide,by decide,by decide,fun r hr=>by cases hr⟩
 have hsm:zKI b'->∃ (D:List zG) (c:Nat),tQ b' D c:=by
  intro hvb
  rcases hv with ⟨_,a1,a2,a3,a4⟩ | ⟨_,a1⟩
  ·refine ⟨D,2,hvb,fun r hr=>⟨a3.hd r hr,a3.ln r hr⟩,?_⟩
   calc (2+1) ^ D.length≤3 ^ 15:=Nat.pow_le_pow_right (by omega) hDl
    _<4294967296:=by decide
  ·dsimp only at a1;subst a1
   exact ⟨[],0,hvb,fun r hr=>(by cases hr),by decide⟩
 have hbuild:∃ l e2,zDp b'=some (l,e2)∧(e2=0->zKI b'∧zRh b'=some l):=by
  by_cases hvb:zKI b'
  ·obtain ⟨D',c',hs⟩:=hsm hvb
   rw [z2L hs]
   cases hb:zRh b' with
   | none=>exact ⟨_,_,rfl,fun h=>by cases h⟩
   | some l=>exact ⟨l,0,rfl,fun _=>⟨hvb,rfl⟩⟩
  ·refine ⟨_,_,zWG hcnt' hvb,fun h=>absurd (zLa.1 h) hvb⟩
 obtain ⟨l,e2,hbl,hbl2⟩:=hbuild
 show Ok ((zDp b').bind _) _
 rw [hbl,zob]
 refine Ok.bind (I:=fun z=>z=true->∃ l,z0G b' l) ?_ fun z hz=>?_
 ·refine Ok.ite (fun _=>?_) (fun _=>Ok.ret fun h=>by cases h)
  refine Ok.ite (fun he2=>?_) (fun _=>Ok.ret fun h=>by cases h)
  refine Ok.bind (Ok.Sound hcnt') fun w hw=>?_
  refine Ok.ite (fun hwt=>?_) (fun _=>Ok.ret fun h=>by cases h)
  obtain ⟨w1,w2,w3⟩:=hw hwt
  obtain ⟨w4,w5⟩:=hbl2 (by simpa using he2)
  exact Ok.ret fun hlen=>⟨l,hsm w1,w2,w3,w5,by have:=of_decide_eq_true hlen;simp only [len] at this;omega⟩
 ·refine Ok.ite (fun hzt=>Ok.ret ⟨hk,fun _=>hz hzt⟩) (fun _=>?_)
  refine Ok.ite (fun h0=>Ok.ret ⟨hk,fun h=>by cases h⟩) (fun h0=>?_)
  have hpos:0<rs.length:=by
   rcases Nat.eq_zero_or_pos rs.length with h' | h'
   ·have:((len rs)==0)=true:=by simp [len,h']
    rw [this] at h0;cases h0
   ·exact h'
  have hw:zS ((len rs)-1)=((rs.length-1:Nat):Int):=by
   rw [show (len rs)-1=((rs.length-1:Nat):Int) from by simp only [len];omega]
   exact zWZ _ (by omega)
  rw [hw,zOO (by omega) (by omega),zob]
  refine Ok.ret ⟨⟨fun r hr=>g1 r (List.mem_of_mem_take hr),?_,by simp⟩,?_⟩
  ·simp only [List.length_take];omega
  ·simp only [List.length_take];omega
end
section
section
variable {N:Nat} {L:List wD}
theorem z6K {i:Nat}:(vD N L N i).toNat=1↔uR N L N i:=by
 rw [←z5K N L]
 rcases zPI N L N i with h | h | h <;> rw [h] <;> decide
theorem grf_2 {i:Nat}:(vD N L N i).toNat=2↔att (yJ L) (uR N L N) i:=by
 rw [←zVF N L]
 rcases zPI N L N i with h | h | h <;> rw [h] <;> decide
theorem zUj (h:vX N L):CL N L fun i=>(vD N L N i).toNat:=by
 refine ⟨fun i _=>by rcases zPI N L N i with h | h | h <;> rw [h] <;> decide,fun i _ hi j _ he=>?_,fun i _ hi=>?_,fun i hiN hi=>?_⟩
 ·have:=zPh (z6K.1 hi)
  exact grf_2.2 (this.2 j he)
 ·obtain ⟨m,h1,h2⟩:=grf_2.1 hi
  exact ⟨m,zV1 (D:=(· < N)) h1,h2,z6K.2 h1⟩
 ·have h3:vD N L N i=3:=by rcases zPI N L N i with h | h | h <;> rw [h] at hi ⊢ <;> first | rfl | (exact absurd hi (by decide))
  obtain ⟨g1,g2⟩:=(z5r N L).1 h3
  refine ⟨?_,fun j _ he h1=>g2 ⟨j,z6K.1 h1,he⟩⟩
  apply Classical.byContradiction
  intro hno
  refine zT2 N L (i:=i) ⟨⟨hiN,fun j he=>?_⟩,g1⟩
  have hj:j<N:=by
   obtain ⟨m,hm,e⟩:=h.hR _ _ he
   omega
  rcases zPI N L N j with q | q | q
  ·exact absurd ⟨j,(z5K N L).1 q,he⟩ g2
  ·exact (zVF N L).1 q
  ·exact absurd ⟨j,hj,he,by rw [q];rfl⟩ hno
theorem zVY {α:Type} {B:Int->Option (Int⊕Int)} (l:List α) (q:α->Bool) (hB:∀ (i:Nat) x,l[i]?=some x->B (i:Int)=some (if q x then .inr (i:Int) else .inl ((i+1:Nat):Int))) (he:B (l.length:Int)=some (.inr (-1))) :
  ((zU B 0:Option Int).bind fun r=>some (decide (0≤r)))=some (l.any q):=by
 rw [zPg q l (-1) id hB he]
 show ((some (if l.any q then zXB q l else -1):Option Int).bind _)=_
 rw [zUI,zob]
 congr 1
 cases ha:l.any q with
 | true=>exact decide_eq_true (by have:=mt zZj.1 (show ¬ _=false by rw [ha];simp);omega)
 | false=>exact decide_eq_false (by have:=zZj.2 ha;omega)
theorem zSZ {α β:Type} {B:List β×Int->Option ((List β×Int)⊕(List β×Int))} (l:List α) (g:α->β) (hl:l.length≤100000) (hB:∀ (i:Nat) x s,l[i]?=some x->B (s,(i:Int))=(wE s [g x]).bind fun z=>some (.inl (z,((i+1:Nat):Int)))) (he:∀ s,B (s,(l.length:Int))=some (.inr (s,0))) :
  zU B ([],0)=some (l.map g,0):=by
 have h:=zDz (B:=B) l (fun s x=>s++[g x]) (fun s=>(s,(0:Int))) (fun i s=>s.length≤i) ([]:List β) (by simp) (fun i x s hx hI=>by
  have:=vF hx
  rw [hB i x s hx,vY (by simp;omega)]
  exact ⟨rfl,by simp;omega⟩) (fun s _=>he s)
 rw [h.1,zJ8];rfl
theorem zPv {α β:Type} {B:List α×Int->Option ((List α×Int)⊕β)} (l:List α) (q:α->Bool) (fin:List α->β) (hl:l.length≤100000) (hB:∀ (i:Nat) x s,l[i]?=some x->B (s,(i:Int))=if q x=true then (wE s [x]).bind fun z=>some (.inl (z,((i+1:Nat):Int))) else some (.inl (s,((i+1:Nat):Int)))) (he:∀ s,B (s,(l.length:Int))=some (.inr (fin s))) :
  zU B ([],0)=some (fin (l.filter q)):=by
 have h:=zDz (B:=B) l (fun s x=>if q x=true then s++[x] else s) fin (fun i s=>s.length≤i) ([]:List α) (by simp) (fun i x s hx hI=>by
  have:=vF hx
  rw [hB i x s hx]
  cases q x with
  | true=>simp only [if_true];rw [vY (by simp;omega)];exact ⟨rfl,by simp;omega⟩
  | false=>exact ⟨rfl,by simp;omega⟩) (fun s _=>he s)
 rw [h.1,zGj q (fun x=>x) l []]
 simp
def z11 (x y:List Int):Bool:=decide (x.length<y.length)&&x.all fun i=>decide (i∈y)
theorem zVn (x y:List Int) (hx:x.length<4294967296) (hy:y.length<4294967296):zCk x y=some (z11 x y):=by
 have h1:zAG x y=some (x.any fun i=>!decide (i∈y)):=by
  unfold zAG zAe
  refine zVY x (fun i=>!decide (i∈y)) (fun i u hu=>?_) (by unfold zA1;simp [len])
  unfold zA1 zDn
  simp only [wS hu,if_true,wP hu,zob,wR hu hx,zJJ y u (by omega)]
  cases decide (u∈y) <;> rfl
 unfold zCk
 rw [h1]
 unfold z11
 have hd:decide ((len x)<(len y))=decide (x.length<y.length):=by rw [decide_eq_decide];simp only [len];omega
 rw [hd,show (x.all fun i=>decide (i∈y))=!(x.any fun i=>!decide (i∈y)) from List.all_eq_not_any_not]
 cases decide (x.length<y.length) <;> simp
theorem zNS (x:List Int) (hx:x.length<1000000) (k:Int):zBg x [k]=some (uL x k):=by
 have h:=zJc x k
 unfold zBg
 rw [zP0 (s':=(uL x k,1)) (by unfold zDK;simp only [zL2 x _ (show x.length<4294967000 by omega),zF,len];simp [vY (show ([]:List Int).length+(uL x k).length<4294967296 by simp;omega)];rfl)]
 rw [z1n (r:=uL x k) (by unfold zDK;rfl)]
def zWj (x y:List Int):Bool:=z11 (uL y 1) (uL x 1)
theorem z4r (x y:List Int) (hx:x.length<1000000) (hy:y.length<1000000):zCQ x y=some (zWj x y):=by
 have h1:=zJc x 1
 have h2:=zJc y 1
 unfold zCQ
 rw [zNS y hy,zob,zNS x hx,zob,zVn _ _ (by omega) (by omega)]
 rfl
theorem z4W {l:List (List Int)} (hl:l.length<4294967296) (hs:∀ x∈l,x.length<1000000) {y:List Int} (hy:y.length<1000000):zAM l y=some (l.any fun x=>zWj x y):=by
 unfold zAM zAs
 refine zVY l (fun x=>zWj x y) (fun i u hu=>?_) (by unfold zA6;simp [len])
 unfold zA6 zAm
 simp only [wS hu,if_true,wP hu,zob,wR hu hl,z4r u y (hs u (wZ hu)) hy]
 cases zWj u y <;> rfl
end
end
section
theorem z1p {b:zO} {l:List zI} (h:z0G b l) (o:yN) (acc:List zG) {f:Nat->Nat} (hf:CL l.length (tA (uA b acc) l o) f) :
  (∀ x,uD b (fun y=>Out l f y∨∃ p∈b.1,p.2.1=1∧p.1=y) x->Out l f x)∧∀ x,¬ (Out l f x∧Out l f (xG x)):=by
 obtain ⟨D,c,hs⟩:=h.small
 have hW:=zMe hs h.bld
 have hR:Rb (uA b acc) l:=z6Y acc (hW.rb hs.valid)
 refine ⟨fun x hx=>z1B hR hf ((z0S acc).2 hx),fun x=>zVA hR (z3x acc h.tr) (fun hi=>h.ax ((z3y acc).1 hi)) hf x⟩
end
section
section
variable {N:Nat} {L:List wD}
theorem CL.two {f:Nat->Nat} (h:CL N L f) {i:Nat} (hi:i<N) {j:Nat} (hj:j<N) (he:yJ L j i) (h1:f j=1):f i=2:=by
 rcases h.r i hi with q | q | q
 ·have:=h.i1 i hi q j hj he
  omega
 ·exact q
 ·exact absurd h1 ((h.i3 i hi q).2 j hj he)
theorem CL.one {f:Nat->Nat} (h:CL N L f) {i:Nat} (hi:i<N) (ha:∀ j,j<N->yJ L j i->f j=2):f i=1:=by
 rcases h.r i hi with q | q | q
 ·exact q
 ·obtain ⟨j,hj,he,h1⟩:=h.i2 i hi q
  have:=ha j hj he
  omega
 ·obtain ⟨⟨j,hj,he,h1⟩,_⟩:=h.i3 i hi q
  have:=ha j hj he
  omega
theorem CL.ext {f g:Nat->Nat} (hf:CL N L f) (hg:CL N L g) (h:∀ i,i<N->(f i=1↔g i=1)):∀ i,i<N->f i=g i:=by
 intro i hi
 have h2:f i=2↔g i=2:=by
  constructor
  ·intro q
   obtain ⟨j,hj,he,h1⟩:=hf.i2 i hi q
   exact hg.two hi hj he ((h j hj).1 h1)
  ·intro q
   obtain ⟨j,hj,he,h1⟩:=hg.i2 i hi q
   exact hf.two hi hj he ((h j hj).2 h1)
 have h1:=h i hi
 rcases hf.r i hi with q | q | q <;> rcases hg.r i hi with p | p | p <;> omega
end
end
end Go.GD
