/- A part. Conditions: none. -/
import Derived.Test.YtplpdfimlnppcaaGreatDoorPlQ2
namespace Go.GD
set_option autoImplicit false
set_option linter.unusedVariables false
section
section
variable {N:Nat} {L:List wD}
theorem z4K {m:Nat} (hm:m<18446744073709551616):zDv (m:Int)=some (zPR m) :=
 (show zDv (m:Int)=zHf (m:Int) from rfl).trans (z2K hm)
theorem z3t {l:List Int} (hb:l.length<4294967296) (hl:∀ x∈l,0≤x∧x<64):zFw l=some ((zPl l:Nat):Int):=by
 have h:=zDz (B:=zFW l) l (fun (m:Int) x=>((m.toNat ||| 2 ^ x.toNat:Nat):Int)) id (fun i m=>m=((zPl (l.take i):Nat):Int)) (0:Int) (by simp [zPl]) ?_ ?_
 ·have h2:=h.2
  rw [List.take_length] at h2
  have h1:=h.1
  rw [h2] at h1
  exact h1
 ·rintro i x s hx rfl
  obtain ⟨x0,x1⟩:=hl x (wZ hx)
  obtain ⟨j,rfl⟩:=Int.eq_ofNat_of_zero_le x0
  have hlt:zPl (l.take i)<18446744073709551616:=zW4 fun y hy=>(hl y (List.mem_of_mem_take hy)).2
  unfold zFW
  simp only [wS hx,if_true,wP hx,zob]
  rw [zWQ (by omega)]
  simp only [zob,wR hx hb]
  rw [zWq hlt (zOB (by omega))]
  refine ⟨by simp,?_⟩
  rw [xA hx]
  simp [zPl,List.foldl_append]
 ·intro s hI
  unfold zFW
  simp [len]
theorem z1l {i:Nat} (h:i<64):z3b .u64 0 (i:Int)=some 0:=by
 unfold z3b shl
 rw [if_neg (by omega)]
 simp [IntKind.wrap,IntKind.signed,IntKind.bits]
theorem zPj (h:vX N L) {m:Nat} (hm:m<18446744073709551616):∃ r:Nat,zCE ((N:Int),L) (m:Int)=some (r:Int)∧r<18446744073709551616∧∀ j:Nat,r.testBit j=true↔∃ i:Nat,yJ L i j∧m.testBit i=true:=by
 have hN:=h.hN
 obtain ⟨v,h1,r,rfl,h2,h3⟩:=uW (B:=zDY ((N:Int),L) (m:Int)) (fun k (s:Nat)=>((s:Int),(k:Int))) L (fun k s=>s<18446744073709551616∧∀ j:Nat,s.testBit j=true↔∃ i:Nat,((i:Int),(j:Int))∈L.take k∧m.testBit i=true)
  (fun v=>∃ r:Nat,v=(r:Int)∧r<18446744073709551616∧∀ j:Nat,r.testBit j=true↔∃ i:Nat,yJ L i j∧m.testBit i=true)
  (fun k p s hp hI=>by
   obtain ⟨g1,g2⟩:=hI
   left
   obtain ⟨a,b,ha,hb,rfl⟩:=zK6 (h.inr p (wZ hp))
   refine ⟨if m.testBit a then s ||| 2 ^ b else s,?_,?_,fun j=>?_⟩
   ·have hs:=shrK_u (m:=m) (i:=a) (by omega)
    rw [zJe (by omega)] at hs
    have hbit:yE .u64 ((m / 2 ^ a:Nat):Int) 1=if m.testBit a then 1 else 0:=by
     have:=zR0 (a:=m / 2 ^ a) (b:=1) (z6r hm) (by decide)
     rw [show ((1:Nat):Int)=1 from rfl] at this
     rw [this]
     have h2:=bit_eq m a
     cases hbt:m.testBit a with
     | true=>rw [hbt,beq_iff_eq] at h2;simp only [if_true];exact congrArg (fun n:Nat=>(n:Int)) h2
     | false =>
      rw [hbt,beq_eq_false_iff_ne] at h2
      have:(m / 2 ^ a) &&& 1≤1:=Nat.and_le_right
      simp only [zbf,if_false]
      exact congrArg (fun n:Nat=>(n:Int)) (show (m / 2 ^ a) &&& 1=0 by omega)
    unfold zDY
    dsimp only
    simp only [wS hp,if_true,wP hp,zob,hs,hbit,wR hp h.len']
    cases hbt:m.testBit a with
    | true =>
     simp only [if_true]
     rw [zWQ (by omega),zob,zWq g1 (zOB (by omega))]
    | false =>
     simp only [zbf,if_false]
     rw [z1l (by omega),zob,show (0:Int)=((0:Nat):Int) from rfl,zWq g1 (by decide),Nat.or_zero]
   ·cases m.testBit a with
    | true=>exact z61 g1 (zOB (by omega))
    | false=>exact g1
   ·rw [xA hp]
    simp only [List.mem_append,List.mem_singleton,Prod.mk.injEq]
    cases hbt:m.testBit a with
    | true =>
     simp only [if_true]
     rw [Nat.testBit_or,Bool.or_eq_true,g2,Nat.testBit_two_pow,decide_eq_true_eq]
     constructor
     ·rintro (⟨i,q1,q2⟩ | rfl)
      ·exact ⟨i,.inl q1,q2⟩
      ·exact ⟨a,.inr ⟨rfl,rfl⟩,hbt⟩
     ·rintro ⟨i,q1 | ⟨q1,q3⟩,q2⟩
      ·exact .inl ⟨i,q1,q2⟩
      ·exact .inr (by omega)
    | false =>
     simp only [zbf,if_false]
     rw [g2]
     constructor
     ·rintro ⟨i,q1,q2⟩
      exact ⟨i,.inl q1,q2⟩
     ·rintro ⟨i,q1 | ⟨q1,q3⟩,q2⟩
      ·exact ⟨i,q1,q2⟩
      ·rw [show i=a by omega,hbt] at q2;cases q2)
  (fun s hI=>⟨(s:Int),by unfold zDY;simp [len],s,rfl,hI.1,fun j=>by
   rw [hI.2,List.take_length]
   simp only [yJ,zSq]⟩) 0 ⟨by decide,by simp⟩
 exact ⟨r,h1,h2,h3⟩
def dfd (N:Nat) (L:List wD) (X:Nat->Prop) (i:Nat):Prop:=i<N∧∀ j,j<N->yJ L j i->∃ k,yJ L k j∧X k
theorem z2R (hN:N≤40):zEs ((N:Int),L)=some ((2 ^ N-1:Nat):Int):=by
 have h1:=zOB (i:=N) (by omega)
 have h0:0<2 ^ N:=Nat.pow_pos (by decide)
 unfold zEs
 rw [zWQ (by omega),zob]
 rw [show ((2 ^ N:Nat):Int)-1=((2 ^ N-1:Nat):Int) by omega,zJe (by omega)]
theorem z4i (h:vX N L) {m:Nat} (hm:m<18446744073709551616):∃ r:Nat,zDx ((N:Int),L) (m:Int)=some (r:Int)∧r<18446744073709551616∧∀ i:Nat,r.testBit i=true↔dfd N L (fun k=>m.testBit k=true) i:=by
 have hN:=h.hN
 have hw:=zOB (i:=N) (by omega)
 obtain ⟨r1,e1,l1,b1⟩:=zPj h hm
 obtain ⟨r2,e2,l2,b2⟩:=zPj h (m:=z60 (2 ^ N-1) r1) (zY7 (by omega))
 refine ⟨z60 (2 ^ N-1) r2,?_,zY7 (by omega),fun i=>?_⟩
 ·unfold zDx
  rw [z2R hN,zob,zob,e1,zob,zUA (by omega) l1,e2,zob,zUA (by omega) l2]
 ·rw [zM6,Nat.testBit_two_pow_sub_one,Bool.and_eq_true,decide_eq_true_eq,Bool.not_eq_true',←Bool.not_eq_true,b2]
  refine and_congr_right fun hi=>?_
  constructor
  ·intro hno j hj he
   apply Classical.byContradiction
   intro hk
   refine hno ⟨j,he,?_⟩
   rw [zM6,Nat.testBit_two_pow_sub_one,Bool.and_eq_true,decide_eq_true_eq,Bool.not_eq_true',←Bool.not_eq_true,b1]
   exact ⟨hj,hk⟩
  ·rintro hall ⟨j,he,hb⟩
   rw [zM6,Nat.testBit_two_pow_sub_one,Bool.and_eq_true,decide_eq_true_eq,Bool.not_eq_true',←Bool.not_eq_true,b1] at hb
   exact hb.2 (hall j hb.1 he)
structure zU2 (N:Nat) (L:List wD) (P Z:Nat->Prop):Prop where
 sub:∀ i,Z i->P i
 own:∀ i,Z i->dfd N L Z i
 all:∀ X:Nat->Prop,(∀ i,X i->P i)->(∀ i,X i->dfd N L X i)->∀ i,X i->Z i
theorem zT7 {X Y:Nat->Prop} (h:∀ i,X i->Y i) {i:Nat} (hi:dfd N L X i):dfd N L Y i :=
 ⟨hi.1,fun j hj he=>by obtain ⟨k,h1,h2⟩:=hi.2 j hj he;exact ⟨k,h1,h _ h2⟩⟩
theorem zU2.mono {P P' Z Z':Nat->Prop} (h:zU2 N L P Z) (h':zU2 N L P' Z') (hP:∀ i,P i->P' i):∀ i,Z i->Z' i :=
 h'.all Z (fun i hi=>hP i (h.sub i hi)) h.own
theorem z1e (h:vX N L) {m:Nat} (hm:m<18446744073709551616):∃ r:Nat,zAw (m:Int) ((N:Int),L)=some (r:Int)∧r<18446744073709551616∧zU2 N L (fun i=>m.testBit i=true) (fun i=>r.testBit i=true):=by
 have hN:=h.hN
 have hlp:=zVr (B:=zAQ ((N:Int),L)) (fun s=>s.toNat)
  (fun s=>∃ k:Nat,s=(k:Int)∧k<18446744073709551616∧(∀ i,k.testBit i=true->m.testBit i=true)∧∀ X:Nat->Prop,(∀ i,X i->m.testBit i=true)->(∀ i,X i->dfd N L X i)->∀ i,X i->k.testBit i=true)
  (fun v=>∃ r:Nat,v=(r:Int)∧r<18446744073709551616∧zU2 N L (fun i=>m.testBit i=true) (fun i=>r.testBit i=true)) ?_ (m:Int) ⟨m,rfl,hm,fun _ h=>h,fun X h1 _ i hi=>h1 i hi⟩
 ·obtain ⟨v,e,r,rfl,hr,hg⟩:=hlp
  exact ⟨r,e,hr,hg⟩
 ·rintro s ⟨k,rfl,hk,h1,h2⟩
  obtain ⟨q,e,hq,hb⟩:=z4i h hk
  have hand:yE .u64 (k:Int) (q:Int)=((k &&& q:Nat):Int):=zR0 hk hq
  by_cases hs:k &&& q=k
  ·right
   refine ⟨(k:Int),?_,k,rfl,hk,h1,fun i hi=>?_,h2⟩
   ·unfold zAQ zCh
    rw [e]
    simp only [zob,hand,hs,beq_self_eq_true,if_true]
   ·rw [←hs,Nat.testBit_and,Bool.and_eq_true] at hi
    exact (hb i).1 hi.2
  ·left
   refine ⟨((k &&& q:Nat):Int),?_,⟨k &&& q,rfl,zZu hk,fun i hi=>?_,fun X hX hd i hi=>?_⟩,?_⟩
   ·unfold zAQ zCh
    rw [e]
    have hne:((((k &&& q:Nat):Int))==(k:Int))=false:=by rw [beq_eq_false_iff_ne];omega
    simp only [zob,hand,hne,zbf,if_false]
   ·rw [Nat.testBit_and,Bool.and_eq_true] at hi
    exact h1 i hi.1
   ·rw [Nat.testBit_and,Bool.and_eq_true]
    exact ⟨h2 X hX hd i hi,(hb i).2 (zT7 (fun k hk=>h2 X hX hd k hk) (hd i hi))⟩
   ·have:k &&& q≤k:=Nat.and_le_left
    simp only [Int.toNat_natCast]
    omega
theorem z0f (h:vX N L) {l:List Int} (ha:vZ yS l) (hl:∀ x∈l,0≤x∧x<(N:Int)) (hfree:∀ i j:Nat,(i:Int)∈l->(j:Int)∈l->¬ yJ L i j) :
  ∃ r:List Int,zCH ((N:Int),L) l=some (r,0)∧r.length≤64∧(∀ x∈r,0≤x∧x<(N:Int))∧zU2 N L (fun i=>(i:Int)∈l) (fun i=>(i:Int)∈r):=by
 have hN:=h.hN
 have hlN:l.length≤N:=zZh (ha.imp fun {x y} hh e=>by subst e;rw [tG.irrefl] at hh;cases hh) hl
 have hl64:∀ x∈l,0≤x∧x<64:=fun x hx=>by have:=hl x hx;omega
 have hmk:zPl l<18446744073709551616:=zW4 fun x hx=>(hl64 x hx).2
 have hv:zEj ((N:Int),L) l=some true:=by
  refine zPm (l:=l) (fun i x hx=>?_) (by unfold zHs;simp [len])
  obtain ⟨x0,x1⟩:=hl x (wZ hx)
  unfold zHs
  simp only [wS hx,if_true,wP hx,zob]
  rw [if_neg (by simp;omega),if_neg (by simp;omega)]
  by_cases hi:0<i
  ·obtain ⟨k,rfl⟩:∃ k,i=k+1:=⟨i-1,by omega⟩
   have hk:k<l.length:=by have:=vF hx;omega
   have hy:l[k]?=some l[k]:=List.getElem?_eq_getElem hk
   have hlt:=zZt ha hy hx
   have hw:zS (((k+1:Nat):Int)-1)=(k:Int):=by
    rw [show ((k+1:Nat):Int)-1=(k:Int) by omega]
    exact zWZ _ (by omega)
   have hle:decide (x≤l[k])=false:=by simpa using hlt
   rw [if_pos (decide_eq_true (show (0:Int)<((k+1:Nat):Int) by omega)),hw,wP hy,zob,hle,zob]
   simp only [zbf,if_false,wR hx (show l.length<4294967296 by omega)]
  ·rw [if_neg (by simpa using hi),zob]
   simp only [zbf,if_false,wR hx (show l.length<4294967296 by omega)]
 obtain ⟨a,e1,l1,b1⟩:=zPj h hmk
 have hbit:∀ i:Nat,(zPl l).testBit i=true↔(i:Int)∈l:=fun i=>by rw [zYQ (fun x hx=>(hl64 x hx).1),decide_eq_true_eq]
 have hz:a &&& zPl l=0:=by
  apply Nat.eq_of_testBit_eq
  intro j
  rw [Nat.testBit_and,Nat.zero_testBit]
  cases h1:a.testBit j with
  | false=>rfl
  | true =>
   cases h2:(zPl l).testBit j with
   | false=>rfl
   | true =>
    obtain ⟨i,q1,q2⟩:=(b1 j).1 h1
    exact absurd q1 (hfree i j ((hbit i).1 q2) ((hbit j).1 h2))
 obtain ⟨r,e2,l2,g⟩:=z1e h hmk
 have hr:∀ i:Nat,(i:Int)∈zPR r↔r.testBit i=true:=fun i=>zVj l2
 refine ⟨zPR r,?_,zXX r,fun x hx=>?_,⟨fun i hi=>(hbit i).1 (g.sub i ((hr i).1 hi)),fun i hi=>?_,fun X h1 h2 i hi=>(hr i).2 (g.all X (fun k hk=>(hbit k).2 (h1 k hk)) h2 i hi)⟩⟩
 ·unfold zCH zF0
  rw [hv,zob]
  simp only [Bool.not_true,zbf,if_false]
  rw [z3t (by omega) hl64,zob,e1,zob,zR0 l1 hmk,hz]
  simp only [zob]
  rw [if_neg (by decide),e2,zob,z4K l2]
  rfl
 ·obtain ⟨i,rfl,_,h2⟩:=zMI.1 hx
  exact hl _ ((hbit i).1 (g.sub i h2))
 ·exact zT7 (fun k hk=>(hr k).2 hk) (g.own i ((hr i).1 hi))
theorem zZ5 (h:vX N L) {r:List Int} (hb:r.length≤64) (hr:∀ x∈r,0≤x∧x<(N:Int)):∃ l:List Int,zCN ((N:Int),L) r=some l∧l.length=N∧∀ i:Nat,l[i]?=some 1↔(i:Int)∈r:=by
 have hN:=h.hN
 unfold zCN
 rw [zV2 3 hN,zob]
 obtain ⟨l1,e1,n1,o1⟩:=uW (B:=zC3 ((N:Int),L) r) (fun k (s:List Int)=>(s,(k:Int))) L (fun k s=>s.length=N∧∀ i:Nat,s[i]?≠some 1) (fun s=>s.length=N∧∀ i:Nat,s[i]?≠some 1)
  (fun k p s hp hI=>by
   obtain ⟨g1,g2⟩:=hI
   left
   obtain ⟨a,b,ha,hbN,rfl⟩:=zK6 (h.inr p (wZ hp))
   unfold zC3
   dsimp only
   simp only [wS hp,if_true,wP hp,zob,zJJ r _ (by omega),wR hp h.len']
   cases decide ((a:Int)∈r) with
   | false=>exact ⟨s,rfl,g1,g2⟩
   | true =>
    obtain ⟨u,hu⟩:=zIg (l:=s) (j:=(b:Int)) (by omega) (by omega)
    refine ⟨s.set b 2,by simp only [if_true,hu,zob,Int.toNat_natCast],by rw [List.length_set,g1],fun i=>?_⟩
    rw [List.getElem?_set]
    split
    ·split
     ·simp
     ·simp
    ·exact g2 i)
  (fun s hI=>⟨s,by unfold zC3;simp [len],hI⟩) (qU N fun _=>3) ⟨zG5 _ _,fun i=>by rw [zIk];split <;> simp⟩
 rw [show ((0:Int))=((0:Nat):Int) from rfl,e1,zob]
 obtain ⟨l2,e2,n2,o2⟩:=uW (B:=zER r ((N:Int),L)) (fun k (s:List Int)=>(s,(k:Int))) r (fun k s=>s.length=N∧∀ i:Nat,s[i]?=some 1↔(i:Int)∈r.take k) (fun s=>s.length=N∧∀ i:Nat,s[i]?=some 1↔(i:Int)∈r)
  (fun k x s hx hI=>by
   obtain ⟨g1,g2⟩:=hI
   left
   obtain ⟨x0,x1⟩:=hr x (wZ hx)
   obtain ⟨b,rfl⟩:=Int.eq_ofNat_of_zero_le x0
   obtain ⟨u,hu⟩:=zIg (l:=s) (j:=(b:Int)) (by omega) (by omega)
   have hd:(decide (0≤(b:Int))&&decide ((b:Int)<(N:Int)))=true:=by simp;omega
   refine ⟨s.set b 1,?_,by rw [List.length_set,g1],fun i=>?_⟩
   ·unfold zER
    dsimp only
    simp only [wS hx,if_true,wP hx,zob,hd,hu,wR hx (show r.length<4294967296 by omega),Int.toNat_natCast]
   ·rw [List.getElem?_set,xA hx,List.mem_append,List.mem_singleton]
    split
    ·rename_i hib
     subst hib
     rw [if_pos (by omega)]
     simp
    ·rename_i hib
     rw [g2]
     constructor
     ·exact .inl
     ·rintro (q | q)
      ·exact q
      ·exact absurd q (by omega))
  (fun s hI=>⟨s,by unfold zER;simp [len],hI.1,fun i=>by rw [hI.2,List.take_length]⟩) l1 ⟨n1,fun i=>by simp [o1 i]⟩
 exact ⟨l2,e2,n2,o2⟩
end
end
section
section
variable {N:Nat} {L:List wD}
def zW5 (x y:List Int):Bool:=z11 (uL x 3) (uL y 3)
def zYP (x y:List Int):Bool:=decide (0<(uL y 3).length)
theorem z4F (x y:List Int) (hx:x.length<1000000) (hy:y.length<1000000):zBz x y=some (zW5 x y):=by
 have h1:=zJc x 3
 have h2:=zJc y 3
 unfold zBz
 rw [zNS x hx,zob,zNS y hy,zob,zVn _ _ (by omega) (by omega)]
 rfl
theorem z4o (x y:List Int) (hx:x.length<1000000) (hy:y.length<1000000):zCo x y=some (zYP x y):=by
 unfold zCo
 rw [zNS y hy,zob]
 unfold zYP
 rw [show decide (0<len (uL y 3))=decide (0<(uL y 3).length) from by rw [decide_eq_decide];simp only [len];omega]
def zRW (p:List Int->List Int->Bool) (l:List (List Int)):List (List Int):=l.filter fun y=>!l.any fun x=>p x y
theorem z2U {p:List Int->List Int->Bool} {l:List (List Int)}:∀ x∈zRW p l,x∈l:=fun x hx=>(List.mem_filter.1 hx).1
theorem z5v (p:List Int->List Int->Bool) (l:List (List Int)):(zRW p l).length≤l.length:=List.length_filter_le _ _
theorem zWO (hN:N≤40) {l:List (List Int)} (e1:zBB ((N:Int),L)=some (l,0)) (e2:l.length≤200) (hlen:∀ x∈l,x.length=N):zAv ((N:Int),L)=some (zRW zWj l,0):=by
 unfold zAv zAK
 rw [e1,zob,if_neg (by simp)]
 have hl:zU (zAC (l,0)) ([],0)=some (zRW zWj l,0):=by
  refine zPv (B:=zAC (l,0)) l (fun x=>!l.any fun y=>zWj y x) (fun s=>(s,(0:Int))) (by omega) (fun i x s hx=>?_) (fun s=>by unfold zAC;simp [len])
  unfold zAC
  simp only [wS hx,if_true,wP hx,zob,wR hx (show l.length<4294967296 by omega),z4W (show l.length<4294967296 by omega) (fun z hz=>by have:=hlen z hz;omega) (show x.length<1000000 by have:=hlen x (wZ hx);omega)]
 rw [hl]
 rfl
theorem zYu {l:List (List Int)} (hl:l.length<4294967296) (hs:∀ x∈l,x.length<1000000) {y:List Int} (hy:y.length<1000000):zAI l y=some (l.any fun x=>zYP x y):=by
 unfold zAI zAb
 refine zVY l (fun x=>zYP x y) (fun i u hu=>?_) (by unfold zA0;simp [len])
 unfold zA0 zBD
 simp only [wS hu,if_true,wP hu,zob,wR hu hl,z4o u y (hs u (wZ hu)) hy]
 cases zYP u y <;> rfl
theorem z1C (hN:N≤40) {l:List (List Int)} (e1:zBB ((N:Int),L)=some (l,0)) (e2:l.length≤200) (hlen:∀ x∈l,x.length=N):zCW ((N:Int),L)=some (zRW zYP l,0):=by
 unfold zCW zAh
 rw [e1,zob,if_neg (by simp)]
 have hl:zU (zAL (l,0)) ([],0)=some (zRW zYP l,0):=by
  refine zPv (B:=zAL (l,0)) l (fun x=>!l.any fun y=>zYP y x) (fun s=>(s,(0:Int))) (by omega) (fun i x s hx=>?_) (fun s=>by unfold zAL;simp [len])
  unfold zAL
  simp only [wS hx,if_true,wP hx,zob,wR hx (show l.length<4294967296 by omega),zYu (show l.length<4294967296 by omega) (fun z hz=>by have:=hlen z hz;omega) (show x.length<1000000 by have:=hlen x (wZ hx);omega)]
 rw [hl]
 rfl
theorem zUH {l:List (List Int)} (hl:l.length<4294967296) (hs:∀ x∈l,x.length<1000000) {y:List Int} (hy:y.length<1000000):zAJ l y=some (l.any fun x=>zW5 x y):=by
 unfold zAJ zAd
 refine zVY l (fun x=>zW5 x y) (fun i u hu=>?_) (by unfold zA3;simp [len])
 unfold zA3 zAf
 simp only [wS hu,if_true,wP hu,zob,wR hu hl,z4F u y (hs u (wZ hu)) hy]
 cases zW5 u y <;> rfl
theorem zVT (hN:N≤40) {l:List (List Int)} (e1:zBB ((N:Int),L)=some (l,0)) (e2:l.length≤200) (hlen:∀ x∈l,x.length=N):zAk ((N:Int),L)=some (zRW zW5 l,0):=by
 unfold zAk zAF
 rw [e1,zob,if_neg (by simp)]
 have hl:zU (zAB (l,0)) ([],0)=some (zRW zW5 l,0):=by
  refine zPv (B:=zAB (l,0)) l (fun x=>!l.any fun y=>zW5 y x) (fun s=>(s,(0:Int))) (by omega) (fun i x s hx=>?_) (fun s=>by unfold zAB;simp [len])
  unfold zAB
  simp only [wS hx,if_true,wP hx,zob,wR hx (show l.length<4294967296 by omega),zUH (show l.length<4294967296 by omega) (fun z hz=>by have:=hlen z hz;omega) (show x.length<1000000 by have:=hlen x (wZ hx);omega)]
 rw [hl]
 rfl
theorem zWH (hN:N≤40) {l:List (List Int)} (e1:zBB ((N:Int),L)=some (l,0)) (e2:l.length≤200) (hlen:∀ x∈l,x.length=N):zAW ((N:Int),L)=some (l.map fun x=>uL x 1,0):=by
 unfold zAW
 rw [e1,zob,if_neg (by simp)]
 refine zSZ (B:=zAp (l,0)) l (fun x=>uL x 1) (by omega) (fun i x s hx=>?_) (fun s=>by unfold zAp;simp [len])
 unfold zAp
 simp only [wS hx,if_true,wP hx,zob,wR hx (show l.length<4294967296 by omega),zL2 x 1 (show x.length<4294967000 by have:=hlen x (wZ hx);omega)]
theorem zUy (hN:N≤40) {l:List (List Int)} (e1:zAv ((N:Int),L)=some (l,0)) (e2:l.length≤200) (hlen:∀ x∈l,x.length=N):zAE ((N:Int),L)=some (l.map fun x=>uL x 1,0):=by
 unfold zAE
 rw [e1,zob,if_neg (by simp)]
 refine zSZ (B:=zA2 (l,0)) l (fun x=>uL x 1) (by omega) (fun i x s hx=>?_) (fun s=>by unfold zA2;simp [len])
 unfold zA2
 simp only [wS hx,if_true,wP hx,zob,wR hx (show l.length<4294967296 by omega),zL2 x 1 (show x.length<4294967000 by have:=hlen x (wZ hx);omega)]
theorem zYd (hN:N≤40) {l:List (List Int)} (e1:zCW ((N:Int),L)=some (l,0)) (e2:l.length≤200) (hlen:∀ x∈l,x.length=N):zAS ((N:Int),L)=some (l.map fun x=>uL x 1,0):=by
 unfold zAS
 rw [e1,zob,if_neg (by simp)]
 refine zSZ (B:=zAg (l,0)) l (fun x=>uL x 1) (by omega) (fun i x s hx=>?_) (fun s=>by unfold zAg;simp [len])
 unfold zAg
 simp only [wS hx,if_true,wP hx,zob,wR hx (show l.length<4294967296 by omega),zL2 x 1 (show x.length<4294967000 by have:=hlen x (wZ hx);omega)]
theorem zUn (hN:N≤40) {l:List (List Int)} (e1:zAk ((N:Int),L)=some (l,0)) (e2:l.length≤200) (hlen:∀ x∈l,x.length=N):zAD ((N:Int),L)=some (l.map fun x=>uL x 1,0):=by
 unfold zAD
 rw [e1,zob,if_neg (by simp)]
 refine zSZ (B:=zAY (l,0)) l (fun x=>uL x 1) (by omega) (fun i x s hx=>?_) (fun s=>by unfold zAY;simp [len])
 unfold zAY
 simp only [wS hx,if_true,wP hx,zob,wR hx (show l.length<4294967296 by omega),zL2 x 1 (show x.length<4294967000 by have:=hlen x (wZ hx);omega)]
theorem z0h {x:List Int} (hx:x.length≤40) (e1:zGB ((N:Int),L)=some (x,0)):zAN ((N:Int),L)=some ([uL x 1],0):=by
 have e2:zBG ((N:Int),L)=some ([x],0):=by
  unfold zBG
  rw [e1]
  rfl
 unfold zAN
 rw [e2,zob,if_neg (by simp)]
 refine zSZ (B:=zA8 ([x],0)) [x] (fun x=>uL x 1) (by simp) (fun i y s hy=>?_) (fun s=>by unfold zA8;simp [len])
 have hyx:y=x:=List.mem_singleton.1 (wZ hy)
 unfold zA8
 simp only [wS hy,if_true,wP hy,zob,wR hy (by simp),zL2 y 1 (show y.length<4294967000 by rw [hyx];omega)]
theorem z0a {x:List Int} (hx:x.length≤40) (e1:zGA ((N:Int),L)=some (x,0)):zAO ((N:Int),L)=some ([uL x 1],0):=by
 have e2:zBF ((N:Int),L)=some ([x],0):=by
  unfold zBF
  rw [e1]
  rfl
 unfold zAO
 rw [e2,zob,if_neg (by simp)]
 refine zSZ (B:=zA9 ([x],0)) [x] (fun x=>uL x 1) (by simp) (fun i y s hy=>?_) (fun s=>by unfold zA9;simp [len])
 have hyx:y=x:=List.mem_singleton.1 (wZ hy)
 unfold zA9
 simp only [wS hy,if_true,wP hy,zob,wR hy (by simp),zL2 y 1 (show y.length<4294967000 by rw [hyx];omega)]
theorem ext_in (y:List Int) (k:Nat) (hy:y.length≤100):zKb y (k:Int)=some (decide (y[k]?=some 1)):=by
 unfold zKb
 rw [if_pos (decide_eq_true (by omega))]
 by_cases hk:k<y.length
 ·have hx:y[k]?=some y[k]:=List.getElem?_eq_getElem hk
  rw [if_pos (decide_eq_true (by simp only [len];omega)),wP hx,hx]
  simp only [zob,Option.some.injEq]
  exact Bool.eq_iff_iff.2 (by simp)
 ·rw [if_neg (by simp only [len,decide_eq_true_eq];omega),List.getElem?_eq_none (by omega)]
  rfl
theorem z6S (l:List (List Int)) (k:Nat) (hl:l.length≤200) (hs:∀ x∈l,x.length≤100):zF4 l (k:Int)=some (l.all fun x=>decide (x[k]?=some 1)):=by
 have h1:zAP l (k:Int)=some (l.any fun x=>!decide (x[k]?=some 1)):=by
  unfold zAP zAy
  refine zVY l (fun x:List Int=>!decide (x[k]?=some 1)) (fun i u hu=>?_) (by unfold zBt;simp [len])
  unfold zBt zKW
  simp only [wS hu,if_true,wP hu,zob,wR hu (show l.length<4294967296 by omega),ext_in u k (hs u (wZ hu))]
  cases decide (u[k]?=some 1) <;> rfl
 unfold zF4
 rw [h1,zob,show (l.all fun x=>decide (x[k]?=some 1))=!(l.any fun x:List Int=>!decide (x[k]?=some 1)) from List.all_eq_not_any_not]
def z6y (l:List (List Int)) (k:Nat):Prop:=∀ x∈l,x[k]?=some 1
theorem zTu (h:vX N L) {l:List (List Int)} (hl:l.length≤200) (hne:l≠[]) (hc:∀ x∈l,∃ f,CL N L f∧x=uT N f) :
  ∃ r lb:List Int,zGL l=some ((wW N).filter fun k=>l.all fun x=>decide (x[k.toNat]?=some 1))∧zCH ((N:Int),L) ((wW N).filter fun k=>l.all fun x=>decide (x[k.toNat]?=some 1))=some (r,0) ∧
   zCN ((N:Int),L) r=some lb∧lb.length=N∧zU2 N L (z6y l) (fun i=>lb[i]?=some 1):=by
 have hN:=h.hN
 have hlen:∀ x∈l,x.length=N:=fun x hx=>by
  obtain ⟨f,_,rfl⟩:=hc x hx
  exact zRU N f
 have hmem:∀ i:Nat,(i:Int)∈((wW N).filter fun k=>l.all fun x=>decide (x[k.toNat]?=some 1))↔z6y l i:=fun i=>by
  rw [List.mem_filter,xJ,List.all_eq_true]
  constructor
  ·rintro ⟨_,h2⟩ x hx
   simpa using h2 x hx
  ·intro hp
   obtain ⟨x,hx⟩:=List.exists_mem_of_ne_nil l hne
   have:=(List.getElem?_eq_some_iff.1 (hp x hx)).1
   rw [hlen x hx] at this
   exact ⟨by omega,fun y hy=>by simpa using hp y hy⟩
 obtain ⟨r,e2,hb,hr,g⟩:=z0f h (l:=(wW N).filter fun k=>l.all fun x=>decide (x[k.toNat]?=some 1)) ((zKO N).filter _) (fun x hx=>xJ.1 (List.mem_filter.1 hx).1) (fun i j hi hj he=>by
  obtain ⟨x,hx⟩:=List.exists_mem_of_ne_nil l hne
  have h1:=(hmem i).1 hi x hx
  have h2:=(hmem j).1 hj x hx
  obtain ⟨f,hf,rfl⟩:=hc x hx
  have hiN:=(List.getElem?_eq_some_iff.1 h1).1
  have hjN:=(List.getElem?_eq_some_iff.1 h2).1
  rw [zRU] at hiN hjN
  rw [zNj hiN] at h1
  rw [zNj hjN] at h2
  have h3:f i=1:=by
              have:((f i:Nat):Int)=1:=by simpa using h1
              omega
  have h4:f j=1:=by
              have:((f j:Nat):Int)=1:=by simpa using h2
              omega
  have:=hf.i1 j hjN h4 i hiN he
  omega)
 obtain ⟨lb,e3,n3,o3⟩:=zZ5 h hb hr
 refine ⟨r,lb,?_,e2,e3,n3,⟨fun i hi=>(hmem i).1 (g.sub i ((o3 i).1 hi)),fun i hi=>zT7 (fun k hk=>(o3 k).2 hk) (g.own i ((o3 i).1 hi)),fun X h1 h2 i hi=>(o3 i).2 (g.all X (fun k hk=>(hmem k).2 (h1 k hk)) h2 i hi)⟩⟩
 unfold zGL
 have hpos:0<l.length:=List.length_pos_iff.2 hne
 have h0:l[0]?=some l[0]:=List.getElem?_eq_getElem hpos
 rw [if_neg (by simp only [len,beq_iff_eq];omega),show (0:Int)=((0:Nat):Int) from rfl,wP h0,zob]
 have hx1:=hlen _ (wZ h0)
 refine (zPv (B:=zE7 l[0] l) (wW N) (fun k=>l.all fun x=>decide (x[k.toNat]?=some 1)) id (by rw [tE];omega) (fun i k s hk=>?_) (fun s=>?_))
 ·obtain ⟨rfl,hi⟩:=zQY hk
  unfold zE7
  dsimp only
  rw [if_pos (decide_eq_true (by simp only [len];omega)),z6S l i hl (fun x hx=>by have:=hlen x hx;omega),zob,Int.toNat_natCast,yM i (by omega)]
 ·unfold zE7
  rw [if_neg (by simp only [len,tE,decide_eq_true_eq];omega)]
  rfl
theorem zVW (h:vX N L) {l:List (List Int)} (e:zAv ((N:Int),L)=some (l,0)) (hl:l.length≤200) (hne:l≠[]) (hc:∀ x∈l,∃ f,CL N L f∧x=uT N f) :
  ∃ lb:List Int,zGB ((N:Int),L)=some (lb,0)∧lb.length=N∧zU2 N L (z6y l) (fun i=>lb[i]?=some 1):=by
 obtain ⟨r,lb,e1,e2,e3,n3,g⟩:=zTu h hl hne hc
 refine ⟨lb,?_,n3,g⟩
 unfold zGB zAi
 rw [e,zob,if_neg (by simp),e1,zob,e2,zob,if_neg (by simp),e3]
 rfl
theorem zUa (h:vX N L) {l:List (List Int)} (e:zAk ((N:Int),L)=some (l,0)) (hl:l.length≤200) (hne:l≠[]) (hc:∀ x∈l,∃ f,CL N L f∧x=uT N f) :
  ∃ lb:List Int,zGA ((N:Int),L)=some (lb,0)∧lb.length=N∧zU2 N L (z6y l) (fun i=>lb[i]?=some 1):=by
 obtain ⟨r,lb,e1,e2,e3,n3,g⟩:=zTu h hl hne hc
 refine ⟨lb,?_,n3,g⟩
 unfold zGA zA7
 rw [e,zob,if_neg (by simp),e1,zob,e2,zob,if_neg (by simp),e3]
 rfl
theorem zO0 (h:vX N L) {q:Int} {v:List (List Int)×Int} (hq:(q=2∧zAW ((N:Int),L)=some v)∨(q=3∧zAE ((N:Int),L)=some v)∨(q=4∧zAS ((N:Int),L)=some v) ∨
  (q=5∧zAD ((N:Int),L)=some v)∨(q=6∧zAN ((N:Int),L)=some v)∨(q=7∧zAO ((N:Int),L)=some v)):zBT ((N:Int),L) q=some v:=by
 unfold zBT
 rw [h.v1]
 simp only [zob,bne_self_eq_false,zbf,if_false,zVg]
 rcases hq with ⟨rfl,e⟩ | ⟨rfl,e⟩ | ⟨rfl,e⟩ | ⟨rfl,e⟩ | ⟨rfl,e⟩ | ⟨rfl,e⟩ <;>
 ·repeat rw [if_neg (by decide)]
  rw [if_pos (by decide),e]
  rfl
theorem most {μ:List Int->Nat}:∀ {l:List (List Int)},l≠[]->∃ y∈l,∀ x∈l,μ x≤μ y
 | [],h=>absurd rfl h
 | a::l,_=>by
  by_cases h:l=[]
  ·subst h;exact ⟨a,by simp,by simp⟩
  ·obtain ⟨y,h1,h2⟩:=most (μ:=μ) h
   by_cases hc:μ a≤μ y
   ·exact ⟨y,List.mem_cons_of_mem _ h1,fun x hx=>by
     rcases List.mem_cons.1 hx with rfl | hx
     ·exact hc
     ·exact h2 x hx⟩
   ·exact ⟨a,List.mem_cons_self,fun x hx=>by
     rcases List.mem_cons.1 hx with rfl | hx
     ·exact Nat.le_refl _
     ·have:=h2 x hx;omega⟩
theorem z5Q {p:List Int->List Int->Bool} {μ:List Int->Nat} {l:List (List Int)} (hp:∀ x∈l,∀ y∈l,p x y=true->μ y<μ x) (hne:l≠[]):zRW p l≠[]:=by
 obtain ⟨y,h1,h2⟩:=most (μ:=μ) hne
 refine List.ne_nil_of_mem (a:=y) (List.mem_filter.2 ⟨h1,?_⟩)
 rw [Bool.not_eq_true',List.any_eq_false]
 intro x hx hpx
 have:=h2 x hx
 have:=hp x hx y h1 hpx
 omega
end
end
section
section
variable {N:Nat} {L:List wD}
open Classical in
theorem z43 {ls:List (List Int)} (hne:ls≠[]) (hc:∀ x∈ls,∃ f,CL N L f∧x=uT N f) {Z:Nat->Prop} (hg:zU2 N L (z6y ls) Z):∃ f,CL N L f∧∀ i,i<N->(Z i↔f i=1):=by
 obtain ⟨x0,hx0⟩:=List.exists_mem_of_ne_nil ls hne
 have hcom:∀ g,CL N L g->uT N g∈ls->∀ i,Z i->g i=1:=fun g _ hm i hi=>by
  have:=hg.sub i hi _ hm
  rw [zNj (hg.own i hi).1,Option.some.injEq] at this
  omega
 have hfree:∀ i k,Z i->Z k->¬ yJ L k i:=fun i k hi hk he=>by
  obtain ⟨f0,hf0,rfl⟩:=hc x0 hx0
  have h1:=hcom f0 hf0 hx0 i hi
  have h2:=hcom f0 hf0 hx0 k hk
  have:=hf0.i1 i (hg.own i hi).1 h1 k (hg.own k hk).1 he
  omega
 refine ⟨fun i=>if Z i then 1 else if ∃ k,yJ L k i∧Z k then 2 else 3,⟨fun i _=>?_,fun i hi h1 j hj he=>?_,fun i hi h2=>?_,fun i hi h3=>?_⟩,fun i _=>?_⟩
 ·by_cases h1:Z i
  ·exact .inl (if_pos h1)
  ·by_cases h2:∃ k,yJ L k i∧Z k
   ·exact .inr (.inl (by rw [if_neg h1,if_pos h2]))
   ·exact .inr (.inr (by rw [if_neg h1,if_neg h2]))
 ·have hz:Z i:=Classical.byContradiction fun hn=>by
   rw [if_neg hn] at h1
   split at h1 <;> omega
  have hnj:¬ Z j:=fun hzj=>hfree i j hz hzj he
  show (if Z j then _ else _)=_
  rw [if_neg hnj,if_pos ((hg.own i hz).2 j hj he)]
 ·have hn:¬ Z i:=fun hz=>by rw [if_pos hz] at h2;omega
  rw [if_neg hn] at h2
  have hex:∃ k,yJ L k i∧Z k:=Classical.byContradiction fun hne=>by rw [if_neg hne] at h2;omega
  obtain ⟨k,h1,hk⟩:=hex
  exact ⟨k,(hg.own k hk).1,h1,if_pos hk⟩
 ·have hn:¬ Z i:=fun hz=>by rw [if_pos hz] at h3;omega
  rw [if_neg hn] at h3
  have hno:¬ ∃ k,yJ L k i∧Z k:=fun hex=>by rw [if_pos hex] at h3;omega
  refine ⟨Classical.byContradiction fun hall=>hn ?_,fun j _ he hj=>?_⟩
  ·have hdf:∀ j,j<N->yJ L j i->∃ k,yJ L k j∧Z k:=fun j hj he=>Classical.byContradiction fun hk=>hall ⟨j,hj,he,by
    have hzj:¬ Z j:=fun hz=>hno ⟨j,he,hz⟩
    show (if Z j then _ else _)=_
    rw [if_neg hzj,if_neg hk]⟩
   refine hg.all (fun a=>Z a∨a=i) (fun a ha=>?_) (fun a ha=>?_) i (.inr rfl)
   ·rcases ha with ha | rfl
    ·exact hg.sub a ha
    ·intro x hx
     obtain ⟨g,hgc,rfl⟩:=hc x hx
     have h1:g a=1:=hgc.one hi fun j hj he=>by
      obtain ⟨k,hk1,hk2⟩:=hdf j hj he
      exact hgc.two hj (hg.own k hk2).1 hk1 (hcom g hgc hx k hk2)
     rw [zNj hi,h1]
     rfl
   ·rcases ha with ha | rfl
    ·exact zT7 (fun k hk=>.inl hk) (hg.own a ha)
    ·exact ⟨hi,fun j hj he=>by obtain ⟨k,h1,h2⟩:=hdf j hj he;exact ⟨k,h1,.inl h2⟩⟩
  ·have hz:Z j:=Classical.byContradiction fun hn'=>by
    rw [if_neg hn'] at hj
    split at hj <;> omega
   exact hno ⟨j,he,hz⟩
 ·show Z i↔(if Z i then 1 else _)=1
  by_cases hz:Z i
  ·simp [hz]
  ·rw [if_neg hz]
   constructor
   ·exact fun h=>absurd h hz
   ·intro h;split at h <;> omega
def z6V (N:Nat) (L:List wD) (es:List (List Int)):Prop:=∀ s∈es,∃ (lb:List Int) (f:Nat->Nat),s=uL lb 1∧lb.length=N∧CL N L f∧∀ i,i<N->(lb[i]?=some 1↔f i=1)
theorem zNx {l:List (List Int)} (hc:∀ x∈l,∃ f,CL N L f∧x=uT N f):z6V N L (l.map fun x=>uL x 1):=fun s hs=>by
 obtain ⟨x,hx,rfl⟩:=List.mem_map.1 hs
 obtain ⟨f,hf,rfl⟩:=hc x hx
 exact ⟨uT N f,f,rfl,zRU N f,hf,fun i hi=>by rw [zNj hi,Option.some.injEq];omega⟩
theorem z6M (h:vX N L) (q:Int) (q1:1≤q) (q7:q≤7):(∃ es,zBT ((N:Int),L) q=some (es,0)∧es.length≤200∧z6V N L es)∨zBT ((N:Int),L) q=some ([],2):=by
 have hN:=h.hN
 by_cases hq1:q=1
 ·subst hq1
  refine .inl ⟨_,zXI h,by simp,fun s hs=>?_⟩
  rw [List.mem_singleton] at hs
  subst hs
  refine ⟨zQT N L,_,rfl,zG5 _ _,zUj h,fun i hi=>?_⟩
  show (qU N (vD N L (N+1)))[i]?=some 1↔_
  rw [zIk,if_pos hi,Option.some.injEq,zWN N L (fun i=>zT2 N L) (N+1) (by omega) i]
  rcases zPI N L N i with e | e | e <;> rw [e] <;> decide
 ·obtain ⟨l,h1,h2,h3⟩:=zTz h
  have hlen:∀ x∈l,x.length=N:=fun x hx=>by
   obtain ⟨f,_,rfl⟩:=h1 x hx
   exact zRU N f
  have hcase:q=2∨q=3∨q=4∨q=5∨q=6∨q=7:=by omega
  rcases h3 with ⟨e1,e2,e3⟩ | ⟨e1,_⟩
  ·left
   have hne:l≠[]:=List.ne_nil_of_mem (e3 _ (zUj h))
   have tp:=zWO hN e1 e2 hlen
   have tt:=z1C hN e1 e2 hlen
   have ts:=zVT hN e1 e2 hlen
   have tl:∀ p,(zRW p l).length≤200:=fun p=>Nat.le_trans (z5v p l) e2
   have tc:∀ p,∀ x∈zRW p l,∃ f,CL N L f∧x=uT N f:=fun p x hx=>h1 x (z2U x hx)
   have tn:∀ p,∀ x∈zRW p l,x.length=N:=fun p x hx=>hlen x (z2U x hx)
   have hpn:zRW zWj l≠[]:=z5Q (μ:=fun x=>(uL x 1).length) (fun x _ y _ h=>by
    unfold zWj z11 at h
    simp only [Bool.and_eq_true,decide_eq_true_eq] at h
    exact h.1) hne
   have hsn:zRW zW5 l≠[]:=z5Q (μ:=fun x=>1000-(uL x 3).length) (fun x hx y hy h=>by
    unfold zW5 z11 at h
    simp only [Bool.and_eq_true,decide_eq_true_eq] at h
    have h1:=h.1
    have h2:=zJc y 3
    rw [hlen y hy] at h2
    omega) hne
   have hone:∀ {lb:List Int} {ls:List (List Int)},ls≠[]->(∀ x∈ls,∃ f,CL N L f∧x=uT N f)->lb.length=N->zU2 N L (z6y ls) (fun i=>lb[i]?=some 1)->z6V N L [uL lb 1]:=fun {lb ls} a b c d s hs=>by
    rw [List.mem_singleton] at hs
    subst hs
    obtain ⟨f,hf,hi⟩:=z43 a b d
    exact ⟨lb,f,rfl,c,hf,hi⟩
   rcases hcase with rfl | rfl | rfl | rfl | rfl | rfl
   ·exact ⟨_,zO0 h (.inl ⟨rfl,zWH hN e1 e2 hlen⟩),by rw [List.length_map];exact e2,zNx h1⟩
   ·exact ⟨_,zO0 h (.inr (.inl ⟨rfl,zUy hN tp (tl _) (tn _)⟩)),by rw [List.length_map];exact tl _,zNx (tc _)⟩
   ·exact ⟨_,zO0 h (.inr (.inr (.inl ⟨rfl,zYd hN tt (tl _) (tn _)⟩))),by rw [List.length_map];exact tl _,zNx (tc _)⟩
   ·exact ⟨_,zO0 h (.inr (.inr (.inr (.inl ⟨rfl,zUn hN ts (tl _) (tn _)⟩)))),by rw [List.length_map];exact tl _,zNx (tc _)⟩
   ·obtain ⟨lb,c1,n1,g1⟩:=zVW h tp (tl _) hpn (tc _)
    exact ⟨_,zO0 h (.inr (.inr (.inr (.inr (.inl ⟨rfl,z0h (by omega) c1⟩))))),by simp,hone hpn (tc _) n1 g1⟩
   ·obtain ⟨lb,c1,n1,g1⟩:=zUa h ts (tl _) hsn (tc _)
    exact ⟨_,zO0 h (.inr (.inr (.inr (.inr (.inr ⟨rfl,z0a (by omega) c1⟩))))),by simp,hone hsn (tc _) n1 g1⟩
  ·right
   rcases hcase with rfl | rfl | rfl | rfl | rfl | rfl
   ·exact zO0 h (.inl ⟨rfl,by unfold zAW;rw [e1];rfl⟩)
   ·exact zO0 h (.inr (.inl ⟨rfl,by unfold zAE zAv zAK;rw [e1];rfl⟩))
   ·exact zO0 h (.inr (.inr (.inl ⟨rfl,by unfold zAS zCW zAh;rw [e1];rfl⟩)))
   ·exact zO0 h (.inr (.inr (.inr (.inl ⟨rfl,by unfold zAD zAk zAF;rw [e1];rfl⟩))))
   ·exact zO0 h (.inr (.inr (.inr (.inr (.inl ⟨rfl,by unfold zAN zBG zGB zAi zAv zAK;rw [e1];rfl⟩)))))
   ·exact zO0 h (.inr (.inr (.inr (.inr (.inr ⟨rfl,by unfold zAO zBF zGA zA7 zAk zAF;rw [e1];rfl⟩)))))
end
end
section
section
variable {b:zO} {l:List zI} {o:yN} {acc:List zG} {f:Nat->Nat}
structure InL (l:List zI) (f:Nat->Nat) (s:List Int):Prop where
 mem:∀ i:Int,i∈s↔Inn l f i
 len:s.length≤40
theorem z5I (hl:l.length≤40) {lb:List Int} (hn:lb.length=l.length) (h:∀ i:Nat,i<l.length->(lb[i]?=some 1↔f i=1)):InL l f (uL lb 1):=by
 have hw:=zJc lb 1
 refine ⟨fun i=>?_,by omega⟩
 constructor
 ·intro hi
  have hr:=xJ.1 (List.mem_filter.1 hi).1
  obtain ⟨n,rfl⟩:=Int.eq_ofNat_of_zero_le hr.1
  refine ⟨hr.1,by omega,?_⟩
  rw [Int.toNat_natCast]
  exact (h n (by omega)).1 (zXK.1 hi)
 ·rintro ⟨h0,h1,h2⟩
  obtain ⟨n,rfl⟩:=Int.eq_ofNat_of_zero_le h0
  rw [Int.toNat_natCast] at h2
  exact zXK.2 ((h n (by omega)).2 h2)
theorem z6o {s:List Int} (h:InL l f s) (x:zG):x∈zZe l s↔Out l f x:=by
 rw [zZe,(zKd zSN _).2,List.mem_flatMap]
 constructor
 ·rintro ⟨i,hi,hx⟩
  unfold zSe at hx
  cases ha:zF l i with
  | none=>rw [ha] at hx;cases hx
  | some a =>
   rw [ha] at hx
   exact ⟨i,a,(h.mem i).1 hi,ha,(List.mem_singleton.1 hx).symm⟩
 ·rintro ⟨i,a,h1,ha,rfl⟩
  refine ⟨i,(h.mem i).2 h1,?_⟩
  unfold zSe
  rw [ha]
  exact List.mem_singleton.2 rfl
theorem zSd (y:List zG) (x:zG) (h:y.length≤100):zBn x y=some (!decide (x∈y)):=by
 unfold zBn
 rw [zYr x (by omega)]
 rfl
theorem z5G (y q:List zG) (h:y.length≤100) (hq:q.length<4294967296):zAH q y=some (q.any fun x=>!decide (x∈y)):=by
 unfold zAH zBW
 refine zVY q _ (fun i u hu=>?_) (by unfold zBP;simp [len])
 unfold zBP
 simp only [wS hu,if_true,wP hu,zob,zSd y u h,wR hu hq]
 cases decide (u∈y) <;> rfl
theorem z2T (hS:z0G b l) (hf:CL l.length (tA (uA b acc) l o) f) {s:List Int} (hs:InL l f s) :
  zEM (uA b acc,l,zDZ (uA b acc) l o,((l.length:Int),tA (uA b acc) l o)) s=some []:=by
 obtain ⟨D,c,hsm⟩:=hS.small
 have hv:=hsm.valid
 have hnr:=hv.nr
 have hW:=zMe hsm hS.bld
 have hB:FormB (uA b acc) l:=zUR hW.form.toFormC.toFormB
 obtain ⟨g1,g2⟩:=z1p hS o acc hf
 have hl:=hs.len
 have hlen:=z03 l s
 generalize hz:zZe l s=z at hlen
 have hzm:∀ x,x∈z↔Out l f x:=fun x=>by rw [←hz];exact z6o hs x
 unfold zEM zIw
 simp only [zob]
 unfold zHq
 rw [zPN s (by omega),zob,show xM vH (s.flatMap (zSe l))=z from hz]
 have h1:zU (zDW (uA b acc,l,zDZ (uA b acc) l o,((l.length:Int),tA (uA b acc) l o)) z) 0=some (.inl ()):=by
  refine zPm (l:=(uA b acc).2.1) (fun i r hr=>?_) (by unfold zDW;simp [len])
  have hrl:(uA b acc).2.1.length<4294967296:=by simp only [uA,List.length_map];omega
  unfold zDW
  dsimp only
  simp only [wS hr,if_true,wP hr,zob]
  obtain ⟨r',e1,rfl⟩:=List.mem_map.1 (wZ hr)
  have hbl:r'.2.2.2.1.length≤4:=zR2 (hv.rule r' e1)
  show ((if r'.2.1=true then (zBn r'.2.2.2.2 z).bind _ else some false).bind _)=_
  rw [zSd z _ (by omega),zob]
  have hc:(if r'.2.1=true then (if (!decide (r'.2.2.2.2∈z))=true then (zAH r'.2.2.2.1 z).bind (fun r3=>if (!r3)=true then none else some false) else some false) else some false:Option Bool)=some false:=by
   cases hst:r'.2.1 with
   | false=>rfl
   | true =>
    cases hd:decide (r'.2.2.2.2∈z) with
    | true=>rfl
    | false =>
     rw [z5G z _ (by omega) (by omega)]
     have:(r'.2.2.2.1.any fun x=>!decide (x∈z))=true:=by
      apply Classical.byContradiction
      intro hno
      have hall:∀ x∈r'.2.2.2.1,x∈z:=fun x hx=>by
       have:=List.any_eq_false.1 (Bool.eq_false_iff.2 hno) x hx
       simpa using this
      have:=(hzm _).2 (g1 r'.2.2.2.2 (uD.rule e1 hst fun x hx=>uD.base (.inl ((hzm x).1 (hall x hx)))))
      rw [decide_eq_false_iff_not] at hd
      exact hd this
     rw [this]
     rfl
  erw [hc]
  simp only [zob,zbf,if_false]
  rw [wR hr hrl]
 have h2:zU (zDP z) 0=some (.inl ()):=by
  refine zPm (l:=z) (fun i x hx=>?_) (by unfold zDP;simp [len])
  unfold zDP
  simp only [wS hx,if_true,wP hx,zob]
  have hno:¬ xG x∈z:=fun hc=>g2 x ⟨(hzm x).1 (wZ hx),(hzm _).1 hc⟩
  rw [show zDk x=some (xG x) from rfl,zob,zSd z _ (by omega),decide_eq_false hno]
  cases x.1 <;> simp [wR hx (show z.length<4294967296 by omega)]
 rw [h1]
 show Option.bind (yD _ _) _=_
 rw [h2]
 show Option.bind (Option.bind _ _) _=_
 have hsr:∀ i∈s,0≤i∧i<(l.length:Int):=fun i hi=>⟨((hs.mem i).1 hi).1,((hs.mem i).1 hi).2.1⟩
 have h3:=zDz (B:=zD7 s (uA b acc,l,zDZ (uA b acc) l o,((l.length:Int),tA (uA b acc) l o))) s (fun u i=>u++yB l i) id (fun i u=>u.length≤16*i) ([]:List Int) (by simp) ?_ ?_
 ·rw [h3.1]
  have hT:=h3.2
  generalize hTe:s.foldl (fun u i=>u++yB l i) []=T at hT
  rw [zHA,List.nil_append] at hTe
  have hsl:=hs.len
  show Option.bind (Option.bind (zBQ T) _) _=_
  rw [zT6 (by omega)]
  have h4:zU (zDV (xM yS T) s) 0=some ():=by
   have hnl:=zS1 yS T
   refine zPm (l:=xM yS T) (fun i j hj=>?_) (by unfold zDV;simp [len])
   have hjT:=(z3I T _).1 (wZ hj)
   rw [←hTe,List.mem_flatMap] at hjT
   obtain ⟨k,hk,hjk⟩:=hjT
   obtain ⟨k0,k1⟩:=hsr k hk
   have hjs:j∈s:=(hs.mem j).2 (z30 hB hf ((hs.mem k).1 hk) ((zC4 hB.toFormA k0 k1 j).1 hjk))
   unfold zDV
   simp only [wS hj,if_true,wP hj,zob]
   rw [zJJ s j (by omega),decide_eq_true hjs]
   simp only [zob,Bool.not_true,zbf,if_false]
   rw [wR hj (by omega)]
  rw [h4]
  rfl
 ·intro i j u hj hI
  obtain ⟨j0,j1⟩:=hsr j (wZ hj)
  have hsub:=zIe l j
  have hsl:=hs.len
  have hll:=hS.len
  have hi:=vF hj
  unfold zD7
  dsimp only
  simp only [wS hj,if_true,wP hj,zob]
  rw [zT3 hB.toFormA j0 j1,zob,vY (by omega),zob,wR hj (by omega)]
  exact ⟨rfl,by rw [List.length_append];omega⟩
 ·intro u _
  unfold zD7
  simp [len]
end
theorem zTX (hw:zE9=some true) (y0:List Int):zEP y0=some true:=by
 unfold zEP
 rw [z3r,zob]
 obtain ⟨⟨b,g,k⟩,e1,hk,hg⟩:=Ok.sound (z2h y0) (n:=3) (by omega) (by omega)
 dsimp only at hk hg
 rw [e1,zob]
 cases g with
 | false=>simp [hw]
 | true =>
  obtain ⟨l,hS⟩:=hg rfl
  obtain ⟨D,c,hs⟩:=hS.small
  have hl:=hS.len
  simp only [Bool.not_true,zbf,if_false]
  rw [zVR,zob]
  have h1:zU (zDE ords (b,true,k)) 0=some (.inl ()):=by
   refine zPm (l:=ords) (fun i o ho=>?_) (by unfold zDE;rfl)
   have hi:i<4:=vF ho
   unfold zDE
   simp only [wS ho,if_true,wP ho,zob]
   rw [zUF hs hS.bld (z48 (wP ho)),zob,if_neg (by simp)]
   have hG:=(zPU (b:=uA b (z4D b l o)) (l:=l) (by omega) o).2
   have hgr:(z4A b l o).2.2.2=((l.length:Int),tA (uA b (z4D b l o)) l o):=rfl
   have hstep:∀ q:Nat,1≤q->q≤7->zDF (z4A b l o,0) (i:Int) (q:Int)=some (.inl ((q+1:Nat):Int)):=fun q q1 q7=>by
    unfold zDF
    rw [if_pos (decide_eq_true (by omega)),hgr]
    rcases z6M hG (q:Int) (by omega) (by omega) with ⟨es,f1,f2,f3⟩ | f1
    ·rw [f1,zob,if_neg (by simp),if_neg (by simp)]
     refine zPm (l:=es) (fun j s hj=>?_) (by unfold zFA;simp [len,yM q (by omega)])
     obtain ⟨lb,f,rfl,hn,hf,hin⟩:=f3 s (wZ hj)
     unfold zFA
     simp only [wS hj,if_true,wP hj,zob]
     rw [show zEM (z4A b l o) (uL lb 1)=some [] from z2T hS hf (z5I (by omega) hn hin),zob,if_neg (by decide),wR hj (by omega)]
    ·rw [f1,zob,if_pos (by decide),yM q (by omega)]
   rw [show (1:Int)=((1:Nat):Int) from rfl,zP0 (hstep 1 (by omega) (by omega)),zP0 (hstep 2 (by omega) (by omega)),zP0 (hstep 3 (by omega) (by omega)),zP0 (hstep 4 (by omega) (by omega)),zP0 (hstep 5 (by omega) (by omega)),zP0 (hstep 6 (by omega) (by omega)),zP0 (hstep 7 (by omega) (by omega))]
   refine z1n ?_
   unfold zDF
   rw [if_neg (by decide),yM i (by omega)]
  rw [h1]
  show zE9.bind _=_
  rw [hw]
  rfl
end
section
def zBs (_:Nat) (l:List wV):Option (List wV):=if l.length<4294967296 then some (zTp lt4 l) else none
def zCP (_:Nat) (l:List wD):Option (List wD):=if l.length<4294967296 then some (zTp xY l) else none
def zFx (_:Nat) (l:List Int):Option (List Int):=if l.length<4294967296 then some (zTp yS l) else none
theorem zGJ (n:Nat) (l:List wV):Le (zBs n l) (zAc l):=⟨fun r h=>by
 unfold zBs at h
 split at h
 ·rename_i hl;rw [zSp hl,zOE z6u];exact h
 ·cases h⟩
theorem zHr (n:Nat) (l:List wD):Le (zCP n l) (zBE l):=⟨fun r h=>by
 unfold zCP at h
 split at h
 ·rename_i hl;rw [zVl hl,zOE z3m];exact h
 ·cases h⟩
theorem zJU (n:Nat) (l:List Int):Le (zFx n l) (zBQ l):=⟨fun r h=>by
 unfold zFx at h
 split at h
 ·rename_i hl;unfold zBQ;rw [zTf hl];exact h
 ·cases h⟩
def zBr (_:Nat) (l:List zG):Option (List zG):=if l.length<4294967296 then some (zTp vH l) else none
theorem zGQ (n:Nat) (l:List zG):Le (zBr n l) (zAR l):=⟨fun r h=>by
 unfold zBr at h
 split at h
 ·rename_i hl;rw [zZy hl,zOE zSN];exact h
 ·cases h⟩
end
section
noncomputable section
def zNk (n_:Nat) y0 s1:Tw (zGT y0 s1):=by
 delta zGT
 repeat with_reducible (first | intro _ | apply ti | apply ts | apply tb | apply tl n_ | exact td _)
def zIW (n_:Nat) y0:Tw (zBV y0):=by
 delta zBV
 repeat with_reducible (first | intro _ | apply zNk n_ | apply ti | apply ts | apply tb | apply tl n_ | exact td _)
def zI2 (n_:Nat) (y0:List Int):=(zIW n_ y0).1
theorem zKh (n_:Nat) (y0:List Int):Le (zI2 n_ y0) (zBV y0):=(zIW n_ y0).2
def zN6 (n_:Nat) (y0:List Int):Tw (zBQ y0):=⟨zFx n_ y0,zJU n_ y0⟩
def zJY (n_:Nat) (x1:zI) (rec_argument_Subs:(List zI)->Int->Option (List Int)) (y0:List zI) (s2:(List Int)×Int):Option (((List Int)×Int)⊕(List Int)) :=
 if decide (s2.2<(len x1.2.2.1)) then
  (zF x1.2.2.1 s2.2).bind fun x2 =>
  (rec_argument_Subs y0 x2).bind fun r2 =>
  (wE s2.1 r2).bind fun x3 =>
  some (.inl (x3,zS (s2.2+1)))
 else
  some (.inr s2.1)
theorem zQp (n_:Nat) (x1:zI) {rec_argument_Subs rec_argument_Subs':(List zI)->Int->Option (List Int)} (h_rec_argument_Subs:∀ u0 u1,Le (rec_argument_Subs u0 u1) (rec_argument_Subs' u0 u1)) (y0:List zI) (s2:(List Int)×Int):Le (zJY n_ x1 rec_argument_Subs y0 s2) (zDS x1 rec_argument_Subs' y0 s2):=by
 unfold zJY zDS
 repeat with_reducible (first | intro _ | apply h_rec_argument_Subs | exact Le.refl _ | apply Le.ite | apply Le.seqE | apply Le.bind | apply Le.lp | exact Le.none _)
def zLM (n_:Nat) (rec_argument_Subs:(List zI)->Int->Option (List Int)) (y0:List zI) (y1:Int):Option (List Int) :=
 (zBY y0 y1).bind fun r1 =>
 if !r1 then
  some ([]:List Int)
 else
  (
   (zF y0 y1).bind fun x1 =>
   (lp n_) ((zJY n_) x1 rec_argument_Subs y0) (([y1]:List Int),0):Option (List Int)).bind fun s1 =>
  ((zFx n_) s1).bind fun r3 =>
  ((zI2 n_) r3).bind fun r4 =>
  some r4
theorem zSS (n_:Nat) {rec_argument_Subs rec_argument_Subs':(List zI)->Int->Option (List Int)} (h_rec_argument_Subs:∀ u0 u1,Le (rec_argument_Subs u0 u1) (rec_argument_Subs' u0 u1)) (y0:List zI) (y1:Int):Le (zLM n_ rec_argument_Subs y0 y1) (zFa rec_argument_Subs' y0 y1):=by
 unfold zLM zFa
 repeat with_reducible (first | intro _ | apply h_rec_argument_Subs | apply zKh | apply zJU | apply zQp | exact Le.refl _ | apply Le.ite | apply Le.seqE | apply Le.bind | apply Le.lp | exact Le.none _)
def zKu (n_:Nat):Nat->(List zI)->Int->Option (List Int)
 | 0=>fun _ _=>none
 | k+1=>fun y0 y1=>(zLM n_) ((zKu n_) k) y0 y1
theorem zNc (n_:Nat):∀ (k m:Nat),k≤m->∀ u0 u1,Le (zKu n_ k u0 u1) (zDM m u0 u1)
 | 0,_,_=>fun u0 u1=>Le.none _
 | k+1,m,h=>fun u0 u1=>by
  obtain ⟨m,rfl⟩:∃ q,m=q+1:=⟨m-1,by omega⟩
  exact zSS n_ (zNc n_ k m (by omega)) _ _
def zPC (n_:Nat) (y0:List zI) (y1:Int):Option (List Int) :=
 zKu n_ n_ y0 y1
theorem zTP (n_:Nat) (y0:List zI) (y1:Int):Le (zPC n_ y0 y1) (zDN y0 y1):=Le.lim n_ fun m h=>zNc n_ n_ m h _ _
def zMK (n_:Nat) (y0:List zI) (y1:Int):Tw (zDN y0 y1):=⟨zPC n_ y0 y1,zTP n_ y0 y1⟩
def zKe (n_:Nat) y0 y1 y2:Tw (zCG y0 y1 y2):=by
 delta zCG
 repeat with_reducible (first | intro _ | apply zMK n_ | apply zN6 n_ | apply zIW n_ | apply ti | apply ts | apply tb | apply tl n_ | exact td _)
def zKR (n_:Nat) (x4:zI) (rec_argument_run:zO->(List zI)->Int->Option (List zG)) (y0:zO) (y1:List zI) (s2:(List zG)×Int):Option (((List zG)×Int)⊕(List zG)) :=
 if decide (s2.2<(len x4.2.2.1)) then
  (zF x4.2.2.1 s2.2).bind fun x5 =>
  (rec_argument_run y0 y1 x5).bind fun r1 =>
  (wE s2.1 r1).bind fun x6 =>
  some (.inl (x6,zS (s2.2+1)))
 else
  some (.inr s2.1)
theorem zRS (n_:Nat) (x4:zI) {rec_argument_run rec_argument_run':zO->(List zI)->Int->Option (List zG)} (h_rec_argument_run:∀ u0 u1 u2,Le (rec_argument_run u0 u1 u2) (rec_argument_run' u0 u1 u2)) (y0:zO) (y1:List zI) (s2:(List zG)×Int):Le (zKR n_ x4 rec_argument_run y0 y1 s2) (zIT x4 rec_argument_run' y0 y1 s2):=by
 unfold zKR zIT
 repeat with_reducible (first | intro _ | apply h_rec_argument_run | exact Le.refl _ | apply Le.ite | apply Le.seqE | apply Le.bind | apply Le.lp | exact Le.none _)
def zMC (n_:Nat) (rec_argument_run:zO->(List zI)->Int->Option (List zG)) (y0:zO) (y1:List zI) (y2:Int):Option (List zG) :=
 (zF y1 y2).bind fun x1 =>
 (zF y1 y2).bind fun x2 =>
 (
  if decide (0≤x2.2.1) then
   (zF y0.2.1 x2.2.1).bind fun x3 =>
   some x3.2.1
  else
   some false:Option Bool).bind fun s1 =>
 if s1 then
  (zF y1 y2).bind fun x4 =>
  (lp n_) ((zKR n_) x4 rec_argument_run y0 y1) (([x1.2.2.2]:List zG),0)
 else
  some ([x1.2.2.2]:List zG)
theorem zTE (n_:Nat) {rec_argument_run rec_argument_run':zO->(List zI)->Int->Option (List zG)} (h_rec_argument_run:∀ u0 u1 u2,Le (rec_argument_run u0 u1 u2) (rec_argument_run' u0 u1 u2)) (y0:zO) (y1:List zI) (y2:Int):Le (zMC n_ rec_argument_run y0 y1 y2) (zHD rec_argument_run' y0 y1 y2):=by
 unfold zMC zHD
 repeat with_reducible (first | intro _ | apply h_rec_argument_run | apply zRS | exact Le.refl _ | apply Le.ite | apply Le.seqE | apply Le.bind | apply Le.lp | exact Le.none _)
def zLy (n_:Nat):Nat->zO->(List zI)->Int->Option (List zG)
 | 0=>fun _ _ _=>none
 | k+1=>fun y0 y1 y2=>(zMC n_) ((zLy n_) k) y0 y1 y2
theorem zOZ (n_:Nat):∀ (k m:Nat),k≤m->∀ u0 u1 u2,Le (zLy n_ k u0 u1 u2) (zDC m u0 u1 u2)
 | 0,_,_=>fun u0 u1 u2=>Le.none _
 | k+1,m,h=>fun u0 u1 u2=>by
  obtain ⟨m,rfl⟩:∃ q,m=q+1:=⟨m-1,by omega⟩
  exact zTE n_ (zOZ n_ k m (by omega)) _ _ _
def zQ9 (n_:Nat) (y0:zO) (y1:List zI) (y2:Int):Option (List zG) :=
 zLy n_ n_ y0 y1 y2
theorem zUe (n_:Nat) (y0:zO) (y1:List zI) (y2:Int):Le (zQ9 n_ y0 y1 y2) (zFB y0 y1 y2):=Le.lim n_ fun m h=>zOZ n_ n_ m h _ _ _
def zUu (n_:Nat) (y0:zO) (y1:List zI) (y2:Int):Tw (zFB y0 y1 y2):=⟨zQ9 n_ y0 y1 y2,zUe n_ y0 y1 y2⟩
def zOa (n_:Nat) y0 y1:Tw (zC0 y0 y1):=by
 delta zC0
 repeat with_reducible (first | intro _ | apply ti | apply ts | apply tb | apply tl n_ | exact td _)
def zMu (n_:Nat) y0 y1:Tw (zC5 y0 y1):=by
 delta zC5
 repeat with_reducible (first | intro _ | apply zOa n_ | apply ti | apply ts | apply tb | apply tl n_ | exact td _)
def zOC (n_:Nat) y0 y1:Tw (zDr y0 y1):=by
 delta zDr
 repeat with_reducible (first | intro _ | apply zMu n_ | apply ti | apply ts | apply tb | apply tl n_ | exact td _)
def zRa (n_:Nat) y0 y1:Tw (zEr y0 y1):=by
 delta zEr
 repeat with_reducible (first | intro _ | apply ti | apply ts | apply tb | apply tl n_ | exact td _)
def zDG (n_:Nat) y0 y1:Tw (zAx y0 y1):=by
 delta zAx
 repeat with_reducible (first | intro _ | apply zRa n_ | apply ti | apply ts | apply tb | apply tl n_ | exact td _)
def zQL (n_:Nat) y3 y0 y2 y1 s1:Tw (zCp y3 y0 y2 y1 s1):=by
 delta zCp
 repeat with_reducible (first | intro _ | apply zUu n_ | apply zOC n_ | apply zKe n_ | apply zDG n_ | apply ti | apply ts | apply tb | apply tl n_ | exact td _)
def zNe (n_:Nat) y0 y1 y2 y3:Tw (zCz y0 y1 y2 y3):=by
 delta zCz
 repeat with_reducible (first | intro _ | apply zQL n_ | apply ti | apply ts | apply tb | apply tl n_ | exact td _)
def zN5 (n_:Nat) (y0:zO) (y1:List zI) (y2:Int) (y3:List Int):=(zNe n_ y0 y1 y2 y3).1
theorem zRt (n_:Nat) (y0:zO) (y1:List zI) (y2:Int) (y3:List Int):Le (zN5 n_ y0 y1 y2 y3) (zCz y0 y1 y2 y3):=(zNe n_ y0 y1 y2 y3).2
def zEv (n_:Nat) y0 y2:Tw (zAT y0 y2):=by
 delta zAT
 repeat with_reducible (first | intro _ | apply ti | apply ts | apply tb | apply tl n_ | exact td _)
def zCD (n_:Nat) y0 y2:Tw (zAA y0 y2):=by
 delta zAA
 repeat with_reducible (first | intro _ | apply zEv n_ | apply ti | apply ts | apply tb | apply tl n_ | exact td _)
def zCM (n_:Nat) (y0:List Int) (y2:uU):=(zCD n_ y0 y2).1
theorem zDu (n_:Nat) (y0:List Int) (y2:uU):Le (zCM n_ y0 y2) (zAA y0 y2):=(zCD n_ y0 y2).2
def zDf (n_:Nat) (y0:uU) (x1:qL) (y2:List Int) (rec_argument_builder_apply_2:uU->Int->(List Int)->Option (List zI)) (y1:Int) (s2:Int×(List zI)):Option ((Int×(List zI))⊕(Unit⊕(List zI))) :=
 if decide (s2.1<(len y0.2.1)) then
  (zF y0.2.1 s2.1).bind fun x2 =>
  (zF x1.2.2.2.1 (len y2)).bind fun x3 =>
  if x2.2.2.2==x3 then
   (
    (zEh y2).bind fun r2 =>
    (wE r2 ([s2.1]:List Int)).bind fun x4 =>
    (rec_argument_builder_apply_2 (y0.1,y0.2.1,s2.2,y0.2.2.2) y1 x4).bind fun r3 =>
    some r3:Option (List zI)).bind fun s3 =>
   some (.inl (zS (s2.1+1),s3))
  else
   some (.inl (zS (s2.1+1),s2.2))
 else
  some (.inr (.inr s2.2))
theorem zKf (n_:Nat) (y0:uU) (x1:qL) (y2:List Int) {rec_argument_builder_apply_2 rec_argument_builder_apply_2':uU->Int->(List Int)->Option (List zI)} (h_rec_argument_builder_apply_2:∀ u0 u1 u2,Le (rec_argument_builder_apply_2 u0 u1 u2) (rec_argument_builder_apply_2' u0 u1 u2)) (y1:Int) (s2:Int×(List zI)):Le (zDf n_ y0 x1 y2 rec_argument_builder_apply_2 y1 s2) (zB2 y0 x1 y2 rec_argument_builder_apply_2' y1 s2):=by
 unfold zDf zB2
 repeat with_reducible (first | intro _ | apply h_rec_argument_builder_apply_2 | exact Le.refl _ | apply Le.ite | apply Le.seqE | apply Le.bind | apply Le.lp | exact Le.none _)
def zEK (n_:Nat) (rec_argument_builder_apply_2:uU->Int->(List Int)->Option (List zI)) (y0:uU) (y1:Int) (y2:List Int):Option (List zI) :=
 (zF y0.1.2.1 y1).bind fun x1 =>
 (zBp y0).bind fun r1 =>
 if r1 then
  some y0.2.2.1
 else
  yD (
   if decide ((len y2)<(len x1.2.2.2.1)) then
    (lp n_) ((zDf n_) y0 x1 y2 rec_argument_builder_apply_2 y1) (0,y0.2.2.1)
   else
    some (.inl ()):Option (Unit⊕(List zI))) fun _ =>
  (
   ((zCM n_) y2 y0).bind fun r6 =>
   if r6 then
    ((zN5 n_) y0.1 y0.2.1 y1 y2).bind fun r7 =>
    some r7
   else
    some false:Option Bool).bind fun s4 =>
  if s4 then
   (zF y0.1.2.1 y1).bind fun x6 =>
   (wE y0.2.2.1 ([((-1),y1,y2,x6.2.2.2.2)]:List zI)).bind fun x7 =>
   some x7
  else
   some y0.2.2.1
theorem zL7 (n_:Nat) {rec_argument_builder_apply_2 rec_argument_builder_apply_2':uU->Int->(List Int)->Option (List zI)} (h_rec_argument_builder_apply_2:∀ u0 u1 u2,Le (rec_argument_builder_apply_2 u0 u1 u2) (rec_argument_builder_apply_2' u0 u1 u2)) (y0:uU) (y1:Int) (y2:List Int):Le (zEK n_ rec_argument_builder_apply_2 y0 y1 y2) (zBj rec_argument_builder_apply_2' y0 y1 y2):=by
 unfold zEK zBj
 repeat with_reducible (first | intro _ | apply h_rec_argument_builder_apply_2 | apply zRt | apply zDu | apply zKf | exact Le.refl _ | apply Le.ite | apply Le.seqE | apply Le.bind | apply Le.lp | exact Le.none _)
def zEG (n_:Nat):Nat->uU->Int->(List Int)->Option (List zI)
 | 0=>fun _ _ _=>none
 | k+1=>fun y0 y1 y2=>(zEK n_) ((zEG n_) k) y0 y1 y2
theorem zHT (n_:Nat):∀ (k m:Nat),k≤m->∀ u0 u1 u2,Le (zEG n_ k u0 u1 u2) (zBI m u0 u1 u2)
 | 0,_,_=>fun u0 u1 u2=>Le.none _
 | k+1,m,h=>fun u0 u1 u2=>by
  obtain ⟨m,rfl⟩:∃ q,m=q+1:=⟨m-1,by omega⟩
  exact zL7 n_ (zHT n_ k m (by omega)) _ _ _
def zIV (n_:Nat) (y0:uU) (y1:Int) (y2:List Int):Option (List zI) :=
 zEG n_ n_ y0 y1 y2
theorem zLt (n_:Nat) (y0:uU) (y1:Int) (y2:List Int):Le (zIV n_ y0 y1 y2) (zBi y0 y1 y2):=Le.lim n_ fun m h=>zHT n_ n_ m h _ _ _
def zMQ (n_:Nat) (y0:uU) (y1:Int) (y2:List Int):Tw (zBi y0 y1 y2):=⟨zIV n_ y0 y1 y2,zLt n_ y0 y1 y2⟩
def zH4 (n_:Nat) y0 y1:Tw (zAr y0 y1):=by
 delta zAr
 repeat with_reducible (first | intro _ | apply ti | apply ts | apply tb | apply tl n_ | exact td _)
def zOr (n_:Nat) y0 y1:Tw (zEI y0 y1):=by
 delta zEI
 repeat with_reducible (first | intro _ | apply zH4 n_ | apply ti | apply ts | apply tb | apply tl n_ | exact td _)
def zFO (n_:Nat) y0 y1:Tw (zAZ y0 y1):=by
 delta zAZ
 repeat with_reducible (first | intro _ | apply ti | apply ts | apply tb | apply tl n_ | exact td _)
def zRR (n_:Nat) y0 y1:Tw (zDQ y0 y1):=by
 delta zDQ
 repeat with_reducible (first | intro _ | apply zFO n_ | apply ti | apply ts | apply tb | apply tl n_ | exact td _)
def zG2 (n_:Nat) y0:Tw (zBq y0):=by
 delta zBq
 repeat with_reducible (first | intro _ | apply ti | apply ts | apply tb | apply tl n_ | exact td _)
def zFh (n_:Nat) y0:Tw (zCI y0):=by
 delta zCI
 repeat with_reducible (first | intro _ | apply zG2 n_ | apply ti | apply ts | apply tb | apply tl n_ | exact td _)
def zR7 (n_:Nat) y0:Tw (zEl y0):=by
 delta zEl
 repeat with_reducible (first | intro _ | apply zG2 n_ | apply ti | apply ts | apply tb | apply tl n_ | exact td _)
def zRw (n_:Nat) y0:Tw (zD9 y0):=by
 delta zD9
 repeat with_reducible (first | intro _ | apply zFh n_ | apply zR7 n_ | apply ti | apply ts | apply tb | apply tl n_ | exact td _)
def zQJ (n_:Nat) y0 y1:Tw (zCn y0 y1):=by
 delta zCn
 repeat with_reducible (first | intro _ | apply zFh n_ | apply zOr n_ | apply ti | apply ts | apply tb | apply tl n_ | exact td _)
def zRY (n_:Nat) y0 s3:Tw (zD0 y0 s3):=by
 delta zD0
 repeat with_reducible (first | intro _ | apply zFh n_ | apply ti | apply ts | apply tb | apply tl n_ | exact td _)
def zTc (n_:Nat) y0:Tw (zFr y0):=by
 delta zFr
 repeat with_reducible (first | intro _ | apply zG2 n_ | apply zFh n_ | apply zRY n_ | apply ti | apply ts | apply tb | apply tl n_ | exact td _)
def zO8 (n_:Nat) y0 s2:Tw (zC2 y0 s2):=by
 delta zC2
 repeat with_reducible (first | intro _ | apply zRw n_ | apply zRR n_ | apply ti | apply ts | apply tb | apply tl n_ | exact td _)
def zOf (n_:Nat) y0 s4:Tw (zC1 y0 s4):=by
 delta zC1
 repeat with_reducible (first | intro _ | apply zTc n_ | apply zOr n_ | apply ti | apply ts | apply tb | apply tl n_ | exact td _)
def zO6 (n_:Nat) y0 s5:Tw (zCZ y0 s5):=by
 delta zCZ
 repeat with_reducible (first | intro _ | apply zQJ n_ | apply ti | apply ts | apply tb | apply tl n_ | exact td _)
def zLr (n_:Nat) y0:Tw (zCC y0):=by
 delta zCC
 repeat with_reducible (first | intro _ | apply zO8 n_ | apply zOf n_ | apply zO6 n_ | apply ti | apply ts | apply tb | apply tl n_ | exact td _)
def zQo (n_:Nat) y0 s4 s6:Tw (zCc y0 s4 s6):=by
 delta zCc
 repeat with_reducible (first | intro _ | apply zMQ n_ | apply ti | apply ts | apply tb | apply tl n_ | exact td _)
def zQs (n_:Nat) y0 s4:Tw (zB6 y0 s4):=by
 delta zB6
 repeat with_reducible (first | intro _ | apply zQo n_ | apply ti | apply ts | apply tb | apply tl n_ | exact td _)
def zTS (n_:Nat) y0:Tw (zE6 y0):=by
 delta zE6
 repeat with_reducible (first | intro _ | apply zLr n_ | apply zQs n_ | apply ti | apply ts | apply tb | apply tl n_ | exact td _)
def zLe (n_:Nat) y0 s1:Tw (zEC y0 s1):=by
 delta zEC
 repeat with_reducible (first | intro _ | apply ti | apply ts | apply tb | apply tl n_ | exact td _)
def zNT (n_:Nat) y0:Tw (zBy y0):=by
 delta zBy
 repeat with_reducible (first | intro _ | apply zLe n_ | apply ti | apply ts | apply tb | apply tl n_ | exact td _)
def zGi (n_:Nat) (y0:List zG):Tw (zAR y0):=⟨zBr n_ y0,zGQ n_ y0⟩
def zOS (n_:Nat) y0:Tw (zDe y0):=by
 delta zDe
 repeat with_reducible (first | intro _ | apply zGi n_ | apply zNT n_ | apply ti | apply ts | apply tb | apply tl n_ | exact td _)
def zKK (n_:Nat) y0 y1:Tw (zB9 y0 y1):=by
 delta zB9
 repeat with_reducible (first | intro _ | apply zOS n_ | apply ti | apply ts | apply tb | apply tl n_ | exact td _)
def zWy (n_:Nat) y0:Tw (zHc y0):=by
 delta zHc
 repeat with_reducible (first | intro _ | apply ti | apply ts | apply tb | apply tl n_ | exact td _)
def zGv (n_:Nat) (y0:List wV):Tw (zAc y0):=⟨zBs n_ y0,zGJ n_ y0⟩
def zRC (n_:Nat) y1 s2 r1 s3 s4:Tw (zCx y1 s2 r1 s3 s4):=by
 delta zCx
 repeat with_reducible (first | intro _ | apply zMK n_ | apply zDG n_ | apply ti | apply ts | apply tb | apply tl n_ | exact td _)
def zQv (n_:Nat) y1 y0 s2 s3:Tw (zDA y1 y0 s2 s3):=by
 delta zDA
 repeat with_reducible (first | intro _ | apply zRC n_ | apply ti | apply ts | apply tb | apply tl n_ | exact td _)
def zQi (n_:Nat) y1 y0 s2:Tw (zCd y1 y0 s2):=by
 delta zCd
 repeat with_reducible (first | intro _ | apply zQv n_ | apply ti | apply ts | apply tb | apply tl n_ | exact td _)
def zTG (n_:Nat) y0 y1:Tw (zE3 y0 y1):=by
 delta zE3
 repeat with_reducible (first | intro _ | apply zQi n_ | apply zGv n_ | apply ti | apply ts | apply tb | apply tl n_ | exact td _)
def zLh (n_:Nat) y0 y1:Tw (zCe y0 y1):=by
 delta zCe
 repeat with_reducible (first | intro _ | apply zMK n_ | apply zN6 n_ | apply ti | apply ts | apply tb | apply tl n_ | exact td _)
def zIM (n_:Nat) y0 y1:Tw (zBA y0 y1):=by
 delta zBA
 repeat with_reducible (first | intro _ | apply ti | apply ts | apply tb | apply tl n_ | exact td _)
def zHF (n_:Nat) y0 y1:Tw (zAn y0 y1):=by
 delta zAn
 repeat with_reducible (first | intro _ | apply zIM n_ | apply ti | apply ts | apply tb | apply tl n_ | exact td _)
def zVO (n_:Nat) y0 y1 y2:Tw (zHC y0 y1 y2):=by
 delta zHC
 repeat with_reducible (first | intro _ | apply zLh n_ | apply zHF n_ | apply ti | apply ts | apply tb | apply tl n_ | exact td _)
def zJo (n_:Nat) (x5:zI) (rec_argument_Last:zO->(List zI)->Int->Option (List Int)) (y0:zO) (y1:List zI) (s3:(List Int)×Int):Option (((List Int)×Int)⊕(List Int)) :=
 if decide (s3.2<(len x5.2.2.1)) then
  (zF x5.2.2.1 s3.2).bind fun x6 =>
  (rec_argument_Last y0 y1 x6).bind fun r2 =>
  (wE s3.1 r2).bind fun x7 =>
  some (.inl (x7,zS (s3.2+1)))
 else
  some (.inr s3.1)
theorem zQt (n_:Nat) (x5:zI) {rec_argument_Last rec_argument_Last':zO->(List zI)->Int->Option (List Int)} (h_rec_argument_Last:∀ u0 u1 u2,Le (rec_argument_Last u0 u1 u2) (rec_argument_Last' u0 u1 u2)) (y0:zO) (y1:List zI) (s3:(List Int)×Int):Le (zJo n_ x5 rec_argument_Last y0 y1 s3) (zD3 x5 rec_argument_Last' y0 y1 s3):=by
 unfold zJo zD3
 repeat with_reducible (first | intro _ | apply h_rec_argument_Last | exact Le.refl _ | apply Le.ite | apply Le.seqE | apply Le.bind | apply Le.lp | exact Le.none _)
def zKy (n_:Nat) (rec_argument_Last:zO->(List zI)->Int->Option (List Int)) (y0:zO) (y1:List zI) (y2:Int):Option (List Int) :=
 (
  (zBY y1 y2).bind fun r1 =>
  if !r1 then
   some true
  else
   (zF y1 y2).bind fun x1 =>
   some (decide (x1.2.1<0)):Option Bool).bind fun s1 =>
 if s1 then
  some ([]:List Int)
 else
  (zF y1 y2).bind fun x2 =>
  (zF y0.2.1 x2.2.1).bind fun x3 =>
  if !x3.2.1 then
   (zF y1 y2).bind fun x4 =>
   some ([x4.2.1]:List Int)
  else
   (
    (zF y1 y2).bind fun x5 =>
    (lp n_) ((zJo n_) x5 rec_argument_Last y0 y1) (([]:List Int),0):Option (List Int)).bind fun s2 =>
   ((zFx n_) s2).bind fun r3 =>
   ((zI2 n_) r3).bind fun r4 =>
   some r4
theorem zSO (n_:Nat) {rec_argument_Last rec_argument_Last':zO->(List zI)->Int->Option (List Int)} (h_rec_argument_Last:∀ u0 u1 u2,Le (rec_argument_Last u0 u1 u2) (rec_argument_Last' u0 u1 u2)) (y0:zO) (y1:List zI) (y2:Int):Le (zKy n_ rec_argument_Last y0 y1 y2) (zFp rec_argument_Last' y0 y1 y2):=by
 unfold zKy zFp
 repeat with_reducible (first | intro _ | apply h_rec_argument_Last | apply zKh | apply zJU | apply zQt | exact Le.refl _ | apply Le.ite | apply Le.seqE | apply Le.bind | apply Le.lp | exact Le.none _)
def zKw (n_:Nat):Nat->zO->(List zI)->Int->Option (List Int)
 | 0=>fun _ _ _=>none
 | k+1=>fun y0 y1 y2=>(zKy n_) ((zKw n_) k) y0 y1 y2
theorem zN1 (n_:Nat):∀ (k m:Nat),k≤m->∀ u0 u1 u2,Le (zKw n_ k u0 u1 u2) (zDO m u0 u1 u2)
 | 0,_,_=>fun u0 u1 u2=>Le.none _
 | k+1,m,h=>fun u0 u1 u2=>by
  obtain ⟨m,rfl⟩:∃ q,m=q+1:=⟨m-1,by omega⟩
  exact zSO n_ (zN1 n_ k m (by omega)) _ _ _
def zOu (n_:Nat) (y0:zO) (y1:List zI) (y2:Int):Option (List Int) :=
 zKw n_ n_ y0 y1 y2
theorem zTD (n_:Nat) (y0:zO) (y1:List zI) (y2:Int):Le (zOu n_ y0 y1 y2) (zHp y0 y1 y2):=Le.lim n_ fun m h=>zN1 n_ n_ m h _ _ _
def zUO (n_:Nat) (y0:zO) (y1:List zI) (y2:Int):Tw (zHp y0 y1 y2):=⟨zOu n_ y0 y1 y2,zTD n_ y0 y1 y2⟩
def zSt (n_:Nat) y0 y1:Tw (zJH y0 y1):=by
 delta zJH
 repeat with_reducible (first | intro _ | apply ti | apply ts | apply tb | apply tl n_ | exact td _)
def zOX (n_:Nat) y0 y1 y2:Tw (zC8 y0 y1 y2):=by
 delta zC8
 repeat with_reducible (first | intro _ | apply zUO n_ | apply zSt n_ | apply ti | apply ts | apply tb | apply tl n_ | exact td _)
def zTF (n_:Nat) y0:Tw (zDi y0):=by
 delta zDi
 repeat with_reducible (first | intro _ | apply ti | apply ts | apply tb | apply tl n_ | exact td _)
def zSw (n_:Nat) y0:Tw (zDc y0):=by
 delta zDc
 repeat with_reducible (first | intro _ | apply ti | apply ts | apply tb | apply tl n_ | exact td _)
def zMs (n_:Nat) y0 y1 y2:Tw (zDs y0 y1 y2):=by
 delta zDs
 repeat with_reducible (first | intro _ | apply zSw n_ | apply zTF n_ | apply ti | apply ts | apply tb | apply tl n_ | exact td _)
def zLD (n_:Nat) y0 y1 y2 y3 y4:Tw (zB0 y0 y1 y2 y3 y4):=by
 delta zB0
 repeat with_reducible (first | intro _ | apply zOX n_ | apply zMs n_ | apply ti | apply ts | apply tb | apply tl n_ | exact td _)
def zLp (n_:Nat) y0 y1 y2:Tw (zBl y0 y1 y2):=by
 delta zBl
 repeat with_reducible (first | intro _ | apply zLh n_ | apply ti | apply ts | apply tb | apply tl n_ | exact td _)
def zFH (n_:Nat) y0 y1 y2 y3 y4:Tw (zAV y0 y1 y2 y3 y4):=by
 delta zAV
 repeat with_reducible (first | intro _ | apply zLp n_ | apply zMs n_ | apply ti | apply ts | apply tb | apply tl n_ | exact td _)
def zLI (n_:Nat) y0 y1 y2 y3:Tw (zBZ y0 y1 y2 y3):=by
 delta zBZ
 repeat with_reducible (first | intro _ | apply zOX n_ | apply ti | apply ts | apply tb | apply tl n_ | exact td _)
def zMW (n_:Nat) y1 y2 y3 y4 y5:Tw (zCV y1 y2 y3 y4 y5):=by
 delta zCV
 repeat with_reducible (first | intro _ | apply zLD n_ | apply zLI n_ | apply zFH n_ | apply ti | apply ts | apply tb | apply tl n_ | exact td _)
def zO3 (n_:Nat) y0 y1 y2:Tw (zCa y0 y1 y2):=by
 delta zCa
 repeat with_reducible (first | intro _ | apply zKe n_ | apply zSt n_ | apply ti | apply ts | apply tb | apply tl n_ | exact td _)
def zKv (n_:Nat) y0 y1 y2 y3 y4:Tw (zBH y0 y1 y2 y3 y4):=by
 delta zBH
 repeat with_reducible (first | intro _ | apply zO3 n_ | apply zMs n_ | apply ti | apply ts | apply tb | apply tl n_ | exact td _)
def zJv (n_:Nat) y0 y1 y2 y3:Tw (zBL y0 y1 y2 y3):=by
 delta zBL
 repeat with_reducible (first | intro _ | apply zLp n_ | apply ti | apply ts | apply tb | apply tl n_ | exact td _)
def zKx (n_:Nat) y0 y1 y2 y3:Tw (zB1 y0 y1 y2 y3):=by
 delta zB1
 repeat with_reducible (first | intro _ | apply zO3 n_ | apply ti | apply ts | apply tb | apply tl n_ | exact td _)
def zML (n_:Nat) y1 y2 y3 y4 y6:Tw (zCU y1 y2 y3 y4 y6):=by
 delta zCU
 repeat with_reducible (first | intro _ | apply zKx n_ | apply zFH n_ | apply zJv n_ | apply zKv n_ | apply ti | apply ts | apply tb | apply tl n_ | exact td _)
def zYx (n_:Nat) y0 y1 y2 y3 y4:Tw (zKZ y0 y1 y2 y3 y4):=by
 delta zKZ
 repeat with_reducible (first | intro _ | apply zVO n_ | apply zMW n_ | apply zML n_ | apply ti | apply ts | apply tb | apply tl n_ | exact td _)
def zM8 (n_:Nat) y0 y1 y2 y3:Tw (zCX y0 y1 y2 y3):=by
 delta zCX
 repeat with_reducible (first | intro _ | apply zYx n_ | apply ti | apply ts | apply tb | apply tl n_ | exact td _)
def zFK (n_:Nat) y0 y1 y2 y3 s1:Tw (zB8 y0 y1 y2 y3 s1):=by
 delta zB8
 repeat with_reducible (first | intro _ | apply zM8 n_ | apply ti | apply ts | apply tb | apply tl n_ | exact td _)
def zGO (n_:Nat) y0 y1 y2 y3:Tw (zBO y0 y1 y2 y3):=by
 delta zBO
 repeat with_reducible (first | intro _ | apply zFK n_ | apply ti | apply ts | apply tb | apply tl n_ | exact td _)
def zFE (n_:Nat) y0 y1 y2 y3 s2:Tw (zB5 y0 y1 y2 y3 s2):=by
 delta zB5
 repeat with_reducible (first | intro _ | apply zM8 n_ | apply ti | apply ts | apply tb | apply tl n_ | exact td _)
def zFy (n_:Nat) y0 y1 y2 y3:Tw (zA4 y0 y1 y2 y3):=by
 delta zA4
 repeat with_reducible (first | intro _ | apply zGO n_ | apply zFE n_ | apply ti | apply ts | apply tb | apply tl n_ | exact td _)
def zTC (n_:Nat) y0 y1 y2:Tw (zDj y0 y1 y2):=by
 delta zDj
 repeat with_reducible (first | intro _ | apply zTG n_ | apply zFy n_ | apply ti | apply ts | apply tb | apply tl n_ | exact td _)
def zNX (n_:Nat) y0 s1:Tw (zFm y0 s1):=by
 delta zFm
 repeat with_reducible (first | intro _ | apply ti | apply ts | apply tb | apply tl n_ | exact td _)
def zPK (n_:Nat) y0:Tw (zDL y0):=by
 delta zDL
 repeat with_reducible (first | intro _ | apply zNX n_ | apply ti | apply ts | apply tb | apply tl n_ | exact td _)
def zIE (n_:Nat) (y0:List wD):Tw (zBE y0):=⟨zCP n_ y0,zHr n_ y0⟩
def zVH (n_:Nat) y0 y1:Tw (zFC y0 y1):=by
 delta zFC
 repeat with_reducible (first | intro _ | apply zIE n_ | apply zPK n_ | apply ti | apply ts | apply tb | apply tl n_ | exact td _)
def zXf (n_:Nat) y0:Tw (zHf y0):=by
 delta zHf
 repeat with_reducible (first | intro _ | apply ti | apply ts | apply tb | apply tl n_ | exact td _)
def zWh (n_:Nat) y0:Tw (zHy y0):=by
 delta zHy
 repeat with_reducible (first | intro _ | apply ti | apply ts | apply tb | apply tl n_ | exact td _)
def zPP (n_:Nat) y0 y1:Tw (zCl y0 y1):=by
 delta zCl
 repeat with_reducible (first | intro _ | apply zWy n_ | apply ti | apply ts | apply tb | apply tl n_ | exact td _)
def zRA (n_:Nat) y0 s1:Tw (zBm y0 s1):=by
 delta zBm
 repeat with_reducible (first | intro _ | apply zPP n_ | apply ti | apply ts | apply tb | apply tl n_ | exact td _)
def zKt (n_:Nat) y0:Tw (zBb y0):=by
 delta zBb
 repeat with_reducible (first | intro _ | apply zRA n_ | apply ti | apply ts | apply tb | apply tl n_ | exact td _)
def zQX (n_:Nat) y0:Tw (zEz y0):=by
 delta zEz
 repeat with_reducible (first | intro _ | apply zKt n_ | apply ti | apply ts | apply tb | apply tl n_ | exact td _)
def zLP (n_:Nat) y0 y1:Tw (zCq y0 y1):=by
 delta zCq
 repeat with_reducible (first | intro _ | apply zQX n_ | apply zWh n_ | apply zXf n_ | apply ti | apply ts | apply tb | apply tl n_ | exact td _)
def zMB (n_:Nat) y0 y1:Tw (zCb y0 y1):=by
 delta zCb
 repeat with_reducible (first | intro _ | apply ti | apply ts | apply tb | apply tl n_ | exact td _)
def zQm (n_:Nat) r4 y0 s6 s9 s10:Tw (zCJ r4 y0 s6 s9 s10):=by
 delta zCJ
 repeat with_reducible (first | intro _ | apply zLP n_ | apply ti | apply ts | apply tb | apply tl n_ | exact td _)
def zQn (n_:Nat) s6 y0 s9:Tw (zCf s6 y0 s9):=by
 delta zCf
 repeat with_reducible (first | intro _ | apply zLP n_ | apply zQm n_ | apply ti | apply ts | apply tb | apply tl n_ | exact td _)
def zQh (n_:Nat) y0 s6:Tw (zBo y0 s6):=by
 delta zBo
 repeat with_reducible (first | intro _ | apply zQn n_ | apply ti | apply ts | apply tb | apply tl n_ | exact td _)
def zTB (n_:Nat) y0:Tw (zE4 y0):=by
 delta zE4
 repeat with_reducible (first | intro _ | apply zMB n_ | apply zQh n_ | apply ti | apply ts | apply tb | apply tl n_ | exact td _)
def zOQ (n_:Nat) y0:Tw (zDd y0):=by
 delta zDd
 repeat with_reducible (first | intro _ | apply zTB n_ | apply ti | apply ts | apply tb | apply tl n_ | exact td _)
def zC7 (n_:Nat) y0 y1:Tw (zBR y0 y1):=by
 delta zBR
 repeat with_reducible (first | intro _ | apply ti | apply ts | apply tb | apply tl n_ | exact td _)
def zP1 (n_:Nat) y0 x1 y1 s3 s4:Tw (zDJ y0 x1 y1 s3 s4):=by
 delta zDJ
 repeat with_reducible (first | intro _ | apply zOC n_ | apply ti | apply ts | apply tb | apply tl n_ | exact td _)
def zOm (n_:Nat) y0 y1 s3:Tw (zCj y0 y1 s3):=by
 delta zCj
 repeat with_reducible (first | intro _ | apply zP1 n_ | apply ti | apply ts | apply tb | apply tl n_ | exact td _)
def zRT (n_:Nat) y0 y1:Tw (zD4 y0 y1):=by
 delta zD4
 repeat with_reducible (first | intro _ | apply zOm n_ | apply ti | apply ts | apply tb | apply tl n_ | exact td _)
def zTR (n_:Nat) y0 y1:Tw (zDh y0 y1):=by
 delta zDh
 repeat with_reducible (first | intro _ | apply zTS n_ | apply zTC n_ | apply zVH n_ | apply zOQ n_ | apply zC7 n_ | apply zKK n_ | apply zRT n_ | apply ti | apply ts | apply tb | apply tl n_ | exact td _)
def zRD (n_:Nat) y0:Tw (zEm y0):=by
 delta zEm
 repeat with_reducible (first | intro _ | apply zOQ n_ | apply ti | apply ts | apply tb | apply tl n_ | exact td _)
def zJB (n_:Nat) y0:Tw (zAo y0):=by
 delta zAo
 repeat with_reducible (first | intro _ | apply zRD n_ | apply ti | apply ts | apply tb | apply tl n_ | exact td _)
def zIy (n_:Nat) r1 s1:Tw (zAq r1 s1):=by
 delta zAq
 repeat with_reducible (first | intro _ | apply zC7 n_ | apply ti | apply ts | apply tb | apply tl n_ | exact td _)
def zKB (n_:Nat) y0:Tw (zBM y0):=by
 delta zBM
 repeat with_reducible (first | intro _ | apply zJB n_ | apply zIy n_ | apply ti | apply ts | apply tb | apply tl n_ | exact td _)
def zRX (n_:Nat) y0 y1:Tw (zEj y0 y1):=by
 delta zEj
 repeat with_reducible (first | intro _ | apply ti | apply ts | apply tb | apply tl n_ | exact td _)
def zKq (n_:Nat) y0 y1:Tw (zCE y0 y1):=by
 delta zCE
 repeat with_reducible (first | intro _ | apply ti | apply ts | apply tb | apply tl n_ | exact td _)
def zS4 (n_:Nat) y0 y1:Tw (zF0 y0 y1):=by
 delta zF0
 repeat with_reducible (first | intro _ | apply zKq n_ | apply ti | apply ts | apply tb | apply tl n_ | exact td _)
def zS6 (n_:Nat) y0:Tw (zDv y0):=by
 delta zDv
 repeat with_reducible (first | intro _ | apply ti | apply ts | apply tb | apply tl n_ | exact td _)
def zSU (n_:Nat) y0:Tw (zFw y0):=by
 delta zFw
 repeat with_reducible (first | intro _ | apply ti | apply ts | apply tb | apply tl n_ | exact td _)
def zSL (n_:Nat) y0 y1:Tw (zDx y0 y1):=by
 delta zDx
 repeat with_reducible (first | intro _ | apply zKq n_ | apply ti | apply ts | apply tb | apply tl n_ | exact td _)
def zPi (n_:Nat) y0 y1:Tw (zCh y0 y1):=by
 delta zCh
 repeat with_reducible (first | intro _ | apply zSL n_ | apply ti | apply ts | apply tb | apply tl n_ | exact td _)
def zGc (n_:Nat) y1 s1:Tw (zAQ y1 s1):=by
 delta zAQ
 repeat with_reducible (first | intro _ | apply zPi n_ | apply ti | apply ts | apply tb | apply tl n_ | exact td _)
def zHu (n_:Nat) y0 y1:Tw (zAw y0 y1):=by
 delta zAw
 repeat with_reducible (first | intro _ | apply zGc n_ | apply ti | apply ts | apply tb | apply tl n_ | exact td _)
def zME (n_:Nat) y0 y1:Tw (zCH y0 y1):=by
 delta zCH
 repeat with_reducible (first | intro _ | apply zRX n_ | apply zSU n_ | apply zS4 n_ | apply zHu n_ | apply zS6 n_ | apply ti | apply ts | apply tb | apply tl n_ | exact td _)
def zHe (n_:Nat) y0 y1:Tw (zAy y0 y1):=by
 delta zAy
 repeat with_reducible (first | intro _ | apply ti | apply ts | apply tb | apply tl n_ | exact td _)
def zGl (n_:Nat) y0 y1:Tw (zAP y0 y1):=by
 delta zAP
 repeat with_reducible (first | intro _ | apply zHe n_ | apply ti | apply ts | apply tb | apply tl n_ | exact td _)
def zTo (n_:Nat) y0 y1:Tw (zF4 y0 y1):=by
 delta zF4
 repeat with_reducible (first | intro _ | apply zGl n_ | apply ti | apply ts | apply tb | apply tl n_ | exact td _)
def zSy (n_:Nat) x1 y0 s1:Tw (zE7 x1 y0 s1):=by
 delta zE7
 repeat with_reducible (first | intro _ | apply zTo n_ | apply ti | apply ts | apply tb | apply tl n_ | exact td _)
def zRZ (n_:Nat) y0:Tw (zGL y0):=by
 delta zGL
 repeat with_reducible (first | intro _ | apply zSy n_ | apply ti | apply ts | apply tb | apply tl n_ | exact td _)
def zI6 (n_:Nat) y0:Tw (zBJ y0):=by
 delta zBJ
 repeat with_reducible (first | intro _ | apply zPP n_ | apply ti | apply ts | apply tb | apply tl n_ | exact td _)
def zUJ (n_:Nat) y0:Tw (zFo y0):=by
 delta zFo
 repeat with_reducible (first | intro _ | apply zQX n_ | apply zI6 n_ | apply ti | apply ts | apply tb | apply tl n_ | exact td _)
def zSH (n_:Nat) y0 y1:Tw (zDw y0 y1):=by
 delta zDw
 repeat with_reducible (first | intro _ | apply zUJ n_ | apply zLP n_ | apply ti | apply ts | apply tb | apply tl n_ | exact td _)
def zJN (n_:Nat) y0:Tw (zBd y0):=by
 delta zBd
 repeat with_reducible (first | intro _ | apply ti | apply ts | apply tb | apply tl n_ | exact td _)
def zJG (n_:Nat) (y0:uG):=(zJN n_ y0).1
theorem zMv (n_:Nat) (y0:uG):Le (zJG n_ y0) (zBd y0):=(zJN n_ y0).2
def zOp (n_:Nat) y0 y1 y2:Tw (zDH y0 y1 y2):=by
 delta zDH
 repeat with_reducible (first | intro _ | apply ti | apply ts | apply tb | apply tl n_ | exact td _)
def zNt (n_:Nat) y0 y1:Tw (zCO y0 y1):=by
 delta zCO
 repeat with_reducible (first | intro _ | apply zOp n_ | apply ti | apply ts | apply tb | apply tl n_ | exact td _)
def zQe (n_:Nat) y0 y1 y2:Tw (zB7 y0 y1 y2):=by
 delta zB7
 repeat with_reducible (first | intro _ | apply ti | apply ts | apply tb | apply tl n_ | exact td _)
def zNN (n_:Nat) y0 y1:Tw (zCA y0 y1):=by
 delta zCA
 repeat with_reducible (first | intro _ | apply zQe n_ | apply ti | apply ts | apply tb | apply tl n_ | exact td _)
def zLj (n_:Nat) y0 s3:Tw (zAU y0 s3):=by
 delta zAU
 repeat with_reducible (first | intro _ | apply zNN n_ | apply zNt n_ | apply ti | apply ts | apply tb | apply tl n_ | exact td _)
def zLi (n_:Nat) y0 s1:Tw (zCL y0 s1):=by
 delta zCL
 repeat with_reducible (first | intro _ | apply zLj n_ | apply zDG n_ | apply ti | apply ts | apply tb | apply tl n_ | exact td _)
def zJK (n_:Nat) y0:Tw (zBe y0):=by
 delta zBe
 repeat with_reducible (first | intro _ | apply zLi n_ | apply ti | apply ts | apply tb | apply tl n_ | exact td _)
def zJO (n_:Nat) (y0:uG):=(zJK n_ y0).1
theorem zMm (n_:Nat) (y0:uG):Le (zJO n_ y0) (zBe y0):=(zJK n_ y0).2
def zG3 (n_:Nat) (r2:(List Int)×Int) (s1:Bool×(List Int)×(List (List Int))) (rec_search_finder_find:uG->Option ((List Int)×(List (List Int))×Bool)) (y0:uG) (s2:Int×(List (List Int))×Bool):Option ((Int×(List (List Int))×Bool)⊕((List Int)×(List (List Int))×Bool)) :=
 if decide (s2.1<(len ([2,4,8]:List Int))) then
  (zF ([2,4,8]:List Int) s2.1).bind fun x2 =>
  (yC (decide (0≤r2.2)&&decide (r2.2<40))).bind fun _ =>
  if (yE .i64 (yR s1.2.1 r2.2) x2) != 0 then
   (yC (decide (0≤r2.2)&&decide (r2.2<40))).bind fun _ =>
   (rec_search_finder_find (y0.1,y0.2.1,xR 40 s1.2.1 r2.2 x2,s2.2.1,s2.2.2)).bind fun r3 =>
   some (.inl (zS (s2.1+1),r3.2.1,r3.2.2))
  else
   some (.inl (zS (s2.1+1),s2.2.1,s2.2.2))
 else
  some (.inr (s1.2.1,s2.2.1,s2.2.2))
theorem zN0 (n_:Nat) (r2:(List Int)×Int) (s1:Bool×(List Int)×(List (List Int))) {rec_search_finder_find rec_search_finder_find':uG->Option ((List Int)×(List (List Int))×Bool)} (h_rec_search_finder_find:∀ u0,Le (rec_search_finder_find u0) (rec_search_finder_find' u0)) (y0:uG) (s2:Int×(List (List Int))×Bool):Le (zG3 n_ r2 s1 rec_search_finder_find y0 s2) (zB4 r2 s1 rec_search_finder_find' y0 s2):=by
 unfold zG3 zB4
 repeat with_reducible (first | intro _ | apply h_rec_search_finder_find | exact Le.refl _ | apply Le.ite | apply Le.seqE | apply Le.bind | apply Le.lp | exact Le.none _)
def zHg (n_:Nat) (rec_search_finder_find:uG->Option ((List Int)×(List (List Int))×Bool)) (y0:uG):Option ((List Int)×(List (List Int))×Bool) :=
 (
  if y0.2.2.2.2 then
   some (true,y0.2.2.1,y0.2.2.2.1)
  else
   ((zJO n_) y0).bind fun r1 =>
   some (!r1.1,r1.2.1,r1.2.2):Option (Bool×(List Int)×(List (List Int)))).bind fun s1 =>
 if s1.1 then
  some (s1.2.1,s1.2.2,y0.2.2.2.2)
 else
  ((zJG n_) (y0.1,y0.2.1,s1.2.1,s1.2.2,y0.2.2.2.2)).bind fun r2 =>
  if decide (r2.2<0) then
   (wE s1.2.2 ([r2.1]:List (List Int))).bind fun x1 =>
   some (s1.2.1,x1,(len s1.2.2)==200)
  else
   (lp n_) ((zG3 n_) r2 s1 rec_search_finder_find y0) (0,s1.2.2,y0.2.2.2.2)
theorem zOi (n_:Nat) {rec_search_finder_find rec_search_finder_find':uG->Option ((List Int)×(List (List Int))×Bool)} (h_rec_search_finder_find:∀ u0,Le (rec_search_finder_find u0) (rec_search_finder_find' u0)) (y0:uG):Le (zHg n_ rec_search_finder_find y0) (zBK rec_search_finder_find' y0):=by
 unfold zHg zBK
 repeat with_reducible (first | intro _ | apply h_rec_search_finder_find | apply zN0 | apply zMv | apply zMm | exact Le.refl _ | apply Le.ite | apply Le.seqE | apply Le.bind | apply Le.lp | exact Le.none _)
def zHw (n_:Nat):Nat->uG->Option ((List Int)×(List (List Int))×Bool)
 | 0=>fun _=>none
 | k+1=>fun y0=>(zHg n_) ((zHw n_) k) y0
theorem zKE (n_:Nat):∀ (k m:Nat),k≤m->∀ u0,Le (zHw n_ k u0) (zBa m u0)
 | 0,_,_=>fun u0=>Le.none _
 | k+1,m,h=>fun u0=>by
  obtain ⟨m,rfl⟩:∃ q,m=q+1:=⟨m-1,by omega⟩
  exact zOi n_ (zKE n_ k m (by omega)) _
def zLV (n_:Nat) (y0:uG):Option ((List Int)×(List (List Int))×Bool) :=
 zHw n_ n_ y0
theorem zPa (n_:Nat) (y0:uG):Le (zLV n_ y0) (zDl y0):=Le.lim n_ fun m h=>zKE n_ n_ m h _
def zQQ (n_:Nat) (y0:uG):Tw (zDl y0):=⟨zLV n_ y0,zPa n_ y0⟩
def zQF (n_:Nat) y0 s2:Tw (zBv y0 s2):=by
 delta zBv
 repeat with_reducible (first | intro _ | apply zSH n_ | apply ti | apply ts | apply tb | apply tl n_ | exact td _)
def zIH (n_:Nat) y0:Tw (zBB y0):=by
 delta zBB
 repeat with_reducible (first | intro _ | apply zKt n_ | apply zQF n_ | apply zQQ n_ | apply ti | apply ts | apply tb | apply tl n_ | exact td _)
def zPe (n_:Nat) y1 y0 s1:Tw (zDK y1 y0 s1):=by
 delta zDK
 repeat with_reducible (first | intro _ | apply zC7 n_ | apply ti | apply ts | apply tb | apply tl n_ | exact td _)
def zJs (n_:Nat) y0 y1:Tw (zBg y0 y1):=by
 delta zBg
 repeat with_reducible (first | intro _ | apply zPe n_ | apply ti | apply ts | apply tb | apply tl n_ | exact td _)
def zQI (n_:Nat) y0 y1:Tw (zDn y0 y1):=by
 delta zDn
 repeat with_reducible (first | intro _ | apply zDG n_ | apply ti | apply ts | apply tb | apply tl n_ | exact td _)
def zFt (n_:Nat) y0 y1 s1:Tw (zA1 y0 y1 s1):=by
 delta zA1
 repeat with_reducible (first | intro _ | apply zQI n_ | apply ti | apply ts | apply tb | apply tl n_ | exact td _)
def zGw (n_:Nat) y0 y1:Tw (zAe y0 y1):=by
 delta zAe
 repeat with_reducible (first | intro _ | apply zFt n_ | apply ti | apply ts | apply tb | apply tl n_ | exact td _)
def zF3 (n_:Nat) y0 y1:Tw (zAG y0 y1):=by
 delta zAG
 repeat with_reducible (first | intro _ | apply zGw n_ | apply ti | apply ts | apply tb | apply tl n_ | exact td _)
def zM3 (n_:Nat) y0 y1:Tw (zCk y0 y1):=by
 delta zCk
 repeat with_reducible (first | intro _ | apply zF3 n_ | apply ti | apply ts | apply tb | apply tl n_ | exact td _)
def zOP (n_:Nat) y0 y1:Tw (zCQ y0 y1):=by
 delta zCQ
 repeat with_reducible (first | intro _ | apply zJs n_ | apply zM3 n_ | apply ti | apply ts | apply tb | apply tl n_ | exact td _)
def zHK (n_:Nat) y0 y2:Tw (zAm y0 y2):=by
 delta zAm
 repeat with_reducible (first | intro _ | apply zOP n_ | apply ti | apply ts | apply tb | apply tl n_ | exact td _)
def zGI (n_:Nat) y0 y2 s1:Tw (zA6 y0 y2 s1):=by
 delta zA6
 repeat with_reducible (first | intro _ | apply zHK n_ | apply ti | apply ts | apply tb | apply tl n_ | exact td _)
def zHZ (n_:Nat) y0 y2:Tw (zAs y0 y2):=by
 delta zAs
 repeat with_reducible (first | intro _ | apply zGI n_ | apply ti | apply ts | apply tb | apply tl n_ | exact td _)
def zGH (n_:Nat) y0 y2:Tw (zAM y0 y2):=by
 delta zAM
 repeat with_reducible (first | intro _ | apply zHZ n_ | apply ti | apply ts | apply tb | apply tl n_ | exact td _)
def zGe (n_:Nat) r1 s1:Tw (zAC r1 s1):=by
 delta zAC
 repeat with_reducible (first | intro _ | apply zGH n_ | apply ti | apply ts | apply tb | apply tl n_ | exact td _)
def zHa (n_:Nat) y0:Tw (zAK y0):=by
 delta zAK
 repeat with_reducible (first | intro _ | apply zIH n_ | apply zGe n_ | apply ti | apply ts | apply tb | apply tl n_ | exact td _)
def zKg (n_:Nat) y0:Tw (zAv y0):=by
 delta zAv
 repeat with_reducible (first | intro _ | apply zHa n_ | apply ti | apply ts | apply tb | apply tl n_ | exact td _)
def zOd (n_:Nat) y0 y1 s2:Tw (zC3 y0 y1 s2):=by
 delta zC3
 repeat with_reducible (first | intro _ | apply zDG n_ | apply ti | apply ts | apply tb | apply tl n_ | exact td _)
def zLx (n_:Nat) y0 y1:Tw (zCN y0 y1):=by
 delta zCN
 repeat with_reducible (first | intro _ | apply zMB n_ | apply zOd n_ | apply ti | apply ts | apply tb | apply tl n_ | exact td _)
def zIa (n_:Nat) y0:Tw (zAi y0):=by
 delta zAi
 repeat with_reducible (first | intro _ | apply zKg n_ | apply zRZ n_ | apply zME n_ | apply zLx n_ | apply ti | apply ts | apply tb | apply tl n_ | exact td _)
def zX9 (n_:Nat) y0:Tw (zGB y0):=by
 delta zGB
 repeat with_reducible (first | intro _ | apply zIa n_ | apply ti | apply ts | apply tb | apply tl n_ | exact td _)
def zLO (n_:Nat) y0:Tw (zBG y0):=by
 delta zBG
 repeat with_reducible (first | intro _ | apply zX9 n_ | apply ti | apply ts | apply tb | apply tl n_ | exact td _)
def zI4 (n_:Nat) r1 s1:Tw (zA8 r1 s1):=by
 delta zA8
 repeat with_reducible (first | intro _ | apply zC7 n_ | apply ti | apply ts | apply tb | apply tl n_ | exact td _)
def zJS (n_:Nat) y0:Tw (zAN y0):=by
 delta zAN
 repeat with_reducible (first | intro _ | apply zLO n_ | apply zI4 n_ | apply ti | apply ts | apply tb | apply tl n_ | exact td _)
def zNE (n_:Nat) y0 y1:Tw (zBz y0 y1):=by
 delta zBz
 repeat with_reducible (first | intro _ | apply zJs n_ | apply zM3 n_ | apply ti | apply ts | apply tb | apply tl n_ | exact td _)
def zGx (n_:Nat) y0 y2:Tw (zAf y0 y2):=by
 delta zAf
 repeat with_reducible (first | intro _ | apply zNE n_ | apply ti | apply ts | apply tb | apply tl n_ | exact td _)
def zFe (n_:Nat) y0 y2 s1:Tw (zA3 y0 y2 s1):=by
 delta zA3
 repeat with_reducible (first | intro _ | apply zGx n_ | apply ti | apply ts | apply tb | apply tl n_ | exact td _)
def zGq (n_:Nat) y0 y2:Tw (zAd y0 y2):=by
 delta zAd
 repeat with_reducible (first | intro _ | apply zFe n_ | apply ti | apply ts | apply tb | apply tl n_ | exact td _)
def zF2 (n_:Nat) y0 y2:Tw (zAJ y0 y2):=by
 delta zAJ
 repeat with_reducible (first | intro _ | apply zGq n_ | apply ti | apply ts | apply tb | apply tl n_ | exact td _)
def zG8 (n_:Nat) r1 s1:Tw (zAB r1 s1):=by
 delta zAB
 repeat with_reducible (first | intro _ | apply zF2 n_ | apply ti | apply ts | apply tb | apply tl n_ | exact td _)
def zH5 (n_:Nat) y0:Tw (zAF y0):=by
 delta zAF
 repeat with_reducible (first | intro _ | apply zIH n_ | apply zG8 n_ | apply ti | apply ts | apply tb | apply tl n_ | exact td _)
def zKD (n_:Nat) y0:Tw (zAk y0):=by
 delta zAk
 repeat with_reducible (first | intro _ | apply zH5 n_ | apply ti | apply ts | apply tb | apply tl n_ | exact td _)
def zI1 (n_:Nat) y0:Tw (zA7 y0):=by
 delta zA7
 repeat with_reducible (first | intro _ | apply zKD n_ | apply zRZ n_ | apply zME n_ | apply zLx n_ | apply ti | apply ts | apply tb | apply tl n_ | exact td _)
def zYW (n_:Nat) y0:Tw (zGA y0):=by
 delta zGA
 repeat with_reducible (first | intro _ | apply zI1 n_ | apply ti | apply ts | apply tb | apply tl n_ | exact td _)
def zLF (n_:Nat) y0:Tw (zBF y0):=by
 delta zBF
 repeat with_reducible (first | intro _ | apply zYW n_ | apply ti | apply ts | apply tb | apply tl n_ | exact td _)
def zI0 (n_:Nat) r1 s1:Tw (zA9 r1 s1):=by
 delta zA9
 repeat with_reducible (first | intro _ | apply zC7 n_ | apply ti | apply ts | apply tb | apply tl n_ | exact td _)
def zJP (n_:Nat) y0:Tw (zAO y0):=by
 delta zAO
 repeat with_reducible (first | intro _ | apply zLF n_ | apply zI0 n_ | apply ti | apply ts | apply tb | apply tl n_ | exact td _)
def zHb (n_:Nat) r1 s1:Tw (zA2 r1 s1):=by
 delta zA2
 repeat with_reducible (first | intro _ | apply zC7 n_ | apply ti | apply ts | apply tb | apply tl n_ | exact td _)
def zIj (n_:Nat) y0:Tw (zAE y0):=by
 delta zAE
 repeat with_reducible (first | intro _ | apply zKg n_ | apply zHb n_ | apply ti | apply ts | apply tb | apply tl n_ | exact td _)
def zH1 (n_:Nat) r1 s1:Tw (zAY r1 s1):=by
 delta zAY
 repeat with_reducible (first | intro _ | apply zC7 n_ | apply ti | apply ts | apply tb | apply tl n_ | exact td _)
def zIX (n_:Nat) y0:Tw (zAD y0):=by
 delta zAD
 repeat with_reducible (first | intro _ | apply zKD n_ | apply zH1 n_ | apply ti | apply ts | apply tb | apply tl n_ | exact td _)
def zQS (n_:Nat) y0 y1:Tw (zCo y0 y1):=by
 delta zCo
 repeat with_reducible (first | intro _ | apply zJs n_ | apply ti | apply ts | apply tb | apply tl n_ | exact td _)
def zIQ (n_:Nat) y0 y2:Tw (zBD y0 y2):=by
 delta zBD
 repeat with_reducible (first | intro _ | apply zQS n_ | apply ti | apply ts | apply tb | apply tl n_ | exact td _)
def zFi (n_:Nat) y0 y2 s1:Tw (zA0 y0 y2 s1):=by
 delta zA0
 repeat with_reducible (first | intro _ | apply zIQ n_ | apply ti | apply ts | apply tb | apply tl n_ | exact td _)
def zGo (n_:Nat) y0 y2:Tw (zAb y0 y2):=by
 delta zAb
 repeat with_reducible (first | intro _ | apply zFi n_ | apply ti | apply ts | apply tb | apply tl n_ | exact td _)
def zF5 (n_:Nat) y0 y2:Tw (zAI y0 y2):=by
 delta zAI
 repeat with_reducible (first | intro _ | apply zGo n_ | apply ti | apply ts | apply tb | apply tl n_ | exact td _)
def zHj (n_:Nat) r1 s1:Tw (zAL r1 s1):=by
 delta zAL
 repeat with_reducible (first | intro _ | apply zF5 n_ | apply ti | apply ts | apply tb | apply tl n_ | exact td _)
def zId (n_:Nat) y0:Tw (zAh y0):=by
 delta zAh
 repeat with_reducible (first | intro _ | apply zIH n_ | apply zHj n_ | apply ti | apply ts | apply tb | apply tl n_ | exact td _)
def zRg (n_:Nat) y0:Tw (zCW y0):=by
 delta zCW
 repeat with_reducible (first | intro _ | apply zId n_ | apply ti | apply ts | apply tb | apply tl n_ | exact td _)
def zI8 (n_:Nat) r1 s1:Tw (zAg r1 s1):=by
 delta zAg
 repeat with_reducible (first | intro _ | apply zC7 n_ | apply ti | apply ts | apply tb | apply tl n_ | exact td _)
def zJ3 (n_:Nat) y0:Tw (zAS y0):=by
 delta zAS
 repeat with_reducible (first | intro _ | apply zRg n_ | apply zI8 n_ | apply ti | apply ts | apply tb | apply tl n_ | exact td _)
def zIx (n_:Nat) r1 s1:Tw (zAp r1 s1):=by
 delta zAp
 repeat with_reducible (first | intro _ | apply zC7 n_ | apply ti | apply ts | apply tb | apply tl n_ | exact td _)
def zJy (n_:Nat) y0:Tw (zAW y0):=by
 delta zAW
 repeat with_reducible (first | intro _ | apply zIH n_ | apply zIx n_ | apply ti | apply ts | apply tb | apply tl n_ | exact td _)
def zQk (n_:Nat) y0 y1:Tw (zBT y0 y1):=by
 delta zBT
 repeat with_reducible (first | intro _ | apply zKt n_ | apply zKB n_ | apply zJy n_ | apply zIj n_ | apply zJ3 n_ | apply zIX n_ | apply zJS n_ | apply zJP n_ | apply ti | apply ts | apply tb | apply tl n_ | exact td _)
def zNq (n_:Nat) r1 y0 s1:Tw (zGY r1 y0 s1):=by
 delta zGY
 repeat with_reducible (first | intro _ | apply zKK n_ | apply ti | apply ts | apply tb | apply tl n_ | exact td _)
def zQE (n_:Nat) y0 y1:Tw (zFR y0 y1):=by
 delta zFR
 repeat with_reducible (first | intro _ | apply zQk n_ | apply zNq n_ | apply ti | apply ts | apply tb | apply tl n_ | exact td _)
def zOD (n_:Nat) y0:Tw (zDq y0):=by
 delta zDq
 repeat with_reducible (first | intro _ | apply ti | apply ts | apply tb | apply tl n_ | exact td _)
def zOk (n_:Nat) y0 y1:Tw (zEu y0 y1):=by
 delta zEu
 repeat with_reducible (first | intro _ | apply zOC n_ | apply ti | apply ts | apply tb | apply tl n_ | exact td _)
def zEW (n_:Nat) y0 y1 s1:Tw (zBU y0 y1 s1):=by
 delta zBU
 repeat with_reducible (first | intro _ | apply zOk n_ | apply ti | apply ts | apply tb | apply tl n_ | exact td _)
def zFD (n_:Nat) y0 y1:Tw (zAt y0 y1):=by
 delta zAt
 repeat with_reducible (first | intro _ | apply zEW n_ | apply ti | apply ts | apply tb | apply tl n_ | exact td _)
def zEX (n_:Nat) y0 y1:Tw (zAa y0 y1):=by
 delta zAa
 repeat with_reducible (first | intro _ | apply zFD n_ | apply ti | apply ts | apply tb | apply tl n_ | exact td _)
def zMG (n_:Nat) y0 y1 y2:Tw (zDy y0 y1 y2):=by
 delta zDy
 repeat with_reducible (first | intro _ | apply zEX n_ | apply ti | apply ts | apply tb | apply tl n_ | exact td _)
def zEd (n_:Nat) y0 y1 y2 s1:Tw (zB3 y0 y1 y2 s1):=by
 delta zB3
 repeat with_reducible (first | intro _ | apply zMG n_ | apply ti | apply ts | apply tb | apply tl n_ | exact td _)
def zFq (n_:Nat) y0 y1 y2:Tw (zBC y0 y1 y2):=by
 delta zBC
 repeat with_reducible (first | intro _ | apply zEd n_ | apply ti | apply ts | apply tb | apply tl n_ | exact td _)
def zE1 (n_:Nat) y0 y1 y2 s2:Tw (zBX y0 y1 y2 s2):=by
 delta zBX
 repeat with_reducible (first | intro _ | apply zMG n_ | apply ti | apply ts | apply tb | apply tl n_ | exact td _)
def zFL (n_:Nat) y0 y1 y2:Tw (zAz y0 y1 y2):=by
 delta zAz
 repeat with_reducible (first | intro _ | apply zFq n_ | apply zE1 n_ | apply ti | apply ts | apply tb | apply tl n_ | exact td _)
def zSK (n_:Nat) y0 y1 y2:Tw (zIG y0 y1 y2):=by
 delta zIG
 repeat with_reducible (first | intro _ | apply zQE n_ | apply zOD n_ | apply zOS n_ | apply zFL n_ | apply ti | apply ts | apply tb | apply tl n_ | exact td _)
def zTT (n_:Nat) y0 y1:Tw (zE8 y0 y1):=by
 delta zE8
 repeat with_reducible (first | intro _ | apply zTR n_ | apply zSK n_ | apply ti | apply ts | apply tb | apply tl n_ | exact td _)
def zIm (n_:Nat) y0:Tw (zDg y0):=by
 delta zDg
 repeat with_reducible (first | intro _ | apply zFh n_ | apply ti | apply ts | apply tb | apply tl n_ | exact td _)
def zOj (n_:Nat) y0:Tw (zES y0):=by
 delta zES
 repeat with_reducible (first | intro _ | apply zIm n_ | apply ti | apply ts | apply tb | apply tl n_ | exact td _)
def zNK (n_:Nat) y0:Tw (zDX y0):=by
 delta zDX
 repeat with_reducible (first | intro _ | apply zIm n_ | apply ti | apply ts | apply tb | apply tl n_ | exact td _)
def zOh (n_:Nat) y0 s3:Tw (zHG y0 s3):=by
 delta zHG
 repeat with_reducible (first | intro _ | apply zIm n_ | apply ti | apply ts | apply tb | apply tl n_ | exact td _)
def zQu (n_:Nat) y0:Tw (zG1 y0):=by
 delta zG1
 repeat with_reducible (first | intro _ | apply zOh n_ | apply zIm n_ | apply ti | apply ts | apply tb | apply tl n_ | exact td _)
def zUM (n_:Nat) y0:Tw (zJ1 y0):=by
 delta zJ1
 repeat with_reducible (first | intro _ | apply zFh n_ | apply ti | apply ts | apply tb | apply tl n_ | exact td _)
def zD2 (n_:Nat) y0 y1:Tw (zBc y0 y1):=by
 delta zBc
 repeat with_reducible (first | intro _ | apply zUM n_ | apply ti | apply ts | apply tb | apply tl n_ | exact td _)
def zHl (n_:Nat) y0 y1:Tw (zCK y0 y1):=by
 delta zCK
 repeat with_reducible (first | intro _ | apply zG2 n_ | apply ti | apply ts | apply tb | apply tl n_ | exact td _)
def zNV (n_:Nat) y0 y1:Tw (zDT y0 y1):=by
 delta zDT
 repeat with_reducible (first | intro _ | apply zD2 n_ | apply zHl n_ | apply ti | apply ts | apply tb | apply tl n_ | exact td _)
def zMO (n_:Nat) y0:Tw (zCt y0):=by
 delta zCt
 repeat with_reducible (first | intro _ | apply zHl n_ | apply zD2 n_ | apply ti | apply ts | apply tb | apply tl n_ | exact td _)
def zN3 (n_:Nat) s3:Tw (zFs s3):=by
 delta zFs
 repeat with_reducible (first | intro _ | apply zD2 n_ | apply ti | apply ts | apply tb | apply tl n_ | exact td _)
def zP9 (n_:Nat) y0 y1:Tw (zEa y0 y1):=by
 delta zEa
 repeat with_reducible (first | intro _ | apply zHl n_ | apply zN3 n_ | apply zD2 n_ | apply ti | apply ts | apply tb | apply tl n_ | exact td _)
def zQV (n_:Nat) y0 y1:Tw (zFY y0 y1):=by
 delta zFY
 repeat with_reducible (first | intro _ | apply zNV n_ | apply zOj n_ | apply zP9 n_ | apply zQu n_ | apply zMO n_ | apply zNK n_ | apply ti | apply ts | apply tb | apply tl n_ | exact td _)
def zQf (n_:Nat) s2:Tw (zJD s2):=by
 delta zJD
 repeat with_reducible (first | intro _ | apply zQV n_ | apply ti | apply ts | apply tb | apply tl n_ | exact td _)
def zTA (n_:Nat) y0:Tw (zIr y0):=by
 delta zIr
 repeat with_reducible (first | intro _ | apply zQf n_ | apply zLr n_ | apply ti | apply ts | apply tb | apply tl n_ | exact td _)
def zXL (n_:Nat) y0:Tw (zJL y0):=by
 delta zJL
 repeat with_reducible (first | intro _ | apply zTA n_ | apply ti | apply ts | apply tb | apply tl n_ | exact td _)
def zW1 (n_:Nat):Tw (zE9 ):=by
 delta zE9
 repeat with_reducible (first | intro _ | apply zXL n_ | apply zTT n_ | apply ti | apply ts | apply tb | apply tl n_ | exact td _)
end
end
section
theorem z1o:zE9=some true:=(zW1 100).el (by kernel_rfl)
theorem zOe (y0:List Int) {W0:Prop} (_w0:W0):zEP y0=some true:=zTX z1o y0
end
end Go.GD
