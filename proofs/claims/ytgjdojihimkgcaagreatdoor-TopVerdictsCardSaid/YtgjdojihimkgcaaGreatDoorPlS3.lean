/- A part. Conditions: none. -/
import Derived.Test.YtgjdojihimkgcaaGreatDoorPlS2
namespace Go.GD
set_option autoImplicit false
set_option linter.unusedVariables false
section
section
variable {n:Nat}{v:List Int}
def stv (v:List Int)(x w:Int): List Int:=v.set (x.natAbs-1) (if 0<x then w else -w)
theorem set_ok (h:z1z n v)(hn:n≤12){s:uI}(hs:s.1=v){x w:Int}(hx:x≠0)(hxn:x.natAbs≤n)(hw:w=0∨w=1): zEr s x w=some (stv v x w):=by
 have hl:=h.len
 have hi:x.natAbs-1<v.length:=by omega
 have hg:v[x.natAbs-1]?=some v[x.natAbs-1]:=Qh hi
 unfold zEr stv
 rw[hs]
 by_cases hp:0<x
 ·rw[Qi (by simp only[Qm];omega),zob,Ql hp]
  dsimp only
  rw[vJ (by omega) (by omega),show x-1=((x.natAbs-1:Nat):Int) by omega,qQ hg,zob,Qj]
 ·rw[Ql (by simp only[Qm];omega),zob,Qi hp]
  dsimp only
  rw[vJ (x:=0-x) (by omega) (by omega),vJ (x:=0-w) (by omega) (by omega),vJ (x:=0-x-1) (by omega) (by omega),show 0-x-1=((x.natAbs-1:Nat):Int) by omega,qQ hg,zob,Qj,show 0-w=-w by omega]
theorem stv_vals (h:z1z n v){x w:Int}(hw:w=0∨w=1): z1z n (stv v x w):=by
 refine⟨by unfold stv;rw[UJ];exact h.len,λy hy=>?_⟩
 rcases z9Z hy with rfl | hy
 ·split <;> omega
 ·exact h.at_ y hy
theorem vl_stv (h:z1z n v){x y w:Int}(hx:x≠0)(hxn:x.natAbs≤n)(hy:y≠0): vl (stv v x w) y=if y=x then w else if y=-x then -w else vl v y:=by
 have hl:=h.len
 have hget:∀ a:Int,(v.set (x.natAbs-1) a).getD (y.natAbs-1) 0=if x.natAbs=y.natAbs then a else v.getD (y.natAbs-1) 0:=λa=>by
  rw[Ub,Ub,List.getElem?_set]
  by_cases hab:x.natAbs=y.natAbs
  ·rw[Ql (show x.natAbs-1=y.natAbs-1 by omega),Ql (show x.natAbs-1<v.length by omega),Ql hab];rfl
  ·rw[Qi (show ¬ x.natAbs-1=y.natAbs-1 by omega),Qi hab]
 unfold vl stv
 rw[hget]
 generalize v.getD (y.natAbs-1) 0=V
 repeat' split
 all_goals omega
theorem stv_back (h:z1z n v){x w:Int}(hx:x≠0)(hxn:x.natAbs≤n)(h0:vl v x=0): stv (stv v x w) x 0=v:=by
 have hl:=h.len
 have hi:x.natAbs-1<v.length:=by omega
 unfold stv
 rw[List.set_set]
 have hz:v[x.natAbs-1]=0:=by
  unfold vl at h0
  rw[Ub,Qh hi,Ux] at h0
  split at h0 <;> omega
 have:(if 0<x then(0:Int) else -0)=v[x.natAbs-1]:=by rw[hz];split <;> rfl
 rw[this,List.set_getElem_self]
def opv (v:List Int): Nat:=(v.filter λa=>a==0).length
theorem opv_le (v:List Int): opv v≤v.length:=Qz _ _
theorem z6U{l:List Int}: ∀ {i:Nat} {b:Int},l[i]?=some 0->b≠0->(l.filter λa=>a==0).length=((l.set i b).filter λa=>a==0).length+1:=by
 induction l with
 | nil=>intro i b h;simp at h
 | cons x r ih =>
  intro i b h hb
  cases i with
  | zero =>
   simp only[Uc,Qg] at h
   subst h
   simp[hb]
  | succ i =>
   simp only[Q2] at h
   have:=ih h hb
   rw[Wk,Q3,Q3]
   by_cases hx:(x==0)=true
   ·rw[Ql hx,Ql hx,QK,QK,this]
   ·rw[Qi hx,Qi hx,this]
theorem opv_set (h:z1z n v){x:Int}(hx:x≠0)(hxn:x.natAbs≤n)(h0:vl v x=0): opv v=opv (stv v x 1)+1:=by
 have hl:=h.len
 have hi:x.natAbs-1<v.length:=by omega
 have hz:v[x.natAbs-1]?=some 0:=by
  unfold vl at h0
  rw[Ub,Qh hi,Ux] at h0
  rw[Qh hi]
  congr 1
  split at h0 <;> omega
 unfold opv stv
 exact z6U hz (by split <;> omega)
theorem z3l{κ ν:Type}[BEq κ][LawfulBEq κ]: ∀(m:List (κ×ν)) (k:κ) (w:ν) (q:κ),xU (z8t m k w) q=if q==k then some w else xU m q
 | [],k,w,q=>by simp[z8t,xU]
 | x::r,k,w,q=>by
  have ih:=z3l r k w q
  unfold z8t
  by_cases h:(k==x.1)=true
  ·rw[Ql h]
   have h':=eq_of_beq h
   subst h'
   by_cases hq:(q==x.1)=true
   ·simp[xU,hq]
   ·simp[xU,hq]
  ·rw[Qi h]
   by_cases hq:(q==x.1)=true
   ·have h':=eq_of_beq hq
    subst h'
    have hne:(x.1==k)=false:=by
     rw[QU];intro e;exact h (by rw[e];exact Ue _)
    simp[xU,hne]
   ·simp[xU,hq,ih]
structure StpV (L C:List (List Int))(st:List yT): Prop where
 pre:L <+: C
 len:C.length=L.length+st.length
 at_:∀(q:Nat) (t:yT),st[q]?=some t->∃(a b:Nat) (ca cb c:List Int),t.1=(a:Int)∧t.2.1=(b:Int)∧a<L.length+q∧b<L.length+q∧C[a]?=some ca∧C[b]?=some cb∧C[L.length+q]?=some c∧zFP ca cb t.2.2=some (c,true)∧(∀ y,(y∈ca∨y∈cb)->xC y≠t.2.2->y∈c)∧t.2.2∈ca∧-t.2.2∈cb
theorem StpV.add{L C:List (List Int)}{st:List yT}(h:StpV L C st){a b:Nat}{ca cb c:List Int}{p:Int}(ha:C[a]?=some ca)(hb:C[b]?=some cb)(hr:zFP ca cb p=some (c,true))(hm:∀ y,(y∈ca∨y∈cb)->xC y≠p->y∈c)(hpa:p∈ca)(hpb:-p∈cb): StpV L (C++[c]) (st++[((a:Int),(b:Int),p)]):=by
 have hl:=h.len
 have hal:=(Qe.1 ha).1
 have hbl:=(Qe.1 hb).1
 have hup:∀ {i:Nat} {d:List Int},C[i]?=some d->(C++[c])[i]?=some d:=λ{i d} hd=>by
  rw[Q4 (Qe.1 hd).1];exact hd
 refine⟨h.pre.trans (List.prefix_append _ _),by rw[Qd,Qd,hl,Qt,Qt];omega,λq t ht=>?_⟩
 by_cases hq:q<st.length
 ·rw[Q4 hq] at ht
  obtain⟨a',b',ca',cb',c',h1,h2,h3,h4,h5,h6,h7,h8,h9⟩:=h.at_ q t ht
  exact⟨a',b',ca',cb',c',h1,h2,h3,h4,hup h5,hup h6,hup h7,h8,h9⟩
 ·have hq':q=st.length:=by
   have:=(Qe.1 ht).1
   rw[Qd,Qt] at this;omega
  subst hq'
  rw[Uj (Qr _),Nat.sub_self] at ht
  simp only[Uc,Qg] at ht
  subst ht
  refine⟨a,b,ca,cb,c,rfl,rfl,by omega,by omega,hup ha,hup hb,?_,hr,hm,hpa,hpb⟩
  rw[←hl,Uj (Qr _),Nat.sub_self]
  rfl
structure Knw (n:Nat)(L:List (List Int))(C:List (List Int))(kn:List (zD×Int))(st:List yT): Prop where
 good:∀ c∈C,zOw n c
 known:∀ t w,xU kn t=some w->∃(j:Nat) (c:List Int),w=(j:Int)∧C[j]?=some c∧z7B c=t
 stp:StpV L C st
def Cfl (v:List Int)(C:List (List Int))(k:Int): Prop :=
 ∃(j:Nat) (c:List Int),k=(j:Int)∧C[j]?=some c∧Fls v c∧((∀ d∈C,d≠[])∨(c=[]∧j+1=C.length))
theorem z79 (h:z1z n v)(hn:n≤12){L:List (List Int)}{s:uI}(hv:s.1=v)(hk:Knw n L s.2.1 s.2.2.1 s.2.2.2.1)(hne:∀ d∈s.2.1,d≠[])(hst:s.2.2.2.1.length≤10000)(hL:L.length≤4000)(hsp:s.2.2.2.2.2=false)
  {i k:Nat} {ci ck:List Int} {x:Int} (hi:s.2.1[i]?=some ci) (hkk:s.2.1[k]?=some ck) (hxi:x∈ci) (hxk:-x∈ck) (fi:∀ y∈ci,y≠x->vl v y=-1) (fk:∀ y∈ck,y≠-x->vl v y=-1) :
  Ok (zCn s (i:Int) (k:Int) x) λr=>r.2.2.2.2=false∧Knw n L r.2.1 r.2.2.1 r.2.2.2.1∧s.2.1 <+: r.2.1∧r.2.2.2.1.length≤s.2.2.2.1.length+1∧Cfl v r.2.1 r.1:=by
 have gi:=hk.good ci (wG hi)
 have gk:=hk.good ck (wG hkk)
 obtain⟨x0,xn⟩:=gi.lit x hxi
 have hlen:=hk.stp.len
 obtain⟨a,b,ca,cb,p,hsw,ha,hb,hp,hpn,hpa,hpb,hfa⟩:∃(a b:Nat) (ca cb:List Int) (p:Int),
   (if decide (x<0)=true then some ((k:Int),(i:Int),zH (0-x)) else some ((i:Int),(k:Int),x))=some ((a:Int),(b:Int),p)∧s.2.1[a]?=some ca∧s.2.1[b]?=some cb∧1≤p∧p≤n∧p∈ca∧-p∈cb∧∀ y,(y∈ca∨y∈cb)->xC y≠p->vl v y=-1:=by
  have hab:∀ y,(y∈ci∨y∈ck)->y.natAbs≠x.natAbs->vl v y=-1:=λy hy hne=>by
   rcases hy with hy | hy
   ·exact fi y hy λe=>hne (by rw[e])
   ·exact fk y hy λe=>hne (by rw[e,Int.natAbs_neg])
  have hsm:∀ y,(y∈ci∨y∈ck)->xC y=(y.natAbs:Int):=λy hy=>zO6 (by
   rcases hy with hy | hy
   ·have:=(gi.lit y hy).2;omega
   ·have:=(gk.lit y hy).2;omega)
  by_cases hneg:x<0
  ·refine⟨k,i,ck,ci,-x,by rw[Ql (Qy hneg),vJ (by omega) (by omega),U6],hkk,hi,by omega,by omega,hxk,by rw[Int.neg_neg];exact hxi,λy hy hne=>hab y hy.symm λe=>hne ?_⟩
   rw[hsm y hy.symm];omega
  ·refine⟨i,k,ci,ck,x,by rw[Qi (by simpa using hneg)],hi,hkk,by omega,by omega,hxi,hxk,λy hy hne=>hab y hy λe=>hne ?_⟩
   rw[hsm y hy];omega
 have ga:=hk.good ca (wG ha)
 have gb:=hk.good cb (wG hb)
 have hno:∀ y z,(y∈ca∨y∈cb)->(z∈ca∨z∈cb)->xC y≠p->y≠-z:=λy z hy hz hyp e=>by
  have hlit:∀ {y:Int},(y∈ca∨y∈cb)->y≠0∧y.natAbs≤n:=λhy=>hy.elim (ga.lit _) (gb.lit _)
  obtain⟨z0,zn⟩:=hlit hz
  obtain⟨y0,yn⟩:=hlit hy
  have h1:=hfa y hy hyp
  have h2:=hfa z hz (by
   rw[zO6 (by omega)] at hyp ⊢
   rw[e,Int.natAbs_neg] at hyp
   exact hyp)
  rw[e,z7y z z0,h2] at h1
  cases h1
 have hres:=z9i (by omega) ga gb hp hpn hpa hpb hno
 have hgr:=z5d (by omega) ga gb hno
 have hfl:Fls v (rsvC ca cb p):=λy hy=>by
  obtain⟨h1,h2⟩:=zWf.1 hy
  exact hfa y h1 h2
 have hmm:∀ y,(y∈ca∨y∈cb)->xC y≠p->y∈rsvC ca cb p:=λy h1 h2=>zWf.2 ⟨h1,h2⟩
 generalize rsvC ca cb p=c at hres hgr hfl hmm
 have hcl:=hgr.len
 unfold zCn
 rw[hsw,zob]
 dsimp only
 rw[qQ ha,zob,qQ hb,zob,hres,zob]
 have hnst:((!(c,true).2)||((len s.2.2.2.1)==20000))=false:=by
  simp only[QO,UO,QU,len];omega
 rw[hnst,Qi (by decide)]
 dsimp only
 rw[key_ok (λy hy=>by have:=(hgr.lit y hy).2;omega) (by omega),zob]
 refine .ite (λhc=>.ret ?_) (λhc=>?_)
 ·obtain⟨h1,h2⟩:=Bool.and_eq_true_iff.1 hc
  obtain⟨w,hw⟩:=Option.isSome_iff_exists.1 h1
  obtain⟨j,d,rfl,h3,h4⟩:=hk.known _ _ hw
  have hd:=z8J h4
  subst hd
  refine⟨hsp,hk,Wm,by show s.2.2.2.1.length≤_;omega,j,d,?_,h3,hfl,.inl hne⟩
  show(xU s.2.2.1 (z7B d)).getD 0=(j:Int)
  rw[hw];rfl
 ·rw[wD (by rw[Qt];omega),zob,wD (by rw[Qt];omega),zob]
  have hw:zH (len (s.2.1++[c])-1)=((s.2.1.length:Nat):Int):=by
   simp only[len,Qd,Qt]
   rw[vJ (by omega) (by omega)];omega
  have hlast:(s.2.1++[c])[s.2.1.length]?=some c:=by rw[Uj (Qr _),Nat.sub_self];rfl
  have hup:∀ {i:Nat} {d:List Int},s.2.1[i]?=some d->(s.2.1++[c])[i]?=some d:=λ{i d} hd=>by
   rw[Q4 (Qe.1 hd).1];exact hd
  refine .ret ⟨hsp,⟨λd hd=>?_,λt w ht=>?_,hk.stp.add ha hb hres hmm hpa hpb⟩,List.prefix_append _ _,by show(s.2.2.2.1++[_]).length≤_;rw[Qd,Qt];omega,s.2.1.length,c,hw,hlast,hfl,?_⟩
  ·rcases Qb.1 hd with hd | hd
   ·exact hk.good d hd
   ·rw[Qa] at hd;subst hd;exact hgr
  ·dsimp only at ht
   rw[z3l] at ht
   by_cases hq:(t==z7B c)=true
   ·rw[Ql hq] at ht
    refine⟨s.2.1.length,c,?_,hlast,(eq_of_beq hq).symm⟩
    rw[←QE ht];exact hw
   ·rw[Qi hq] at ht
    obtain⟨j,d,h1,h2,h3⟩:=hk.known t w ht
    exact⟨j,d,h1,hup h2,h3⟩
  ·by_cases h0:c=[]
   ·exact .inr ⟨h0,by show s.2.1.length+1=(s.2.1++[c]).length;rw[Qd,Qt]⟩
   ·refine .inl λd hd=>?_
    rcases Qb.1 hd with hd | hd
    ·exact hne d hd
    ·rw[Qa] at hd;subst hd;exact h0
end
end
section
theorem z4P:∀ m:Nat,(∀ s,Le (zAC m s) (zAC (m+1) s))∧∀ s x,Le (zAB m s x) (zAB (m+1) s x)
 | 0=>⟨λs=>Le.none _,λs x=>Le.none _⟩
 | m+1=>by
  obtain⟨h1,h2⟩:=z4P m
  constructor
  ·intro s
   show Le (zBX (zAC m) (zAB m) s) (zBX (zAC (m+1)) (zAB (m+1)) s)
   unfold zBX
   repeat with_reducible (first | exact h2 _ _ | exact Le.refl _ | refine Le.bind ?_ λ_=>?_ | refine Le.seqE ?_ λ_=>?_ | refine Le.ite ?_ ?_)
  ·intro s x
   show Le (zCD (zAC m) (zAB m) s x) (zCD (zAC (m+1)) (zAB (m+1)) s x)
   unfold zCD
   repeat with_reducible (first | exact h1 _ | exact Le.refl _ | refine Le.bind ?_ λ_=>?_ | refine Le.seqE ?_ λ_=>?_ | refine Le.ite ?_ ?_)
theorem find_of{m:Nat}{s:uI}{r:Int×(List Int)×(List (List Int))×(List (zD×Int))×(List yT)×Int×Bool}(h:zAC m s=some r): zFu s=some r :=
 zQf m λq hq=>by
  obtain⟨d,rfl⟩:=Nat.le.dest hq
  clear hq
  induction d with
  | zero=>exact h
  | succ d ih=>exact((z4P (m+d)).1 s).el r ih
abbrev Fnd:Type:=Int×(List Int)×(List (List Int))×(List (zD×Int))×(List yT)×Int×Bool
structure FQ (n:Nat)(L:List (List Int))(v w:List Int)(C:List (List Int))(t m b:Nat)(r:Fnd): Prop where
 stop:r.2.2.2.2.2.2=false
 nd:∃ m':Nat,r.2.2.2.2.2.1=(m':Int)∧m<m'∧m' + 1≤m+b∧r.2.2.2.2.1.length+m≤t+m'
 kn:Knw n L r.2.2.1 r.2.2.2.1 r.2.2.2.2.1
 pre:C <+: r.2.2.1
 out:(r.1=-1∧(∀ d∈r.2.2.1,d≠[])∧z1z n r.2.1∧∀ c∈r.2.2.1,∃ x∈c,vl r.2.1 x=1)∨(r.2.1=v∧Cfl w r.2.2.1 r.1)
structure FP (n:Nat)(L:List (List Int))(v:List Int)(C:List (List Int))(kn:List (zD×Int))(st:List yT)(m b:Nat): Prop where
 vals:z1z n v
 kn:Knw n L C kn st
 ne:∀ d∈C,d≠[]
 st:st.length≤m
 b:m+b≤9001
section
variable {n:Nat}{L:List (List Int)}
theorem pre_at{C C':List (List Int)}(h:C <+: C'){i:Nat}{c:List Int}(hi:C[i]?=some c): C'[i]?=some c:=by
 obtain⟨D,rfl⟩:=h
 rw[Q4 (Qe.1 hi).1];exact hi
theorem under_ok (hn:n≤12){f u:Nat}(ih:∀ v C kn st m,opv v=u->FP n L v C kn st m (2 ^ (u+1))->Ok (zAC f (v,C,kn,st,(m:Int),false)) (FQ n L v v C st.length m (2 ^ (u+1))))
  {v:List Int} {C:List (List Int)} {kn:List (zD×Int)} {st:List yT} {m:Nat} (hu:opv v=u+1) (h:FP n L v C kn st m (2 ^ (u+1))) {x:Int} (hx:x≠0) (hxn:x.natAbs≤n) (h0:vl v x=0) :
  Ok (zAB (f+1) (v,C,kn,st,(m:Int),false) x) (FQ n L v (stv v x 1) C st.length m (2 ^ (u+1))):=by
 have hv1:=stv_vals h.vals (x:=x) (w:=1) (.inr rfl)
 have hu1:opv (stv v x 1)=u:=by have:=opv_set h.vals hx hxn h0;omega
 obtain⟨r,e,q⟩:=ih (stv v x 1) C kn st m hu1 ⟨hv1,h.kn,h.ne,h.st,h.b⟩
 show Ok (zCD (zAC f) (zAB f) (v,C,kn,st,(m:Int),false) x) _
 unfold zCD
 rw[set_ok h.vals hn rfl hx hxn (.inr rfl),zob]
 dsimp only
 rw[e,zob,q.stop,Bool.or_false]
 rcases q.out with⟨o1,o2,o3,o4⟩ | ⟨o1,o2⟩
 ·rw[o1,Qi (by decide),←q.stop]
  exact .ret ⟨q.stop,q.nd,q.kn,q.pre,.inl ⟨o1▸rfl,o2,o3,o4⟩⟩
 ·obtain⟨j,c,hj,hc,hf,hl⟩:=o2
  rw[hj,Ql (Qy (by omega)),set_ok (v:=stv v x 1) hv1 hn (s:=(r.2.1,r.2.2.1,r.2.2.2.1,r.2.2.2.2.1,r.2.2.2.2.2.1,false)) o1 hx hxn (.inl rfl),zob,stv_back h.vals hx hxn h0]
  exact .ret ⟨rfl,q.nd,q.kn,q.pre,.inr ⟨rfl,j,c,rfl,hc,hf,hl⟩⟩
theorem zVK{v:List Int}(h:z1z n v){C:List (List Int)}{x k:Int}(hx:x≠0)(hxn:x.natAbs≤n)(hg:∀ c∈C,zOw n c)(hC:Cfl (stv v x 1) C k):
  ∃(j:Nat) (c:List Int),k=(j:Int)∧C[j]?=some c∧(∀ y∈c,y≠-x->vl v y=-1)∧(-x∉c->Cfl v C k)∧(-x∈c->∀ d∈C,d≠[]):=by
 obtain⟨j,c,hj,hc,hf,hl⟩:=hC
 have hlit:=(hg c (wG hc)).lit
 have hy:∀ y∈c,y≠-x->vl v y=-1:=λy hy hne=>by
  have h1:=hf y hy
  rw[vl_stv h hx hxn (hlit y hy).1] at h1
  by_cases h2:y=x
  ·rw[Ql h2] at h1;cases h1
  ·rwa [Qi h2,Qi hne] at h1
 refine⟨j,c,hj,hc,hy,λhno=>⟨j,c,hj,hc,λy hm=>hy y hm λe=>hno (e▸hm),hl⟩,λhin=>?_⟩
 rcases hl with hl | ⟨hl,_⟩
 ·exact hl
 ·subst hl;cases hin
theorem find_ok (hn:n≤12)(hL:L.length≤4000): ∀(u:Nat) (v:List Int) (C:List (List Int)) (kn:List (zD×Int)) (st:List yT) (m:Nat),opv v=u->FP n L v C kn st m (2 ^ (u+1))->
  Ok (zAC (2*u+1) (v,C,kn,st,(m:Int),false)) (FQ n L v v C st.length m (2 ^ (u+1))):=by
 intro u
 induction u with
 | zero =>
  intro v C kn st m hu h
  have hb:=h.b
  have hst:=h.st
  have hCl:=h.kn.stp.len
  show Ok (zBX (zAC 0) (zAB 0) (v,C,kn,st,(m:Int),false)) _
  unfold zBX
  dsimp only
  rw[yJ m (by omega),Qi (by simp only[Qm];omega),zob]
  dsimp only
  rw[Qi (by decide)]
  obtain⟨⟨r1,r2⟩,e1,q1⟩:=look_ok h.vals hn (s:=(v,C,kn,st,((m+1:Nat):Int),false)) rfl rfl h.kn.good (by show C.length≤100000;omega)
  rw[e1,zob]
  have hnone:∀ {x:Int},x≠0->x.natAbs≤n->vl v x≠0:=λhx hxn h0=>by
   have:=opv_set h.vals hx hxn h0;omega
  rcases q1 with⟨g1,k,c,g2,g3,g4⟩ | ⟨g1,g2,g3⟩ | ⟨g1,k,c,g2,g3,g4,g5,_⟩
  ·dsimp only at g1 g2
   subst g1 g2
   rw[Ql (by simp)]
   exact .ret ⟨rfl,⟨m+1,rfl,by omega,by omega,by show st.length+m≤st.length+(m+1);omega⟩,h.kn,Wm,.inr ⟨rfl,k,c,rfl,g3,g4,.inl h.ne⟩⟩
  ·dsimp only at g1 g2
   subst g1 g2
   rw[Qi (by decide),Ql (by decide)]
   obtain⟨r2,e2,q2⟩:=z5k h.vals hn (s:=(v,C,kn,st,((m+1:Nat):Int),false)) rfl rfl h.kn.good (by show C.length≤100000;omega) g3
   rw[e2,zob]
   rcases q2 with⟨rfl,q3⟩ | ⟨q3,q4,q5⟩
   ·rw[Ql (by rfl)]
    exact .ret ⟨rfl,⟨m+1,rfl,by omega,by omega,by show st.length+m≤st.length+(m+1);omega⟩,h.kn,Wm,.inl ⟨rfl,h.ne,h.vals,q3⟩⟩
   ·exact absurd q5 (hnone q3 q4)
  ·exact absurd g5 (hnone g1 ((h.kn.good c (wG g3)).lit _ g4).2)
 | succ u ih =>
  intro v C kn st m hu h
  have hb:=h.b
  have hst:=h.st
  have hCl:=h.kn.stp.len
  have hpow:2 ^ (u+1+1)=2 ^ (u+1)+2 ^ (u+1):=by rw[Nat.pow_succ];omega
  have hpos:1≤2 ^ (u+1):=Nat.one_le_two_pow
  rw[hpow] at hb ⊢
  have hund:∀ {C kn st m},FP n L v C kn st m (2 ^ (u+1))->∀ {x:Int},x≠0->x.natAbs≤n->vl v x=0->Ok (zAB (2*(u+1)) (v,C,kn,st,(m:Int),false) x) (FQ n L v (stv v x 1) C st.length m (2 ^ (u+1))) :=
   λ{C' kn' st' m'} h' {x} hx hxn h0=>under_ok hn (f:=2*u+1) ih hu h' hx hxn h0
  show Ok (zBX (zAC (2*(u+1))) (zAB (2*(u+1))) (v,C,kn,st,(m:Int),false)) _
  unfold zBX
  dsimp only
  rw[yJ m (by omega),Qi (by simp only[Qm];omega),zob]
  dsimp only
  rw[Qi (by decide)]
  obtain⟨⟨r1,r2⟩,e1,q1⟩:=look_ok h.vals hn (s:=(v,C,kn,st,((m+1:Nat):Int),false)) rfl rfl h.kn.good (by show C.length≤100000;omega)
  rw[e1,zob]
  have hP:FP n L v C kn st (m+1) (2 ^ (u+1)):=⟨h.vals,h.kn,h.ne,by omega,by omega⟩
  rcases q1 with⟨g1,k,c,g2,g3,g4⟩ | ⟨g1,g2,g3⟩ | ⟨g1,k,c,g2,g3,g4,g5,g6⟩
  ·dsimp only at g1 g2
   subst g1 g2
   rw[Ql (by simp)]
   exact .ret ⟨rfl,⟨m+1,rfl,by omega,by omega,by show st.length+m≤st.length+(m+1);omega⟩,h.kn,Wm,.inr ⟨rfl,k,c,rfl,g3,g4,.inl h.ne⟩⟩
  ·
   dsimp only at g1 g2
   subst g1 g2
   rw[Qi (by decide),Ql (by decide)]
   obtain⟨x,e2,q2⟩:=z5k h.vals hn (s:=(v,C,kn,st,((m+1:Nat):Int),false)) rfl rfl h.kn.good (by show C.length≤100000;omega) g3
   rw[e2,zob]
   rcases q2 with⟨rfl,q3⟩ | ⟨q3,q4,q5⟩
   ·rw[Ql (by rfl)]
    exact .ret ⟨rfl,⟨m+1,rfl,by omega,by omega,by show st.length+m≤st.length+(m+1);omega⟩,h.kn,Wm,.inl ⟨rfl,h.ne,h.vals,q3⟩⟩
   ·rw[Qi (by simpa using q3)]
    show Ok ((zAB (2*(u+1)) (v,C,kn,st,((m+1:Nat):Int),false) x).bind _) _
    obtain⟨⟨n1,v1,C1,kn1,st1,m1,b1⟩,e3,s1,⟨m1',hm1,hm2,hm3,hm4⟩,s3,s4,s5⟩:=hund hP q3 q4 q5
    dsimp only at s1 hm1 hm2 hm3 hm4 s3 s4 s5
    subst s1 hm1
    rw[e3,zob]
    dsimp only
    rcases s5 with⟨o1,o2,o3,o4⟩ | ⟨o1,o2⟩
    ·subst o1
     rw[Ql (by simp),zob,Ql rfl]
     exact .ret ⟨rfl,⟨m1',rfl,by omega,by omega,by show st1.length+m≤_;omega⟩,s3,s4,.inl ⟨rfl,o2,o3,o4⟩⟩
    ·subst o1
     obtain⟨j,cf,rfl,hc,hf,hno,hin⟩:=zVK h.vals q3 q4 s3.good o2
     rw[Qi (by simp only[Qm];omega),Qi (by decide),qQ hc,zob,vJ (x:=0-x) (by omega) (by omega),U6,zGC cf (-x) (by have:=(s3.good cf (wG hc)).len;omega),zob,zob]
     by_cases hxc:-x∈cf
     ·rw[Qy hxc,Qi (by decide),Ql (by simp)]
      have hne1:=hin hxc
      have hP2:FP n L v1 C1 kn1 st1 m1' (2 ^ (u+1)):=⟨h.vals,s3,hne1,by omega,by omega⟩
      obtain⟨⟨n2,v2,C2,kn2,st2,m2,b2⟩,e4,t1,⟨m2',hk1,hk2,hk3,hk4⟩,t3,t4,t5⟩:=hund hP2 (x:=-x) (by omega) (by omega) (by rw[z7y x q3,q5];rfl)
      dsimp only at t1 hk1 hk2 hk3 hk4 t3 t4 t5
      subst t1 hk1
      rw[e4,zob]
      dsimp only
      have hC2:=t3.stp.len
      rcases t5 with⟨o1,o3,o4,o5⟩ | ⟨o1,o3⟩
      ·subst o1
       rw[Ql (by simp),zob,Ql rfl]
       exact .ret ⟨rfl,⟨m2',rfl,by omega,by omega,by show st2.length+m≤_;omega⟩,t3,s4.trans t4,.inl ⟨rfl,o3,o4,o5⟩⟩
      ·subst o1
       obtain⟨j2,cu,rfl,hc2,hf2,hno2,hin2⟩:=zVK h.vals (x:=-x) (by omega) (by omega) t3.good o3
       rw[Int.neg_neg] at hf2 hno2 hin2
       rw[Qi (by simp only[Qm];omega),Qi (by decide),qQ hc2,zob,zGC cu x (by have:=(t3.good cu (wG hc2)).len;omega),zob,zob]
       by_cases hxu:x∈cu
       ·rw[Qy hxu,Qi (by decide)]
        show Ok ((zCn (v2,C2,kn2,st2,((m2':Nat):Int),false) (j2:Int) (j:Int) x).bind _) _
        obtain⟨⟨n3,C3,kn3,st3,b3⟩,e5,w1,w2,w3,w4,w5⟩:=z79 h.vals hn (L:=L) (s:=(v2,C2,kn2,st2,((m2':Nat):Int),false)) rfl t3 (hin2 hxu) (by show st2.length≤10000;omega) hL rfl hc2 (pre_at t4 hc) hxu hxc hf2 hf
        rw[e5,zob]
        exact .ret ⟨w1,⟨m2',rfl,by omega,by omega,by have:st3.length≤st2.length+1:=w4;show st3.length+m≤_;omega⟩,w2,(s4.trans t4).trans w3,.inr ⟨rfl,w5⟩⟩
       ·rw[Q9 hxu,Ql (by decide)]
        exact .ret ⟨rfl,⟨m2',rfl,by omega,by omega,by show st2.length+m≤_;omega⟩,t3,s4.trans t4,.inr ⟨rfl,hno2 hxu⟩⟩
     ·rw[Q9 hxc,Ql (by decide)]
      exact .ret ⟨rfl,⟨m1',rfl,by omega,by omega,by show st1.length+m≤_;omega⟩,s3,s4,.inr ⟨rfl,hno hxc⟩⟩
  ·
   dsimp only at g1 g2 g4 g5 g6
   subst g2
   obtain⟨x0,xn⟩:=(h.kn.good c (wG g3)).lit _ g4
   have hz:(decide (0≤((k:Nat):Int))&&r2==0)=false:=by rw[Bool.and_eq_false_iff];exact .inr (by simpa using g1)
   rw[hz,Qi (by decide),Qi (by simp only[Qm];omega)]
   show Ok ((zAB (2*(u+1)) (v,C,kn,st,((m+1:Nat):Int),false) r2).bind _) _
   obtain⟨⟨n1,v1,C1,kn1,st1,m1,b1⟩,e3,s1,⟨m1',hm1,hm2,hm3,hm4⟩,s3,s4,s5⟩:=hund hP x0 xn g5
   dsimp only at s1 hm1 hm2 hm3 hm4 s3 s4 s5
   subst s1 hm1
   rw[e3,zob]
   dsimp only
   rcases s5 with⟨o1,o2,o3,o4⟩ | ⟨o1,o2⟩
   ·subst o1
    rw[Ql (by simp),zob,Ql rfl]
    exact .ret ⟨rfl,⟨m1',rfl,by omega,by omega,by show st1.length+m≤_;omega⟩,s3,s4,.inl ⟨rfl,o2,o3,o4⟩⟩
   ·subst o1
    obtain⟨j,cf,rfl,hc,hf,hno,hin⟩:=zVK h.vals x0 xn s3.good o2
    rw[Qi (by simp only[Qm];omega),Qi (by decide),qQ hc,zob,vJ (x:=0-r2) (by omega) (by omega),U6,zGC cf (-r2) (by have:=(s3.good cf (wG hc)).len;omega),zob,zob]
    by_cases hxc:-r2∈cf
    ·rw[Qy hxc,Qi (by decide),Qi (by simp only[Qm];omega)]
     show Ok ((zCn (v1,C1,kn1,st1,((m1':Nat):Int),false) (k:Int) (j:Int) r2).bind _) _
     obtain⟨⟨n3,C3,kn3,st3,b3⟩,e5,w1,w2,w3,w4,w5⟩:=z79 h.vals hn (L:=L) (s:=(v1,C1,kn1,st1,((m1':Nat):Int),false)) rfl s3 (hin hxc) (by show st1.length≤10000;omega) hL rfl (pre_at s4 g3) hc g4 hxc g6 hf
     rw[e5,zob]
     exact .ret ⟨w1,⟨m1',rfl,by omega,by omega,by have:st3.length≤st1.length+1:=w4;show st3.length+m≤_;omega⟩,w2,s4.trans w3,.inr ⟨rfl,w5⟩⟩
    ·rw[Q9 hxc,Ql (by decide)]
     exact .ret ⟨rfl,⟨m1',rfl,by omega,by omega,by show st1.length+m≤_;omega⟩,s3,s4,.inr ⟨rfl,hno hxc⟩⟩
end
end
section
section
variable {n:Nat}{L:List (List Int)}
structure Cls (n:Nat)(L:List (List Int)): Prop where
 hn:n≤12
 good:∀ c∈L,zOw n c
 ne:∀ c∈L,c≠[]
 len:L.length≤4000
theorem z3v (h:Cls n L): zII (n:Int) L=some 0:=by
 have hn:=h.hn
 have hl:=h.len
 unfold zII
 rw[Qi (by simp only[Uv,Qm];omega),Qi (by simp only[Qm,len];omega)]
 refine zZO (l:=L) (λi c hx=>?_) ?_
 ·have hg:=h.good c (wG hx)
  have hcl:=hg.len
  unfold zKm
  simp only[wL hx,Qf,qQ hx,zob,zWF hg (by omega) (by omega),qV hx (by omega),bne_self_eq_false,zbf,Qc]
 ·unfold zKm
  simp only[uH,zbf,Qc]
theorem z8y (h:Cls n L){C:List (List Int)}{st:List yT}(hs:StpV L C st)(hst:st.length≤20000){j:Nat}(hj:C[j]?=some [])(hjl:j+1=C.length): zLT L st=some true:=by
 have hl:=h.len
 have hlen:=hs.len
 have hC:L=C.take L.length:=List.prefix_iff_eq_take.1 hs.pre
 have hpos:0<st.length:=by
  rcases Nat.eq_zero_or_pos st.length with h0 | h0
  ·have hCL:C.length=L.length:=by omega
   have:C=L:=by rw[hC,←hCL,QC]
   rw[this] at hj
   exact absurd rfl (h.ne [] (wG hj))
  ·exact h0
 unfold zLT
 rw[Qi (by simp only[len,Q5];omega)]
 rw[show zBy L=some L from by simp[zBy,zPs (show L.length<4294967296 by omega)],zob]
 have hlp:zN (zGD st) (L,0)=some (.inl C):=by
  have h1:=uP (B:=zGD st) (λq (s:List (List Int))=>(s,(q:Int))) st (λq s=>s=C.take (L.length+q)) (λr=>r=.inl C) ?_ ?_ L (by rw[QM];exact hC)
  ·obtain⟨r,e,rfl⟩:=h1
   exact e
  ·rintro q t s hx rfl
   have hq:=vM hx
   obtain⟨a,b,ca,cb,c,h1,h2,h3,h4,h5,h6,h7,h8,_⟩:=hs.at_ q t hx
   have hup:∀ {i:Nat} {d:List Int},i<L.length+q->C[i]?=some d->(C.take (L.length+q))[i]?=some d:=λ{i d} hi hd=>by
    rw[List.getElem?_take_of_lt hi];exact hd
   have htl:(C.take (L.length+q)).length=L.length+q:=by rw[QB];omega
   refine .inl ⟨C.take (L.length+(q+1)),?_,rfl⟩
   unfold zGD
   simp only[wL hx,Qf,qQ hx,zob,qV hx (by omega)]
   have hd:((decide ((if t.2.1<t.1 then t.2.1 else t.1)<0))||(decide ((len (C.take (L.length+q)))≤(if t.2.1 > t.1 then t.2.1 else t.1))))=false:=by
    rw[h1,h2]
    simp only[len,htl,Un,QV]
    constructor <;> split <;> omega
   rw[hd,Qi (by decide),h1,h2,qQ (hup h3 h5),zob,qQ (hup h4 h6),zob,h8,zob,Qi (by simp),wD (by rw[htl,Qt];omega),zob]
   rw[show L.length+(q+1)=(L.length+q)+1 from rfl,uL h7]
  ·rintro s rfl
   refine⟨_,?_,rfl⟩
   unfold zGD
   simp only[uH,zbf,Qc]
   rw[←hlen,QC]
 rw[hlp]
 show(zC C (zH (len C-1))).bind _=_
 have hw:zH (len C-1)=((j:Nat):Int):=by
  simp only[len]
  rw[vJ (by omega) (by omega)];omega
 rw[hw,qQ hj]
 rfl
theorem zOw.uniq{c:List Int}(h:zOw n c){x y:Int}(hx:x∈c)(hy:y∈c)(he:x.natAbs=y.natAbs): x=y:=by
 obtain⟨i,hi⟩:=Qp.1 hx
 obtain⟨j,hj⟩:=Qp.1 hy
 have hi1:=(Qe.1 hi).1
 have hj1:=(Qe.1 hj).1
 have hi2:=(Qe.1 hi).2
 have hj2:=(Qe.1 hj).2
 rcases Nat.lt_trichotomy i j with hlt | hlt | hlt
 ·have:=Ud.1 h.asc i j hi1 hj1 hlt
  rw[hi2,hj2] at this;omega
 ·subst hlt
  rw[hi] at hj;exact QE hj
 ·have:=Ud.1 h.asc j i hj1 hi1 hlt
  rw[hi2,hj2] at this;omega
theorem stp_sound{C:List (List Int)}{st:List yT}(hs:StpV L C st)(hg:∀ c∈C,zOw n c)(hn:n≤12)(A:Int->Prop)(hA:∀ x,A x->¬ A (-x))(hL:∀ c∈L,∃ x∈c,A x): ∀(i:Nat) c,C[i]?=some c->∃ x∈c,A x:=by
 intro i
 induction i using Nat.strongRecOn with
 | ind i ih =>
  intro c hc
  have hlen:=hs.len
  have hi:=(Qe.1 hc).1
  by_cases hlt:i<L.length
  ·have:L[i]?=some c:=by
    rw[List.prefix_iff_eq_take.1 hs.pre,List.getElem?_take_of_lt hlt];exact hc
   exact hL c (wG this)
  ·obtain⟨t,ht⟩:∃ t,st[i-L.length]?=some t:=⟨_,Qh (by omega)⟩
   obtain⟨a,b,ca,cb,d,h1,h2,h3,h4,h5,h6,h7,h8,h9,h10,h11⟩:=hs.at_ _ t ht
   rw[show L.length+(i-L.length)=i by omega] at h3 h4 h7
   rw[hc] at h7
   have hcd:=QE h7
   subst hcd
   obtain⟨x,x1,x2⟩:=ih a h3 ca h5
   obtain⟨y,y1,y2⟩:=ih b h4 cb h6
   have ga:=hg ca (wG h5)
   have gb:=hg cb (wG h6)
   have hxn:=(ga.lit x x1).2
   have hyn:=(gb.lit y y1).2
   have hpn:=(ga.lit _ h10).2
   by_cases hx:xC x=t.2.2
   ·by_cases hy:xC y=t.2.2
    ·rw[zO6 (by omega)] at hx hy
     have e1:=ga.uniq x1 h10 (by omega)
     have e2:=gb.uniq y1 h11 (by rw[Int.natAbs_neg];omega)
     rw[e1] at x2
     rw[e2] at y2
     exact absurd y2 (hA _ x2)
    ·exact⟨y,h9 y (.inr y1) hy,y2⟩
   ·exact⟨x,h9 x (.inl x1) hx,x2⟩
theorem model_ok{v:List Int}(hv:v.length≤1000){s:uI}(hs:s.1=v): zFZ s=some (v.map λa=>decide (0<a)):=by
 unfold zFZ
 have hl:=zEs (B:=zEK s) v (λr a=>r++[decide (0<a)]) id (λi r=>r.length≤i) ([]:List Bool) (by simp) ?_ ?_
 ·rw[hl.1,zH5];rfl
 ·intro i x r hx hI
  have:=vM hx
  unfold zEK
  rw[hs]
  simp only[wL hx,Qf,qQ hx,zob,qV hx (by omega)]
  rw[wD (by simp;omega)]
  exact⟨rfl,by simp;omega⟩
 ·intro r _
  unfold zEK
  rw[hs]
  simp[len]
def Ans (n:Nat)(L:List (List Int))(r:zNr): Prop :=
 (∃ v:List Int,z1z n v∧r=(true,v.map (λa=>decide (0<a)),[])∧∀ c∈L,∃ x∈c,vl v x=1) ∨
 (∃ st:List yT,r=(false,[],st)∧zNx (n:Int) L (false,[],st)=some 0∧∀ A:Int->Prop,(∀ x,A x->¬ A (-x))->¬ ∀ c∈L,∃ x∈c,A x)
theorem solve_ok (h:Cls n L): Ok (zLg (n:Int) L) λr=>r.2=0∧Ans n L r.1:=by
 have hn:=h.hn
 have hl:=h.len
 unfold zLg
 rw[z3v h,zob,Qi (by decide)]
 have h1:zN (zKa L) 0=some (.inl ()):=by
  refine zZO (l:=L) (λi c hx=>?_) ?_
  ·have hne:=h.ne c (wG hx)
   unfold zKa
   simp only[wL hx,Qf,qQ hx,zob,qV hx (by omega)]
   rw[Qi]
   simp only[len,Q5]
   intro e
   exact hne (QR (by omega))
  ·unfold zKa
   simp only[uH,zbf,Qc]
 rw[h1]
 have hv0:z1z n (List.replicate n (0:Int)):=⟨U0,λx hx=>by rw[List.eq_of_mem_replicate hx];omega⟩
 have hmk:mkS (n:Int) (n:Int) (0:Int)=some (List.replicate n 0):=by
  unfold mkS
  rw[Ql ⟨by omega,by omega,by omega⟩,Qj]
 have hcl:zBy L=some L:=by simp[zBy,zPs (show L.length<4294967296 by omega)]
 show Ok ((((mkS (n:Int) (n:Int) (0:Int)).bind λx2=>(zBy L).bind λr2=>some (x2,r2,([]:List (zD×Int)),([]:List yT),(0:Int),false)):Option uI).bind _) _
 rw[hmk,zob,hcl,zob,zob]
 have hop:=opv_le (List.replicate n (0:Int))
 rw[U0] at hop
 have hpw:2 ^ (opv (List.replicate n (0:Int))+1)≤8192:=US (n:=2) (by decide) (show _≤13 by omega)
 obtain⟨r,e,q⟩:=find_ok hn hl (opv (List.replicate n (0:Int))) (List.replicate n 0) L [] [] 0 rfl ⟨hv0,⟨h.good,λt w hw=>(by cases hw),⟨Wm,rfl,λq t ht=>(by cases ht)⟩⟩,h.ne,Qr _,by omega⟩
 have e':zFu (List.replicate n 0,L,[],[],0,false)=some r:=find_of e
 rw[e',zob,q.stop,Qi (by decide)]
 obtain⟨m',hm1,hm2,hm3,hm4⟩:=q.nd
 rcases q.out with⟨o1,o2,o3,o4⟩ | ⟨o1,j,c,o2,o3,o4,o5⟩
 ·rw[o1,Ql (by decide),model_ok (v:=r.2.1) (by rw[o3.len];omega) (s:=(r.2.1,r.2.2.1,r.2.2.2.1,r.2.2.2.2.1,r.2.2.2.2.2.1,false)) rfl,zob]
  exact .ret ⟨rfl,.inl ⟨r.2.1,o3,rfl,λc hc=>o4 c (q.pre.subset hc)⟩⟩
 ·rw[o2,Qi (by simp only[Qm];omega)]
  have hc0:c=[]:=by
   cases c with
   | nil=>rfl
   | cons x c =>
    have hx:=o4 x Qq
    have:vl (List.replicate n (0:Int)) x=0:=by
     unfold vl
     rw[Ub,List.getElem?_replicate]
     split <;> split <;> rfl
    rw[this] at hx;cases hx
  subst hc0
  have hlast:j+1=r.2.2.1.length:=by
   rcases o5 with o5 | ⟨_,o5⟩
   ·exact absurd rfl (o5 [] (wG o3))
   ·exact o5
  have hst:r.2.2.2.2.1.length≤20000:=by
   have:r.2.2.2.2.1.length+0≤0+m':=hm4
   omega
  refine .ret ⟨rfl,.inr ⟨r.2.2.2.2.1,rfl,?_,λA hA hAL=>?_⟩⟩
  ·unfold zNx
   rw[z3v h,zob,Qi (by decide),Qi (by simp),Qi (by simp[len]),Qi (by simp only[len,Qm];omega),z8y h q.kn.stp hst o3 hlast]
   rfl
  ·obtain⟨x,hx,_⟩:=stp_sound q.kn.stp q.kn.good hn A hA hAL j [] o3
   cases hx
end
end
section
section
variable {N:Nat}{L:List qG}
def wI (i:Int): Int:=i+1
def wX (N:Nat)(i:Int): Int:=N+i+1
def enc1 (N:Nat)(i:Int)(P:List Int): List (List Int):=[-wI i,-wX N i]::P.map λa=>[-wI i,wX N a]
def enc2 (N:Nat)(i:Int)(P:List Int): List (List Int):=P.map λa=>[-wI a,wX N i]
def z8q (N:Nat)(i:Int)(P:List Int): List (List Int):=enc1 N i P++[wI i::P.map λa=>-wX N a]++enc2 N i P++[(P.map wI)++[-wX N i]]
def encA (N:Nat)(L:List qG)(k:Int): List (List Int):=((wC N).flatMap λi=>z8q N i (qJ N L i))++[[wI k]]
theorem z2O{e:zAY}{i:Int}(h0:0≤i)(h1:i≤1000): zBJ e i=some (wI i):=by
 unfold zBJ wI
 rw[vJ (by omega) (by omega)]
theorem z0d{l:List (List Int)}{i:Int}(hN:N≤40)(h0:0≤i)(h1:i≤1000): zAz ((N:Int),l) i=some (wX N i):=by
 unfold zAz wX
 dsimp only
 rw[vJ (x:=(N:Int)+i) (by omega) (by omega),vJ (by omega) (by omega)]
theorem zXM{l:List (List Int)}{c:List Int}{x:Int}(h:l.length≤1000000): zBA (x,l) c=some (l++[c]):=by
 unfold zBA
 dsimp only
 rw[wD (by rw[Qt];omega),zob]
theorem node_L1 (hN:N≤40){P:List Int}(hP:∀ x∈P,0≤x∧x<N)(hl:P.length≤40){i:Int}(hi:0≤i∧i<N){l:List (List Int)}(hll:l.length≤100000)(e0:zAY)(he:e0.1=(N:Int)):
  zN (zCq P e0 i) ([wI i],[],0,l)=some (wI i::P.map (λa=>-wX N a),P.map wI,l++P.map λa=>[-wI i,wX N a]):=by
 have h:=uP (B:=zCq P e0 i) (λq (s:List Int×List Int×List (List Int))=>(s.1,s.2.1,(q:Int),s.2.2)) P
  (λq s=>s=(wI i::(P.take q).map (λa=>-wX N a),(P.take q).map wI,l++(P.take q).map λa=>[-wI i,wX N a])) (λr=>r=(wI i::P.map (λa=>-wX N a),P.map wI,l++P.map λa=>[-wI i,wX N a])) ?_ ?_ ([wI i],[],l) (by simp)
 ·obtain⟨r,e,rfl⟩:=h
  exact e
 ·rintro q a s hx rfl
  have hq:=vM hx
  obtain⟨a0,a1⟩:=hP a (wG hx)
  refine .inl ⟨(wI i::(P.take (q+1)).map (λa=>-wX N a),(P.take (q+1)).map wI,l++(P.take (q+1)).map λa=>[-wI i,wX N a]),?_,rfl⟩
  unfold zCq
  simp only[wL hx,Qf,qQ hx,zob,qV hx (by omega),he]
  have hio:-wI i=0-wI i:=by omega
  rw[z2O hi.1 (by omega),zob,z0d hN a0 (by omega),zob,vJ (x:=0-wI i) (by unfold wI;omega) (by unfold wI;omega),U6,zXM (by rw[Qd,QJ,QB];omega),zob,z0d hN a0 (by omega),zob,
   vJ (x:=0-wX N a) (by unfold wX;omega) (by unfold wX;omega),U6,wD (by simp only[QK,QJ,QB,Uq];omega),zob,z2O a0 (by omega),zob,wD (by simp only[QK,QJ,QB,Uq];omega),zob]
  rw[uL hx]
  simp only[UL,Ug,List.map_nil,Ur,Qs]
 ·rintro s rfl
  refine⟨_,?_,rfl⟩
  unfold zCq
  simp only[uH,zbf,Qc,QC]
theorem node_L2 (hN:N≤40){P:List Int}(hP:∀ x∈P,0≤x∧x<N)(hl:P.length≤40){i:Int}(hi:0≤i∧i<N){l:List (List Int)}(hll:l.length≤100000)(e0:zAY)(he:e0.1=(N:Int)):
  zN (zCr P e0 i) (0,l)=some (l++enc2 N i P):=by
 have h:=uP (B:=zCr P e0 i) (λq (s:List (List Int))=>((q:Int),s)) P (λq s=>s=l++enc2 N i (P.take q)) (λr=>r=l++enc2 N i P) ?_ ?_ l (by simp[enc2])
 ·obtain⟨r,e,rfl⟩:=h
  exact e
 ·rintro q a s hx rfl
  have hq:=vM hx
  obtain⟨a0,a1⟩:=hP a (wG hx)
  refine .inl ⟨l++enc2 N i (P.take (q+1)),?_,rfl⟩
  unfold zCr
  simp only[wL hx,Qf,qQ hx,zob,qV hx (by omega),he]
  rw[z2O a0 (by omega),zob,z0d hN hi.1 (by omega),zob,vJ (x:=0-wI a) (by unfold wI;omega) (by unfold wI;omega),U6,zXM (by unfold enc2;rw[Qd,QJ,QB];omega),zob]
  unfold enc2
  rw[uL hx]
  simp only[UL,Ug,List.map_nil,Qs]
 ·rintro s rfl
  refine⟨_,?_,rfl⟩
  unfold zCr
  simp only[uH,zbf,Qc,QC]
theorem zEx{i x:Int}(hx:x∈qJ N L i): 0≤x∧x<N:=xW.1 (Qk.1 hx).1
theorem node_ok (h:wY N L){i:Int}(hi:0≤i∧i<N){l:List (List Int)}(hll:l.length≤50000): zFW ((N:Int),l) ((N:Int),L) i false=some (l++z8q N i (qJ N L i)):=by
 have hN:=h.hN
 have hl:=zMa (L:=L) (N:=N) i
 have hP:∀ x∈qJ N L i,0≤x∧x<(N:Int):=λx hx=>zEx hx
 unfold zFW
 rw[zJ1 h,zob,z2O hi.1 (by omega),zob,z0d hN hi.1 (by omega),zob,vJ (x:=0-wI i) (by unfold wI;omega) (by unfold wI;omega),vJ (x:=0-wX N i) (by unfold wX;omega) (by unfold wX;omega),U6,U6,zXM (by omega),zob,z2O hi.1 (by omega),zob,
  node_L1 hN hP (by omega) hi (by rw[Qd,Qt];omega) _ rfl,zob]
 dsimp only
 rw[zXM (by simp only[Qd,QJ,Qt];omega),zob,node_L2 hN hP (by omega) hi (by simp only[Qd,QJ,Qt];omega) _ rfl,zob]
 have ho:zAz ((N:Int),l++[[-wI i,-wX N i]]++List.map (λa=>[-wI i,wX N a]) (qJ N L i)++[wI i::List.map (λa=>-wX N a) (qJ N L i)]++enc2 N i (qJ N L i)) i=some (wX N i):=z0d hN hi.1 (by omega)
 rw[ho,zob,vJ (x:=0-wX N i) (by unfold wX;omega) (by unfold wX;omega),U6,wD (by rw[QJ,Qt];omega),zob,zXM (by unfold enc2;simp only[Qd,QJ,Qt];omega),zob,Qi (by decide)]
 unfold z8q enc1
 simp only[Qs,Ur,QI]
theorem z2q{P:List Int}(i:Int): (z8q N i P).length=2*P.length+3:=by
 unfold z8q enc1 enc2
 simp only[Qd,QK,QJ,Uq]
 omega
theorem zTX (h:wY N L){k:Nat}(hk:k<N): zGk ((N:Int),L) (k:Int)=some 0:=by
 unfold zGk
 rw[h.v1,zob,Qi (by decide),Qi (by simp),zob,Qi (by simp only[Qm];omega)]
theorem z4k (h:wY N L){k:Nat}(hk:k<N): zIS ((N:Int),L) 1 (k:Int)=some (2*(N:Int),encA N L (k:Int),0):=by
 have hN:=h.hN
 unfold zIS
 rw[zTX h hk,zob,Qi (by decide),z2O (by omega) (by omega),zob]
 rw[Ql (by rfl),zob,Ql (by rfl)]
 show((zN (zEC ((N:Int),L) 1) (0,([]:List (List Int)))).bind _)=_
 have hlp:zN (zEC ((N:Int),L) 1) (0,([]:List (List Int)))=some ((wC N).flatMap λi=>z8q N i (qJ N L i)):=by
  have h1:=uP (B:=zEC ((N:Int),L) 1) (λq (s:List (List Int))=>((q:Int),s)) (wC N) (λq s=>s=((wC N).take q).flatMap (λi=>z8q N i (qJ N L i))∧s.length≤100*q) (λr=>r=(wC N).flatMap λi=>z8q N i (qJ N L i)) ?_ ?_ [] ⟨by simp,by simp⟩
  ·obtain⟨r,e,rfl⟩:=h1
   exact e
  ·rintro q x s hx ⟨h2,h3⟩
   obtain⟨rfl,hq⟩:=zS2 hx
   have hpl:=zMa (L:=L) (N:=N) (q:Int)
   refine .inl ⟨s++z8q N (q:Int) (qJ N L (q:Int)),?_,?_,?_⟩
   ·unfold zEC
    dsimp only
    rw[Ql (Qy (by omega)),show((1:Int) != 1)=false from rfl,node_ok h (by omega) (by omega),zob,yJ q (by omega)]
   ·rw[uL hx,UI,←h2]
    simp
   ·rw[Qd,z2q];omega
  ·rintro s ⟨h2,h3⟩
   rw[tN] at h2 h3 ⊢
   refine⟨s,?_,by rw[h2,Qx (by rw[tN];exact Qr _)]⟩
   unfold zEC
   rw[Qi (by simp)]
 rw[hlp,zob]
 have hfl:((wC N).flatMap λi=>z8q N i (qJ N L i)).length≤40*100:=by
  have h2:=zO0 (λi:Int=>z8q N i (qJ N L i)) 100 (wC N) λx _=>by
   have:=zMa (L:=L) (N:=N) x
   rw[z2q];omega
  rw[tN] at h2
  have:N*100≤40*100:=QQ _ hN
  omega
 rw[zXM (by omega),zob,vJ (by omega) (by omega)]
 rfl
end
end
section
section
variable {N:Nat}{L:List qG}
structure Cpl (N:Nat)(L:List qG)(f:Nat->Int): Prop where
 v:∀ i,i<N->f i=1∨f i=2∨f i=3
 i1:∀ i,i<N->f i=1->∀ k,wA L k i->f k=2
 i2:∀ i,i<N->f i=2->∃ k,wA L k i∧f k=1
 i3:∀ i,i<N->f i=3->(∀ k,wA L k i->f k≠1)∧∃ k,wA L k i∧f k≠2
theorem glG_cpl (h:wY N L): Cpl N L (vR N L) where
 v i _:=zPV N L (N+1) i
 i1 i hi h1:=(gl_1 h hi).1 h1
 i2 i hi h1:=by obtain⟨m,h2,h3⟩:=gl_2.1 h1;exact⟨m,h3,h2⟩
 i3 i hi h1:=by obtain⟨h2,k,h3,h4⟩:=gl_open h hi h1;exact⟨h2,k,h3,by rw[h4];decide⟩
theorem z5M (hN:N≤40){f:Nat->Int}(hc:Cpl N L f): zDO ((N:Int),L) (zX N f)=some true:=by
 have hgl:(zX N f).length=N:=zEX _ _
 have h1:zAG (zX N f)=some false:=by
  have h2:=zTI (λy=>zH1 y) (λy=>(y != 1)&&((y != 2)&&(y != 3))) (zX N f) (by omega) λy _=>rfl
  rw[show zAG (zX N f)=_ from h2]
  congr 1
  rw[Us]
  intro y hy
  obtain⟨i,hi,rfl⟩:=Qn.1 hy
  rcases hc.v i (Ua.1 hi) with h | h | h <;> rw[h] <;> decide
 unfold zDO
 rw[Ql (by simp[len,hgl]),h1]
 rfl
theorem legalG_ok (h:wY N L){f:Nat->Int}(hc:Cpl N L f){i:Nat}(hi:i<N): zDL ((N:Int),L) (zX N f) (i:Int)=some true:=by
 have hN:=h.hN
 have hl:=zMa (L:=L) (N:=N) (i:Int)
 have key:Ok (zDL ((N:Int),L) (zX N f) (i:Int)) λr=>r=true:=by
  unfold zDL
  rw[zJ1 h,zob]
  refine .bind (I:=λs:Int×Int×Int×Int=>s.2.1=(uG (f) 1 (qJ N L (i:Int)):Int)∧s.2.2.1=(uG (f) 2 (qJ N L (i:Int)):Int)) ?_ λs hs=>?_
  ·refine Ok.forI (λq (c:Int×Int×Int×Int)=>((q:Int),c)) (qJ N L (i:Int)) (λq c=>c.2.1=(uG (f) 1 ((qJ N L (i:Int)).take q):Int)∧c.2.2.1=(uG (f) 2 ((qJ N L (i:Int)).take q):Int)) _ (λq x c hx hI=>?_) (λc hI=>?_) (0,0,0,0) ⟨by simp[uG],by simp[uG]⟩
   ·have hq:=vM hx
    obtain⟨c0,c1,c2,c3⟩:=c
    obtain⟨g1,g2⟩:=hI
    dsimp only at g1 g2
    subst g1
    subst g2
    obtain⟨k,rfl,hk,he⟩:=zWr hx
    have b1:=z93 (f) 1 ((qJ N L (i:Int)).take q)
    have b2:=z93 (f) 2 ((qJ N L (i:Int)).take q)
    rw[QB] at b1 b2
    unfold zEm
    simp only[wL hx,Qf,qQ hx,zob,qV hx (by omega)]
    rw[show zC (zX N f) (k:Int)=some (f k) from zIu _ hk,zob]
    have s1:=z85 (f:=f) (v:=1) hx
    have s2:=z85 (f:=f) (v:=2) hx
    rw[Qj] at s1 s2
    rcases hc.v k hk with h1 | h1 | h1
    ·rw[show f k=1 from h1] at s1 s2 ⊢
     refine⟨_,rfl,_,rfl,?_,?_⟩
     ·show zH ((uG (f) 1 ((qJ N L (i:Int)).take q):Int)+1)=_
      rw[yJ _ (by omega),s1,Ql rfl]
     ·show((uG (f) 2 ((qJ N L (i:Int)).take q):Nat):Int)=_
      rw[s2,Qi (by decide),QM]
    ·rw[show f k=2 from h1] at s1 s2 ⊢
     refine⟨_,rfl,_,rfl,?_,?_⟩
     ·show((uG (f) 1 ((qJ N L (i:Int)).take q):Nat):Int)=_
      rw[s1,Qi (by decide),QM]
     ·show zH ((uG (f) 2 ((qJ N L (i:Int)).take q):Int)+1)=_
      rw[yJ _ (by omega),s2,Ql rfl]
    ·rw[show f k=3 from h1] at s1 s2 ⊢
     refine⟨_,rfl,_,rfl,?_,?_⟩
     ·show((uG (f) 1 ((qJ N L (i:Int)).take q):Nat):Int)=_
      rw[s1,Qi (by decide),QM]
     ·show((uG (f) 2 ((qJ N L (i:Int)).take q):Nat):Int)=_
      rw[s2,Qi (by decide),QM]
   ·obtain⟨c0,c1,c2,c3⟩:=c
    rw[QC] at hI
    unfold zEm
    simp only[uH,zbf,Qc]
    exact .ret hI
  ·obtain⟨c0,c1,c2,c3⟩:=s
   obtain⟨g1,g2⟩:=hs
   dsimp only at g1 g2 ⊢
   subst g1
   subst g2
   rw[show zC (zX N f) (i:Int)=some (f i) from zIu _ hi,zob]
   have hall:∀ k:Nat,(k:Int)∈qJ N L (i:Int)↔wA L k i:=λk=>zMw h
   have hat:∀ x∈qJ N L (i:Int),∃ k:Nat,x=(k:Int)∧wA L k i:=λx hx=>by
    obtain⟨q,hq⟩:=Qp.1 hx
    obtain⟨a,q1,q2,q3⟩:=zWr hq
    exact⟨a,q1,q3⟩
   rcases hc.v i hi with h1 | h1 | h1
   ·rw[show f i=1 from h1,Ql (by rfl)]
    refine .ret ?_
    have:uG (f) 2 (qJ N L (i:Int))=(qJ N L (i:Int)).length:=by
     unfold uG
     rw[UH.2 λx hx=>?_]
     obtain⟨k,rfl,hk⟩:=hat x hx
     rw[Qj,Q5]
     exact hc.i1 i hi h1 k hk
    rw[this];simp[len]
   ·rw[show f i=2 from h1,Qi (by decide),Ql (by rfl)]
    refine .ret ?_
    obtain⟨m,q2,q1⟩:=hc.i2 i hi h1
    have:0<uG (f) 1 (qJ N L (i:Int)):=List.length_pos_of_mem (Qk.2 ⟨(hall m).2 q2,by rw[Qj,Q5];exact q1⟩)
    exact Qy (by omega)
   ·rw[show f i=3 from h1,Qi (by decide),Qi (by decide)]
    refine .ret ?_
    obtain⟨q1,k,q2,q3⟩:=hc.i3 i hi h1
    have z1:uG (f) 1 (qJ N L (i:Int))=0:=by
     unfold uG
     rw[UV.2 λx hx=>?_];rfl
     obtain⟨k,rfl,hk⟩:=hat x hx
     rw[Qj,Q5]
     exact q1 k hk
    have z2:uG (f) 2 (qJ N L (i:Int))<(qJ N L (i:Int)).length:=by
     rcases Nat.lt_or_ge (uG (f) 2 (qJ N L (i:Int))) (qJ N L (i:Int)).length with hlt | hge
     ·exact hlt
     ·have he:((qJ N L (i:Int)).filter λx=>f x.toNat==2).length=(qJ N L (i:Int)).length:=Nat.le_antisymm (z93 (f) 2 _) hge
      have:=(List.length_filter_eq_length_iff.1 he) _ ((hall k).2 q2)
      rw[Qj,Q5] at this
      exact absurd this q3
    rw[z1]
    simp only[Int.natCast_zero,Ue,U9,Qm,len]
    omega
 obtain⟨r,e,rfl⟩:=key
 exact e
theorem z4d (h:wY N L){f:Nat->Int}(hc:Cpl N L f): zCB ((N:Int),L) (zX N f)=some true:=by
 have hN:=h.hN
 have hgl:(zX N f).length=N:=zEX _ _
 have h1:zEE ((N:Int),L) (zX N f)=some []:=by
  unfold zEE
  rw[z5M hN hc,zob,Qi (by decide)]
  have h2:=uP (B:=zCA (zX N f) ((N:Int),L)) (λq (_:Unit)=>(([]:List Int),(q:Int))) (zX N f) (λ_ _=>True) (λr=>r=[]) ?_ ?_ () trivial
  ·obtain⟨r,e,rfl⟩:=h2;exact e
  ·intro q x _ hx _
   have hq:=vM hx
   refine .inl ⟨(),?_,trivial⟩
   unfold zCA
   simp only[wL hx,Qf,legalG_ok h hc (show q<N by omega),zob,qV hx (by omega),QO,zbf,Qc]
  ·intro _ _
   refine⟨_,?_,rfl⟩
   unfold zCA
   simp only[uH,zbf,Qc]
 unfold zCB
 rw[z5M hN hc,zob,Ql rfl,h1]
 rfl
end
end
section
section
variable {N:Nat}{L:List qG}
theorem z8D (i:Int): yA uC (qJ N L i):=(zNF N).filter _
theorem good2{m:Nat}{x y:Int}(hx:x≠0)(hxy:x.natAbs<y.natAbs)(hy:y.natAbs≤m): zOw m [x,y] :=
 ⟨λz hz=>by simp only[Qw,Uk,or_false] at hz;rcases hz with rfl | rfl <;> omega,by simpa using hxy⟩
theorem zV7{k:Int}{c:List Int}: c∈encA N L k↔c=[wI k]∨∃ i,(0≤i∧i<(N:Int))∧(c=[-wI i,-wX N i]∨(∃ a∈qJ N L i,c=[-wI i,wX N a])∨c=wI i::(qJ N L i).map (λa=>-wX N a)∨(∃ a∈qJ N L i,c=[-wI a,wX N i])∨c=(qJ N L i).map wI++[-wX N i]):=by
 unfold encA z8q enc1 enc2
 simp only[Qb,QL,Qw,Qn,Uk,or_false,xW]
 constructor
 ·rintro (⟨i,hi,(((h | ⟨a,ha,rfl⟩) | h) | ⟨a,ha,rfl⟩) | h⟩ | h)
  ·exact .inr ⟨i,hi,.inl h⟩
  ·exact .inr ⟨i,hi,.inr (.inl ⟨a,ha,rfl⟩)⟩
  ·exact .inr ⟨i,hi,.inr (.inr (.inl h))⟩
  ·exact .inr ⟨i,hi,.inr (.inr (.inr (.inl ⟨a,ha,rfl⟩)))⟩
  ·exact .inr ⟨i,hi,.inr (.inr (.inr (.inr h)))⟩
  ·exact .inl h
 ·rintro (h | ⟨i,hi,h | ⟨a,ha,rfl⟩ | h | ⟨a,ha,rfl⟩ | h⟩)
  ·exact .inr h
  ·exact .inl ⟨i,hi,.inl (.inl (.inl (.inl h)))⟩
  ·exact .inl ⟨i,hi,.inl (.inl (.inl (.inr ⟨a,ha,rfl⟩)))⟩
  ·exact .inl ⟨i,hi,.inl (.inl (.inr h))⟩
  ·exact .inl ⟨i,hi,.inl (.inr ⟨a,ha,rfl⟩)⟩
  ·exact .inl ⟨i,hi,.inr h⟩
theorem cls_enc (hN:N≤6){k:Nat}(hk:k<N): Cls (2*N) (encA N L (k:Int)) where
 hn:=by omega
 good c hc:=by
  rcases zV7.1 hc with rfl | ⟨i,hi,rfl | ⟨a,ha,rfl⟩ | rfl | ⟨a,ha,rfl⟩ | rfl⟩
  ·exact⟨λz hz=>by simp only[Qw,Uk,or_false] at hz;subst hz;unfold wI;omega,by simp⟩
  ·unfold wI wX;exact good2 (by omega) (by omega) (by omega)
  ·have:=zEx ha;unfold wI wX;exact good2 (by omega) (by omega) (by omega)
  ·refine⟨λz hz=>?_,QP.2 ⟨λz hz=>?_,?_⟩⟩
   ·rcases Qw.1 hz with rfl | hz
    ·unfold wI;omega
    ·obtain⟨a,ha,rfl⟩:=Qn.1 hz
     have:=zEx ha;unfold wX;omega
   ·obtain⟨a,ha,rfl⟩:=Qn.1 hz
    have:=zEx ha;unfold wI wX;omega
   ·rw[Q8]
    refine List.Pairwise.imp_of_mem (λ{x y} hx hy hlt=>?_) (z8D i)
    have:=zEx hx
    have:=zEx hy
    have:x<y:=by simpa [uC] using hlt
    unfold wX;omega
  ·have:=zEx ha;unfold wI wX;exact good2 (by omega) (by omega) (by omega)
  ·refine⟨λz hz=>?_,Ut.2 ⟨?_,by simp,λx hx y hy=>?_⟩⟩
   ·rcases Qb.1 hz with hz | hz
    ·obtain⟨a,ha,rfl⟩:=Qn.1 hz
     have:=zEx ha;unfold wI;omega
    ·rw[Qa] at hz;subst hz;unfold wX;omega
   ·rw[Q8]
    refine List.Pairwise.imp_of_mem (λ{x y} hx hy hlt=>?_) (z8D i)
    have:=zEx hx
    have:=zEx hy
    have:x<y:=by simpa [uC] using hlt
    unfold wI;omega
   ·obtain⟨a,ha,rfl⟩:=Qn.1 hx
    rw[Qa] at hy;subst hy
    have:=zEx ha;unfold wI wX;omega
 ne c hc:=by
  rcases zV7.1 hc with rfl | ⟨i,hi,rfl | ⟨a,ha,rfl⟩ | rfl | ⟨a,ha,rfl⟩ | rfl⟩ <;> simp
 len:=by
  unfold encA
  have h2:=zO0 (λi:Int=>z8q N i (qJ N L i)) 100 (wC N) λx _=>by
   have:=zMa (L:=L) (N:=N) x
   rw[z2q];omega
  rw[tN] at h2
  rw[Qd,Qt];omega
def TrL (N:Nat)(f:Nat->Int)(x:Int): Prop:=x≠0∧if 0<x then(if x≤N then f (x-1).toNat=1 else f (x-N-1).toNat=2) else ¬ (if -x≤N then f (-x-1).toNat=1 else f (-x-N-1).toNat=2)
theorem trL_not{f:Nat->Int}(x:Int)(h:TrL N f x): ¬ TrL N f (-x):=by
 obtain⟨h0,h1⟩:=h
 rintro ⟨_,h2⟩
 by_cases hp:0<x
 ·rw[Ql hp] at h1
  rw[Qi (by omega),Int.neg_neg] at h2
  exact h2 h1
 ·rw[Qi hp] at h1
  rw[Ql (by omega)] at h2
  exact h1 h2
theorem tr_in{f:Nat->Int}{i:Int}(hi:0≤i∧i<N): TrL N f (wI i)↔f i.toNat=1:=by
 unfold TrL wI
 rw[Ql (by omega),Ql (by omega),show i+1-1=i by omega]
 exact⟨λh=>h.2,λh=>⟨by omega,h⟩⟩
theorem tr_out{f:Nat->Int}{i:Int}(hi:0≤i∧i<N): TrL N f (wX N i)↔f i.toNat=2:=by
 unfold TrL wX
 rw[Ql (by omega),Qi (by omega),show(N:Int)+i+1-N-1=i by omega]
 exact⟨λh=>h.2,λh=>⟨by omega,h⟩⟩
theorem tr_nin{f:Nat->Int}{i:Int}(hi:0≤i∧i<N): TrL N f (-wI i)↔¬ f i.toNat=1:=by
 unfold TrL wI
 rw[Qi (by omega),Int.neg_neg,Ql (by omega),show i+1-1=i by omega]
 exact⟨λh=>h.2,λh=>⟨by omega,h⟩⟩
theorem z3K{f:Nat->Int}{i:Int}(hi:0≤i∧i<N): TrL N f (-wX N i)↔¬ f i.toNat=2:=by
 unfold TrL wX
 rw[Qi (by omega),Int.neg_neg,Qi (by omega),show(N:Int)+i+1-N-1=i by omega]
 exact⟨λh=>h.2,λh=>⟨by omega,h⟩⟩
theorem z8N (h:wY N L){i a:Int}(hi:0≤i∧i<N)(ha:a∈qJ N L i): wA L a.toNat i.toNat:=by
 have h1:=zEx ha
 have h2:=(Qk.1 ha).2
 unfold wA
 rw[Int.toNat_of_nonneg h1.1,Int.toNat_of_nonneg hi.1]
 exact h2
theorem z6j (h:wY N L){i:Int}(hi:0≤i∧i<N){k:Nat}(hk:wA L k i.toNat): (k:Int)∈qJ N L i:=by
 refine(zMw h).2 ?_
 unfold wA at hk
 rwa [Int.toNat_of_nonneg hi.1] at hk
theorem z9e (h:wY N L){f:Nat->Int}(hf:Cpl N L f){k:Nat}(hk:k<N)(h1:f k=1): ∀ c∈encA N L (k:Int),∃ x∈c,TrL N f x:=by
 intro c hc
 rcases zV7.1 hc with rfl | ⟨i,hi,hcs⟩
 ·exact⟨_,Qa.2 rfl,(tr_in (by omega)).2 (by simpa using h1)⟩
 ·have hin:i.toNat<N:=by omega
  have hv:=hf.v i.toNat hin
  rcases hcs with rfl | ⟨a,ha,rfl⟩ | rfl | ⟨a,ha,rfl⟩ | rfl
  ·by_cases h2:f i.toNat=1
   ·exact⟨-wX N i,by simp,(z3K hi).2 (by omega)⟩
   ·exact⟨-wI i,by simp,(tr_nin hi).2 h2⟩
  ·by_cases h2:f i.toNat=1
   ·exact⟨wX N a,by simp,(tr_out (zEx ha)).2 (hf.i1 _ hin h2 _ (z8N h hi ha))⟩
   ·exact⟨-wI i,by simp,(tr_nin hi).2 h2⟩
  ·rcases hv with h2 | h2 | h2
   ·exact⟨wI i,by simp,(tr_in hi).2 h2⟩
   ·obtain⟨m,h3,h4⟩:=hf.i2 _ hin h2
    have hm:=z6j h hi h3
    refine⟨-wX N (m:Int),Qo _ (Qn.2 ⟨_,hm,rfl⟩),(z3K (zEx hm)).2 ?_⟩
    rw[Qj,h4];decide
   ·obtain⟨_,m,h3,h4⟩:=hf.i3 _ hin h2
    have hm:=z6j h hi h3
    exact⟨-wX N (m:Int),Qo _ (Qn.2 ⟨_,hm,rfl⟩),(z3K (zEx hm)).2 (by rw[Qj];exact h4)⟩
  ·by_cases h2:f a.toNat=1
   ·refine⟨wX N i,by simp,(tr_out hi).2 ?_⟩
    have he:=z8N h hi ha
    rcases hv with h3 | h3 | h3
    ·have:=hf.i1 _ hin h3 _ he;omega
    ·exact h3
    ·exact absurd h2 ((hf.i3 _ hin h3).1 _ he)
   ·exact⟨-wI a,by simp,(tr_nin (zEx ha)).2 h2⟩
  ·by_cases h2:f i.toNat=2
   ·obtain⟨m,h3,h4⟩:=hf.i2 _ hin h2
    have hm:=z6j h hi h3
    exact⟨wI (m:Int),Qb.2 (.inl (Qn.2 ⟨_,hm,rfl⟩)),(tr_in (zEx hm)).2 (by rw[Qj];exact h4)⟩
   ·exact⟨-wX N i,by simp,(z3K hi).2 h2⟩
def z5z (N:Nat)(v:List Int)(i:Nat): Int:=if vl v (wI i)=1 then 1 else if vl v (wX N i)=1 then 2 else 3
theorem z5V (h:wY N L)(hN:N≤6){v:List Int}(hv:z1z (2*N) v){k:Nat}(hk:k<N)(hc:∀ c∈encA N L (k:Int),∃ x∈c,vl v x=1): Cpl N L (z5z N v)∧z5z N v k=1:=by
 have get:∀ {i:Nat},i<N->∀ {c},(c=[-wI (i:Int),-wX N (i:Int)]∨(∃ a∈qJ N L (i:Int),c=[-wI (i:Int),wX N a])∨c=wI (i:Int)::(qJ N L (i:Int)).map (λa=>-wX N a)∨(∃ a∈qJ N L (i:Int),c=[-wI a,wX N (i:Int)])∨c=(qJ N L (i:Int)).map wI++[-wX N (i:Int)])->∃ x∈c,vl v x=1 :=
  λ{i} hi {c} hcs=>hc c (zV7.2 (.inr ⟨(i:Int),⟨by omega,by omega⟩,hcs⟩))
 have nin:∀ {i:Int},0≤i->vl v (-wI i)=1->vl v (wI i)≠1:=λhi h1 h2=>by
  rw[z7y _ (by unfold wI;omega),h2] at h1;cases h1
 have nout:∀ {i:Int},0≤i->vl v (-wX N i)=1->vl v (wX N i)≠1:=λhi h1 h2=>by
  rw[z7y _ (by unfold wX;omega),h2] at h1;cases h1
 have hexc:∀ {i:Nat},i<N->vl v (wI (i:Int))=1->vl v (wX N (i:Int))≠1:=λ{i} hi h1=>by
  obtain⟨x,hx,h2⟩:=get hi (.inl rfl)
  simp only[Qw,Uk,or_false] at hx
  rcases hx with rfl | rfl
  ·exact absurd h1 (nin (by omega) h2)
  ·exact nout (by omega) h2
 have hinout:∀ {i a:Nat},i<N->wA L a i->vl v (wI (i:Int))=1->vl v (wX N (a:Int))=1:=λ{i a} hi ha h1=>by
  obtain⟨x,hx,h2⟩:=get hi (.inr (.inl ⟨(a:Int),(zMw h).2 ha,rfl⟩))
  simp only[Qw,Uk,or_false] at hx
  rcases hx with rfl | rfl
  ·exact absurd h1 (nin (by omega) h2)
  ·exact h2
 have hall:∀ {i:Nat},i<N->vl v (wI (i:Int))≠1->∃ a:Nat,wA L a i∧vl v (wX N (a:Int))≠1:=λ{i} hi h1=>by
  obtain⟨x,hx,h2⟩:=get hi (.inr (.inr (.inl rfl)))
  rcases Qw.1 hx with rfl | hx
  ·exact absurd h2 h1
  ·obtain⟨a,ha,rfl⟩:=Qn.1 hx
   have hr:=zEx ha
   obtain⟨m,rfl⟩:=QH hr.1
   exact⟨m,(zMw h).1 ha,nout (by omega) h2⟩
 have hatt:∀ {i a:Nat},i<N->wA L a i->vl v (wI (a:Int))=1->vl v (wX N (i:Int))=1:=λ{i a} hi ha h1=>by
  obtain⟨x,hx,h2⟩:=get hi (.inr (.inr (.inr (.inl ⟨(a:Int),(zMw h).2 ha,rfl⟩))))
  simp only[Qw,Uk,or_false] at hx
  rcases hx with rfl | rfl
  ·exact absurd h1 (nin (by omega) h2)
  ·exact h2
 have hsome:∀ {i:Nat},i<N->vl v (wX N (i:Int))=1->∃ a:Nat,wA L a i∧vl v (wI (a:Int))=1:=λ{i} hi h1=>by
  obtain⟨x,hx,h2⟩:=get hi (.inr (.inr (.inr (.inr rfl))))
  rcases Qb.1 hx with hx | hx
  ·obtain⟨a,ha,rfl⟩:=Qn.1 hx
   have hr:=zEx ha
   obtain⟨m,rfl⟩:=QH hr.1
   exact⟨m,(zMw h).1 ha,h2⟩
  ·rw[Qa] at hx;subst hx
   exact absurd h1 (nout (by omega) h2)
 have l1:∀ {i:Nat},z5z N v i=1↔vl v (wI (i:Int))=1:=λ{i}=>by unfold z5z;grind
 have l2:∀ {i:Nat},z5z N v i=2↔vl v (wI (i:Int))≠1∧vl v (wX N (i:Int))=1:=λ{i}=>by unfold z5z;grind
 have l3:∀ {i:Nat},z5z N v i=3↔vl v (wI (i:Int))≠1∧vl v (wX N (i:Int))≠1:=λ{i}=>by unfold z5z;grind
 refine⟨⟨λi hi=>?_,λi hi h1 a ha=>?_,λi hi h1=>?_,λi hi h1=>⟨λa ha h2=>?_,?_⟩⟩,?_⟩
 ·unfold z5z;grind
 ·have haN:=(h.inN.nat ha).1
  have ho:=hinout hi ha (l1.1 h1)
  exact l2.2 ⟨λh2=>hexc haN h2 ho,ho⟩
 ·obtain⟨a,h2,h3⟩:=hsome hi (l2.1 h1).2
  exact⟨a,h2,l1.2 h3⟩
 ·exact(l3.1 h1).2 (hatt hi ha (l1.1 h2))
 ·obtain⟨a,h2,h3⟩:=hall hi (l3.1 h1).1
  exact⟨a,h2,λh4=>h3 (l2.1 h4).2⟩
 ·obtain⟨x,hx,h2⟩:=hc _ (zV7.2 (.inl rfl))
  rw[Qa] at hx;subst hx
  exact l1.2 h2
end
end
section
section
variable {N:Nat}{L:List qG}
theorem labels_ok (hN:N≤6){v:List Int}(hv:z1z (2*N) v): zKb (N:Int) (v.map λa=>decide (0<a))=some (zX N (z5z N v)):=by
 have hl:=hv.len
 have hat:∀ {j:Nat},j<2*N->∃ a,v[j]?=some a∧(a=-1∨a=0∨a=1)∧v.getD j 0=a∧zC (v.map λa=>decide (0<a)) (j:Int)=some (decide (0<a)):=λ{j} hj=>by
  have hg:v[j]?=some v[j]:=Qh (by omega)
  refine⟨v[j],hg,hv.at_ _ (List.getElem_mem _),by rw[Ub,hg];rfl,?_⟩
  rw[tC,Q7,hg];rfl
 unfold zKb
 have h:=uP (B:=zHn (N:Int) (v.map λa=>decide (0<a))) (λq (s:List Int)=>(s,(q:Int))) (wC N) (λq s=>s=zX q (z5z N v)) (λr=>r=zX N (z5z N v)) ?_ ?_ [] (by simp[zX])
 ·obtain⟨r,e,rfl⟩:=h
  exact e
 ·rintro q x s hx rfl
  obtain⟨rfl,hq⟩:=zS2 hx
  obtain⟨a,a1,a2,a3,a4⟩:=hat (j:=q) (by omega)
  obtain⟨b,b1,b2,b3,b4⟩:=hat (j:=N+q) (by omega)
  have hin:vl v (wI (q:Int))=a:=by
   unfold vl wI
   rw[Ql (by omega),show((q:Int)+1).natAbs-1=q by omega,a3]
  have hout:vl v (wX N (q:Int))=b:=by
   unfold vl wX
   rw[Ql (by omega),show((N:Int)+q+1).natAbs-1=N+q by omega,b3]
  refine .inl ⟨zX (q+1) (z5z N v),?_,rfl⟩
  have hml:(zX q (z5z N v)).length=q:=zEX _ _
  unfold zHn
  dsimp only
  rw[Ql (Qy (by omega)),a4,zob,vJ (x:=(N:Int)+(q:Int)) (by omega) (by omega),show(N:Int)+(q:Int)=((N+q:Nat):Int) by omega,b4,yJ q (by omega),z5Q]
  have hsn:z5z N v q=if a=1 then 1 else if b=1 then 2 else 3:=by unfold z5z;rw[hin,hout]
  rw[hsn]
  by_cases ha:a=1
  ·rw[Ql (Qy (by omega)),Ql ha,wD (by rw[hml,Qt];omega),zob]
  ·rw[Qi (by simp only[Qm];omega),Qi ha,zob]
   by_cases hb:b=1
   ·rw[Ql (Qy (by omega)),Ql hb,wD (by rw[hml,Qt];omega),zob]
   ·rw[Qi (by simp only[Qm];omega),Qi hb,wD (by rw[hml,Qt];omega),zob]
 ·rintro s rfl
  rw[tN]
  refine⟨_,?_,rfl⟩
  unfold zHn
  rw[Qi (by simp)]
theorem z9h (h:wY N L)(hN:N≤6){k:Nat}(hk:k<N):
  Ok (zEh ((N:Int),L) 1 (k:Int)) λr=>r.2=0∧zEU ((N:Int),L) 1 (k:Int) r.1=some 0∧(r.1.1=true↔∃ f,Cpl N L f∧f k=1):=by
 have hcl:=cls_enc (L:=L) hN hk
 unfold zEh
 rw[zTX h hk,zob,Qi (by decide),Qi (by decide),z4k h hk,zob,Qi (by simp)]
 obtain⟨⟨x,e⟩,h1,h2,h3⟩:=solve_ok hcl
 dsimp only at h2 h3
 subst h2
 show Ok ((zLg (2*(N:Int)) (encA N L (k:Int))).bind _) _
 rw[show(2*(N:Int))=((2*N:Nat):Int) by omega,h1,zob,Qi (by simp)]
 rcases h3 with⟨v,hv,rfl,hm⟩ | ⟨st,rfl,hck,hno⟩
 ·rw[Ql (by rfl)]
  dsimp only
  rw[labels_ok hN hv,zob]
  obtain⟨hf,hf1⟩:=z5V h hN hv hk hm
  refine .ret ⟨rfl,?_,⟨λ_=>⟨_,hf,hf1⟩,λ_=>rfl⟩⟩
  unfold zEU
  rw[zTX h hk,zob,Qi (by decide),Qi (by decide),Ql (by rfl),zob,Ql (by rfl),Ql (by rfl)]
  unfold zLi
  rw[Qi (by simp[len])]
  unfold zOQ
  rw[z4d h hf,zob,Qi (by decide),Qi (by decide),zob,Qi (by decide),zIu _ hk,zob,hf1]
  rfl
 ·rw[Qi (by simp)]
  refine .ret ⟨rfl,?_,⟨λe=>by simp at e,λ⟨f,hf,hf1⟩=>absurd (z9e h hf hk hf1) (hno (TrL N f) trL_not)⟩⟩
  unfold zEU
  rw[zTX h hk,zob,Qi (by decide),Qi (by decide),Ql (by rfl),zob,Ql (by rfl),Qi (by simp)]
  unfold zMO
  rw[Qi (by simp[len]),z4k h hk,zob]
  dsimp only
  rw[show(2*(N:Int))=((2*N:Nat):Int) by omega,hck]
  rfl
theorem z8r (h:wY N L){k:Nat}(hk:k<N):
  zEh ((N:Int),L) 4 (k:Int)=some ((vR N L k==1,yW N L,zTn N L,[]),0)∧zEU ((N:Int),L) 4 (k:Int) (vR N L k==1,yW N L,zTn N L,[])=some 0:=by
 have hidx:zC (yW N L) (k:Int)=some (vR N L k):=zIu _ hk
 constructor
 ·unfold zEh
  rw[zTX h hk,zob,Qi (by decide),Ql (by rfl),zPa h,zob,hidx,zob]
  unfold zNN
  rw[zUL h]
  rfl
 ·unfold zEU
  rw[zTX h hk,zob,Qi (by decide),Ql (by rfl)]
  unfold zNZ
  rw[Qi (by simp[len]),check_ok h,zob,Qi (by decide),hidx,zob,zob,Qi (by simp)]
  rfl
end
end
section
section
variable {N:Nat}{L:List qG}
theorem cpl_of_CL (h:wY N L){f:Nat->Nat}(hf:CL N L f): Cpl N L λi=>((f i:Nat):Int) where
 v i hi:=by have:=hf.r i hi;omega
 i1 i hi h1 k hk:=by have:=hf.i1 i hi (by omega) k (h.inN.nat hk).1 hk;omega
 i2 i hi h1:=by obtain⟨k,_,h2,h3⟩:=hf.i2 i hi (by omega);exact⟨k,h2,by omega⟩
 i3 i hi h1:=by
  obtain⟨⟨k,_,h2,h3⟩,h4⟩:=hf.i3 i hi (by omega)
  exact⟨λk hk=>by have:=h4 k (h.inN.nat hk).1 hk;omega,k,h2,by omega⟩
theorem CL_of_cpl (h:wY N L){f:Nat->Int}(hf:Cpl N L f): CL N L λi=>(f i).toNat where
 r i hi:=by have:=hf.v i hi;omega
 i1 i hi h1 j hj he:=by have:=hf.v i hi;have:=hf.i1 i hi (by omega) j he;omega
 i2 i hi h1:=by have:=hf.v i hi;obtain⟨k,h2,h3⟩:=hf.i2 i hi (by omega);exact⟨k,(h.inN.nat h2).1,h2,by omega⟩
 i3 i hi h1:=by
  have:=hf.v i hi
  obtain⟨h4,k,h2,h3⟩:=hf.i3 i hi (by omega)
  refine⟨⟨k,(h.inN.nat h2).1,h2,?_⟩,λj hj he=>?_⟩
  ·have:=hf.v k (h.inN.nat h2).1
   have:=h4 k h2
   omega
  ·have:=h4 j he
   have:=hf.v j hj
   omega
theorem top_above{l:List (List Int)}(hlen:∀ x∈l,x.length=N): ∀(d:Nat) (x:List Int),x∈l->N-(tO x 1).length≤d->∃ y∈z67 zVT l,∀ j∈tO x 1,j∈tO y 1:=by
 intro d
 induction d with
 | zero =>
  intro x hx hd
  refine⟨x,Qk.2 ⟨hx,?_⟩,λj hj=>hj⟩
  rw[Bool.not_eq_true',Us]
  intro z hz hp
  unfold zVT ssubB at hp
  simp only[QA,Qm] at hp
  have h1:=zMm z 1
  rw[hlen z hz] at h1
  omega
 | succ d ih =>
  intro x hx hd
  by_cases ht:x∈z67 zVT l
  ·exact⟨x,ht,λj hj=>hj⟩
  ·have:(l.any λz=>zVT z x)=true:=by
    cases hb:l.any λz=>zVT z x with
    | true=>rfl
    | false=>exact absurd (Qk.2 ⟨hx,by rw[hb];rfl⟩) ht
   obtain⟨z,hz,hp⟩:=Q6.1 this
   unfold zVT ssubB at hp
   simp only[QA,Qm,QW] at hp
   obtain⟨y,hy,h1⟩:=ih z hz (by omega)
   exact⟨y,hy,λj hj=>h1 j (hp.2 j hj)⟩
theorem pref_ext (h:wY N L)(hN:N≤6): ∃ es:List (List Int),zAk ((N:Int),L) 3=some (es,0)∧es.length≤200∧(∀ s∈es,s.length≤N)∧∀ j:Nat,j<N->((∃ s∈es,(j:Int)∈s)↔∃ f,Cpl N L f∧f j=1):=by
 obtain⟨l0,s1,s2,_,s4,s5⟩:=z7F h (show N≤9 by omega)
 have hlen:∀ x∈l0,x.length=N:=λx hx=>by
  obtain⟨f,_,rfl⟩:=s4 x hx
  exact z8P _ f
 have tp:=z2y (N:=N) (L:=L) (by omega) s1 (by omega) hlen
 have tl:=top_len zVT l0
 refine⟨(z67 zVT l0).map λx=>tO x 1,ext_of h (.inr (.inl ⟨rfl,z14 (by omega) tp (by omega) λx hx=>hlen x (z6r x hx)⟩)),by rw[QJ];omega,λs hs=>?_,λj hj=>⟨?_,?_⟩⟩
 ·obtain⟨x,hx,rfl⟩:=Qn.1 hs
  have:=zMm x 1
  rw[hlen x (z6r x hx)] at this
  exact this
 ·rintro ⟨s,hs,hjs⟩
  obtain⟨x,hx,rfl⟩:=Qn.1 hs
  obtain⟨f,hf,rfl⟩:=s4 x (z6r x hx)
  have:=zVz.1 hjs
  rw[zM5 hj] at this
  exact⟨_,cpl_of_CL h hf,by have:=QE this;exact this⟩
 ·rintro ⟨f,hf,hf1⟩
  have hcl:=CL_of_cpl h hf
  obtain⟨y,hy,h1⟩:=top_above hlen N _ (s5 _ hcl) (by omega)
  refine⟨_,Qn.2 ⟨y,hy,rfl⟩,h1 _ (zVz.2 ?_)⟩
  rw[zM5 hj,hf1]
  rfl
end
theorem z0y{l:List zF}{s:List Int}{x:zI}: x∈zNn l s↔∃ i∈s,∃ a,zC l i=some a∧x=a.2.2.2:=by
 unfold zNn
 rw[(zLV zSb _).2,QL]
 refine⟨λ⟨i,hi,hx⟩=>⟨i,hi,?_⟩,λ⟨i,hi,a,ha,hx⟩=>⟨i,hi,?_⟩⟩
 ·unfold zWz at hx
  cases ha:zC l i with
  | none=>rw[ha] at hx;cases hx
  | some a=>rw[ha] at hx;exact⟨a,rfl,Qa.1 hx⟩
 ·unfold zWz
  rw[ha];exact Qa.2 hx
theorem vrd_loop{c:zBv}{G:List qG}{l:List zF}(hl:c.2.1=l)(hl6:l.length≤6)(hg:c.2.2.2=((l.length:Int),G))(hG:wY l.length G)(r2:zBv×Bool×Int)(hr:r2.1=c):
  Ok (zN (zG8 r2) (([]:List zI),([]:List zI),0)) λr=>∃ yes maybe:List zI,r=.inl (yes,maybe)∧yes.length≤6∧maybe.length≤6 ∧
   (∀ x,x∈yes↔∃(i:Nat) (a:zF),l[i]?=some a∧vR l.length G i=1∧x=a.2.2.2)∧(∀ x,x∈maybe↔∃(i:Nat) (a:zF),l[i]?=some a∧(∃ f,Cpl l.length G f∧f i=1)∧x=a.2.2.2):=by
 refine Ok.forI (λq (s:List zI×List zI)=>(s.1,s.2,(q:Int))) l (λq s=>s.1.length≤q∧s.2.length≤q∧(∀ x,x∈s.1↔∃(i:Nat) (a:zF),i<q∧l[i]?=some a∧vR l.length G i=1∧x=a.2.2.2)∧(∀ x,x∈s.2↔∃(i:Nat) (a:zF),i<q∧l[i]?=some a∧(∃ f,Cpl l.length G f∧f i=1)∧x=a.2.2.2)) _ (λq a s hx hI=>?_) (λs hI=>?_) ([],[]) ⟨by simp,by simp,by simp,by simp⟩
 ·obtain⟨yes,maybe⟩:=s
  obtain⟨g1,g2,g3,g4⟩:=hI
  dsimp only at g1 g2 g3 g4
  have hq:=vM hx
  obtain⟨d1,d2⟩:=z8r hG hq
  obtain⟨r6,e6,k1,k2,k3⟩:=z9h hG hl6 hq
  have step:∀ {P:Nat->Prop} {s:List zI},(∀ x,x∈s↔∃(i:Nat) (b:zF),i<q∧l[i]?=some b∧P i∧x=b.2.2.2)->(P q->∀ x,x∈s++[a.2.2.2]↔∃(i:Nat) (b:zF),i<q+1∧l[i]?=some b∧P i∧x=b.2.2.2)∧(¬ P q->∀ x,x∈s↔∃(i:Nat) (b:zF),i<q+1∧l[i]?=some b∧P i∧x=b.2.2.2):=λ{P s} hs=>by
   constructor
   ·intro hP x
    rw[Qb,Qa,hs x]
    constructor
    ·rintro (⟨i,b,h1,h2⟩ | rfl)
     ·exact⟨i,b,by omega,h2⟩
     ·exact⟨q,a,by omega,hx,hP,rfl⟩
    ·rintro ⟨i,b,h1,h2,h3,h4⟩
     by_cases hi:i=q
     ·subst hi
      rw[hx] at h2
      cases h2
      exact .inr h4
     ·exact .inl ⟨i,b,by omega,h2,h3,h4⟩
   ·intro hP x
    rw[hs x]
    constructor
    ·rintro ⟨i,b,h1,h2⟩
     exact⟨i,b,by omega,h2⟩
    ·rintro ⟨i,b,h1,h2,h3,h4⟩
     by_cases hi:i=q
     ·subst hi;exact absurd h3 hP
     ·exact⟨i,b,by omega,h2,h3,h4⟩
  obtain⟨y1,y2⟩:=step g3
  obtain⟨m1,m2⟩:=step g4
  unfold zG8
  rw[hr,hl,hg]
  dsimp only
  simp only[wL hx,Qf,qQ hx,zob]
  rw[d1,zob,e6,zob]
  dsimp only
  rw[Qi (by decide),k1,Qi (by decide),d2,zob,Qi (by decide),k2,zob,Qi (by decide)]
  by_cases hin:vR l.length G q=1
  ·have hm:r6.1.1=true:=k3.2 ⟨_,glG_cpl hG,hin⟩
   have hb:(vR l.length G q==1)=true:=by rw[hin];rfl
   rw[hb,Ql rfl,hm,zob,Qi (by decide),Ql rfl,wD (by rw[Qt];omega),zob,zob,Ql rfl,wD (by rw[Qt];omega),zob,qV hx (by omega)]
   exact .ret ⟨(yes++[a.2.2.2],maybe++[a.2.2.2]),rfl,by simp;omega,by simp;omega,y1 hin,m1 ⟨_,glG_cpl hG,hin⟩⟩
  ·have hb:(vR l.length G q==1)=false:=by simpa using hin
   rw[hb,Qi (by decide),zob,Qi (by decide),Qi (by decide),zob]
   by_cases hmb:∃ f,Cpl l.length G f∧f q=1
   ·rw[k3.2 hmb,Ql rfl,wD (by rw[Qt];omega),zob,qV hx (by omega)]
    exact .ret ⟨(yes,maybe++[a.2.2.2]),rfl,by show yes.length≤q+1;omega,by simp;omega,y2 hin,m1 hmb⟩
   ·have hm:r6.1.1=false:=by
     cases hh:r6.1.1 with
     | false=>rfl
     | true=>exact absurd (k3.1 hh) hmb
    rw[hm,Qi (by decide),qV hx (by omega)]
    exact .ret ⟨(yes,maybe),rfl,by show yes.length≤q+1;omega,by show maybe.length≤q+1;omega,y2 hin,m2 hmb⟩
 ·obtain⟨yes,maybe⟩:=s
  obtain⟨g1,g2,g3,g4⟩:=hI
  dsimp only at g1 g2 g3 g4
  unfold zG8
  rw[hr,hl]
  simp only[uH,zbf,Qc]
  refine .ret ⟨yes,maybe,rfl,by omega,by omega,λx=>?_,λx=>?_⟩
  ·rw[g3 x]
   exact⟨λ⟨i,a,_,h⟩=>⟨i,a,h⟩,λ⟨i,a,h⟩=>⟨i,a,vM h.1,h⟩⟩
  ·rw[g4 x]
   exact⟨λ⟨i,a,_,h⟩=>⟨i,a,h⟩,λ⟨i,a,h⟩=>⟨i,a,vM h.1,h⟩⟩
theorem Ok.compiled6{s:uU}(h:uX s): Ok (zM4 s 6) λr=>r.2.1=true∧∃ b l o,r.1=zXd b l o∧l.length≤6:=by
 obtain⟨b,k,e1,hk,hd⟩:=keep_Base h (n:=3) (p:=4) (q:=5) (by omega) (by omega) (by omega) (by omega) (by omega) (by omega)
 have hnp:=hd.np
 have hnr:=hd.nr
 unfold zM4
 rw[e1,zob]
 have hsm:∀ {c:zM},tR c->c.2.1.length≤5->zJw c=some (ansB (zQe c)):=λhv hr=>ref_Build (z8F hv (by omega))
 dsimp only
 rw[hsm hd.valid (by omega),zob]
 refine .bind (I:=λt:(List zF)×(List qH)×(List wW)=>tR (b.1,t.2.1,t.2.2)∧t.2.1.length≤5∧zQe (b.1,t.2.1,t.2.2)=some t.1∧t.1.length≤6) ?_ λt ht=>?_
 ·refine Ok.whG (λt:(List zF)×Int×(List qH)×(List wW)=>tR (b.1,t.2.2.1,t.2.2.2)∧(∃ m,t.2.2.1=b.2.1.take m)∧(t.1,t.2.1)=ansB (zQe (b.1,t.2.2.1,t.2.2.2))) (λt=>t.2.2.1.length) (λt ht=>?_) ⟨hd.valid,⟨b.2.1.length,by simp⟩,rfl⟩
  obtain⟨x,e,rs,ps⟩:=t
  obtain⟨hv,⟨m,hm⟩,hb⟩:=ht
  dsimp only at hv hm hb
  have hrl:rs.length≤5:=by rw[hm,QB];omega
  unfold zQJ
  dsimp only
  refine .ite (λhc=>?_) (λhc=>?_)
  ·have hpos:0<rs.length:=by
    by_cases h0:rs.length=0
    ·have:decide (0<len rs)=false:=Q9 (by simp[len,h0])
     rw[this,Bool.and_false] at hc
     split at hc <;> cases hc
    ·omega
   have hw:zH (len rs-1)=((rs.length-1:Nat):Int):=by
    rw[show len rs-1=((rs.length-1:Nat):Int) from by simp only[len];omega]
    exact z6i _ (by omega)
   rw[hw,zNJ (by omega) (by omega),zob,Qj]
   have hv':tR (b.1,rs.take (rs.length-1),([]:List wW)):=z9O hv _
   have hlt:(rs.take (rs.length-1)).length<rs.length:=by rw[QB];omega
   rw[hsm hv' (by show(rs.take (rs.length-1)).length≤5;omega),zob]
   exact .ret ⟨⟨hv',⟨min (rs.length-1) m,by show rs.take (rs.length-1)=_;rw[hm,UR]⟩,rfl⟩,hlt⟩
  ·have hno:rs.length=0->zQe (b.1,rs,ps)=some (zRp (b.1,rs,ps)):=λh0=>z38 hv (QR h0)
   cases hbs:zQe (b.1,rs,ps) with
   | none =>
    have h0:rs.length≠0:=λh0=>by rw[hno h0] at hbs;cases hbs
    rw[hbs] at hb
    have he:e=2:=congrArg Prod.snd hb
    subst he
    rw[Ql (by rfl)] at hc
    have:=of_decide_eq_false hc
    simp only[len] at this
    omega
   | some y =>
    rw[hbs] at hb
    have he:e=0:=congrArg Prod.snd hb
    have hx:x=y:=congrArg Prod.fst hb
    subst he hx
    refine .ret ⟨hv,hrl,hbs,?_⟩
    show x.length≤6
    by_cases h0:rs.length=0
    ·rw[hno h0] at hbs
     have:=zMn (b.1,rs,ps)
     cases hbs
     rw[this];show b.1.length≤6;omega
    ·rw[Qi (by decide),Qy (show(0:Int)<len rs by simp only[len];omega),U9] at hc
     have:=of_decide_eq_false hc
     simp only[len] at this
     omega
 ·obtain⟨x,rs,ps⟩:=t
  obtain⟨hv,hrl,hbs,hxl⟩:=ht
  dsimp only at hv hrl hbs hxl ⊢
  rw[z1P,zob]
  obtain⟨r5,e5,h5a,h5b,h5⟩:=Ok.N hk (n:=4) (by omega) (by omega)
  have e5':tB (s.1,k) 4=some r5:=e5
  rw[e5',zob]
  obtain⟨o,ho⟩:=zMJ (l:=ords) (j:=r5.1) h5a (by show r5.1<4;exact h5b (by omega))
  rw[ho,zob,z1k (zPI hv) (by show rs.length≤12;omega) o,zob,zob]
  have hcs:compS (b.1,rs,ps) o=(zXd (b.1,rs,ps) x o,0):=by
   unfold compS
   rw[Ql hv,hbs]
   show(if badO o=true then(zeroC,4) else(zXd (b.1,rs,ps) x o,0))=_
   rw[Qi (by rw[ord_good ho];decide)]
  rw[hcs]
  dsimp only
  rw[Ql (by rfl),show(zXd (b.1,rs,ps) x o).2.1=x from rfl,Ql (by simp),show(zXd (b.1,rs,ps) x o).2.2.2.1=((x.length:Nat):Int) from rfl,zob]
  exact .ret ⟨by simp[len],(b.1,rs,ps),x,o,rfl,hxl⟩
theorem zXn (hw:zLR=some true)(y0:List Int): zJj y0=some true:=by
 unfold zJj
 rw[keep_New,zob]
 obtain⟨⟨c,ok,k⟩,e1,hok,b,l,o,hc,hl⟩:=Ok.compiled6 (srcOk_New y0)
 dsimp only at hok hc
 subst hok hc
 rw[e1,zob]
 dsimp only
 rw[Qi (by decide)]
 have hG:=(zS4 (b:=zX7 b (accS b l o)) (l:=l) (by omega) o).2
 have hgr:(zXd b l o).2.2.2=((l.length:Int),gphS (zX7 b (accS b l o)) l o):=rfl
 have hcl:(zXd b l o).2.1=l:=rfl
 generalize hGG:gphS (zX7 b (accS b l o)) l o=G at hG hgr
 obtain⟨es,p1,p2,p3,p4⟩:=pref_ext hG hl
 rw[z5P hG hgr,zob]
 rw[zRa (c:=zXd b l o) (q:=3) (es:=es) (by rw[hgr];exact p1) (by omega) (λs hs=>by have:=p3 s hs;omega) false,zob]
 dsimp only
 rw[Qi (by decide)]
 obtain⟨r,e2,yes,maybe,rfl,hy,hm,hyes,hmaybe⟩:=vrd_loop (c:=zXd b l o) hcl hl hgr hG (zXd b l o,true,k) rfl
 rw[e2]
 show((zK4 yes).bind _).bind _=_
 rw[z1o (by omega),zob]
 have hidx:∀ {i:Int} {a:zF},zC l i=some a->∃ q:Nat,i=(q:Int)∧l[q]?=some a:=λ{i a} h=>by
  unfold zC at h
  split at h
  ·exact⟨i.toNat,by omega,h⟩
  ·cases h
 have ey:xR vA yes=zNn (zXd b l o).2.1 (tO (yW l.length G) 1):=by
  unfold zNn
  refine z4l zSb λx=>?_
  have h2:x∈(tO (yW l.length G) 1).flatMap (zWz l)↔x∈zNn l (tO (yW l.length G) 1):=by
   unfold zNn;rw[(zLV zSb _).2]
  rw[hcl,h2,z0y,hyes x]
  constructor
  ·rintro ⟨i,a,ha,h3,h4⟩
   refine⟨(i:Int),zVz.2 ?_,a,by rw[tC];exact ha,h4⟩
   show(zX l.length (vR l.length G))[i]?=some 1
   rw[zKh,Ql (vM ha),h3]
  ·rintro ⟨i,hi,a,ha,h4⟩
   obtain⟨q,rfl,hq⟩:=hidx ha
   have h5:=zVz.1 hi
   have h6:(zX l.length (vR l.length G))[q]?=some 1:=h5
   rw[zKh,Ql (vM hq)] at h6
   exact⟨q,a,hq,QE h6,h4⟩
 have em:xR vA maybe=accS2 (es.map (zNn (zXd b l o).2.1)) false:=by
  unfold accS2
  rw[UH.2 λx _=>by simp]
  refine z4l zSb λx=>?_
  rw[hmaybe x,List.mem_flatten,hcl]
  constructor
  ·rintro ⟨i,a,ha,h3,h4⟩
   obtain⟨s,hs,his⟩:=(p4 i (vM ha)).2 h3
   exact⟨_,Qn.2 ⟨s,hs,rfl⟩,z0y.2 ⟨(i:Int),his,a,by rw[tC];exact ha,h4⟩⟩
  ·rintro ⟨cs,hcs,hx⟩
   obtain⟨s,hs,rfl⟩:=Qn.1 hcs
   obtain⟨i,hi,a,ha,h4⟩:=z0y.1 hx
   obtain⟨q,rfl,hq⟩:=hidx ha
   exact⟨q,a,hq,(p4 q (vM hq)).1 ⟨s,hs,hi⟩,h4⟩
 have ly:=zWm vA yes
 have lm:=zWm vA maybe
 rw[z7a _ _ (by omega),zob,Ql (Qy ey)]
 dsimp only
 rw[z1o (by omega),zob,z7a _ _ (by omega),zob,Ql (Qy em),hw]
 rfl
end
section
def Tw{α:Type}(m:Option α): Type:={ r:Option α // Le r m }
def td{α:Type}(m:Option α): Tw m:=⟨m,Le.refl m⟩
def tb{α β:Type}{a:Option α}{f:α->Option β}(h:Tw a)(k:∀ x,Tw (f x)): Tw (a.bind f):=⟨h.1.bind λx=>(k x).1,Le.bind h.2 λx=>(k x).2⟩
def ti{α:Type}{c:Prop}[Decidable c]{a b:Option α}(h:Tw a)(k:Tw b): Tw (if c then a else b):=⟨if c then h.1 else k.1,Le.ite h.2 k.2⟩
def ts{σ α:Type}{a:Option (σ⊕α)}{f:σ->Option α}(h:Tw a)(k:∀ x,Tw (f x)): Tw (vH a f):=⟨Go.GD.vH h.1 λx=>(k x).1,Le.seqE h.2 λx=>(k x).2⟩
def tl{σ ρ:Type}{C:σ->Option (σ⊕ρ)}(n:Nat)(h:∀ s,Tw (C s))(s:σ): Tw (zN C s):=⟨Go.GD.lp n (λs=>(h s).1) s,Le.lp (λs=>(h s).2) n s⟩
theorem Tw.el{α:Type}{m:Option α}(w:Tw m){r:α}(h:w.1=some r): m=some r:=w.2.el r h
end
section
def zBs (_:Nat)(l:List qX): Option (List qX):=if l.length<4294967296 then some (zYa lt4 l) else none
def zC2 (_:Nat)(l:List qG): Option (List qG):=if l.length<4294967296 then some (zYa tY l) else none
def zGx (_:Nat)(l:List Int): Option (List Int):=if l.length<4294967296 then some (zYa uC l) else none
theorem zH4 (n:Nat)(l:List qX): Le (zBs n l) (zA0 l):=⟨λr h=>by
 unfold zBs at h
 split at h
 ·rename_i hl;rw[zXu hl,zOP ord4];exact h
 ·cases h⟩
theorem zJM (n:Nat)(l:List qG): Le (zC2 n l) (zAc l):=⟨λr h=>by
 unfold zC2 at h
 split at h
 ·rename_i hl;rw[z2L hl,zOP ord2];exact h
 ·cases h⟩
theorem zLL (n:Nat)(l:List Int): Le (zGx n l) (zBw l):=⟨λr h=>by
 unfold zGx at h
 split at h
 ·rename_i hl;unfold zBw;rw[zZ7 hl];exact h
 ·cases h⟩
def zBu (_:Nat)(l:List zI): Option (List zI):=if l.length<4294967296 then some (zYa vA l) else none
theorem zHj (n:Nat)(l:List zI): Le (zBu n l) (zAJ l):=⟨λr h=>by
 unfold zBu at h
 split at h
 ·rename_i hl;rw[z7f hl,zOP zSb];exact h
 ·cases h⟩
end
section
def zCd (_:Nat)(l:List qG): Option (List qG):=if l.length<4294967296 then some (zYa tY l) else none
theorem zJ9 (n:Nat)(l:List qG): Le (zCd n l) (zAs l):=⟨λr h=>by
 unfold zCd at h
 split at h
 ·rename_i hl;rw[zZa hl,zOP ord2];exact h
 ·cases h⟩
end
section
noncomputable section
def zOh (n_:Nat) y0 s1:Tw (zFM y0 s1):=by
 delta zFM
 repeat with_reducible (first | intro _ | apply ti | apply ts | apply tb | apply tl n_ | exact td _)
def zQ6 (n_:Nat) y0:Tw (zCI y0):=by
 delta zCI
 repeat with_reducible (first | intro _ | apply zOh n_ | apply ti | apply ts | apply tb | apply tl n_ | exact td _)
def zIV (n_:Nat)(y0:List zI): Tw (zAJ y0):=⟨zBu n_ y0,zHj n_ y0⟩
def zR4 (n_:Nat) y0:Tw (zEi y0):=by
 delta zEi
 repeat with_reducible (first | intro _ | apply zIV n_ | apply zQ6 n_ | apply ti | apply ts | apply tb | apply tl n_ | exact td _)
def zMD (n_:Nat) y0 y1:Tw (zCC y0 y1):=by
 delta zCC
 repeat with_reducible (first | intro _ | apply zR4 n_ | apply ti | apply ts | apply tb | apply tl n_ | exact td _)
def z4t (n_:Nat) y0:Tw (zKt y0):=by
 delta zKt
 repeat with_reducible (first | intro _ | apply ti | apply ts | apply tb | apply tl n_ | exact td _)
def z2e (n_:Nat) y0:Tw (zJe y0):=by
 delta zJe
 repeat with_reducible (first | intro _ | apply ti | apply ts | apply tb | apply tl n_ | exact td _)
def z5s (n_:Nat) y0:Tw (zHW y0):=by
 delta zHW
 repeat with_reducible (first | intro _ | apply ti | apply ts | apply tb | apply tl n_ | exact td _)
def z0F (n_:Nat) y0 y1:Tw (zDZ y0 y1):=by
 delta zDZ
 repeat with_reducible (first | intro _ | apply z5s n_ | apply ti | apply ts | apply tb | apply tl n_ | exact td _)
def zU0 (n_:Nat) y0 s1:Tw (zBm y0 s1):=by
 delta zBm
 repeat with_reducible (first | intro _ | apply z0F n_ | apply ti | apply ts | apply tb | apply tl n_ | exact td _)
def zNI (n_:Nat) y0:Tw (zBD y0):=by
 delta zBD
 repeat with_reducible (first | intro _ | apply zU0 n_ | apply ti | apply ts | apply tb | apply tl n_ | exact td _)
def zUJ (n_:Nat) y0:Tw (zGO y0):=by
 delta zGO
 repeat with_reducible (first | intro _ | apply zNI n_ | apply ti | apply ts | apply tb | apply tl n_ | exact td _)
def zN1 (n_:Nat) y0 y1:Tw (zDg y0 y1):=by
 delta zDg
 repeat with_reducible (first | intro _ | apply zUJ n_ | apply z2e n_ | apply z4t n_ | apply ti | apply ts | apply tb | apply tl n_ | exact td _)
def zO8 (n_:Nat) y0 y1:Tw (zDB y0 y1):=by
 delta zDB
 repeat with_reducible (first | intro _ | apply ti | apply ts | apply tb | apply tl n_ | exact td _)
def zUU (n_:Nat) r4 y0 s6 s9 s10:Tw (zCX r4 y0 s6 s9 s10):=by
 delta zCX
 repeat with_reducible (first | intro _ | apply zN1 n_ | apply ti | apply ts | apply tb | apply tl n_ | exact td _)
def zVR (n_:Nat) s6 y0 s9:Tw (zDD s6 y0 s9):=by
 delta zDD
 repeat with_reducible (first | intro _ | apply zN1 n_ | apply zUU n_ | apply ti | apply ts | apply tb | apply tl n_ | exact td _)
def zU9 (n_:Nat) y0 s6:Tw (zBn y0 s6):=by
 delta zBn
 repeat with_reducible (first | intro _ | apply zVR n_ | apply ti | apply ts | apply tb | apply tl n_ | exact td _)
def zYO (n_:Nat) y0:Tw (zEd y0):=by
 delta zEd
 repeat with_reducible (first | intro _ | apply zO8 n_ | apply zU9 n_ | apply ti | apply ts | apply tb | apply tl n_ | exact td _)
def zRf (n_:Nat) y0:Tw (zDb y0):=by
 delta zDb
 repeat with_reducible (first | intro _ | apply zYO n_ | apply ti | apply ts | apply tb | apply tl n_ | exact td _)
def zWX (n_:Nat) y0:Tw (zGB y0):=by
 delta zGB
 repeat with_reducible (first | intro _ | apply zRf n_ | apply ti | apply ts | apply tb | apply tl n_ | exact td _)
def zKl (n_:Nat) y0:Tw (zA5 y0):=by
 delta zA5
 repeat with_reducible (first | intro _ | apply zWX n_ | apply ti | apply ts | apply tb | apply tl n_ | exact td _)
def zCv (n_:Nat) y0 y1:Tw (zAl y0 y1):=by
 delta zAl
 repeat with_reducible (first | intro _ | apply ti | apply ts | apply tb | apply tl n_ | exact td _)
def zKj (n_:Nat) r1 s1:Tw (zA6 r1 s1):=by
 delta zA6
 repeat with_reducible (first | intro _ | apply zCv n_ | apply ti | apply ts | apply tb | apply tl n_ | exact td _)
def zLx (n_:Nat) y0:Tw (zAu y0):=by
 delta zAu
 repeat with_reducible (first | intro _ | apply zKl n_ | apply zKj n_ | apply ti | apply ts | apply tb | apply tl n_ | exact td _)
def zVn (n_:Nat) y0 y1:Tw (zIl y0 y1):=by
 delta zIl
 repeat with_reducible (first | intro _ | apply ti | apply ts | apply tb | apply tl n_ | exact td _)
def zMs (n_:Nat) y0 y1:Tw (zDP y0 y1):=by
 delta zDP
 repeat with_reducible (first | intro _ | apply ti | apply ts | apply tb | apply tl n_ | exact td _)
def zXG (n_:Nat) y0 y1:Tw (zJ6 y0 y1):=by
 delta zJ6
 repeat with_reducible (first | intro _ | apply zMs n_ | apply ti | apply ts | apply tb | apply tl n_ | exact td _)
def zXb (n_:Nat) y0:Tw (zJu y0):=by
 delta zJu
 repeat with_reducible (first | intro _ | apply ti | apply ts | apply tb | apply tl n_ | exact td _)
def zXm (n_:Nat) y0:Tw (zJl y0):=by
 delta zJl
 repeat with_reducible (first | intro _ | apply ti | apply ts | apply tb | apply tl n_ | exact td _)
def zXP (n_:Nat) y0 y1:Tw (zJv y0 y1):=by
 delta zJv
 repeat with_reducible (first | intro _ | apply zMs n_ | apply ti | apply ts | apply tb | apply tl n_ | exact td _)
def zSK (n_:Nat) y0 y1:Tw (zGE y0 y1):=by
 delta zGE
 repeat with_reducible (first | intro _ | apply zXP n_ | apply ti | apply ts | apply tb | apply tl n_ | exact td _)
def zIK (n_:Nat) y1 s1:Tw (zBt y1 s1):=by
 delta zBt
 repeat with_reducible (first | intro _ | apply zSK n_ | apply ti | apply ts | apply tb | apply tl n_ | exact td _)
def zJZ (n_:Nat) y0 y1:Tw (zB0 y0 y1):=by
 delta zB0
 repeat with_reducible (first | intro _ | apply zIK n_ | apply ti | apply ts | apply tb | apply tl n_ | exact td _)
def zOE (n_:Nat) y0 y1:Tw (zFK y0 y1):=by
 delta zFK
 repeat with_reducible (first | intro _ | apply zVn n_ | apply zXm n_ | apply zXG n_ | apply zJZ n_ | apply zXb n_ | apply ti | apply ts | apply tb | apply tl n_ | exact td _)
def zJJ (n_:Nat) y0 y1:Tw (zBY y0 y1):=by
 delta zBY
 repeat with_reducible (first | intro _ | apply ti | apply ts | apply tb | apply tl n_ | exact td _)
def zHt (n_:Nat) y0 y1:Tw (zBH y0 y1):=by
 delta zBH
 repeat with_reducible (first | intro _ | apply zJJ n_ | apply ti | apply ts | apply tb | apply tl n_ | exact td _)
def zZ8 (n_:Nat) y0 y1:Tw (zLX y0 y1):=by
 delta zLX
 repeat with_reducible (first | intro _ | apply zHt n_ | apply ti | apply ts | apply tb | apply tl n_ | exact td _)
def zYt (n_:Nat) x1 y0 s1:Tw (zNG x1 y0 s1):=by
 delta zNG
 repeat with_reducible (first | intro _ | apply zZ8 n_ | apply ti | apply ts | apply tb | apply tl n_ | exact td _)
def zVi (n_:Nat) y0:Tw (zLS y0):=by
 delta zLS
 repeat with_reducible (first | intro _ | apply zYt n_ | apply ti | apply ts | apply tb | apply tl n_ | exact td _)
def zKC (n_:Nat)(y0:List qG): Tw (zAs y0):=⟨zCd n_ y0,zJ9 n_ y0⟩
def zZt (n_:Nat) y0:Tw (zGc y0):=by
 delta zGc
 repeat with_reducible (first | intro _ | apply zUJ n_ | apply zKC n_ | apply ti | apply ts | apply tb | apply tl n_ | exact td _)
def zWk (n_:Nat) y0 y1:Tw (zC4 y0 y1):=by
 delta zC4
 repeat with_reducible (first | intro _ | apply zZt n_ | apply zN1 n_ | apply ti | apply ts | apply tb | apply tl n_ | exact td _)
def zKx (n_:Nat) y0:Tw (zBc y0):=by
 delta zBc
 repeat with_reducible (first | intro _ | apply ti | apply ts | apply tb | apply tl n_ | exact td _)
def zKv (n_:Nat)(y0:uJ):= (zKx n_ y0).1
theorem zPe (n_:Nat)(y0:uJ): Le (zKv n_ y0) (zBc y0):=(zKx n_ y0).2
def zS8 (n_:Nat) y0 y1 y2:Tw (zEO y0 y1 y2):=by
 delta zEO
 repeat with_reducible (first | intro _ | apply ti | apply ts | apply tb | apply tl n_ | exact td _)
def zQt (n_:Nat) y0 y1:Tw (zC1 y0 y1):=by
 delta zC1
 repeat with_reducible (first | intro _ | apply zS8 n_ | apply ti | apply ts | apply tb | apply tl n_ | exact td _)
def zUh (n_:Nat) y0 y1 y2:Tw (zB3 y0 y1 y2):=by
 delta zB3
 repeat with_reducible (first | intro _ | apply ti | apply ts | apply tb | apply tl n_ | exact td _)
def zQV (n_:Nat) y0 y1:Tw (zCG y0 y1):=by
 delta zCG
 repeat with_reducible (first | intro _ | apply zUh n_ | apply ti | apply ts | apply tb | apply tl n_ | exact td _)
def zWV (n_:Nat) y0 y1:Tw (zFz y0 y1):=by
 delta zFz
 repeat with_reducible (first | intro _ | apply ti | apply ts | apply tb | apply tl n_ | exact td _)
def zEP (n_:Nat) y0 y1:Tw (zAK y0 y1):=by
 delta zAK
 repeat with_reducible (first | intro _ | apply zWV n_ | apply ti | apply ts | apply tb | apply tl n_ | exact td _)
def zOU (n_:Nat) y0 s3:Tw (zAM y0 s3):=by
 delta zAM
 repeat with_reducible (first | intro _ | apply zQV n_ | apply zQt n_ | apply ti | apply ts | apply tb | apply tl n_ | exact td _)
def zOj (n_:Nat) y0 s1:Tw (zCK y0 s1):=by
 delta zCK
 repeat with_reducible (first | intro _ | apply zOU n_ | apply zEP n_ | apply ti | apply ts | apply tb | apply tl n_ | exact td _)
def zKu (n_:Nat) y0:Tw (zB9 y0):=by
 delta zB9
 repeat with_reducible (first | intro _ | apply zOj n_ | apply ti | apply ts | apply tb | apply tl n_ | exact td _)
def zKz (n_:Nat)(y0:uJ):= (zKu n_ y0).1
theorem zPb (n_:Nat)(y0:uJ): Le (zKz n_ y0) (zB9 y0):=(zKu n_ y0).2
def zH6 (n_:Nat)(r2:(List Int)×Int)(s1:Bool×(List Int)×(List (List Int)))(rec_search_finder_find:uJ->Option ((List Int)×(List (List Int))×Bool))(y0:uJ)(s2:Int×(List (List Int))×Bool): Option ((Int×(List (List Int))×Bool)⊕((List Int)×(List (List Int))×Bool)) :=
 if decide (s2.1<(len ([2,4,8]:List Int))) then
  (zC ([2,4,8]:List Int) s2.1).bind λx2 =>
  (vT (decide (0≤r2.2)&&decide (r2.2<40))).bind λ_ =>
  if(yI .i64 (yS s1.2.1 r2.2) x2) != 0 then
   (vT (decide (0≤r2.2)&&decide (r2.2<40))).bind λ_ =>
   (rec_search_finder_find (y0.1,y0.2.1,tD 40 s1.2.1 r2.2 x2,s2.2.1,s2.2.2)).bind λr3 =>
   some (.inl (zH (s2.1+1),r3.2.1,r3.2.2))
  else
   some (.inl (zH (s2.1+1),s2.2.1,s2.2.2))
 else
  some (.inr (s1.2.1,s2.2.1,s2.2.2))
theorem zQY (n_:Nat)(r2:(List Int)×Int)(s1:Bool×(List Int)×(List (List Int))){rec_search_finder_find rec_search_finder_find':uJ->Option ((List Int)×(List (List Int))×Bool)}(h_rec_search_finder_find:∀ u0,Le (rec_search_finder_find u0) (rec_search_finder_find' u0))(y0:uJ)(s2:Int×(List (List Int))×Bool): Le (zH6 n_ r2 s1 rec_search_finder_find y0 s2) (zBZ r2 s1 rec_search_finder_find' y0 s2):=by
 unfold zH6 zBZ
 repeat with_reducible (first | intro _ | apply h_rec_search_finder_find | exact Le.refl _ | apply Le.ite | apply Le.seqE | apply Le.bind | apply Le.lp | exact Le.none _)
def zJK (n_:Nat)(rec_search_finder_find:uJ->Option ((List Int)×(List (List Int))×Bool))(y0:uJ): Option ((List Int)×(List (List Int))×Bool) :=
 (
  if y0.2.2.2.2 then
   some (true,y0.2.2.1,y0.2.2.2.1)
  else
   ((zKz n_) y0).bind λr1 =>
   some (!r1.1,r1.2.1,r1.2.2):Option (Bool×(List Int)×(List (List Int)))).bind λs1 =>
 if s1.1 then
  some (s1.2.1,s1.2.2,y0.2.2.2.2)
 else
  ((zKv n_) (y0.1,y0.2.1,s1.2.1,s1.2.2,y0.2.2.2.2)).bind λr2 =>
  if decide (r2.2<0) then
   (qF s1.2.2 ([r2.1]:List (List Int))).bind λx1 =>
   some (s1.2.1,x1,(len s1.2.2)==200)
  else
   (lp n_) ((zH6 n_) r2 s1 rec_search_finder_find y0) (0,s1.2.2,y0.2.2.2.2)
theorem zRh (n_:Nat){rec_search_finder_find rec_search_finder_find':uJ->Option ((List Int)×(List (List Int))×Bool)}(h_rec_search_finder_find:∀ u0,Le (rec_search_finder_find u0) (rec_search_finder_find' u0))(y0:uJ): Le (zJK n_ rec_search_finder_find y0) (zAp rec_search_finder_find' y0):=by
 unfold zJK zAp
 repeat with_reducible (first | intro _ | apply h_rec_search_finder_find | apply zQY | apply zPe | apply zPb | exact Le.refl _ | apply Le.ite | apply Le.seqE | apply Le.bind | apply Le.lp | exact Le.none _)
def zJ4 (n_:Nat): Nat->uJ->Option ((List Int)×(List (List Int))×Bool)
 | 0=>λ_=>none
 | k+1=>λy0=>(zJK n_) ((zJ4 n_) k) y0
theorem zMC (n_:Nat): ∀(k m:Nat),k≤m->∀ u0,Le (zJ4 n_ k u0) (zB7 m u0)
 | 0,_,_=>λu0=>Le.none _
 | k+1,m,h=>λu0=>by
  obtain⟨m,rfl⟩:∃ q,m=q+1:=⟨m-1,by omega⟩
  exact zRh n_ (zMC n_ k m (by omega)) _
def zNm (n_:Nat)(y0:uJ): Option ((List Int)×(List (List Int))×Bool) :=
 zJ4 n_ n_ y0
theorem zTA (n_:Nat)(y0:uJ): Le (zNm n_ y0) (zEo y0):=Le.lim n_ λm h=>zMC n_ n_ m h _
def zTu (n_:Nat)(y0:uJ): Tw (zEo y0):=⟨zNm n_ y0,zTA n_ y0⟩
def zUA (n_:Nat) y0 s2:Tw (zBx y0 s2):=by
 delta zBx
 repeat with_reducible (first | intro _ | apply zWk n_ | apply ti | apply ts | apply tb | apply tl n_ | exact td _)
def zJ8 (n_:Nat) y0:Tw (zBO y0):=by
 delta zBO
 repeat with_reducible (first | intro _ | apply zNI n_ | apply zUA n_ | apply zTu n_ | apply ti | apply ts | apply tb | apply tl n_ | exact td _)
def zTQ (n_:Nat) y1 y0 s1:Tw (zEV y1 y0 s1):=by
 delta zEV
 repeat with_reducible (first | intro _ | apply zCv n_ | apply ti | apply ts | apply tb | apply tl n_ | exact td _)
def zLc (n_:Nat) y0 y1:Tw (zBe y0 y1):=by
 delta zBe
 repeat with_reducible (first | intro _ | apply zTQ n_ | apply ti | apply ts | apply tb | apply tl n_ | exact td _)
def zTq (n_:Nat) y0 y1:Tw (zEn y0 y1):=by
 delta zEn
 repeat with_reducible (first | intro _ | apply zEP n_ | apply ti | apply ts | apply tb | apply tl n_ | exact td _)
def zGl (n_:Nat) y0 y1 s1:Tw (zAT y0 y1 s1):=by
 delta zAT
 repeat with_reducible (first | intro _ | apply zTq n_ | apply ti | apply ts | apply tb | apply tl n_ | exact td _)
def zIM (n_:Nat) y0 y1:Tw (zAZ y0 y1):=by
 delta zAZ
 repeat with_reducible (first | intro _ | apply zGl n_ | apply ti | apply ts | apply tb | apply tl n_ | exact td _)
def zHD (n_:Nat) y0 y1:Tw (zAF y0 y1):=by
 delta zAF
 repeat with_reducible (first | intro _ | apply zIM n_ | apply ti | apply ts | apply tb | apply tl n_ | exact td _)
def zPA (n_:Nat) y0 y1:Tw (zD0 y0 y1):=by
 delta zD0
 repeat with_reducible (first | intro _ | apply zHD n_ | apply ti | apply ts | apply tb | apply tl n_ | exact td _)
def zQz (n_:Nat) y0 y1:Tw (zCY y0 y1):=by
 delta zCY
 repeat with_reducible (first | intro _ | apply zLc n_ | apply zPA n_ | apply ti | apply ts | apply tb | apply tl n_ | exact td _)
def zI4 (n_:Nat) y0 y2:Tw (zA3 y0 y2):=by
 delta zA3
 repeat with_reducible (first | intro _ | apply zQz n_ | apply ti | apply ts | apply tb | apply tl n_ | exact td _)
def zHq (n_:Nat) y0 y2 s1:Tw (zAW y0 y2 s1):=by
 delta zAW
 repeat with_reducible (first | intro _ | apply zI4 n_ | apply ti | apply ts | apply tb | apply tl n_ | exact td _)
def zIz (n_:Nat) y0 y2:Tw (zA8 y0 y2):=by
 delta zA8
 repeat with_reducible (first | intro _ | apply zHq n_ | apply ti | apply ts | apply tb | apply tl n_ | exact td _)
def zH3 (n_:Nat) y0 y2:Tw (zAI y0 y2):=by
 delta zAI
 repeat with_reducible (first | intro _ | apply zIz n_ | apply ti | apply ts | apply tb | apply tl n_ | exact td _)
def zIU (n_:Nat) r1 s1:Tw (zAD r1 s1):=by
 delta zAD
 repeat with_reducible (first | intro _ | apply zH3 n_ | apply ti | apply ts | apply tb | apply tl n_ | exact td _)
def zJL (n_:Nat) y0:Tw (zAa y0):=by
 delta zAa
 repeat with_reducible (first | intro _ | apply zJ8 n_ | apply zIU n_ | apply ti | apply ts | apply tb | apply tl n_ | exact td _)
def zMv (n_:Nat) y0:Tw (zBh y0):=by
 delta zBh
 repeat with_reducible (first | intro _ | apply zJL n_ | apply ti | apply ts | apply tb | apply tl n_ | exact td _)
def zSB (n_:Nat) y0 y1 s2:Tw (zIe y0 y1 s2):=by
 delta zIe
 repeat with_reducible (first | intro _ | apply zEP n_ | apply ti | apply ts | apply tb | apply tl n_ | exact td _)
def zOY (n_:Nat) y0 y1:Tw (zFH y0 y1):=by
 delta zFH
 repeat with_reducible (first | intro _ | apply zO8 n_ | apply zSB n_ | apply ti | apply ts | apply tb | apply tl n_ | exact td _)
def zK3 (n_:Nat) y0:Tw (zBf y0):=by
 delta zBf
 repeat with_reducible (first | intro _ | apply zMv n_ | apply zVi n_ | apply zOE n_ | apply zOY n_ | apply ti | apply ts | apply tb | apply tl n_ | exact td _)
def z5c (n_:Nat) y0:Tw (zPS y0):=by
 delta zPS
 repeat with_reducible (first | intro _ | apply zK3 n_ | apply ti | apply ts | apply tb | apply tl n_ | exact td _)
def zN7 (n_:Nat) y0:Tw (zCz y0):=by
 delta zCz
 repeat with_reducible (first | intro _ | apply z5c n_ | apply ti | apply ts | apply tb | apply tl n_ | exact td _)
def zKE (n_:Nat) r1 s1:Tw (zCe r1 s1):=by
 delta zCe
 repeat with_reducible (first | intro _ | apply zCv n_ | apply ti | apply ts | apply tb | apply tl n_ | exact td _)
def zLJ (n_:Nat) y0:Tw (zBL y0):=by
 delta zBL
 repeat with_reducible (first | intro _ | apply zN7 n_ | apply zKE n_ | apply ti | apply ts | apply tb | apply tl n_ | exact td _)
def zPp (n_:Nat) y0 y1:Tw (zE2 y0 y1):=by
 delta zE2
 repeat with_reducible (first | intro _ | apply zLc n_ | apply zPA n_ | apply ti | apply ts | apply tb | apply tl n_ | exact td _)
def zIX (n_:Nat) y0 y2:Tw (zBF y0 y2):=by
 delta zBF
 repeat with_reducible (first | intro _ | apply zPp n_ | apply ti | apply ts | apply tb | apply tl n_ | exact td _)
def zHE (n_:Nat) y0 y2 s1:Tw (zBb y0 y2 s1):=by
 delta zBb
 repeat with_reducible (first | intro _ | apply zIX n_ | apply ti | apply ts | apply tb | apply tl n_ | exact td _)
def zIF (n_:Nat) y0 y2:Tw (zBC y0 y2):=by
 delta zBC
 repeat with_reducible (first | intro _ | apply zHE n_ | apply ti | apply ts | apply tb | apply tl n_ | exact td _)
def zGy (n_:Nat) y0 y2:Tw (zAg y0 y2):=by
 delta zAg
 repeat with_reducible (first | intro _ | apply zIF n_ | apply ti | apply ts | apply tb | apply tl n_ | exact td _)
def zHm (n_:Nat) r1 s1:Tw (zBq r1 s1):=by
 delta zBq
 repeat with_reducible (first | intro _ | apply zGy n_ | apply ti | apply ts | apply tb | apply tl n_ | exact td _)
def zIy (n_:Nat) y0:Tw (zBM y0):=by
 delta zBM
 repeat with_reducible (first | intro _ | apply zJ8 n_ | apply zHm n_ | apply ti | apply ts | apply tb | apply tl n_ | exact td _)
def zMK (n_:Nat) y0:Tw (zDs y0):=by
 delta zDs
 repeat with_reducible (first | intro _ | apply zIy n_ | apply ti | apply ts | apply tb | apply tl n_ | exact td _)
def zKN (n_:Nat) y0:Tw (zB8 y0):=by
 delta zB8
 repeat with_reducible (first | intro _ | apply zMK n_ | apply zVi n_ | apply zOE n_ | apply zOY n_ | apply ti | apply ts | apply tb | apply tl n_ | exact td _)
def z4b (n_:Nat) y0:Tw (zPQ y0):=by
 delta zPQ
 repeat with_reducible (first | intro _ | apply zKN n_ | apply ti | apply ts | apply tb | apply tl n_ | exact td _)
def zNc (n_:Nat) y0:Tw (zCw y0):=by
 delta zCw
 repeat with_reducible (first | intro _ | apply z4b n_ | apply ti | apply ts | apply tb | apply tl n_ | exact td _)
def zKI (n_:Nat) r1 s1:Tw (zCa r1 s1):=by
 delta zCa
 repeat with_reducible (first | intro _ | apply zCv n_ | apply ti | apply ts | apply tb | apply tl n_ | exact td _)
def zLH (n_:Nat) y0:Tw (zBK y0):=by
 delta zBK
 repeat with_reducible (first | intro _ | apply zNc n_ | apply zKI n_ | apply ti | apply ts | apply tb | apply tl n_ | exact td _)
def zJO (n_:Nat) r1 s1:Tw (zAU r1 s1):=by
 delta zAU
 repeat with_reducible (first | intro _ | apply zCv n_ | apply ti | apply ts | apply tb | apply tl n_ | exact td _)
def zK0 (n_:Nat) y0:Tw (zAN y0):=by
 delta zAN
 repeat with_reducible (first | intro _ | apply zMv n_ | apply zJO n_ | apply ti | apply ts | apply tb | apply tl n_ | exact td _)
def zJE (n_:Nat) r1 s1:Tw (zCE r1 s1):=by
 delta zCE
 repeat with_reducible (first | intro _ | apply zCv n_ | apply ti | apply ts | apply tb | apply tl n_ | exact td _)
def zKH (n_:Nat) y0:Tw (zAr y0):=by
 delta zAr
 repeat with_reducible (first | intro _ | apply zMK n_ | apply zJE n_ | apply ti | apply ts | apply tb | apply tl n_ | exact td _)
def zTf (n_:Nat) y0 y1:Tw (zG6 y0 y1):=by
 delta zG6
 repeat with_reducible (first | intro _ | apply zLc n_ | apply ti | apply ts | apply tb | apply tl n_ | exact td _)
def zJh (n_:Nat) y0 y2:Tw (zB4 y0 y2):=by
 delta zB4
 repeat with_reducible (first | intro _ | apply zTf n_ | apply ti | apply ts | apply tb | apply tl n_ | exact td _)
def zGm (n_:Nat) y0 y2 s1:Tw (zBa y0 y2 s1):=by
 delta zBa
 repeat with_reducible (first | intro _ | apply zJh n_ | apply ti | apply ts | apply tb | apply tl n_ | exact td _)
def zIO (n_:Nat) y0 y2:Tw (zBG y0 y2):=by
 delta zBG
 repeat with_reducible (first | intro _ | apply zGm n_ | apply ti | apply ts | apply tb | apply tl n_ | exact td _)
def zGe (n_:Nat) y0 y2:Tw (zAe y0 y2):=by
 delta zAe
 repeat with_reducible (first | intro _ | apply zIO n_ | apply ti | apply ts | apply tb | apply tl n_ | exact td _)
def zJH (n_:Nat) r1 s1:Tw (zCM r1 s1):=by
 delta zCM
 repeat with_reducible (first | intro _ | apply zGe n_ | apply ti | apply ts | apply tb | apply tl n_ | exact td _)
def zKX (n_:Nat) y0:Tw (zBg y0):=by
 delta zBg
 repeat with_reducible (first | intro _ | apply zJ8 n_ | apply zJH n_ | apply ti | apply ts | apply tb | apply tl n_ | exact td _)
def zWI (n_:Nat) y0:Tw (zIv y0):=by
 delta zIv
 repeat with_reducible (first | intro _ | apply zKX n_ | apply ti | apply ts | apply tb | apply tl n_ | exact td _)
def zK5 (n_:Nat) r1 s1:Tw (zCp r1 s1):=by
 delta zCp
 repeat with_reducible (first | intro _ | apply zCv n_ | apply ti | apply ts | apply tb | apply tl n_ | exact td _)
def zL2 (n_:Nat) y0:Tw (zBW y0):=by
 delta zBW
 repeat with_reducible (first | intro _ | apply zWI n_ | apply zK5 n_ | apply ti | apply ts | apply tb | apply tl n_ | exact td _)
def zKq (n_:Nat) r1 s1:Tw (zDE r1 s1):=by
 delta zDE
 repeat with_reducible (first | intro _ | apply zCv n_ | apply ti | apply ts | apply tb | apply tl n_ | exact td _)
def zLm (n_:Nat) y0:Tw (zB5 y0):=by
 delta zB5
 repeat with_reducible (first | intro _ | apply zJ8 n_ | apply zKq n_ | apply ti | apply ts | apply tb | apply tl n_ | exact td _)
def zUx (n_:Nat) y0 y1:Tw (zAk y0 y1):=by
 delta zAk
 repeat with_reducible (first | intro _ | apply zNI n_ | apply zLx n_ | apply zLm n_ | apply zK0 n_ | apply zL2 n_ | apply zKH n_ | apply zLJ n_ | apply zLH n_ | apply ti | apply ts | apply tb | apply tl n_ | exact td _)
def zRG (n_:Nat) r1 y0 s1:Tw (zC3 r1 y0 s1):=by
 delta zC3
 repeat with_reducible (first | intro _ | apply zMD n_ | apply ti | apply ts | apply tb | apply tl n_ | exact td _)
def zTh (n_:Nat) y0 y1:Tw (zD7 y0 y1):=by
 delta zD7
 repeat with_reducible (first | intro _ | apply zUx n_ | apply zRG n_ | apply ti | apply ts | apply tb | apply tl n_ | exact td _)
def zQn (n_:Nat) y0:Tw (zC0 y0):=by
 delta zC0
 repeat with_reducible (first | intro _ | apply ti | apply ts | apply tb | apply tl n_ | exact td _)
def zRl (n_:Nat) y0 y1:Tw (zCi y0 y1):=by
 delta zCi
 repeat with_reducible (first | intro _ | apply ti | apply ts | apply tb | apply tl n_ | exact td _)
def zP7 (n_:Nat) y0 y1:Tw (zCs y0 y1):=by
 delta zCs
 repeat with_reducible (first | intro _ | apply zRl n_ | apply ti | apply ts | apply tb | apply tl n_ | exact td _)
def zQq (n_:Nat) y0 y1:Tw (zFy y0 y1):=by
 delta zFy
 repeat with_reducible (first | intro _ | apply zP7 n_ | apply ti | apply ts | apply tb | apply tl n_ | exact td _)
def zTJ (n_:Nat) y0 y1:Tw (zDN y0 y1):=by
 delta zDN
 repeat with_reducible (first | intro _ | apply zQq n_ | apply ti | apply ts | apply tb | apply tl n_ | exact td _)
def zF6 (n_:Nat) y0 y1 s1:Tw (zBI y0 y1 s1):=by
 delta zBI
 repeat with_reducible (first | intro _ | apply zTJ n_ | apply ti | apply ts | apply tb | apply tl n_ | exact td _)
def zGI (n_:Nat) y0 y1:Tw (zA9 y0 y1):=by
 delta zA9
 repeat with_reducible (first | intro _ | apply zF6 n_ | apply ti | apply ts | apply tb | apply tl n_ | exact td _)
def zF3 (n_:Nat) y0 y1:Tw (zAH y0 y1):=by
 delta zAH
 repeat with_reducible (first | intro _ | apply zGI n_ | apply ti | apply ts | apply tb | apply tl n_ | exact td _)
def zOK (n_:Nat) y0 y1 y2:Tw (zCR y0 y1 y2):=by
 delta zCR
 repeat with_reducible (first | intro _ | apply zF3 n_ | apply ti | apply ts | apply tb | apply tl n_ | exact td _)
def zFm (n_:Nat) y0 y1 y2 s1:Tw (zBV y0 y1 y2 s1):=by
 delta zBV
 repeat with_reducible (first | intro _ | apply zOK n_ | apply ti | apply ts | apply tb | apply tl n_ | exact td _)
def zHG (n_:Nat) y0 y1 y2:Tw (zAi y0 y1 y2):=by
 delta zAi
 repeat with_reducible (first | intro _ | apply zFm n_ | apply ti | apply ts | apply tb | apply tl n_ | exact td _)
def zFc (n_:Nat) y0 y1 y2 s2:Tw (zBN y0 y1 y2 s2):=by
 delta zBN
 repeat with_reducible (first | intro _ | apply zOK n_ | apply ti | apply ts | apply tb | apply tl n_ | exact td _)
def zGY (n_:Nat) y0 y1 y2:Tw (zAR y0 y1 y2):=by
 delta zAR
 repeat with_reducible (first | intro _ | apply zHG n_ | apply zFc n_ | apply ti | apply ts | apply tb | apply tl n_ | exact td _)
def zXe (n_:Nat) y0 y1 y2:Tw (zBU y0 y1 y2):=by
 delta zBU
 repeat with_reducible (first | intro _ | apply zTh n_ | apply zQn n_ | apply zR4 n_ | apply zGY n_ | apply ti | apply ts | apply tb | apply tl n_ | exact td _)
def zQu (n_:Nat) y0 s1:Tw (zHe y0 s1):=by
 delta zHe
 repeat with_reducible (first | intro _ | apply ti | apply ts | apply tb | apply tl n_ | exact td _)
def zKK (n_:Nat) y0:Tw (zAq y0):=by
 delta zAq
 repeat with_reducible (first | intro _ | apply zQu n_ | apply ti | apply ts | apply tb | apply tl n_ | exact td _)
def zKJ (n_:Nat)(y0:List Int):= (zKK n_ y0).1
theorem zMe (n_:Nat)(y0:List Int): Le (zKJ n_ y0) (zAq y0):=(zKK n_ y0).2
def zQ7 (n_:Nat)(y0:List Int): Tw (zBw y0):=⟨zGx n_ y0,zLL n_ y0⟩
def zL5 (n_:Nat)(x1:zF)(rec_argument_Subs:(List zF)->Int->Option (List Int))(y0:List zF)(s2:(List Int)×Int): Option (((List Int)×Int)⊕(List Int)) :=
 if decide (s2.2<(len x1.2.2.1)) then
  (zC x1.2.2.1 s2.2).bind λx2 =>
  (rec_argument_Subs y0 x2).bind λr2 =>
  (qF s2.1 r2).bind λx3 =>
  some (.inl (x3,zH (s2.2+1)))
 else
  some (.inr s2.1)
theorem zUV (n_:Nat)(x1:zF){rec_argument_Subs rec_argument_Subs':(List zF)->Int->Option (List Int)}(h_rec_argument_Subs:∀ u0 u1,Le (rec_argument_Subs u0 u1) (rec_argument_Subs' u0 u1))(y0:List zF)(s2:(List Int)×Int): Le (zL5 n_ x1 rec_argument_Subs y0 s2) (zE6 x1 rec_argument_Subs' y0 s2):=by
 unfold zL5 zE6
 repeat with_reducible (first | intro _ | apply h_rec_argument_Subs | exact Le.refl _ | apply Le.ite | apply Le.seqE | apply Le.bind | apply Le.lp | exact Le.none _)
def zNK (n_:Nat)(rec_argument_Subs:(List zF)->Int->Option (List Int))(y0:List zF)(y1:Int): Option (List Int) :=
 (zBQ y0 y1).bind λr1 =>
 if !r1 then
  some ([]:List Int)
 else
  (
   (zC y0 y1).bind λx1 =>
   (lp n_) ((zL5 n_) x1 rec_argument_Subs y0) (([y1]:List Int),0):Option (List Int)).bind λs1 =>
  ((zGx n_) s1).bind λr3 =>
  ((zKJ n_) r3).bind λr4 =>
  some r4
theorem zWi (n_:Nat){rec_argument_Subs rec_argument_Subs':(List zF)->Int->Option (List Int)}(h_rec_argument_Subs:∀ u0 u1,Le (rec_argument_Subs u0 u1) (rec_argument_Subs' u0 u1))(y0:List zF)(y1:Int): Le (zNK n_ rec_argument_Subs y0 y1) (zGf rec_argument_Subs' y0 y1):=by
 unfold zNK zGf
 repeat with_reducible (first | intro _ | apply h_rec_argument_Subs | apply zMe | apply zLL | apply zUV | exact Le.refl _ | apply Le.ite | apply Le.seqE | apply Le.bind | apply Le.lp | exact Le.none _)
def zNR (n_:Nat): Nat->(List zF)->Int->Option (List Int)
 | 0=>λ_ _=>none
 | k+1=>λy0 y1=>(zNK n_) ((zNR n_) k) y0 y1
theorem zQc (n_:Nat): ∀(k m:Nat),k≤m->∀ u0 u1,Le (zNR n_ k u0 u1) (zEN m u0 u1)
 | 0,_,_=>λu0 u1=>Le.none _
 | k+1,m,h=>λu0 u1=>by
  obtain⟨m,rfl⟩:∃ q,m=q+1:=⟨m-1,by omega⟩
  exact zWi n_ (zQc n_ k m (by omega)) _ _
def zSh (n_:Nat)(y0:List zF)(y1:Int): Option (List Int) :=
 zNR n_ n_ y0 y1
theorem zYo (n_:Nat)(y0:List zF)(y1:Int): Le (zSh n_ y0 y1) (zFT y0 y1):=Le.lim n_ λm h=>zQc n_ n_ m h _ _
def zOS (n_:Nat)(y0:List zF)(y1:Int): Tw (zFT y0 y1):=⟨zSh n_ y0 y1,zYo n_ y0 y1⟩
def zNB (n_:Nat) y0 y1 y2:Tw (zCW y0 y1 y2):=by
 delta zCW
 repeat with_reducible (first | intro _ | apply zOS n_ | apply zQ7 n_ | apply zKK n_ | apply ti | apply ts | apply tb | apply tl n_ | exact td _)
def zMN (n_:Nat)(x4:zF)(rec_argument_run:zM->(List zF)->Int->Option (List zI))(y0:zM)(y1:List zF)(s2:(List zI)×Int): Option (((List zI)×Int)⊕(List zI)) :=
 if decide (s2.2<(len x4.2.2.1)) then
  (zC x4.2.2.1 s2.2).bind λx5 =>
  (rec_argument_run y0 y1 x5).bind λr1 =>
  (qF s2.1 r1).bind λx6 =>
  some (.inl (x6,zH (s2.2+1)))
 else
  some (.inr s2.1)
theorem zWa (n_:Nat)(x4:zF){rec_argument_run rec_argument_run':zM->(List zF)->Int->Option (List zI)}(h_rec_argument_run:∀ u0 u1 u2,Le (rec_argument_run u0 u1 u2) (rec_argument_run' u0 u1 u2))(y0:zM)(y1:List zF)(s2:(List zI)×Int): Le (zMN n_ x4 rec_argument_run y0 y1 s2) (zJr x4 rec_argument_run' y0 y1 s2):=by
 unfold zMN zJr
 repeat with_reducible (first | intro _ | apply h_rec_argument_run | exact Le.refl _ | apply Le.ite | apply Le.seqE | apply Le.bind | apply Le.lp | exact Le.none _)
def zOa (n_:Nat)(rec_argument_run:zM->(List zF)->Int->Option (List zI))(y0:zM)(y1:List zF)(y2:Int): Option (List zI) :=
 (zC y1 y2).bind λx1 =>
 (zC y1 y2).bind λx2 =>
 (
  if decide (0≤x2.2.1) then
   (zC y0.2.1 x2.2.1).bind λx3 =>
   some x3.2.1
  else
   some false:Option Bool).bind λs1 =>
 if s1 then
  (zC y1 y2).bind λx4 =>
  (lp n_) ((zMN n_) x4 rec_argument_run y0 y1) (([x1.2.2.2]:List zI),0)
 else
  some ([x1.2.2.2]:List zI)
theorem zYP (n_:Nat){rec_argument_run rec_argument_run':zM->(List zF)->Int->Option (List zI)}(h_rec_argument_run:∀ u0 u1 u2,Le (rec_argument_run u0 u1 u2) (rec_argument_run' u0 u1 u2))(y0:zM)(y1:List zF)(y2:Int): Le (zOa n_ rec_argument_run y0 y1 y2) (zI2 rec_argument_run' y0 y1 y2):=by
 unfold zOa zI2
 repeat with_reducible (first | intro _ | apply h_rec_argument_run | apply zWa | exact Le.refl _ | apply Le.ite | apply Le.seqE | apply Le.bind | apply Le.lp | exact Le.none _)
def zOb (n_:Nat): Nat->zM->(List zF)->Int->Option (List zI)
 | 0=>λ_ _ _=>none
 | k+1=>λy0 y1 y2=>(zOa n_) ((zOb n_) k) y0 y1 y2
theorem zRW (n_:Nat): ∀(k m:Nat),k≤m->∀ u0 u1 u2,Le (zOb n_ k u0 u1 u2) (zEL m u0 u1 u2)
 | 0,_,_=>λu0 u1 u2=>Le.none _
 | k+1,m,h=>λu0 u1 u2=>by
  obtain⟨m,rfl⟩:∃ q,m=q+1:=⟨m-1,by omega⟩
  exact zYP n_ (zRW n_ k m (by omega)) _ _ _
def zUT (n_:Nat)(y0:zM)(y1:List zF)(y2:Int): Option (List zI) :=
 zOb n_ n_ y0 y1 y2
theorem z0W (n_:Nat)(y0:zM)(y1:List zF)(y2:Int): Le (zUT n_ y0 y1 y2) (zGG y0 y1 y2):=Le.lim n_ λm h=>zRW n_ n_ m h _ _ _
def z1b (n_:Nat)(y0:zM)(y1:List zF)(y2:Int): Tw (zGG y0 y1 y2):=⟨zUT n_ y0 y1 y2,z0W n_ y0 y1 y2⟩
def zTk (n_:Nat) y3 y0 y2 y1 s1:Tw (zD6 y3 y0 y2 y1 s1):=by
 delta zD6
 repeat with_reducible (first | intro _ | apply z1b n_ | apply zQq n_ | apply zNB n_ | apply zEP n_ | apply ti | apply ts | apply tb | apply tl n_ | exact td _)
def zQb (n_:Nat) y0 y1 y2 y3:Tw (zEH y0 y1 y2 y3):=by
 delta zEH
 repeat with_reducible (first | intro _ | apply zTk n_ | apply ti | apply ts | apply tb | apply tl n_ | exact td _)
def zQ3 (n_:Nat)(y0:zM)(y1:List zF)(y2:Int)(y3:List Int):= (zQb n_ y0 y1 y2 y3).1
theorem zWA (n_:Nat)(y0:zM)(y1:List zF)(y2:Int)(y3:List Int): Le (zQ3 n_ y0 y1 y2 y3) (zEH y0 y1 y2 y3):=(zQb n_ y0 y1 y2 y3).2
def zFp (n_:Nat) y0 y2:Tw (zAL y0 y2):=by
 delta zAL
 repeat with_reducible (first | intro _ | apply ti | apply ts | apply tb | apply tl n_ | exact td _)
def zCT (n_:Nat) y0 y2:Tw (zAA y0 y2):=by
 delta zAA
 repeat with_reducible (first | intro _ | apply zFp n_ | apply ti | apply ts | apply tb | apply tl n_ | exact td _)
def zCS (n_:Nat)(y0:List Int)(y2:xB):= (zCT n_ y0 y2).1
theorem zFC (n_:Nat)(y0:List Int)(y2:xB): Le (zCS n_ y0 y2) (zAA y0 y2):=(zCT n_ y0 y2).2
def zEg (n_:Nat)(y0:xB)(x1:qH)(y2:List Int)(rec_argument_builder_apply_2:xB->Int->(List Int)->Option (List zF))(y1:Int)(s2:Int×(List zF)): Option ((Int×(List zF))⊕(Unit⊕(List zF))) :=
 if decide (s2.1<(len y0.2.1)) then
  (zC y0.2.1 s2.1).bind λx2 =>
  (zC x1.2.2.2.1 (len y2)).bind λx3 =>
  if x2.2.2.2==x3 then
   (
    (zGA y2).bind λr2 =>
    (qF r2 ([s2.1]:List Int)).bind λx4 =>
    (rec_argument_builder_apply_2 (y0.1,y0.2.1,s2.2,y0.2.2.2) y1 x4).bind λr3 =>
    some r3:Option (List zF)).bind λs3 =>
   some (.inl (zH (s2.1+1),s3))
  else
   some (.inl (zH (s2.1+1),s2.2))
 else
  some (.inr (.inr s2.2))
theorem zMk (n_:Nat)(y0:xB)(x1:qH)(y2:List Int){rec_argument_builder_apply_2 rec_argument_builder_apply_2':xB->Int->(List Int)->Option (List zF)}(h_rec_argument_builder_apply_2:∀ u0 u1 u2,Le (rec_argument_builder_apply_2 u0 u1 u2) (rec_argument_builder_apply_2' u0 u1 u2))(y1:Int)(s2:Int×(List zF)): Le (zEg n_ y0 x1 y2 rec_argument_builder_apply_2 y1 s2) (zBR y0 x1 y2 rec_argument_builder_apply_2' y1 s2):=by
 unfold zEg zBR
 repeat with_reducible (first | intro _ | apply h_rec_argument_builder_apply_2 | exact Le.refl _ | apply Le.ite | apply Le.seqE | apply Le.bind | apply Le.lp | exact Le.none _)
def zFL (n_:Nat)(rec_argument_builder_apply_2:xB->Int->(List Int)->Option (List zF))(y0:xB)(y1:Int)(y2:List Int): Option (List zF) :=
 (zC y0.1.2.1 y1).bind λx1 =>
 (zBr y0).bind λr1 =>
 if r1 then
  some y0.2.2.1
 else
  vH (
   if decide ((len y2)<(len x1.2.2.2.1)) then
    (lp n_) ((zEg n_) y0 x1 y2 rec_argument_builder_apply_2 y1) (0,y0.2.2.1)
   else
    some (.inl ()):Option (Unit⊕(List zF))) λ_ =>
  (
   ((zCS n_) y2 y0).bind λr6 =>
   if r6 then
    ((zQ3 n_) y0.1 y0.2.1 y1 y2).bind λr7 =>
    some r7
   else
    some false:Option Bool).bind λs4 =>
  if s4 then
   (zC y0.1.2.1 y1).bind λx6 =>
   (qF y0.2.2.1 ([((-1),y1,y2,x6.2.2.2.2)]:List zF)).bind λx7 =>
   some x7
  else
   some y0.2.2.1
theorem zNv (n_:Nat){rec_argument_builder_apply_2 rec_argument_builder_apply_2':xB->Int->(List Int)->Option (List zF)}(h_rec_argument_builder_apply_2:∀ u0 u1 u2,Le (rec_argument_builder_apply_2 u0 u1 u2) (rec_argument_builder_apply_2' u0 u1 u2))(y0:xB)(y1:Int)(y2:List Int): Le (zFL n_ rec_argument_builder_apply_2 y0 y1 y2) (zBj rec_argument_builder_apply_2' y0 y1 y2):=by
 unfold zFL zBj
 repeat with_reducible (first | intro _ | apply h_rec_argument_builder_apply_2 | apply zWA | apply zFC | apply zMk | exact Le.refl _ | apply Le.ite | apply Le.seqE | apply Le.bind | apply Le.lp | exact Le.none _)
def zFN (n_:Nat): Nat->xB->Int->(List Int)->Option (List zF)
 | 0=>λ_ _ _=>none
 | k+1=>λy0 y1 y2=>(zFL n_) ((zFN n_) k) y0 y1 y2
theorem zIm (n_:Nat): ∀(k m:Nat),k≤m->∀ u0 u1 u2,Le (zFN n_ k u0 u1 u2) (zAm m u0 u1 u2)
 | 0,_,_=>λu0 u1 u2=>Le.none _
 | k+1,m,h=>λu0 u1 u2=>by
  obtain⟨m,rfl⟩:∃ q,m=q+1:=⟨m-1,by omega⟩
  exact zNv n_ (zIm n_ k m (by omega)) _ _ _
def zJy (n_:Nat)(y0:xB)(y1:Int)(y2:List Int): Option (List zF) :=
 zFN n_ n_ y0 y1 y2
theorem zOT (n_:Nat)(y0:xB)(y1:Int)(y2:List Int): Le (zJy n_ y0 y1 y2) (zBl y0 y1 y2):=Le.lim n_ λm h=>zIm n_ n_ m h _ _ _
def zOn (n_:Nat)(y0:xB)(y1:Int)(y2:List Int): Tw (zBl y0 y1 y2):=⟨zJy n_ y0 y1 y2,zOT n_ y0 y1 y2⟩
def zJC (n_:Nat) y0 y1:Tw (zA7 y0 y1):=by
 delta zA7
 repeat with_reducible (first | intro _ | apply ti | apply ts | apply tb | apply tl n_ | exact td _)
def zTN (n_:Nat) y0 y1:Tw (zFJ y0 y1):=by
 delta zFJ
 repeat with_reducible (first | intro _ | apply zJC n_ | apply ti | apply ts | apply tb | apply tl n_ | exact td _)
def zG0 (n_:Nat) y0 y1:Tw (zAQ y0 y1):=by
 delta zAQ
 repeat with_reducible (first | intro _ | apply ti | apply ts | apply tb | apply tl n_ | exact td _)
def zW7 (n_:Nat) y0 y1:Tw (zE8 y0 y1):=by
 delta zE8
 repeat with_reducible (first | intro _ | apply zG0 n_ | apply ti | apply ts | apply tb | apply tl n_ | exact td _)
def zKp (n_:Nat) y0:Tw (zBo y0):=by
 delta zBo
 repeat with_reducible (first | intro _ | apply ti | apply ts | apply tb | apply tl n_ | exact td _)
def zL7 (n_:Nat) y0:Tw (zCP y0):=by
 delta zCP
 repeat with_reducible (first | intro _ | apply zKp n_ | apply ti | apply ts | apply tb | apply tl n_ | exact td _)
def zW4 (n_:Nat) y0:Tw (zFl y0):=by
 delta zFl
 repeat with_reducible (first | intro _ | apply zKp n_ | apply ti | apply ts | apply tb | apply tl n_ | exact td _)
def zVV (n_:Nat) y0:Tw (zE4 y0):=by
 delta zE4
 repeat with_reducible (first | intro _ | apply zL7 n_ | apply zW4 n_ | apply ti | apply ts | apply tb | apply tl n_ | exact td _)
def zUB (n_:Nat) y0 y1:Tw (zD4 y0 y1):=by
 delta zD4
 repeat with_reducible (first | intro _ | apply zL7 n_ | apply zTN n_ | apply ti | apply ts | apply tb | apply tl n_ | exact td _)
def zWU (n_:Nat) y0 s3:Tw (zE3 y0 s3):=by
 delta zE3
 repeat with_reducible (first | intro _ | apply zL7 n_ | apply ti | apply ts | apply tb | apply tl n_ | exact td _)
def z0t (n_:Nat) y0:Tw (zGz y0):=by
 delta zGz
 repeat with_reducible (first | intro _ | apply zKp n_ | apply zL7 n_ | apply zWU n_ | apply ti | apply ts | apply tb | apply tl n_ | exact td _)
def zRz (n_:Nat) y0 s2:Tw (zCj y0 s2):=by
 delta zCj
 repeat with_reducible (first | intro _ | apply zVV n_ | apply zW7 n_ | apply ti | apply ts | apply tb | apply tl n_ | exact td _)
def zSE (n_:Nat) y0 s4:Tw (zCm y0 s4):=by
 delta zCm
 repeat with_reducible (first | intro _ | apply z0t n_ | apply zTN n_ | apply ti | apply ts | apply tb | apply tl n_ | exact td _)
def zRq (n_:Nat) y0 s5:Tw (zCk y0 s5):=by
 delta zCk
 repeat with_reducible (first | intro _ | apply zUB n_ | apply ti | apply ts | apply tb | apply tl n_ | exact td _)
def zUw (n_:Nat) y0:Tw (zCU y0):=by
 delta zCU
 repeat with_reducible (first | intro _ | apply zRz n_ | apply zSE n_ | apply zRq n_ | apply ti | apply ts | apply tb | apply tl n_ | exact td _)
def zUp (n_:Nat) y0 s4 s6:Tw (zDC y0 s4 s6):=by
 delta zDC
 repeat with_reducible (first | intro _ | apply zOn n_ | apply ti | apply ts | apply tb | apply tl n_ | exact td _)
def zUd (n_:Nat) y0 s4:Tw (zB2 y0 s4):=by
 delta zB2
 repeat with_reducible (first | intro _ | apply zUp n_ | apply ti | apply ts | apply tb | apply tl n_ | exact td _)
def zYn (n_:Nat) y0:Tw (zDe y0):=by
 delta zDe
 repeat with_reducible (first | intro _ | apply zUw n_ | apply zUd n_ | apply ti | apply ts | apply tb | apply tl n_ | exact td _)
def zIG (n_:Nat)(y0:List qX): Tw (zA0 y0):=⟨zBs n_ y0,zH4 n_ y0⟩
def zUz (n_:Nat) y1 s2 r1 s3 s4:Tw (zEA y1 s2 r1 s3 s4):=by
 delta zEA
 repeat with_reducible (first | intro _ | apply zOS n_ | apply zEP n_ | apply ti | apply ts | apply tb | apply tl n_ | exact td _)
def zVL (n_:Nat) y1 y0 s2 s3:Tw (zDx y1 y0 s2 s3):=by
 delta zDx
 repeat with_reducible (first | intro _ | apply zUz n_ | apply ti | apply ts | apply tb | apply tl n_ | exact td _)
def zUW (n_:Nat) y1 y0 s2:Tw (zDG y1 y0 s2):=by
 delta zDG
 repeat with_reducible (first | intro _ | apply zVL n_ | apply ti | apply ts | apply tb | apply tl n_ | exact td _)
def zYk (n_:Nat) y0 y1:Tw (zFi y0 y1):=by
 delta zFi
 repeat with_reducible (first | intro _ | apply zUW n_ | apply zIG n_ | apply ti | apply ts | apply tb | apply tl n_ | exact td _)
def zOG (n_:Nat) y0 y1:Tw (zDF y0 y1):=by
 delta zDF
 repeat with_reducible (first | intro _ | apply zOS n_ | apply zQ7 n_ | apply ti | apply ts | apply tb | apply tl n_ | exact td _)
def zJp (n_:Nat) y0 y1:Tw (zAd y0 y1):=by
 delta zAd
 repeat with_reducible (first | intro _ | apply ti | apply ts | apply tb | apply tl n_ | exact td _)
def zI5 (n_:Nat) y0 y1:Tw (zA2 y0 y1):=by
 delta zA2
 repeat with_reducible (first | intro _ | apply zJp n_ | apply ti | apply ts | apply tb | apply tl n_ | exact td _)
def z1U (n_:Nat) y0 y1 y2:Tw (zI1 y0 y1 y2):=by
 delta zI1
 repeat with_reducible (first | intro _ | apply zOG n_ | apply zI5 n_ | apply ti | apply ts | apply tb | apply tl n_ | exact td _)
def zLO (n_:Nat)(x5:zF)(rec_argument_Last:zM->(List zF)->Int->Option (List Int))(y0:zM)(y1:List zF)(s3:(List Int)×Int): Option (((List Int)×Int)⊕(List Int)) :=
 if decide (s3.2<(len x5.2.2.1)) then
  (zC x5.2.2.1 s3.2).bind λx6 =>
  (rec_argument_Last y0 y1 x6).bind λr2 =>
  (qF s3.1 r2).bind λx7 =>
  some (.inl (x7,zH (s3.2+1)))
 else
  some (.inr s3.1)
theorem zVC (n_:Nat)(x5:zF){rec_argument_Last rec_argument_Last':zM->(List zF)->Int->Option (List Int)}(h_rec_argument_Last:∀ u0 u1 u2,Le (rec_argument_Last u0 u1 u2) (rec_argument_Last' u0 u1 u2))(y0:zM)(y1:List zF)(s3:(List Int)×Int): Le (zLO n_ x5 rec_argument_Last y0 y1 s3) (zEc x5 rec_argument_Last' y0 y1 s3):=by
 unfold zLO zEc
 repeat with_reducible (first | intro _ | apply h_rec_argument_Last | exact Le.refl _ | apply Le.ite | apply Le.seqE | apply Le.bind | apply Le.lp | exact Le.none _)
def zN9 (n_:Nat)(rec_argument_Last:zM->(List zF)->Int->Option (List Int))(y0:zM)(y1:List zF)(y2:Int): Option (List Int) :=
 (
  (zBQ y1 y2).bind λr1 =>
  if !r1 then
   some true
  else
   (zC y1 y2).bind λx1 =>
   some (decide (x1.2.1<0)):Option Bool).bind λs1 =>
 if s1 then
  some ([]:List Int)
 else
  (zC y1 y2).bind λx2 =>
  (zC y0.2.1 x2.2.1).bind λx3 =>
  if !x3.2.1 then
   (zC y1 y2).bind λx4 =>
   some ([x4.2.1]:List Int)
  else
   (
    (zC y1 y2).bind λx5 =>
    (lp n_) ((zLO n_) x5 rec_argument_Last y0 y1) (([]:List Int),0):Option (List Int)).bind λs2 =>
   ((zGx n_) s2).bind λr3 =>
   ((zKJ n_) r3).bind λr4 =>
   some r4
theorem zXi (n_:Nat){rec_argument_Last rec_argument_Last':zM->(List zF)->Int->Option (List Int)}(h_rec_argument_Last:∀ u0 u1 u2,Le (rec_argument_Last u0 u1 u2) (rec_argument_Last' u0 u1 u2))(y0:zM)(y1:List zF)(y2:Int): Le (zN9 n_ rec_argument_Last y0 y1 y2) (zGa rec_argument_Last' y0 y1 y2):=by
 unfold zN9 zGa
 repeat with_reducible (first | intro _ | apply h_rec_argument_Last | apply zMe | apply zLL | apply zVC | exact Le.refl _ | apply Le.ite | apply Le.seqE | apply Le.bind | apply Le.lp | exact Le.none _)
def zNQ (n_:Nat): Nat->zM->(List zF)->Int->Option (List Int)
 | 0=>λ_ _ _=>none
 | k+1=>λy0 y1 y2=>(zN9 n_) ((zNQ n_) k) y0 y1 y2
theorem zQ1 (n_:Nat): ∀(k m:Nat),k≤m->∀ u0 u1 u2,Le (zNQ n_ k u0 u1 u2) (zEW m u0 u1 u2)
 | 0,_,_=>λu0 u1 u2=>Le.none _
 | k+1,m,h=>λu0 u1 u2=>by
  obtain⟨m,rfl⟩:∃ q,m=q+1:=⟨m-1,by omega⟩
  exact zXi n_ (zQ1 n_ k m (by omega)) _ _ _
def zSx (n_:Nat)(y0:zM)(y1:List zF)(y2:Int): Option (List Int) :=
 zNQ n_ n_ y0 y1 y2
theorem zYX (n_:Nat)(y0:zM)(y1:List zF)(y2:Int): Le (zSx n_ y0 y1 y2) (zJR y0 y1 y2):=Le.lim n_ λm h=>zQ1 n_ n_ m h _ _ _
def z0w (n_:Nat)(y0:zM)(y1:List zF)(y2:Int): Tw (zJR y0 y1 y2):=⟨zSx n_ y0 y1 y2,zYX n_ y0 y1 y2⟩
def zXv (n_:Nat) y0 y1:Tw (zLE y0 y1):=by
 delta zLE
 repeat with_reducible (first | intro _ | apply ti | apply ts | apply tb | apply tl n_ | exact td _)
def zRe (n_:Nat) y0 y1 y2:Tw (zCy y0 y1 y2):=by
 delta zCy
 repeat with_reducible (first | intro _ | apply z0w n_ | apply zXv n_ | apply ti | apply ts | apply tb | apply tl n_ | exact td _)
def zZB (n_:Nat) y0:Tw (zEj y0):=by
 delta zEj
 repeat with_reducible (first | intro _ | apply ti | apply ts | apply tb | apply tl n_ | exact td _)
def zYR (n_:Nat) y0:Tw (zEl y0):=by
 delta zEl
 repeat with_reducible (first | intro _ | apply ti | apply ts | apply tb | apply tl n_ | exact td _)
def zP6 (n_:Nat) y0 y1 y2:Tw (zFB y0 y1 y2):=by
 delta zFB
 repeat with_reducible (first | intro _ | apply zYR n_ | apply zZB n_ | apply ti | apply ts | apply tb | apply tl n_ | exact td _)
def zNe (n_:Nat) y0 y1 y2 y3 y4:Tw (zBS y0 y1 y2 y3 y4):=by
 delta zBS
 repeat with_reducible (first | intro _ | apply zRe n_ | apply zP6 n_ | apply ti | apply ts | apply tb | apply tl n_ | exact td _)
def zOf (n_:Nat) y0 y1 y2:Tw (zBp y0 y1 y2):=by
 delta zBp
 repeat with_reducible (first | intro _ | apply zOG n_ | apply ti | apply ts | apply tb | apply tl n_ | exact td _)
def zGV (n_:Nat) y0 y1 y2 y3 y4:Tw (zAO y0 y1 y2 y3 y4):=by
 delta zAO
 repeat with_reducible (first | intro _ | apply zOf n_ | apply zP6 n_ | apply ti | apply ts | apply tb | apply tl n_ | exact td _)
def zNE (n_:Nat) y0 y1 y2 y3:Tw (zBP y0 y1 y2 y3):=by
 delta zBP
 repeat with_reducible (first | intro _ | apply zRe n_ | apply ti | apply ts | apply tb | apply tl n_ | exact td _)
def zOk (n_:Nat) y1 y2 y3 y4 y5:Tw (zC8 y1 y2 y3 y4 y5):=by
 delta zC8
 repeat with_reducible (first | intro _ | apply zNe n_ | apply zNE n_ | apply zGV n_ | apply ti | apply ts | apply tb | apply tl n_ | exact td _)
def zR5 (n_:Nat) y0 y1 y2:Tw (zDA y0 y1 y2):=by
 delta zDA
 repeat with_reducible (first | intro _ | apply zNB n_ | apply zXv n_ | apply ti | apply ts | apply tb | apply tl n_ | exact td _)
def zNY (n_:Nat) y0 y1 y2 y3 y4:Tw (zAj y0 y1 y2 y3 y4):=by
 delta zAj
 repeat with_reducible (first | intro _ | apply zR5 n_ | apply zP6 n_ | apply ti | apply ts | apply tb | apply tl n_ | exact td _)
def zLq (n_:Nat) y0 y1 y2 y3:Tw (zAt y0 y1 y2 y3):=by
 delta zAt
 repeat with_reducible (first | intro _ | apply zOf n_ | apply ti | apply ts | apply tb | apply tl n_ | exact td _)
def zNH (n_:Nat) y0 y1 y2 y3:Tw (zBT y0 y1 y2 y3):=by
 delta zBT
 repeat with_reducible (first | intro _ | apply zR5 n_ | apply ti | apply ts | apply tb | apply tl n_ | exact td _)
def zOp (n_:Nat) y1 y2 y3 y4 y6:Tw (zC5 y1 y2 y3 y4 y6):=by
 delta zC5
 repeat with_reducible (first | intro _ | apply zNH n_ | apply zGV n_ | apply zLq n_ | apply zNY n_ | apply ti | apply ts | apply tb | apply tl n_ | exact td _)
def z6K (n_:Nat) y0 y1 y2 y3 y4:Tw (zMV y0 y1 y2 y3 y4):=by
 delta zMV
 repeat with_reducible (first | intro _ | apply z1U n_ | apply zOk n_ | apply zOp n_ | apply ti | apply ts | apply tb | apply tl n_ | exact td _)
def zPB (n_:Nat) y0 y1 y2 y3:Tw (zCg y0 y1 y2 y3):=by
 delta zCg
 repeat with_reducible (first | intro _ | apply z6K n_ | apply ti | apply ts | apply tb | apply tl n_ | exact td _)
def zG1 (n_:Nat) y0 y1 y2 y3 s1:Tw (zB6 y0 y1 y2 y3 s1):=by
 delta zB6
 repeat with_reducible (first | intro _ | apply zPB n_ | apply ti | apply ts | apply tb | apply tl n_ | exact td _)
def zHd (n_:Nat) y0 y1 y2 y3:Tw (zAw y0 y1 y2 y3):=by
 delta zAw
 repeat with_reducible (first | intro _ | apply zG1 n_ | apply ti | apply ts | apply tb | apply tl n_ | exact td _)
def zGQ (n_:Nat) y0 y1 y2 y3 s2:Tw (zB1 y0 y1 y2 y3 s2):=by
 delta zB1
 repeat with_reducible (first | intro _ | apply zPB n_ | apply ti | apply ts | apply tb | apply tl n_ | exact td _)
def zHO (n_:Nat) y0 y1 y2 y3:Tw (zAV y0 y1 y2 y3):=by
 delta zAV
 repeat with_reducible (first | intro _ | apply zHd n_ | apply zGQ n_ | apply ti | apply ts | apply tb | apply tl n_ | exact td _)
def zYi (n_:Nat) y0 y1 y2:Tw (zEe y0 y1 y2):=by
 delta zEe
 repeat with_reducible (first | intro _ | apply zYk n_ | apply zHO n_ | apply ti | apply ts | apply tb | apply tl n_ | exact td _)
def zQ8 (n_:Nat) y0 s1:Tw (zGw y0 s1):=by
 delta zGw
 repeat with_reducible (first | intro _ | apply ti | apply ts | apply tb | apply tl n_ | exact td _)
def zTH (n_:Nat) y0:Tw (zER y0):=by
 delta zER
 repeat with_reducible (first | intro _ | apply zQ8 n_ | apply ti | apply ts | apply tb | apply tl n_ | exact td _)
def zJb (n_:Nat)(y0:List qG): Tw (zAc y0):=⟨zC2 n_ y0,zJM n_ y0⟩
def z1F (n_:Nat) y0 y1:Tw (zGK y0 y1):=by
 delta zGK
 repeat with_reducible (first | intro _ | apply zJb n_ | apply zTH n_ | apply ti | apply ts | apply tb | apply tl n_ | exact td _)
def zTF (n_:Nat) y0 x1 y1 s3 s4:Tw (zES y0 x1 y1 s3 s4):=by
 delta zES
 repeat with_reducible (first | intro _ | apply zQq n_ | apply ti | apply ts | apply tb | apply tl n_ | exact td _)
def zSr (n_:Nat) y0 y1 s3:Tw (zDK y0 y1 s3):=by
 delta zDK
 repeat with_reducible (first | intro _ | apply zTF n_ | apply ti | apply ts | apply tb | apply tl n_ | exact td _)
def zW8 (n_:Nat) y0 y1:Tw (zEY y0 y1):=by
 delta zEY
 repeat with_reducible (first | intro _ | apply zSr n_ | apply ti | apply ts | apply tb | apply tl n_ | exact td _)
def zYU (n_:Nat) y0 y1:Tw (zCu y0 y1):=by
 delta zCu
 repeat with_reducible (first | intro _ | apply zYn n_ | apply zYi n_ | apply z1F n_ | apply zRf n_ | apply zCv n_ | apply zMD n_ | apply zW8 n_ | apply ti | apply ts | apply tb | apply tl n_ | exact td _)
end
end
section
def awkB:zM:=([((false,[112]),2,1,[]),((true,[112]),2,1,[]),((false,[120]),1,0,[])],[([97],false,1,[],(false,[113])),([98],false,1,[],(true,[113]))],[([98],2,(false,[120]))])
theorem awk_valid:tR awkB:=zOB.1 (by decide)
theorem awk_text:fmtT awkB=[112,114,101,109,105,115,101,32,112,32,49,10,112,114,101,109,105,115,101,32,126,112,32,49,10,97,120,105,111,109,32,120,10,114,117,108,101,32,97,32,49,58,32,61,62,32,113,10,114,117,108,101,32,98,32,49,58,32,61,62,32,126,113,10,112,114,111,109,111,116,101,32,98,32,50,32,105,102,32,120,10]:=by decide
noncomputable def awkM:Option Bool:=(zCu awkB (1,1)).bind λr2 =>
 (zBU r2.1 1 true).bind λr3 =>
 (zBU r2.1 3 false).bind λr4 =>
 (
   if r2.2==0 then
    if r3.2==0 then
     if(len r3.1)==2 then
      (zC r3.1 0).bind λx1 =>
      if x1==(true,[113]) then
       if r4.2==0 then
        some ((len r4.1)==4)
       else
        some false
      else
       some false
     else
      some false
    else
     some false
   else
    some false:Option Bool).bind λs1 =>
 some s1
noncomputable def w_awkM (n_:Nat): Tw awkM:=by
 delta awkM
 repeat with_reducible (first | intro _ | apply zYU n_ | apply zXe n_ | apply ti | apply ts | apply tb | apply tl n_ | exact td _)
theorem awk_true:awkM=some true:=(w_awkM 200).el (by kernel_rfl)
theorem vrd_awake:zLR=some true:=by
 unfold zLR
 rw[rb_Parse,←awk_text,parse_fmt awk_valid,zob]
 exact awk_true
theorem zWC (y0:List Int){W0:Prop}(_w0:W0): zJj y0=some true:=zXn vrd_awake y0
end
end Go.GD
