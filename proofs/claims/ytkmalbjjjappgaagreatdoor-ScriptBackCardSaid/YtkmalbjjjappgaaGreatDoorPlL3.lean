/- A part. Conditions: none. -/
import Derived.Test.YtkmalbjjjappgaaGreatDoorPlL2
namespace Go.GD
open Option renaming some->Ah
open Bool renaming true->Aj,false->Ak
open Go renaming IntKind->Au
set_option autoImplicit false
set_option linter.unusedVariables false
section
theorem x_sidx{s:zA}{i:Int}(h0:0<=i)(h1:i<s.length): Ok (vR s i) λ_=>True:=by
 obtain⟨j,rfl⟩:=Qv h0;rw[zDQ,Qs (by omega)];exact .ret trivial
theorem x_sub{s:zA}{i j:Int}(h0:0<=i)(h1:i<=j)(h2:j<=s.length): Ok (sub s i j) λx=>x.Sublist s:=by
 rw[zL2 h0 h1 h2];exact .ret ((UV _ _).trans (UW _ _))
theorem x_split{s:zA}(h:s.length<=5000)(c:Int): Ok (zG7 s c) λl=>1<=l.length/\l.length<=5001/\∀ x∈l,x.Sublist s:=by
 unfold zG7;refine Ok.bind (I:=λt:List zA×Int=>t.1.length<=s.length/\(∀ x∈t.1,x.Sublist s)/\0<=t.2/\t.2<=s.length) ?_ λt ht=>?_
 ·refine Ok.wh41 (λt:List zA×Int×Int=>(t.1.length:Int)<=t.2.2/\(∀ x∈t.1,x.Sublist s)/\0<=t.2.1/\t.2.1<=t.2.2/\t.2.2<=s.length) (λt=>((s.length:Int)-t.2.2).toNat) (λt ht=>?_) _ _ (Qd _) ⟨Ql 0,by simp,Ql 0,Ql 0,by grind⟩;obtain⟨a1,a2,a3,a4,a5⟩:=ht;unfold zMb;refine .ite (λhc=>?_) λ_=>.ret ⟨by grind,a2,a3,by grind⟩;rw[Qb] at hc;simp only[len] at hc;rw[qN (show -9223372036854775808<=t.2.2+1 by omega) (by omega)];refine(x_sidx (by omega) hc).bind λx1 _=>.ite (λ_=>(x_sub a3 a4 a5).bind λx2 h2=>?_) λ_=>.ret ⟨⟨by grind,a2,a3,by grind,by grind⟩,by grind⟩;rw[yI (by grind),zob];exact .ret ⟨⟨by simp;omega,zPu a2 h2,by grind,by grind,by grind⟩,by grind⟩
 ·obtain⟨a1,a2,a3,a4⟩:=ht;refine(x_sub a3 a4 (show len s<=s.length by simp[len])).bind λx4 h4=>?_;rw[yI (by grind),zob];exact .ret ⟨by simp,by simp;omega,zPu a2 h4⟩
theorem x_at (l:List zA)(i:Int): Ok (zCl l i) λx=>x=[]\/x∈l:=by
 unfold zCl;refine .ite (λhc=>?_) λ_=>.ret (.inl rfl);rw[Qc,Qb,Qb] at hc;grind [Ok.idx,Ok]
theorem x_num (s:zA): Ok (zES s) λ_=>True:=by
 unfold zES;by_cases h:s.length=1
 ·have h1:(0:Int)<s.length:=by omega
  exact Ok.bind (I:=λ_:Bool=>True) (.ite (λ_=>.ret trivial) λ_=>(x_sidx (Ql 0) h1).bind λ_ _=>.ite (λ_=>.ret trivial) λ_=>(x_sidx (Ql 0) h1).bind λ_ _=>.ret trivial) λ_ _=>.ite (λ_=>.ret trivial) λ_=>(x_sidx (Ql 0) h1).bind λ_ _=>.ret trivial
 ·rw[Qi (by grind),zob,Qi rfl];exact .ret trivial
theorem x_lit (s:zA): Ok (zBN s) λ_=>True:=⟨_,zUT s,trivial⟩
theorem x_promL{p:wW}(h1:vName p.1=Aj)(h2:0<=p.2.1/\p.2.1<=9): Ok (zC1 p) λ_=>True:=by
 unfold zC1;exact((show TB 8 0 [112,114,111,109,111,116,101,32] by decide).cat ⟨(zJp h1).2,zWX h1⟩).bind λx1 g1=>(g1.cat (show TB 1 0 [32] by decide)).bind λx2 g2=>(x_digit h2).bind λr1 g=>(g2.cat g).bind λx3 g3=>(g3.cat (show TB 4 0 [32,105,102,32] by decide)).bind λx4 g4=>(x_fmt _).bind λr2 g=>(g4.cat g).bind λ_ _=>.ret trivial
section
variable (s:zA){w:List zA}(hw:1<=w.length)(hl:w.length<=5001)(hs:∀ x∈w,x.Sublist s)
include hw in
theorem x_prem:Ok (zFM s w) λr=>r.1≠2:=by
 unfold zFM;refine Ok.bind (I:=λ_=>True) ((Ok.idx (Ql 0) (by omega)).bind λx1 _=>.ite (λ_=>(x_at _ _).bind λ_ _=>(x_num _).bind λ_ _=>.ret trivial) λ_=>.ite (λ_=>.ret trivial) λ_=>.ret trivial) λs1 _=>(x_at _ _).bind λr3 _=>(x_lit _).bind λr4 _=>Ok.bind (I:=λ_=>True) ((x_at _ _).bind λ_ _=>.ite (λ_=>(x_at _ _).bind λ_ _=>.ret trivial) λ_=>.ret trivial) λs2 _=>Ok.bind (I:=λ_=>True) (.ite (λ_=>.ret trivial) λ_=>(zZC _).bind λr7 h7=>.ite (λ_=>.ret trivial) λe=>(x_premL (h7 (by grind))).bind λ_ _=>.ret trivial) λs3 _=>.ite (λ_=>.ret (by decide)) λ_=>.ret (show(1:Int)≠2 by decide)
theorem x_prom:Ok (zDx s w) λr=>r.1≠2:=by
 unfold zDx zC0;refine(x_at _ _).bind λr1 _=>(x_lit _).bind λr2 _=>Ok.bind (I:=λ_=>True) ((x_at _ _).bind λ_ _=>(x_at _ _).bind λ_ _=>(x_num _).bind λ_ _=>.ret trivial) λs1 _=>Ok.bind (I:=λ_=>True) (.ite (λ_=>.ret trivial) λ_=>?_) λs3 _=>.ite (λ_=>.ret (by decide)) λ_=>.ret (show(3:Int)≠2 by decide);rw[zDF,zob,zob];refine .ite (λ_=>.ret trivial) λe1=>.ite (λ_=>.ret trivial) λe2=>(x_promL (by grind) (by grind)).bind λ_ _=>.ret trivial
include hw hl hs in
theorem x_rule (h5:s.length<=5000): Ok (zHf s w) λr=>r.1=2->r.2.2.1.2.2.2.1.length<=cm s+1:=by
 have hlen:∀ x∈w,x.length<=5000:=λx hx=>Qw (hs x hx).length_le h5;unfold zHf zC0;refine Ok.bind (I:=λr:wC=>r.2.2.2.1=[]/\r.1.length<=5000) ((Ok.idx (Ql 0) (by omega)).bind λx1 _=>(x_at _ _).bind λr1 g=>.ret ⟨rfl,by grind⟩) λs1 h1=>Ok.seqE (I:=λo=>match o with | .inl z=>0<=z.1/\z.1<=3 | .inr r=>r.1≠2) ?_ (λs2 h2=>Ok.seqE (I:=λo=>match o with | .inl z=>z.length<=6000 | .inr r=>r.1≠2) ?_ (λs3 h3=>?_) λ_ h e=>absurd e h) λ_ h e=>absurd e h
 ·refine .ite (λhc=>?_) λ_=>.ite (λ_=>(x_at _ _).bind λr3 _=>.ite (λ_=>.ret (show(0:Int)≠2 by decide)) λhc=>?_) λ_=>.ret (show(0:Int)<=2/\(2:Int)<=3 by decide)
  ·rw[Qc,Qb] at hc;have hn:=h1.2;simp only[len] at hc ⊢;rw[qN (by omega) (by omega)];exact(x_sub (Ql 0) (by omega) (by omega)).bind λ_ _=>.ret (show(0:Int)<=2/\(2:Int)<=3 by decide)
  ·have hr:r3.length=2:=by simp[len] at hc;omega
   exact(x_sub (Ql 0) (by decide) (by omega)).bind λ_ _=>(x_num _).bind λ_ _=>.ret (show(0:Int)<=3/\(3:Int)<=3 by decide)
 ·have e2:zE (len w-2)=(w.length:Int)-2:=qN (x:=(w.length:Int)-2) (by omega) (by omega);refine Ok.wh41 (λt:Int×List zH=>0<=t.1/\t.1<=5003/\(t.2.length:Int)<=t.1) (λt=>((w.length:Int)-t.1).toNat) (λt ht=>?_) _ _ (Qd _) ⟨h2.1,by grind,by grind⟩;obtain⟨a1,a2,a3⟩:=ht;unfold zLQ;rw[e2];refine .ite (λhc=>?_) λ_=>.ret (show t.2.length<=6000 by omega);rw[Qb] at hc;refine(Ok.idx a1 (by omega)).bind λx4 h4=>Ok.bind (I:=λ_:zA=>True) (.ite (λhd=>?_) λ_=>.ret trivial) λs5 _=>(x_lit _).bind λr5 _=>.ite (λ_=>.ret (show(0:Int)≠2 by decide)) λ_=>?_
  ·rw[Qc,Qb,Qb] at hd;have hn:=hlen x4 h4.1;simp only[len] at hd ⊢;rw[qN (by omega) (by omega)];exact(x_sub (Ql 0) (by omega) (by omega)).bind λ_ _=>.ret trivial
  grind [yI,qN,Ok]
 ·refine(x_at _ _).bind λr6 _=>(x_lit _).bind λr7 _=>Ok.bind (I:=λb:Bool=>b=Ak->s3.length<=cm s+1) (.ite (λ_=>.ret nofun) λ_=>?_) λs6 h6=>.ite (λ_=>.ret nofun) λe=>.ret λ_=>h6 e;rw[zDF,zob];refine .ite (λ_=>.ret nofun) λe1=>?_;rw[zob];refine .ite (λ_=>.ret nofun) λe2=>(x_ruleL (q:=(s2.2.1,s1.2.1,s2.2.2,s3,r7.1)) (by grind) (by grind) (by grind)).bind λr10 h10=>.ret λe=>?_;grind
theorem x_line (h5:s.length<=5000): Ok (zHo s) λr=>r.1=2->r.2.2.1.2.2.2.1.length<=cm s+1:=by
 unfold zHo;refine(x_split h5 32).bind λw h=>(Ok.idx (Ql 0) (by omega)).bind λx1 _=>Ok.bind (I:=λ_:Bool=>True) (.ite (λ_=>.ret trivial) λ_=>.ite (λ_=>.ret trivial) λ_=>.ret trivial) λs1 _=>.ite (λ_=>(x_prem s h.1).bind λr2 h2=>.ret λe=>absurd e h2) λ_=>Ok.bind (I:=λ_:Bool=>True) (.ite (λ_=>.ret trivial) λ_=>.ret trivial) λs2 _=>.ite (λ_=>(x_rule s h.1 h.2.1 h.2.2 h5).bind λr3 h3=>.ret h3) λ_=>.ite (λ_=>(x_prom s).bind λr4 h4=>.ret λe=>absurd e h4) λ_=>.ret nofun
theorem x_parse:Ok (zIn s) λr=>∀ q∈r.1.2.1,q.2.2.2.1.length<=cm s+1:=by
 unfold zIn;refine .ite (λ_=>.ret (by simp)) λhc=>?_;have h5:s.length<=4096:=by simp[len] at hc;omega
 refine(x_split (by omega) 10).bind λw h=>Ok.seqE (I:=λo=>match o with | .inl z=>z.1.length<=6000/\z.2.1.length<=6000/\z.2.2.length<=6000/\∀ q∈z.2.1,q.2.2.2.1.length<=cm s+1 | .inr r=>∀ q∈r.1.2.1,q.2.2.2.1.length<=cm s+1) ?_ (λs1 h1=>(zRT (b:=(s1.1,s1.2.1,s1.2.2)) (by grind) (by grind) (by grind)).bind λ_ _=>.ite (λ_=>.ret (by simp)) λ_=>.ret h1.2.2.2) λ_ h=>h;obtain⟨b1,b2,b3⟩:=h;refine Ok.wh41 (λt:Int×Int×List wK×List wC×List wW=>(0<=t.2.1/\t.2.1<=w.length)/\(t.2.2.1.length:Int)<=t.2.1/\(t.2.2.2.1.length:Int)<=t.2.1/\(t.2.2.2.2.length:Int)<=t.2.1/\∀ q∈t.2.2.2.1,q.2.2.2.1.length<=cm s+1) (λt=>((w.length:Int)-t.2.1).toNat) (λt ht=>?_) _ _ (Qd _) ⟨⟨Ql 0,by grind⟩,by simp,by simp,by simp,by simp⟩;obtain⟨⟨a0,a1⟩,a2,a3,a4,a5⟩:=ht;have hend:t.2.2.1.length<=6000/\t.2.2.2.1.length<=6000/\t.2.2.2.2.length<=6000/\∀ q∈t.2.2.2.1,q.2.2.2.1.length<=cm s+1:=⟨by omega,by omega,by omega,a5⟩;unfold zM8;refine .ite (λhc=>?_) λ_=>.ret hend;rw[Qb] at hc;simp only[len] at hc;rw[qN (show -9223372036854775808<=t.2.1+1 by omega) (by omega)];refine Ok.bind (I:=λ_:Bool=>True) (.ite (λ_=>(Ok.idx a0 hc).bind λ_ _=>.ret trivial) λ_=>.ret trivial) λs3 _=>.ite (λ_=>.ret hend) λ_=>(Ok.idx a0 hc).bind λx2 h2=>?_;have hx:=b3 x2 h2.1;refine(x_line x2 (Qw hx.length_le (by omega))).bind λr2 g2=>.ite (λ_=>.ret (by simp)) λ_=>.ite (λ_=>?_) λ_=>.ite (λe=>?_) λ_=>?_;all_goals rw[yI (by grind),zob]
 ·exact .ret ⟨⟨⟨by grind,by grind⟩,by simp;omega,by grind,by grind,a5⟩,by grind⟩
 ·exact .ret ⟨⟨⟨by grind,by grind⟩,by grind,by simp;omega,by grind,zPu a5 (Qw (g2 (by grind)) (Nat.succ_le_succ (z8P hx)))⟩,by grind⟩
 ·exact .ret ⟨⟨⟨by grind,by grind⟩,by grind,by grind,by simp;omega,a5⟩,by grind⟩
end
end
section
structure BsI (b:qX): Prop where
 p:b.1.length<=999
 r:b.2.1.length<=999
 m:b.2.2.length<=1000
 bd:∀ r∈b.2.1,r.2.2.2.1.length<=2
theorem BsI.compile{b:qX}(h:BsI b)(o:zC4): Ok (zBQ b o) λr=>r.2=0->CpI r.1:=
 (zVu o (by have:=h.p;omega) (by have:=h.r;omega) h.m h.bd).imp λ_ h e=>(h e).1
def DcI (d:tE): Prop:=d.2.2.1.2.length<=10000/\d.2.2.2.2.1.length<=10000/\d.2.2.2.2.2.length<=10000
structure FmI (y:yM): Prop where
 voc:y.1.1.length<=10
 np:y.1.2.1<=6
 base:BsI y.2.1
 st:SkS y.2.2.1
 tn:y.2.2.2.1.length<=8
 tk:∀ t∈y.2.2.2.1,WkD t.2
 dec:y.2.2.2.2.1.length<=20
 ord:OB y.2.2.2.2.2.1
 sb:BsI y.1.2.2.2
 dcs:∀ d∈y.2.2.2.2.1,DcI d
abbrev fz:yM:=((([]:List zA),0,(0,0),(([]:List wK),([]:List wC),([]:List wW))),(([]:List wK),([]:List wC),([]:List wW)),([]:List (List qR)),([]:List tQ),([]:List tE),(([]:List zA),([]:List Int)),0)
theorem bs0:BsI ([],[],[]):=⟨by simp,by simp,by simp,by simp⟩
theorem fmz:FmI fz:=⟨by simp,by decide,bs0,⟨by simp,by simp⟩,by simp,by simp,by simp,ob0,bs0,by simp⟩
section
variable {y:yM}{x:qB}(h:FmI y)
include h
theorem zWv{o:vQ}(ho:OB o): FmI (y.1,y.2.1,y.2.2.1,y.2.2.2.1,y.2.2.2.2.1,o,y.2.2.2.2.2.2):=⟨h.voc,h.np,h.base,h.st,h.tn,h.tk,h.dec,ho,h.sb,h.dcs⟩
theorem fm_stl:StL y.2.2.1:=⟨by have:=h.st.1;omega,λl hl=>by have:=(h.st.2 l hl).1;omega⟩
omit h in
theorem zPf{c:zCB}(hl:c.2.1.length<=40)(z:zH)(ls:List Int)(k:Int)(hk:k=0\/ls.length=c.2.1.length): Ok (zDB c z ls k) λr=>r<c.2.1.length:=by
 unfold zDB;refine Ok.forI (λi (_:Unit)=>(i:Int)) c.2.1 (λ_ _=>True) _ (λi a _ ha _=>?_) (λ_ _=>?_) () trivial
 ·have hi:=yK ha;unfold zGK;rw[yY ha,Qi rfl,uB,ha,zob];refine Ok.bind (I:=λ_:Bool=>True) (.ite (λ_=>.ite (λ_=>.ret trivial) λhc=>?_) λ_=>.ret trivial) λb _=>.ite (λ_=>.ret (show(i:Int)<c.2.1.length by omega)) λ_=>.ret ⟨(),by rw[wE i (by omega)],trivial⟩;have hc:k≠0:=by simpa using hc
  have hll:=hk.resolve_left hc;exact(Ok.idx (by omega) (by omega)).bind λ_ _=>.ret trivial
 ·unfold zGK;rw[uW];exact .ret (show(-1:Int)<c.2.1.length by omega)
theorem z3M (ht:x.2.2.2.2.1.length<=1000000)(hc:cm x.2.2.2.2.1<=1): Ok (zGf y x) λr=>FmI r.1:=by
 unfold zGf;rw[wQ (by simp;omega),zob];refine(x_parse _).bind λz hcm=>?_;rw[z4s,show cm [10]=0 from rfl] at hcm;obtain⟨⟨ps,rs,ts⟩,n,e⟩:=z;dsimp only at hcm ⊢;have hb:=h.base;refine Ok.bind (I:=λs:Bool=>s=Ak->(x.1=1->0<ps.length)/\(x.1≠1->0<rs.length)) ?_ λs hs=>.ite (λ_=>.ret h) λhs0=>?_
 ·refine .ite (λ_=>.ret nofun) λ_=>.ite (λ_=>.ret nofun) λ_=>.ite (λ_=>.ret nofun) λh3=>.ite (λ_=>.ret nofun) λh4=>.ite (λ_=>.ret nofun) λ_=>?_;have k3:x.1=1↔ps.length=1:=by
   have:((x.1==1)==(len ps==1))=true:=by simpa using h3
   rw[QJ] at this;have e2:(len ps==1)=decide (ps.length=1):=by
    by_cases e:ps.length=1
    ·grind
    ·grind
   rw[e2] at this;constructor
   ·grind
   ·grind
  have k4:x.1≠1->rs.length=1:=by
   intro hx;have:((x.1==1)==(len rs==1))=false:=h4;have e1:(x.1==1)=false:=by simpa using hx
   rw[e1] at this;have e3:(len rs==1)=true:=by
    cases hq:(len rs==1) with
    | true=>rfl
    | false=>grind
   have:(rs.length:Int)=1:=by simpa [len] using e3
   omega
  refine .ite (λhx=>?_) λhx=>.ret λ_=>⟨λe=>absurd e (by grind),λe=>by grind⟩;grind [Ok.idx,Ok]
 ·obtain⟨q1,q2⟩:=hs hs0;have hp:=hb.p;have hr:=hb.r;refine Ok.bind (I:=λs:List wK×List wC=>s.1.length<=1000/\s.2.length<=1000/\∀ r∈s.2,r.2.2.2.1.length<=2) ?_ λs hs2=>?_
  ·refine .ite (λhx=>?_) λhx=>?_
   ·have:=q1 (by grind);refine(Ok.idx (by omega) (by omega)).bind λx3 _=>?_;have hN:Ok (zEn x.2.1) λ_=>True:=by
     unfold zEn;rw[wQ (by simp[xV]),zob];exact .ret trivial
    refine hN.bind λr2 _=>Ok.bind (I:=λz:List wK=>z.length<=1000) ?_ λs3 h3=>.ret ⟨h3,by grind,hb.bd⟩;grind [Ok.app,Ok]
   ·have:=q2 (by grind);refine Ok.bind (I:=λz:List wC=>z.length<=1000/\∀ r∈z,r.2.2.2.1.length<=2) ((Ok.idx (by omega) (by omega)).bind λx10 h10=>?_) λs4 h4=>.ret ⟨by grind,h4.1,h4.2⟩;rw[zCP (by omega),zob];refine(Ok.app (by simp;omega)).bind λz hz=>.ret (by
     rw[hz];refine⟨by simp;omega,λr hr=>?_⟩;rcases Qj.1 hr with h | h
     ·exact hb.bd r h
     grind)
  ·obtain⟨g1,g2,g3⟩:=hs2;have hm:=hb.m;refine(zVu (b:=(s.1,s.2,y.2.1.2.2)) y.1.2.2.1 (by grind) (by grind) hm g3).bind λr6 h6=>.ite (λ_=>.ret h) λhc=>?_;obtain⟨_,v1,v2⟩:=h6 (by simpa using hc);exact .ret ⟨h.voc,h.np,⟨by grind,by grind,hm,g3⟩,h.st,h.tn,h.tk,h.dec,h.ord,h.sb,h.dcs⟩
theorem z0g:Ok (zFs y x) λr=>FmI r.1:=by
 have hp:=h.base.p;unfold zFs;refine Ok.bind (I:=λz:List wK=>z.length<=999) ?_ λs hs=>.ite (λ_=>.ret h) λ_=>.ret ⟨h.voc,h.np,⟨hs,h.base.r,h.base.m,h.base.bd⟩,h.st,h.tn,h.tk,h.dec,h.ord,h.sb,h.dcs⟩;refine Ok.forI (λi (s:List wK)=>((i:Int),s)) y.2.1.1 (λi s=>s.length<=i) _ (λi p s hp' hs=>?_) (λs hs=>?_) [] (by simp)
 ·have hi:=yK hp';unfold zGD;dsimp only;rw[yY hp',Qi rfl,uB,hp',zob];have hN:Ok (zEn x.2.1) λ_=>True:=by
   unfold zEn;rw[wQ (by simp[xV]),zob];exact .ret trivial
  refine hN.bind λr1 _=>.ite (λ_=>?_) λ_=>.ret ⟨s,by rw[wE i (by omega)],by omega⟩;rw[zob];exact(Ok.app (by simp;omega)).bind λz hz=>.ret ⟨z,by rw[wE i (by omega)],by grind⟩
 ·unfold zGD;dsimp only;rw[uW];exact .ret (show s.length<=999 by omega)
theorem z9O:Ok (zKU y x) λr=>FmI r.1:=by
 unfold zKU;rw[zBw,zob];refine .ite (λ_=>.ret h) λ_=>.ite (λ_=>.ret h) λh8=>?_;have h8:y.2.2.2.1.length<8:=by have h9:¬ (8:Int)<=(y.2.2.2.1.length:Int):=(by grind);omega
 refine(h.base.compile _).bind λr2 hr2=>.ite (λ_=>.ret h) λhc=>?_;have cp:=hr2 (by simpa using hc);refine(zPf cp.n _ _ _ (.inl rfl)).bind λr3 h3=>.ite (λ_=>.ret h) λ_=>?_;refine(k_new cp.g.len r3 x.2.2.2.2.2.2.2.1).bind λr4 h4=>.ite (λ_=>.ret h) λh0=>?_;have w:=h4 (by simpa using h0);refine Ok.bind (I:=λz:List tQ=>z.length<=8/\∀ t∈z,WkD t.2) ?_ λs hs=>.ret ⟨h.voc,h.np,h.base,h.st,hs.1,hs.2,h.dec,h.ord,h.sb,h.dcs⟩;rw[zCP (by omega),zob];refine(Ok.app (by simp;omega)).bind λz hz=>.ret (by
  rw[hz];refine⟨by simp;omega,λt ht=>?_⟩;rcases Qj.1 ht with h' | h'
  ·exact h.tk t h'
  grind)
theorem z9V:Ok (zK4 y x) λr=>FmI r.1:=by
 unfold zK4;refine .ite (λ_=>.ret h) λhc=>?_;rw[Uo,QM,QM] at hc;simp only[len] at hc;have hn:=h.tn;refine Ok.bind (I:=λs:Int×uF=>s.1=0->WkD s.2) ((Ok.idx (by omega) (by omega)).bind λx1 h1=>?_) λs hs=>.ite (λ_=>.ret h) λh0=>?_
 ·exact(z9k (h.tk x1 h1.1) _).bind λr2 h2=>.ret h2
 ·have w:=hs (by grind);rw[zCP (by omega),zob];refine(Ok.idx (by omega) (by omega)).bind λx3 _=>.ret ⟨h.voc,h.np,h.base,h.st,by grind,λt ht=>?_,h.dec,h.ord,h.sb,h.dcs⟩;rcases z3Q ht with rfl | ht
  ·exact w
  ·exact h.tk t ht
theorem z4C:Ok (zHm y x) λr=>FmI r.1:=by
 unfold zHm;rw[zBw,zob];refine .ite (λ_=>.ret h) λ_=>.ite (λ_=>.ret h) λ_=>.ite (λ_=>.ret h) λh8=>?_;have h8:y.2.2.2.2.1.length<20:=by have h9:¬ (20:Int)<=(y.2.2.2.2.1.length:Int):=(by grind);omega
 refine(h.base.compile _).bind λr2 hr2=>.ite (λ_=>.ret h) λhc=>?_;have cp:=hr2 (by simpa using hc);have hn:=cp.n;have hgn:=cp.gn;refine Ok.bind (I:=λd:tE=>d.2.2.2.2.1.length=r2.1.2.1.length/\DcI d) ?_ λs1 h1=>?_
 ·exact(z03 cp.g).bind λr3 h3=>(z9g cp.g).bind λr4 h4=>.ret ⟨by dsimp only;omega,cp.g.len,by dsimp only;omega,by dsimp only;omega⟩
 ·refine(zPf hn _ _ _ (.inr h1.1)).bind λr8 _=>Ok.bind (I:=λ_:Int=>True) (.ite (λ_=>(zPf hn _ _ _ (.inl rfl)).bind λ_ _=>.ret trivial) λ_=>.ret trivial) λs2 _=>?_;refine Ok.bind (I:=λz:List tE=>z.length<=20/\∀ d∈z,DcI d) ?_ λs3 h3=>?_
  ·rw[zCP (by omega),zob];exact(Ok.app (by simp;omega)).bind λz hz=>.ret (by
    rw[hz];refine⟨by simp;omega,λd hd=>?_⟩;rcases Qj.1 hd with h' | h'
    ·exact h.dcs d h'
    grind [DcI])
  ·refine(z2X (by have:=h.voc;omega) _).bind λr10 h10=>.ite (λ_=>.ret ⟨h.voc,h.np,h.base,h.st,h.tn,h.tk,h3.1,h.ord,h.sb,h3.2⟩) λ_=>?_;refine Ok.bind (I:=λz:Int×List zA×List Int=>OB (z.2.1,z.2.2)) ((z0u h.ord (by omega)).bind λr11 _=>.ite (λ_=>(z52 h.ord (by omega) _).bind λr12 h12=>.ret h12) λ_=>.ret h.ord) λs4 h4=>.ret ⟨h.voc,h.np,h.base,h.st,h.tn,h.tk,h3.1,h4,h.sb,h3.2⟩
end
end
section
abbrev T17:=Int×(List zA)×Int×Int×Int×(List wK)×(List wC)×(List wW)×(List wK)×(List wC)×(List wW)×(List (List qR))×(List tQ)×(List tE)×(List zA)×(List Int)×Int
abbrev fmOf (s:T17): yM:=((s.2.1,s.2.2.1,(s.2.2.2.1,s.2.2.2.2.1),(s.2.2.2.2.2.1,s.2.2.2.2.2.2.1,s.2.2.2.2.2.2.2.1)),(s.2.2.2.2.2.2.2.2.1,s.2.2.2.2.2.2.2.2.2.1,s.2.2.2.2.2.2.2.2.2.2.1),s.2.2.2.2.2.2.2.2.2.2.2.1,s.2.2.2.2.2.2.2.2.2.2.2.2.1,s.2.2.2.2.2.2.2.2.2.2.2.2.2.1,(s.2.2.2.2.2.2.2.2.2.2.2.2.2.2.1,s.2.2.2.2.2.2.2.2.2.2.2.2.2.2.2.1),s.2.2.2.2.2.2.2.2.2.2.2.2.2.2.2.2)
structure EvP (x:qB): Prop where
 t:x.2.2.2.2.1.length<=1000000
 c:cm x.2.2.2.2.1<=1
 f:wO x.2.2.2.2.2.2.2.2.2<=5000
theorem z7J{y:yM}{x:qB}(h:FmI y)(hx:EvP x): Ok (zJD y x) λr=>FmI r.1:=by
 unfold zJD;refine .ite (λ_=>.ret fmz) λ_=>.ite (λ_=>.ret fmz) λ_=>.ite (λ_=>.ret fmz) λ_=>?_;refine Ok.bind (I:=λs:T17=>s.1=0->FmI (fmOf s)) ?_ λs hs=>.ite (λ_=>.ret fmz) λh0=>?_
 ·refine Ok.bind (I:=λ_:Bool=>True) (.ite (λ_=>.ret trivial) λ_=>.ret trivial) λs2 _=>?_;refine .ite (λ_=>(z3M h hx.t hx.c).bind λr1 h1=>.ret λ_=>h1) λ_=>?_;refine .ite (λ_=>(z0g h).bind λr1 h1=>.ret λ_=>h1) λ_=>?_;refine .ite (λ_=>(s_say h.st _).bind λr1 h1=>.ret λe=>⟨h.voc,h.np,h.base,h1 e,h.tn,h.tk,h.dec,h.ord,h.sb,h.dcs⟩) λ_=>?_;refine .ite (λ_=>(z9O h).bind λr1 h1=>.ret λ_=>h1) λ_=>?_;refine .ite (λ_=>(z9V h).bind λr1 h1=>.ret λ_=>h1) λ_=>?_;refine .ite (λ_=>(z4C h).bind λr1 h1=>.ret λ_=>h1) λ_=>?_;refine .ite (λ_=>(z52 h.ord hx.f _).bind λr1 h1=>.ret λ_=>zWv h h1) λ_=>?_;refine .ite (λ_=>(z3K h.voc h.ord hx.f).bind λr1 h1=>.ret λ_=>?_) λ_=>(z7E h.voc (fm_stl h) hx.f).bind λr1 h1=>.ret λ_=>?_
  ·show FmI r1.1;grind [zWv]
  ·show FmI r1.1;grind [zWv]
 ·have k:=hs (by grind);exact .ret ⟨k.voc,k.np,k.base,k.st,k.tn,k.tk,k.dec,k.ord,k.sb,k.dcs⟩
structure StI (y:zCG): Prop where
 voc:y.1.length<=10
 base:BsI y.2.2.2
theorem z6K{y:zCG}(h:StI y): Ok (zJY y) λr=>FmI r.1:=by
 unfold zJY;rw[zEl y.1 (by have:=h.voc;omega),zob];refine Ok.bind (I:=λs1=>s1=Ak->y.2.1<=6) (.ite (λ_=>.ret nofun) λ_=>.ite (λ_=>.ret nofun) λ_=>.ret λe=>by grind) λs1 hs1=>.ite (λ_=>.ret fmz) λhs=>?_;exact(h.base.compile _).bind λ_ _=>.ite (λ_=>.ret fmz) λ_=>s_new.bind λr3 h3=>(zXr h.voc (by simp)).bind λr4 h4=>.ret ⟨h.voc,hs1 hs,h.base,h3,by simp,by simp,by simp,h4,h.base,by simp⟩
end
section
theorem zWI{y:yM}(h:FmI y): Ok (zFf y) λr=>r.1.length<=2000:=by
 unfold zFf;exact(h.base.compile _).bind λr1 h1=>.ite (λ_=>.ret (by simp)) λhc=>(r_acc (h1 (by simpa using hc))).bind λr2 h2=>.ret h2
section
variable {s:vN}{y:yM}
theorem z7b (h:vC s)(g:Bool): Ok (zMO s g) λr=>r.1.length<=5000/\cm r.1<=1/\vC (s.1,r.2):=by
 unfold zMO;refine(z5P (n:=3) (p:=3) (q:=3) h (by omega) (by omega) (by omega) (by omega) (by omega) (by omega)).bind λbk hbk=>?_;obtain⟨b,k⟩:=bk;obtain⟨hp,hr,_,hd,hk⟩:=hbk;unfold yG;refine Ok.bind (I:=λo:(Int×(List wK)×(List wC))⊕(zA×Int)=>match o with | .inl z=>CB z.2.1 z.2.2/\vC (s.1,z.1) | .inr z=>z.1.length<=5000/\cm z.1<=1/\vC (s.1,z.2)) ?_ λo ho=>?_
 ·refine .ite (λ_=>.ite (λ_=>.ret ⟨by simp,show cm [114,117,108,101,32,100,32,49,58,32,61,62,32,112]<=1 by decide,hk⟩) λhne=>?_) λ_=>.ite (λ_=>?_) λhne=>?_
  ·have hl:1<=b.2.1.length:=by
    rw[Qu] at hne;simp only[len] at hne;omega
   obtain⟨x,xs,hx⟩:∃ x xs,b.2.1=x::xs:=by
    cases hb:b.2.1 with
    | nil=>grind
    | cons x xs=>grind
   have hsub:sub b.2.1 0 1=Ah [x]:=by
    rw[zL2 (by omega) (by omega) (by omega),hx];rfl
   dsimp only;rw[hsub,zob];refine(Ok.N hk (by omega) (by omega)).bind λr2 h2=>?_;have hm:Ok (zCY r2.1) λ_=>True:=by
    have:=h2.2.1 (by omega);have e2:=zQJ (n:=r2.1.toNat) (by omega);rw[Int.toNat_of_nonneg h2.1] at e2;exact⟨_,e2,trivial⟩
   refine hm.bind λr3 _=>?_;have h0:zD [x] 0=Ah x:=rfl;rw[h0,zob];have hbx:=hd x (by grind);have hall:∀ r∈[(r3,x.2.1,x.2.2.1,x.2.2.2.1,x.2.2.2.2)],r.2.2.2.1.length<=2:=by
    intro r hrm;rw[Qh] at hrm;subst hrm;exact hbx
   exact .ret ⟨⟨by simp,by simp,hall⟩,h2.2.2⟩
  ·refine(Ok.Text hk (by simp) (by simp)).bind λr4 h4=>?_;have hl:r4.1.length<=2:=by
    have:=h4.1;simp at this;rcases this with e | e | e <;> rw[e] <;> decide
   rw[wQ (by simp;omega),zob,wQ (by simp;omega),zob];have hq:cm ([112,114,101,109,105,115,101,32]++r4.1++[32,49])<=1:=by
    have:=h4.1;simp at this;rcases this with e | e | e <;> rw[e] <;> decide
   exact .ret ⟨by simp;omega,hq,h4.2⟩
  ·have hl:1<=b.1.length:=by
    rw[Qu] at hne;simp only[len] at hne;omega
   obtain⟨x,xs,hx⟩:∃ x xs,b.1=x::xs:=by
    cases hb:b.1 with
    | nil=>grind
    | cons x xs=>grind
   have hsub:sub b.1 0 1=Ah [x]:=by
    rw[zL2 (by omega) (by omega) (by omega),hx];rfl
   dsimp only;rw[hsub,zob];have h0:zD [x] 0=Ah x:=rfl;rw[h0,zob];exact .ret ⟨⟨by simp,by simp,by simp⟩,hk⟩
 ·cases o with
  | inr z=>exact .ret ho
  | inl z=>
   dsimp only at ho ⊢;refine(rf_cm ho.1).bind λr5 h5=>?_;obtain⟨t,c⟩:=r5;obtain⟨hl,hcm⟩:=h5;dsimp only at hl hcm;refine .ite (λ_=>.ret ⟨by simp,show cm [112,114,101,109,105,115,101,32,114,32,49]<=1 by decide,ho.2⟩) λhne=>?_;rw[Uo] at hne;have htn:t≠[]:=by simpa using hne.2
   have hpos:=QF.2 htn;have hsub:sub t 0 (zE (len t-1))=Ah (t.take (t.length-1)):=by
    rw[qN (by grind) (by grind),zL2 (by omega) (by grind) (by grind)];simp only[len,Int.toNat_zero,Uf];congr 2;omega
   dsimp only;rw[hsub,zob];exact .ret ⟨by simp;omega,Qw ((UW _ _).count_le 44) hcm,ho.2⟩
structure z3Z (e:qB): Prop extends EvB e where
 c:cm e.2.2.2.2.1<=1
theorem zSs{k n tr d:Int}{t:zA}{sk u i:Int}{l:zH}{gs:List zH}{l2:zH}{a b pl mk x y:Int}{f:zC}(hn:wI n)(htr:wI tr)(hd:wI d)(ht:t.length<=100000)(hi:wI i)(hg:gs.length<=50000)(ha:wI a)(hb:wI b)(hp:wI pl)(hx:wI x)(hy:wI y)(hf:wO f<=5000)
  (hc:cm t<=1:=by first | (exact QT 1) | exact hB.c | assumption):z3Z (k,n,tr,d,t,(sk,u,i,l,gs),l2,(a,b),(pl,mk,x,y),f):=⟨xX hn htr hd ht hi hg ha hb hp hx hy hf,hc⟩
theorem z7G{d:uF}(h:WkD d): Ok (zGe d) λl=>l.length<=4000000/\∀ x∈l,wI x.1/\wI x.2.2.1/\wI x.2.2.2:=
 (z9J h).imp λl hl=>⟨by omega,λx hx=>by
  have:=hl.2 x hx;unfold MvO at this;exact⟨zOa (by omega) (by omega),zOa (by omega) (by omega),zOa (by omega) (by omega)⟩⟩
theorem z4X (h:vC s)(hy:FmI y): Ok (zKV s y) λr=>z3Z r.1/\vC (s.1,r.2):=by
 have hv:=hy.voc;have hnp:=hy.np;unfold zKV;have hnn:0<=(if y.1.2.1 > 1 then y.1.2.1 else 1)/\(if y.1.2.1 > 1 then y.1.2.1 else 1)<=6/\1<=(if y.1.2.1 > 1 then y.1.2.1 else 1):=by split <;> omega
 refine Ok.bind (I:=λs1:Int×qB=>vC (s.1,s1.1)/\z3Z s1.2) ((Ok.Rng h (by omega) (by omega) (by omega)).bind λr1 h1=>(Ok.N h1.2.2 hnn.1 (by omega)).bind λr2 h2=>(Ok.Literal h2.2.2 (by omega) (by omega)).bind λr3 h3=>(Ok.Rng h3.2 (by omega) (by omega) (by omega)).bind λr4 h4=>.ret ⟨h4.2.2,zSs (zOa (by omega) (by grind)) zQ (zOa (by omega) (by omega)) (by simp) zQ (by simp) zQ zQ zQ zQ zQ yL⟩) λs1 hs1=>?_;obtain⟨hk,hB⟩:=hs1;have hf:=evB_f hB.toEvB;refine Ok.bind (I:=λs2:T21=>z3Z (evOf3 s1.2.1 s1.2.2.1 s2)/\vC (s.1,s2.1)) ?_ λs2 hs2=>.ret hs2;refine Ok.bind (I:=λ_=>True) (.ite (λ_=>.ret trivial) λ_=>.ret trivial) λs3 _=>.ite (λ_=>?_) λ_=>.ite (λ_=>?_) λ_=>.ite (λ_=>?_) λ_=>.ite (λ_=>?_) λ_=>.ite (λ_=>?_) λ_=>?_
 ·refine(z7b hk _).bind λr15 h15=>(Ok.N h15.2.2 (by omega) (by omega)).bind λr16 h16=>.ite (λ_=>?_) λ_=>.ret ⟨zSs hB.n hB.tr hB.d (Qw h15.1 (by omega)) hB.i hB.gs hB.a hB.b hB.pl hB.x hB.y hf h15.2.1,h16.2.2⟩;refine(Ok.Text h16.2.2 (by simp) (by simp)).bind λr17 h17=>?_;have hl:r17.1.length<=20/\cm r17.1=0:=by
   have:=h17.1;simp at this;rcases this with e | e | e | e <;> rw[e] <;> decide
  rw[wQ (by omega),zob];exact .ret ⟨zSs hB.n hB.tr hB.d (by simp;omega) hB.i hB.gs hB.a hB.b hB.pl hB.x hB.y hf (by rw[z4s,hl.2];grind),h17.2⟩
 ·refine(Ok.Pick hk (by simp) (by simp)).bind λr18 h18=>(Ok.N h18.2 (by omega) (by omega)).bind λr19 h19=>(Ok.Literal h19.2.2 (by omega) (by omega)).bind λr20 h20=>?_;have hi:wI r19.1:=zOa (by omega) (by grind);refine .ite (λ_=>(Ok.Literal h20.2 (by omega) (by omega)).bind λr21 h21=>.ret ⟨zSs hB.n hB.tr hB.d hB.t hi (by simp) hB.a hB.b hB.pl hB.x hB.y hf,h21.2⟩) λ_=>.ret ⟨zSs hB.n hB.tr hB.d hB.t hi (by simp) hB.a hB.b hB.pl hB.x hB.y hf,h20.2⟩
 ·refine(Ok.Rng hk (by omega) (by omega) (by omega)).bind λr22 h22=>(Ok.Rng h22.2.2 (by omega) (by omega) (by omega)).bind λr23 h23=>(zWI hy).bind λr24 h24=>?_;have ha:wI r22.1:=zOa (by omega) (by omega);have hb:wI r23.1:=zOa (by omega) (by omega);refine Ok.bind (I:=λs4:Bool×Int=>vC (s.1,s4.2)/\(s4.1=Aj->0<len r24.1)) (.ite (λ_=>.ite (λhc=>(Ok.N h23.2.2 (by omega) (by omega)).bind λr25 h25=>.ret ⟨h25.2.2,λ_=>of_decide_eq_true hc⟩) λ_=>.ret ⟨h23.2.2,nofun⟩) λ_=>.ret ⟨h23.2.2,nofun⟩) λs4 hs4=>.ite (λhc=>?_) λ_=>.ret ⟨zSs hB.n hB.tr hB.d hB.t hB.i hB.gs ha hb hB.pl hB.x hB.y hf,hs4.1⟩;have hpos:=hs4.2 hc;simp only[len] at hpos;refine(Ok.N hs4.1 (by grind) (by grind)).bind λr26 h26=>(Ok.idx h26.1 (by grind)).bind λx2 _=>.ret ⟨zSs hB.n hB.tr hB.d hB.t hB.i hB.gs ha hb hB.pl hB.x hB.y hf,h26.2.2⟩
 ·have htn:=hy.tn;have hw:zE (len y.2.2.2.1+1)=(((y.2.2.2.1.length+1:Nat)):Int):=wE y.2.2.2.1.length (by omega);rw[hw];refine(Ok.N hk (by omega) (by omega)).bind λr27 h27=>?_;have hb27:=h27.2.1 (by omega);have htr:wI r27.1:=zOa (by omega) (by omega);refine .ite (λhc=>?_) λ_=>.ret ⟨zSs hB.n htr hB.d hB.t hB.i hB.gs hB.a hB.b hB.pl hB.x hB.y hf,h27.2.2⟩;have hc:r27.1<(y.2.2.2.1.length:Int):=by simpa [len] using hc
  refine(Ok.idx h27.1 hc).bind λx3 h3=>(Ok.Rng h27.2.2 (by omega) (by omega) (by omega)).bind λr28 h28=>(Ok.Rng h28.2.2 (by omega) (by omega) (by omega)).bind λr29 h29=>(Ok.N h29.2.2 (by omega) (by omega)).bind λr30 h30=>(Ok.N h30.2.2 (by omega) (by omega)).bind λr31 h31=>(z7G (hy.tk x3 h3.1)).bind λr32 h32=>?_;refine Ok.bind (I:=λs5:Bool×Int=>vC (s.1,s5.2)/\(s5.1=Aj->0<r32.length)) (.ite (λhc=>(Ok.N h31.2.2 (by omega) (by omega)).bind λr33 h33=>.ret ⟨h33.2.2,λ_=>by grind⟩) λ_=>.ret ⟨h31.2.2,nofun⟩) λs5 hs5=>.ite (λhc=>?_) λ_=>?_
  ·have hpos:=hs5.2 hc;have hln:=h32.1;refine(Ok.N hs5.1 (by grind) (by grind)).bind λr34 h34=>(Ok.idx h34.1 (h34.2.1 (by grind))).bind λx4 h4=>?_;obtain⟨q1,q2,q3⟩:=h32.2 x4 h4.1;exact .ret ⟨zSs hB.n htr hB.d hB.t hB.i hB.gs hB.a hB.b q1 q2 q3 hf,h34.2.2⟩
  ·have b30:=h30.2.1 (by omega);have b31:=h31.2.1 (by omega);have d28:wI r28.1:=zOa (by omega) (by omega);have d30:wI r30.1:=zOa (by omega) (by omega);have d31:wI r31.1:=zOa (by omega) (by omega);exact .ret ⟨zSs hB.n htr hB.d hB.t hB.i hB.gs hB.a hB.b d28 d30 d31 hf,hs5.1⟩
 ·refine(zWI hy).bind λr35 h35=>?_;refine Ok.bind (I:=λs6:Bool×Int=>vC (s.1,s6.2)/\(s6.1=Aj->0<len r35.1)) (.ite (λ_=>.ite (λhc=>(Ok.N hk (by omega) (by omega)).bind λr36 h36=>.ret ⟨h36.2.2,λ_=>of_decide_eq_true hc⟩) λ_=>.ret ⟨hk,nofun⟩) λ_=>.ret ⟨hk,nofun⟩) λs6 hs6=>.ite (λhc=>?_) λ_=>.ret ⟨zSs hB.n hB.tr hB.d hB.t hB.i hB.gs hB.a hB.b hB.pl hB.x hB.y hf,hs6.1⟩;have hpos:=hs6.2 hc;simp only[len] at hpos;refine(Ok.N hs6.1 (by grind) (by grind)).bind λr37 h37=>(Ok.idx h37.1 (by grind)).bind λx5 _=>.ret ⟨zSs hB.n hB.tr hB.d hB.t hB.i hB.gs hB.a hB.b hB.pl hB.x hB.y hf,h37.2.2⟩
 ·refine Ok.bind (I:=λ_=>True) (.ite (λ_=>.ret trivial) λ_=>.ite (λ_=>.ret trivial) λ_=>.ret trivial) λs7 _=>.ite (λ_=>?_) λ_=>.ret ⟨zSs hB.n hB.tr hB.d hB.t hB.i hB.gs hB.a hB.b hB.pl hB.x hB.y hf,hk⟩;refine(z96 (s:=(s.1,s1.1)) hk (n:=len y.1.1) (by grind)).bind λr38 h38=>(Ok.Rng h38.2 (by omega) (by omega) (by omega)).bind λr39 h39=>?_;have hd:wI r39.1:=zOa (by omega) (by omega);refine .ret ⟨zSs hB.n hB.tr hd hB.t hB.i hB.gs hB.a hB.b hB.pl hB.x hB.y ?_,h39.2.2⟩;have:=h38.1;generalize r38.1=g at this ⊢;obtain⟨a,b,c⟩:=g;exact this
theorem evb32{n:Int}(hn:wI n): z3Z (3,n,0,0,[],(0,0,0,(Ak,[]),[]),(Ak,[]),(0,0),(0,0,0,0),fm (0,[],[])):=zSs hn zQ zQ (by simp) zQ (by simp) zQ zQ zQ zQ zQ yL
def z1j (e:qB): Prop:=∃ t,zCF e=Ah (t,0)
theorem ln_wd:z1j (3,0,0,0,[],(0,0,0,(Ak,[]),[]),(Ak,[]),(0,0),(0,0,0,0),fm (0,[],[])):=by
 have hE:=(evb32 zQ).toEvB;have hw:=w_wd hE rfl;rw[show(!wX ((3,0,0,0,[],(0,0,0,(Ak,[]),[]),(Ak,[]),(0,0),(0,0,0,0),fm (0,[],[])):qB).2.1)=Ak from by decide] at hw;have hr:=z2C (n:=0) (by decide) (by decide);have h1:=(zWa (by decide) hw (zJn (l:=[kWd,Lib.itoa 0]) (by simp) (by rw[it0];decide)) hr hE.f (by decide)).1;obtain⟨s,c,p1,p2,_⟩:=zHY hE;rw[h1] at p1;cases p1;exact⟨_,p2⟩
theorem z3v (h:vC s)(hy:FmI y): Ok (zIg s y) λr=>z3Z r.1/\z1j r.1/\vC (s.1,r.2):=by
 unfold zIg yG;refine Ok.bind (I:=λo:Int⊕(qB×Int)=>match o with | .inl z=>vC (s.1,z) | .inr z=>z3Z z.1/\z1j z.1/\vC (s.1,z.2)) ?_ λo ho=>?_
 ·refine Ok.wh41 (λt:Int×Int=>vC (s.1,t.2)/\∃ j:Nat,t.1=(j:Int)/\j<=5) (λt=>(5-t.1).toNat) (λt ht=>?_) _ _ (Qd _) ⟨h,0,rfl,by omega⟩;obtain⟨hk,j,h1,h2⟩:=ht;obtain⟨jj,src⟩:=t;dsimp only at h1 hk;subst h1;unfold zMY;refine .ite (λhc=>?_) λ_=>.ret hk;rw[Qb] at hc;dsimp only at hc ⊢;refine(z4X (s:=(s.1,src)) hk hy).bind λr1 hr1=>?_;obtain⟨hB,hk2⟩:=hr1;have hf:=evB_f hB.toEvB;refine Ok.bind (I:=λs3:T20b=>z3Z (evOf4 r1.1.1 r1.1.2.1 s3)) ?_ λs3 h3=>?_
  ·refine Ok.bind (I:=λ_=>True) (.ite (λ_=>.ret trivial) λ_=>.ret trivial) λs4 _=>.ite (λ_=>.ret (zSs hB.n zQ zQ hB.t zQ (by simp) zQ zQ zQ zQ zQ yL)) λ_=>.ite (λ_=>.ite (λ_=>.ret (zSs hB.n zQ zQ (by simp) zQ hB.gs zQ zQ zQ zQ zQ yL)) λ_=>.ret (zSs hB.n zQ zQ (by simp) hB.i hB.gs zQ zQ zQ zQ zQ yL)) λ_=>.ite (λ_=>.ret (zSs hB.n zQ zQ (by simp) zQ (by simp) hB.a hB.b zQ zQ zQ yL)) λ_=>.ite (λ_=>?_) λ_=>.ite (λ_=>.ret (zSs hB.n zQ hB.d (by simp) zQ (by simp) zQ zQ zQ zQ zQ yL)) λ_=>?_
   ·exact Ok.bind (I:=wI) (.ite (λ_=>.ret zQ) λ_=>.ret hB.x) λs5 h5=>.ite (λ_=>.ret (zSs hB.n hB.tr zQ (by simp) zQ (by simp) zQ zQ hB.pl h5 zQ yL)) λ_=>.ret (zSs hB.n hB.tr zQ (by simp) zQ (by simp) zQ zQ hB.pl h5 hB.y yL)
   ·exact Ok.bind (I:=λ_=>True) (.ite (λ_=>.ret trivial) λ_=>.ite (λ_=>.ret trivial) λ_=>.ret trivial) λs6 _=>.ite (λ_=>.ret (zSs hB.n zQ hB.d (by simp) zQ (by simp) zQ zQ zQ zQ zQ hf)) λ_=>.ret (zSs hB.n zQ zQ (by simp) zQ (by simp) zQ zQ zQ zQ zQ yL)
  ·obtain⟨t,c,_,p2,_,_⟩:=zHY h3.toEvB;refine Ok.bind (I:=λr=>r=(t,c)) ⟨_,p2,rfl⟩ λr2 hr2=>.ite (λhc=>.ret ⟨h3,⟨t,p2.trans (by grind)⟩,hk2⟩) λ_=>.ret ?_;rw[wE j (by omega)];refine⟨⟨hk2,j+1,rfl,by omega⟩,?_⟩;grind
 grind [evb32,zQ,ln_wd,Ok]
end
end
section
abbrev T19:=(List qB)×Int×Int×(List zA)×Int×Int×Int×(List wK)×(List wC)×(List wW)×(List wK)×(List wC)×(List wW)×(List (List qR))×(List tQ)×(List tE)×(List zA)×(List Int)×Int
abbrev fm19 (s:T19): yM:=((s.2.2.2.1,s.2.2.2.2.1,(s.2.2.2.2.2.1,s.2.2.2.2.2.2.1),(s.2.2.2.2.2.2.2.1,s.2.2.2.2.2.2.2.2.1,s.2.2.2.2.2.2.2.2.2.1)),(s.2.2.2.2.2.2.2.2.2.2.1,s.2.2.2.2.2.2.2.2.2.2.2.1,s.2.2.2.2.2.2.2.2.2.2.2.2.1),s.2.2.2.2.2.2.2.2.2.2.2.2.2.1,s.2.2.2.2.2.2.2.2.2.2.2.2.2.2.1,s.2.2.2.2.2.2.2.2.2.2.2.2.2.2.2.1,(s.2.2.2.2.2.2.2.2.2.2.2.2.2.2.2.2.1,s.2.2.2.2.2.2.2.2.2.2.2.2.2.2.2.2.2.1),s.2.2.2.2.2.2.2.2.2.2.2.2.2.2.2.2.2.2)
structure EsI (s:vN)(n:Int)(t:T19): Prop where
 i0:0<=t.2.1
 len:(t.1.length:Int)+t.2.1<=n
 src:vC (s.1,t.2.2.1)
 fm:FmI (fm19 t)
 ev:∀ e∈t.1,z3Z e/\z1j e
theorem z3Z.evp{e:qB}(h:z3Z e): EvP e:=⟨Qw h.t (by omega),h.c,h.f⟩
theorem z6Y{s:vN}(h:vC s){u:zCG}(hu:StI u){n:Int}(h0:0<=n)(h1:n<=100): Ok (zHp s u n) λr=>(∀ e∈r.1,z3Z e/\z1j e)/\(r.1.length:Int)<=n/\vC (s.1,r.2):=by
 unfold zHp;refine(z6K hu).bind λr1 hr1=>?_;rw[qN (show -9223372036854775808<=n+1 by omega) (by omega)];refine(Ok.N h (by omega) (by omega)).bind λr2 hr2=>?_;have hb:=hr2.2.1 (by omega);refine Ok.wh41 (EsI s n) (λt=>t.2.1.toNat) (λt ht=>?_) _ _ (Qd _) ⟨hr2.1,by simp;omega,hr2.2.2,hr1,by simp⟩;have hlen:=ht.len;have hi:=ht.i0;unfold zLY;refine .ite (λhc=>?_) λ_=>.ret ⟨ht.ev,by grind,ht.src⟩;rw[Qb] at hc;have hw:zE (t.2.1-1)=t.2.1-1:=qN (by omega) (by omega);rw[hw];have hp:=z3v (s:=(s.1,t.2.2.1)) ht.src ht.fm;refine hp.bind λr3 h3=>?_;obtain⟨e3,l3,s3⟩:=h3;refine(z7J ht.fm e3.evp).bind λr4 h4=>.ite (λ_=>?_) λ_=>?_
 ·refine(Ok.app (by simp;omega)).bind λx hx=>.ret ⟨⟨by grind,by grind,s3,h4,λe he=>?_⟩,by grind⟩;rw[hx] at he;rcases Qj.1 he with h | h
  ·exact ht.ev e h
  grind
 ·refine(Ok.N s3 (by omega) (by omega)).bind λr5 h5=>.ite (λ_=>?_) λ_=>.ret ⟨⟨by grind,by grind,h5.2.2,ht.fm,ht.ev⟩,by grind⟩;refine(Ok.app (by simp;omega)).bind λx hx=>.ret ⟨⟨by grind,by grind,h5.2.2,ht.fm,λe he=>?_⟩,by grind⟩;rw[hx] at he;rcases Qj.1 he with h | h
  ·exact ht.ev e h
  grind
end
section
def xU (l:List Int): Prop:=∀ x∈l,0<=x/\x<256
theorem xU.app{a b:List Int}(ha:xU a)(hb:xU b): xU (a++b):=by grind [xU]
theorem xU.take{a:List Int}(h:xU a)(n:Nat): xU (a.take n):=λx hx=>h x (Q7 hx)
theorem xU.drop{a:List Int}(h:xU a)(n:Nat): xU (a.drop n):=λx hx=>h x (UC hx)
def vlB (l:List Int): Int:=l.foldl (λn x=>n*256+x) 0
theorem z7w (l:List Int)(x:Int): vlB (l++[x])=vlB l*256+x:=by unfold vlB;grind
theorem z4K:∀(n:Nat) (l:List Int),l.length=n->xU l->0<=vlB l/\vlB l<256 ^ n
 | 0,l,h,_=>by rw[List.length_eq_zero_iff.1 h];decide
 | n+1,l,h,hb=>by
  have hne:l≠[]:=by intro e;rw[e] at h;cases h
  have e:=List.dropLast_concat_getLast hne;have h1:=z4K n l.dropLast (by simp[h]) (λx hx=>hb x (List.dropLast_subset _ hx));have h2:=hb _ (List.getLast_mem hne);rw[<-e,z7w];grind
theorem zTf{n:Nat}(h:n<9223372036854775808): Au.i64.wrap (n:Int)=(n:Int):=z0J n h
theorem shl_or{a b:Nat}(h1:a<16777216)(x1:b<256): bor .i64 (shl .i64 (a:Int) 8) (b:Int)=((a*256+b:Nat):Int):=by
 have e1:shl .i64 (a:Int) 8=((a*256:Nat):Int):=by
  unfold shl;have h3:min ((8:Int).toNat) Au.i64.bits=8:=rfl;rw[h3,show(a:Int)*2 ^ 8=((a*256:Nat):Int) by omega,zTf (by omega)]
 rw[e1];unfold bor;have h:(BitVec.ofNat 64 (a*256) ||| BitVec.ofNat 64 b).toNat=a*256+b:=by
  rw[BitVec.toNat_or,BitVec.toNat_ofNat,BitVec.toNat_ofNat,Ui (by omega),Ui (by omega)];have:=Nat.two_pow_add_eq_or_of_lt (i:=8) x1 a;rw[show 2 ^ 8*a=a*256 by omega] at this;exact this.symm
 exact(congrArg (λz:Nat=>Au.i64.wrap (z:Int)) h).trans (zTf (by omega))
theorem zT6{l:List Int}(hl:l.length<=4)(hb:xU l): zEB l=Ah (vlB l):=by
 refine Ok.eq (Ok.forI (λi (s:Int)=>(s,(i:Int))) l (λi s=>s=vlB (l.take i)) _ (λi x s hx hs=>?_) (λs hs=>?_) 0 rfl)
 ·have hi:=yK hx;subst hs;have hx2:=hb x (zHM hx);have h1:=z4K i (l.take i) (by simp;omega) (hb.take i);have hp:(256:Int) ^ i<=256 ^ 3:=by
   match i,(show i<=3 by omega) with
   | 0,_=>decide
   | 1,_=>decide
   | 2,_=>decide
   | 3,_=>decide
  obtain⟨a,ha⟩:=Qv h1.1;obtain⟨b,hb'⟩:=Qv hx2.1;unfold zFz;rw[yY hx,Qi rfl,uB,hx,zob,qN (show -9223372036854775808<=x by omega) (by omega),ha,hb',shl_or (by omega) (by omega)];exact .ret ⟨_,by rw[wE i (by omega)],(show _=vlB (l.take (i+1)) by grind [List.take_add_one,vlB])⟩
 ·unfold zFz;rw[uW];subst hs;exact .ret (show vlB (l.take l.length)=vlB l by grind)
def nb4 (n:Nat): List Int:=[((n / 16777216 % 256:Nat):Int),((n / 65536 % 256:Nat):Int),((n / 256 % 256:Nat):Int),((n % 256:Nat):Int)]
def nb2 (n:Nat): List Int:=[((n / 256 % 256:Nat):Int),((n % 256:Nat):Int)]
theorem z6E (n:Nat): xU (nb4 n):=by
 intro x hx;simp[nb4] at hx;grind
theorem z9X (n:Nat): xU (nb2 n):=by
 intro x hx;simp[nb2] at hx;grind
theorem vlB_nb4{n:Nat}(h:n<4294967296): vlB (nb4 n)=n:=by grind [vlB,nb4]
theorem z5u{n:Nat}(h:n<65536): vlB (nb2 n)=n:=by grind [vlB,nb2]
theorem u8_nat (n:Nat): Au.u8.wrap (n:Int)=((n % 256:Nat):Int):=by
 unfold Au.wrap;simp only[Au.bits,Au.signed,Bool.false_and,zbf,Qy];omega
theorem shr_I (n:Nat){i:Nat}(h:i<64): zZw .i64 (n:Int) (i:Int)=Ah ((n / 2 ^ i:Nat):Int):=by
 unfold zZw shr;have h3:min ((i:Int).toNat) Au.i64.bits=i:=by simp[Au.bits];omega
 grind
theorem zOH (n:Nat)(s:List Int){i:Nat}(hi:i<4)(hs:s.length<=10): zE4 (n:Int) (s,(i:Int))=Ah (.inl (s++[((n / 2 ^ (8*i) % 256:Nat):Int)],(i:Int)-1)):=by
 unfold zE4;rw[Qq (show(0:Int)<=(i:Int) by omega),Qi rfl,show zE (8*(i:Int))=((8*i:Nat):Int) by rw[qN (by omega) (by omega)];omega,shr_I n (by omega),zob,u8_nat,yI (by simp;omega),zob,qN (by omega) (by omega)]
theorem z5v (n:Nat)(s:List Int): zE4 (n:Int) (s,-1)=Ah (.inr s):=rfl
theorem zYX (n:Nat): zBu (n:Int) 4=Ah (nb4 n):=by
 unfold zBu;refine(yZ (zOH n [] (i:=3) (by omega) (by simp))).trans ?_;refine(yZ (zOH n _ (i:=2) (by omega) (by simp))).trans ?_;refine(yZ (zOH n _ (i:=1) (by omega) (by simp))).trans ?_;refine(yZ (zOH n _ (i:=0) (by omega) (by simp))).trans ?_;grind [vW,z5v,nb4]
theorem zYu (n:Nat): zBu (n:Int) 2=Ah (nb2 n):=by
 unfold zBu;refine(yZ (zOH n [] (i:=1) (by omega) (by simp))).trans ?_;refine(yZ (zOH n _ (i:=0) (by omega) (by simp))).trans ?_;grind [vW,z5v,nb2]
def zZx:List Int->Int->Int->Int×Int
 | [],a,b=>(a,b)
 | x::l,a,b=>zZx l ((a+x) % 65521) ((b+(a+x) % 65521) % 65521)
def z8O (l:List Int): Int:=(zZx l 1 0).2*65536+(zZx l 1 0).1
theorem z1f:∀(l m:List Int) (a b:Int),zZx (l++m) a b=zZx m (zZx l a b).1 (zZx l a b).2
 | [],m,a,b=>rfl
 | x::l,m,a,b=>z1f l m _ _
theorem zXb:∀(l:List Int) (a b:Int),0<=a/\a<65521->0<=b/\b<65521->(0<=(zZx l a b).1/\(zZx l a b).1<65521)/\0<=(zZx l a b).2/\(zZx l a b).2<65521
 | [],a,b,ha,hb=>⟨ha,hb⟩
 | x::l,a,b,_,_=>zXb l _ _ ⟨Int.emod_nonneg _ (by decide),Int.emod_lt_of_pos _ (by decide)⟩ ⟨Int.emod_nonneg _ (by decide),Int.emod_lt_of_pos _ (by decide)⟩
theorem z6S{x:Int}(h:0<=x): z08 x 65521=Ah (x % 65521):=by
 unfold z08;grind
theorem z9r{L:List Int->(Int×Int×Int)->Option ((Int×Int×Int)⊕(Int×Int))}(hL:∀ y s,L y s=zKw y s){l:List Int}(hl:l.length<=4000000)(hb:xU l): zN (L l) (1,0,0)=Ah (zZx l 1 0):=by
 refine Ok.eq (Ok.forI (λi (s:Int×Int)=>(s.1,s.2,(i:Int))) l (λi s=>s=zZx (l.take i) 1 0) _ (λi x s hx hs=>?_) (λs hs=>?_) (1,0) rfl)
 ·have hi:=yK hx;have hx2:=hb x (zHM hx);have hbd:=zXb (l.take i) 1 0 (by decide) (by decide);have hnext:zZx (l.take (i+1)) 1 0=((s.1+x) % 65521,(s.2+(s.1+x) % 65521) % 65521):=by rw[Un,hx,UO,z1f,hs];rfl
  rw[<-hs] at hbd;rw[hL];unfold zKw;rw[yY hx,Qi rfl,uB,hx,zob,qN (show -9223372036854775808<=x by omega) (by omega),qN (show -9223372036854775808<=s.1+x by omega) (by omega),z6S (by omega),zob,qN (show -9223372036854775808<=s.2+(s.1+x) % 65521 by omega) (by omega),z6S (by omega),zob];exact .ret ⟨((s.1+x) % 65521,(s.2+(s.1+x) % 65521) % 65521),by rw[wE i (by omega)],hnext.symm⟩
 ·rw[hL];unfold zKw;rw[uW];rw[hs,Us];exact .ret rfl
theorem z5f (l:List Int): 0<=z8O l/\z8O l<4294967296:=by
 have:=zXb l 1 0 (by decide) (by decide);unfold z8O;omega
theorem jo_Sum{l:List Int}(hl:l.length<=4000000)(hb:xU l): zIl l=Ah (z8O l):=by
 have h:=zXb l 1 0 (by decide) (by decide);unfold zIl;rw[z9r (L:=zMW) (λ_ _=>rfl) hl hb,zob];obtain⟨a,ha⟩:=Qv h.2.1;have e1:shl .i64 (zZx l 1 0).2 16=(zZx l 1 0).2*65536:=by
  unfold shl;have h3:min ((16:Int).toNat) Au.i64.bits=16:=rfl;rw[h3,ha,show(a:Int)*2 ^ 16=((a*65536:Nat):Int) by omega,zTf (by omega)];omega
 rw[e1,qN (by omega) (by omega)];rfl
end
section
theorem z1W{α:Type}{l:List α}{a k:Nat}(h:a+k<=l.length): sub l (a:Int) ((a+k:Nat):Int)=Ah ((l.drop a).take k):=by grind [List.take_drop,sub]
theorem z4F{l:List (List Int)}(hl:l.length<=1000)(h:(l.map List.length).sum<=4000000): zN (zCi l) (0,0)=Ah (((l.map List.length).sum:Nat):Int):=by
 refine Ok.eq (Ok.forI (λi (s:Nat)=>((s:Int),(i:Int))) l (λi s=>s=((l.take i).map List.length).sum) _ (λi x s hx hs=>?_) (λs hs=>?_) 0 rfl)
 ·have hi:=yK hx;have hsum:((l.take (i+1)).map List.length).sum=s+x.length:=by rw[Un,hx,UO,Uk,List.sum_append,<-hs];simp
  have hle:((l.take (i+1)).map List.length).sum<=(l.map List.length).sum:=by
   conv=>rhs;rw[<-QC (i+1) l,Uk,List.sum_append]
   omega
  unfold zCi;rw[yY hx,Qi rfl,uB,hx,zob];have hw:zE ((s:Int)+len x)=((s+x.length:Nat):Int):=by rw[qN (by grind) (by grind)];simp only[len];omega
  rw[hw,Qp (show ¬ ((s+x.length:Nat):Int)<0 by omega),Qa (by decide)];exact .ret ⟨_,by rw[wE i (by omega)],hsum.symm⟩
 ·unfold zCi;rw[uW];rw[hs,Us];exact .ret rfl
theorem grow2{n:Nat}(h:n<=4000000): zDT (n:Int)=Ah []:=by
 unfold zDT;have e:zE ((n:Int)-zE (((0:Nat):Int)-len ([]:List Int)))=(n:Int):=by
  rw[show zE (((0:Nat):Int)-len ([]:List Int))=0 from rfl,Int.sub_zero,z0J n (by omega)]
 rw[e];by_cases h0:n=0
 ·grind
 ·rw[Qq (show(0:Int)<(n:Int) by omega),Qi rfl];have:tI (n:Int) (n:Int) (0:Int)=Ah (List.replicate n 0):=by
   unfold tI;rw[Qi ⟨by omega,by omega,by omega⟩];rfl
  rw[this,zob,show len ([]:List Int)=((0+0:Nat):Int) from rfl,show(0:Int)=((0:Nat):Int) from rfl,z1W (by simp)];rfl
theorem zZO{l:List (List Int)}(hl:l.length<=1000)(h:(l.map List.length).sum<=4000000): zCa l=Ah l.flatten:=by
 unfold zCa;rw[z4F hl h,zob,grow2 h,zob];refine Ok.eq (Ok.forI (λi (s:List Int)=>(s,(i:Int))) l (λi s=>s=(l.take i).flatten) _ (λi x s hx hs=>?_) (λs hs=>?_) [] rfl)
 ·have hi:=yK hx;have hfl:(l.take (i+1)).flatten=s++x:=by rw[Un,hx,UO,List.flatten_append,<-hs];simp
  have hlen:(s++x).length<=4000000:=by
   refine Qw ?_ h;rw[<-hfl,List.length_flatten];conv=>rhs;rw[<-QC (i+1) l,Uk,List.sum_append]
   omega
  unfold zDw;rw[yY hx,Qi rfl,uB,hx,zob,yI (by grind),zob];exact .ret ⟨_,by rw[wE i (by omega)],hfl.symm⟩
 ·unfold zDw;rw[uW];rw[hs,Us];exact .ret rfl
def smN (i:Nat)(r:List Int): Nat:=(z8O (nb4 i++r)).toNat
def frS (i:Nat)(r:List Int): List Int:=nb2 r.length++(nb2 (65535-r.length)++(r++nb4 (smN i r)))
theorem z4A (i:Nat)(r:List Int): ((smN i r:Nat):Int)=z8O (nb4 i++r):=Int.toNat_of_nonneg (z5f _).1
theorem smN_lt (i:Nat)(r:List Int): smN i r<4294967296:=by have:=(z5f (nb4 i++r)).2;have:=z4A i r;omega
theorem zXI (i:Nat)(r:List Int): (frS i r).length=r.length+8:=by simp[frS,nb2,nb4]
theorem z98 (i:Nat){r:List Int}(h:xU r): xU (frS i r):=by grind [z9X,z6E,xU,frS]
theorem z88{i:Nat}{r:List Int}(hr:r.length<=2000000)(hb:xU r): zG4 (i:Int) r=Ah (z8O (nb4 i++r)):=by
 unfold zG4;rw[zYX,zob,zZO (by simp) (by simp[nb4];omega),zob];simp only[Uz,List.flatten_nil,QE];rw[jo_Sum (by simp[nb4];omega) ((z6E i).app hb)];rfl
theorem z6s{i:Nat}{r:List Int}(hi:i<=1048576)(hr:r.length<=4096)(hb:xU r): zHF (i:Int) r=Ah (frS i r,0):=by
 unfold zHF;have h1:(decide ((i:Int)<0)||decide (1048576<(i:Int)))=false:=by rw[Qp (by omega),Qp (by omega)];rfl
 have h2:decide (4096<len r)=false:=Qp (by grind);rw[h1,Qa (by decide),h2,Qa (by decide),show len r=(r.length:Int) from rfl,zYu,zob,show zE (65535-(r.length:Int))=((65535-r.length:Nat):Int) by rw[qN (by omega) (by omega)];omega,zYu,zob,z88 (by omega) hb,zob,<-z4A,zYX,zob,zZO (by simp) (by simp[nb4,nb2];omega),zob];simp[frS]
def zL7 (i:Nat)(b:List Int): Option Nat:=
 if b.length<8 then none else
 if vlB ((b.drop 2).take 2)≠65535-vlB (b.take 2)\/4096<vlB (b.take 2)\/(b.length:Int)<8+vlB (b.take 2)\/vlB ((b.drop (4+(vlB (b.take 2)).toNat)).take 4)≠z8O (nb4 i++(b.drop 4).take (vlB (b.take 2)).toNat) then none else Ah (vlB (b.take 2)).toNat
def rdS:Nat->Nat->List Int->List (List Int)×Nat
 | 0,_,_=>([],0)
 | f+1,i,b=>match zL7 i b with
  | none=>([],0)
  | some n=>((b.drop 4).take n::(rdS f (i+1) (b.drop (n+8))).1,n+8+(rdS f (i+1) (b.drop (n+8))).2)
theorem zTn{i n:Nat}{b:List Int}(h:zL7 i b=Ah n): n<=4096/\n+8<=b.length:=by
 unfold zL7 at h;grind
end
section
theorem zUC{x:Int}(h0:0<=x)(h1:x<9223372036854775808): zE x=x:=qN (by omega) h1
section
variable {i:Nat}{b:List Int}
theorem z1R (hi:i<4294967296)(hl:8<=b.length)(hb:xU b): ∃ m:Nat,m<65536/\vlB (b.take 2)=(m:Int):=by
 have h:=z4K 2 (b.take 2) (by simp;omega) (hb.take 2);grind [Int.eq_ofNat_of_zero_le]
theorem z6i (hi:i<4294967296)(hl:b.length<=2000000)(hb:xU b): zG2 (i:Int) b=Ah (match zL7 i b with | none=>([],0) | some n=>((b.drop 4).take n,((n+8:Nat):Int))):=by
 unfold zG2 zL7;by_cases h8:b.length<8
 ·grind
 ·rw[Qp (show ¬ len b<8 by grind),Qa (by decide),Qa h8];obtain⟨m,hm,e⟩:=z1R hi (show 8<=b.length by omega) hb;have s1:sub b 0 2=Ah (b.take 2):=by rw[zLn (by omega) (by omega)];rfl
  have s2:sub b 2 4=Ah ((b.drop 2).take 2):=z1W (a:=2) (k:=2) (by omega);rw[s1,zob,zT6 (by simp;omega) (hb.take 2),zob,s2,zob,zT6 (by simp;omega) ((hb.drop 2).take 2),zob,e,QY];rw[zUC (show(0:Int)<=65535-(m:Int) by omega) (by omega),zUC (show(0:Int)<=4+(m:Int) by omega) (by omega),zUC (show(0:Int)<=4+(m:Int)+4 by omega) (by omega)];have em:(4:Int)+(m:Int)=((4+m:Nat):Int):=by omega
  have em8:(4:Int)+(m:Int)+4=((4+m+4:Nat):Int):=by omega
  by_cases c1:vlB ((b.drop 2).take 2)≠65535-(m:Int)
  ·grind
  rw[Qa (show ¬ (vlB ((b.drop 2).take 2) != 65535-(m:Int))=Aj by grind)];by_cases c2:(4096:Int)<(m:Int)
  ·grind
  rw[Qp c2,Qa (by decide)];by_cases c3:(b.length:Int)<8+(m:Int)
  ·grind
  have s3:sub b ((4:Int)+(m:Int)) ((4:Int)+(m:Int)+4)=Ah ((b.drop (4+m)).take 4):=by rw[em8,em];exact z1W (a:=4+m) (k:=4) (by omega)
  have s4:sub b 4 ((4:Int)+(m:Int))=Ah ((b.drop 4).take m):=by rw[em];exact z1W (a:=4) (k:=m) (by omega)
  rw[s3,zob,s4,zob,zT6 (by simp;omega) ((hb.drop _).take 4),zob,z88 (by simp;omega) ((hb.drop 4).take m),zob,zob];grind
end
theorem zVy{y:List Int}(hl:y.length<=2000000)(hb:xU y): ∀(f at_:Nat) (acc:List (List Int)),y.length-at_<=f->at_<=y.length->acc.length<=at_->
  zN (zD4 y) (acc,(at_:Int))=Ah (acc++(rdS (f+1) acc.length (y.drop at_)).1,((at_+(rdS (f+1) acc.length (y.drop at_)).2:Nat):Int))
 | f,at_,acc,hf,ha,hacc=>by
  have hs:sub y (at_:Int) (len y)=Ah (y.drop at_):=by rw[zLz (by omega) (by omega)];rfl
  have hfirst:=z6i (i:=acc.length) (b:=y.drop at_) (by omega) (by simp;omega) (hb.drop at_);rw[rdS];cases hn:zL7 acc.length (y.drop at_) with
  | none=>
   refine vW ?_;unfold zD4;grind
  | some n=>
   rw[hn] at hfirst;obtain⟨h1,h2⟩:=zTn hn;rw[QL] at h2;have hstep:zD4 y (acc,(at_:Int))=Ah (.inl (acc++[((y.drop at_).drop 4).take n],((at_+(n+8):Nat):Int))):=by
    unfold zD4 zGE;dsimp only;rw[hs,zob,show len acc=(acc.length:Int) from rfl,hfirst,zob];dsimp only;rw[Qa (show ¬ ((((n+8:Nat):Int)==0)=Aj) by simp;omega),yI (by simp;omega)];simp only[zob,QI];rw[yI (by simp;omega),zob,zUC (by omega) (by omega)];congr 4
   refine(yZ hstep).trans ?_;match f,hf with
   | 0,hf=>omega
   | f+1,hf=>
    rw[zVy hl hb f (at_+(n+8)) _ (by omega) (by omega) (by simp;omega)];dsimp only;rw[Q0,Q0];grind
theorem z91{y:List Int}(hl:y.length<=2000000)(hb:xU y): zHg y=Ah ((rdS (y.length+1) 0 y).1,(((rdS (y.length+1) 0 y).2:Nat):Int)):=by
 have:=zVy hl hb y.length 0 [] (by omega) (by omega) (by simp);grind [zHg]
end
section
theorem z1D (i:Nat){r:List Int}(t:List Int)(hr:r.length<=4096)(hb:xU r): zL7 i (frS i r++t)=Ah r.length:=by
 have hlen:=zXI i r;have e1:(frS i r++t).take 2=nb2 r.length:=by simp[frS,nb2]
 have e2:((frS i r++t).drop 2).take 2=nb2 (65535-r.length):=by simp[frS,nb2]
 have e3:(frS i r++t).drop 4=r++(nb4 (smN i r)++t):=by simp[frS,nb2]
 have e4:((frS i r++t).drop (4+r.length)).take 4=nb4 (smN i r):=by
  rw[<-Q0,e3,List.drop_left' rfl];simp[nb4]
 unfold zL7;rw[Qa (by simp;omega),e1,e2,z5u (by omega),z5u (by omega),QY,e3,List.take_left' rfl,e4,vlB_nb4 (smN_lt i r),z4A,Qa];grind
def frs:Nat->List (List Int)->List Int
 | _,[]=>[]
 | i,r::rs=>frS i r++frs (i+1) rs
theorem z1u:∀(i:Nat) (rs:List (List Int)) (r:List Int),frs i (rs++[r])=frs i rs++frS (i+rs.length) r
 | i,[],r=>by simp[frs]
 | i,x::rs,r=>by
  rw[Q1,frs,frs,z1u (i+1) rs r,Qo,Qr];grind
structure Rec (r:List Int): Prop where
 n:r.length<=1000
 b:xU r
theorem zYE:∀(i:Nat) (rs:List (List Int)),(∀ r∈rs,Rec r)->(frs i rs).length<=1008*rs.length/\8*rs.length<=(frs i rs).length
 | i,[],_=>by simp[frs]
 | i,r::rs,h=>by
  have h1:=zYE (i+1) rs λx hx=>h x (Qm _ hx);have h2:=(h r Qt).n;grind [zXI,frs]
theorem z65:∀(i:Nat) (rs:List (List Int)),(∀ r∈rs,Rec r)->xU (frs i rs)
 | i,[],_=>by intro x hx;cases hx
 | i,r::rs,h=>(z98 i (h r Qt).b).app (z65 (i+1) rs λx hx=>h x (Qm _ hx))
noncomputable def tF (e:qB): zA×Int:=(zAz e).getD ([],0)
theorem zR1{e:qB}(h:EvB e): zAz e=Ah (tF e)/\zCF e=Ah (tF e)/\(tF e).1.length<=1000/\((tF e).2=0->zAN (tF e).1=Ah (e,0)):=by
 obtain⟨s,c,h1,h2,h3,h4⟩:=zHY h;have e0:tF e=(s,c):=by unfold tF;rw[h1];rfl
 rw[e0];refine⟨h1,h2,h3,λhc=>?_⟩;unfold zAN;grind
noncomputable def zZJ (e:qB): List Int:=zGB (tF e).1
theorem z5E (s:zA): xU (zGB s):=by
 intro x hx;obtain⟨b,_,rfl⟩:=QD.1 hx;have:=b.toNat_lt;omega
theorem z4y (s:zA): xV (zGB s)=s:=by
 unfold xV zGB;rw[List.map_map];refine(UH λb _=>?_).trans (List.map_id s);simp
theorem z2J{e:qB}(h:EvB e): Rec (zZJ e):=⟨by have:=(zR1 h).2.2.1;simp[zZJ,zGB];omega,z5E _⟩
noncomputable def zT2:List qB->zA->zA×Int
 | [],a=>(a,0)
 | e::l,a=>if(tF e).2≠0 then([],(tF e).2) else zT2 l (a++((tF e).1++[10]))
noncomputable def zOW (l:List qB): zA×Int:=if 300<l.length then([],2) else zT2 l []
theorem z2G{α:Type}{l:List α}{i:Nat}{x:α}(h:l[i]?=Ah x): l.drop i=x::l.drop (i+1):=by
 obtain⟨hi,rfl⟩:=Qk.1 h;simp_all
theorem zN9{l:List qB}(h:∀ e∈l,EvB e)(hl:l.length<=2000): zEh l=Ah (zOW l):=by
 unfold zEh zOW;by_cases h3:300<l.length
 ·grind
 rw[Qp (show ¬ (300:Int)<len l by grind),Qa (by decide),Qa h3];refine Ok.eq (Ok.seqE (I:=λo=>match o with | .inl s=>zT2 l []=(s,0) | .inr r=>r=zT2 l []) ?_ (λs hs=>?_) λr hr=>hr)
 ·refine Ok.forI (λi (s:zA)=>((i:Int),s)) l (λi s=>zT2 (l.drop i) s=zT2 l []/\s.length<=1001*i) _ (λi x s hx hs=>?_) (λs hs=>?_) [] ⟨rfl,by simp⟩
  ·have hi:=yK hx;obtain⟨b1,_,b3,_⟩:=zR1 (h x (zHM hx));obtain⟨h1,h2⟩:=hs;rw[z2G hx,zT2] at h1;unfold zGU;rw[yY hx,Qi rfl,uB,hx,zob,b1,zob];refine .ite (λhc=>.ret ?_) λhc=>?_
   ·rw[Qi (by grind)] at h1;exact h1
   ·rw[Qa (by grind)] at h1;rw[wQ (by simp;omega),zob,z0k (by simp;omega),zob];exact .ret ⟨_,by rw[wE i (by omega)],h1,by simp;omega⟩
  ·unfold zGU;rw[uW];have h1:=hs.1;rw[UE,zT2] at h1;exact .ret h1.symm
 ·unfold zAr;exact .ret (Eq.symm hs)
theorem z0x:∀(l:List qB) (a:zA),(zT2 l a).2=0->(∀ e∈l,(tF e).2=0)/\(zT2 l a).1=a++l.flatMap λe=>(tF e).1++[10]
 | [],a,_=>⟨by simp,by simp[zT2]⟩
 | e::l,a,h=>by
  rw[zT2] at h ⊢;by_cases hc:(tF e).2≠0
  ·grind
  ·rw[Qa hc] at h ⊢;obtain⟨h1,h2⟩:=z0x l _ h;grind
noncomputable def zRg (l:List qB): List Int×Int:=if(zOW l).2≠0 then([],(zOW l).2) else(frs 0 (l.map zZJ),0)
theorem z7N{l:List qB}(h:(zOW l).2=0): l.length<=300/\(∀ e∈l,(tF e).2=0)/\(zOW l).1=l.flatMap λe=>(tF e).1++[10]:=by
 unfold zOW at h ⊢;by_cases h3:300<l.length
 ·grind
 ·rw[Qa h3] at h ⊢;obtain⟨h1,h2⟩:=z0x l [] h;grind
theorem zXQ{l:List qB}(h:∀ e∈l,EvB e)(hl:l.length<=2000): zJB l=Ah (zRg l):=by
 unfold zJB zRg;rw[zN9 h hl,zob];by_cases hc:(zOW l).2≠0
 ·grind
 rw[Qa (by grind),Qa hc];refine Ok.eq (Ok.forI (λi (s:List Int)=>(s,(i:Int))) l (λi s=>s=frs 0 ((l.take i).map zZJ)) _ (λi x s hx hs=>?_) (λs hs=>?_) [] rfl)
 ·have hi:=yK hx;have hE:=h x (zHM hx);obtain⟨b1,_,b3,_⟩:=zR1 hE;have hr:=z2J hE;have hn:=hr.n;have hsl:=zYE 0 ((l.take i).map zZJ) λr hr=>by
   obtain⟨e,he,rfl⟩:=QD.1 hr;exact z2J (h e (Q7 he))
  have hil:((l.take i).map zZJ).length=i:=by simp;omega
  rw[<-hs,hil] at hsl;have hnext:frs 0 ((l.take (i+1)).map zZJ)=s++frS i (zZJ x):=by
   rw[Un,hx,UO,Uk,List.map_singleton,z1u,hil,<-hs,Uv]
  unfold zIS;rw[yY hx,Qi rfl,uB,hx,zob,b1,zob,show zGB (tF x).1=zZJ x from rfl,z6s (by omega) (by omega) hr.b,zob];dsimp only;rw[Qa (by decide),yI (by rw[zXI];omega),zob];exact .ret ⟨_,by rw[wE i (by omega)],hnext.symm⟩
 ·unfold zIS;rw[uW];rw[hs,Us];exact .ret rfl
end
section
def ml:Nat->zA->Nat
 | c,[]=>c
 | c,x::s=>if x=10 then max c (ml 0 s) else ml (c+1) s
theorem z0S (c:Nat)(x:UInt8)(s:zA): ml c (x::s)=if x=10 then max c (ml 0 s) else ml (c+1) s:=rfl
theorem z4T:∀(c:Nat) (s:zA),ml c s<=c+s.length
 | c,[]=>Qd _
 | c,x::s=>by
  have h1:=z4T (c+1) s;have h2:=z4T 0 s;grind [ml]
theorem z0K:∀(c:Nat) (a b:zA),ml c (a++10::b)<=max (ml c a) (ml 0 b)
 | c,[],b=>by simp[ml]
 | c,x::a,b=>by
  have h1:=z0K (c+1) a b;have h2:=z0K 0 a b;rw[Q1,z0S,z0S];grind
theorem z8Y:∀(c:Nat) (s:zA),c+(vD s).1.length<=ml c s/\ml 0 (vD s).2.1<=ml c s
 | c,[]=>by simp[vD,ml]
 | c,x::s=>by
  have h:=z8Y (c+1) s;rw[z0S];unfold vD;grind
theorem z5C:∀(l:List zA) (n:Nat),(∀ s∈l,s.length<=n)->ml 0 (l.flatMap λs=>s++[10])<=n
 | [],n,_=>by simp[ml]
 | s::l,n,h=>by
  have h1:=z5C l n λx hx=>h x (Qm _ hx);have h2:=z0K 0 s (l.flatMap λs=>s++[10]);have h3:=z4T 0 s;grind
noncomputable def zY6 (s:zA): qB×Int:=(zAN s).getD ((0,0,0,0,[],(0,0,0,(Ak,[]),[]),(Ak,[]),(0,0),(0,0,0,0),fm (0,[],[])),3)
theorem z6G{s:zA}(h:s.length<=5000): zAN s=Ah (zY6 s)/\zFA s=Ah (zY6 s)/\EvB (zY6 s).1:=by
 grind [z9D,zY6]
abbrev R41:=List qB×Int×Int
def z25 (a:List qB): R41:=if 300<a.length then([],301,2) else(a,0,0)
noncomputable def prs:Nat->zA->List qB->R41
 | 0,_,a=>z25 a
 | f+1,s,a=>if s=[] then z25 a else if(vD s).2.2=Ak\/(zY6 (vD s).1).2≠0 then([],((a.length+1:Nat):Int),3) else prs f (vD s).2.1 (a++[(zY6 (vD s).1).1])
theorem zNe:∀(f:Nat) (s:zA) (a:List qB),s.length<=f->ml 0 s<=5000->a.length+s.length<=900000->∃ o,zN zFO (s,a)=Ah o/\(match o with | .inl b=>z25 b | .inr r=>r)=prs f s a
 | 0,s,a,hf,_,_=>by
  obtain rfl:s=[]:=List.length_eq_zero_iff.1 (by omega);exact⟨.inl a,vW rfl,rfl⟩
 | f+1,s,a,hf,hm,hn=>by
  unfold prs;by_cases hs:s=[]
  ·subst hs;exact⟨.inl a,vW rfl,rfl⟩
  rw[Qa hs];have hc:=z8Y 0 s;have hl:=z6W hs;have hp:=(z6G (s:=(vD s).1) (by omega)).1;have hstep:zFO (s,a)=Ah (if(vD s).2.2=Ak\/(zY6 (vD s).1).2≠0 then .inr (.inr ([],((a.length+1:Nat):Int),3)) else .inl ((vD s).2.1,a++[(zY6 (vD s).1).1])):=by
   unfold zFO;dsimp only;rw[Qq (show(0:Int)<len s by grind),Qi rfl,cut_ok (by omega),zob,hp,zob];by_cases c:(vD s).2.2=Ak\/(zY6 (vD s).1).2≠0
   ·rw[Qi c,Qi (by grind),zUC (by grind) (by grind)];rfl
   ·rw[Qa c];rw[Qa (by grind),yI (by simp;omega),zob]
  by_cases c:(vD s).2.2=Ak\/(zY6 (vD s).1).2≠0
  ·rw[Qi c] at hstep ⊢;exact⟨_,vW hstep,rfl⟩
  ·rw[Qa c] at hstep ⊢;obtain⟨o,h1,h2⟩:=zNe f (vD s).2.1 (a++[(zY6 (vD s).1).1]) (by omega) (by omega) (by simp;omega);exact⟨o,(yZ hstep).trans h1,h2⟩
theorem zVn{s:zA}(hl:s.length<=900000)(hm:ml 0 s<=5000): zHk s=Ah (prs s.length s []):=by
 obtain⟨o,h1,h2⟩:=zNe s.length s [] (Qd _) hm (by simp;omega);unfold zHk;rw[h1,<-h2];cases o with
 | inr r=>rfl
 | inl b=>
  unfold yG z25;grind
noncomputable def ldG:List (List Int)->List qB->List qB
 | [],a=>a
 | r::rs,a=>if(zY6 (xV r)).2≠0 then a else ldG rs (a++[(zY6 (xV r)).1])
theorem z8N:∀(f i:Nat) (b:List Int),(∀ r∈(rdS f i b).1,r.length<=5000)/\(rdS f i b).1.length<=b.length
 | 0,i,b=>by simp[rdS]
 | f+1,i,b=>by
  unfold rdS;cases hn:zL7 i b with
  | none=>simp
  | some n=>
   obtain⟨h1,h2⟩:=zTn hn;obtain⟨g1,g2⟩:=z8N f (i+1) (b.drop (n+8));grind
theorem z8G{PL:zA->Option (qB×Int)}{L:(List (List Int)×Int)->List qB×Int->Option ((List qB×Int)⊕List qB)}(hP:∀ s:zA,s.length<=5000->PL s=Ah (zY6 s))
  (hL:∀ r s,L r s=if decide (s.2<(len r.1)) then(zD r.1 s.2).bind λx1=>(PL (xV x1)).bind λr2=>if r2.2 != 0 then Ah (.inr s.1) else(qG s.1 ([r2.1]:List qB)).bind λx2=>Ah (.inl (x2,zE (s.2+1))) else Ah (.inr s.1))
  {rs:List (List Int)} {n:Int} (hn:rs.length<=3000000) (hr:∀ r∈rs,r.length<=5000):zN (L (rs,n)) ([],0)=Ah (ldG rs []):=by
 refine Ok.eq (Ok.forI (λi (s:List qB)=>(s,(i:Int))) rs (λi s=>ldG (rs.drop i) s=ldG rs []/\s.length<=i) _ (λi x s hx hs=>?_) (λs hs=>?_) [] ⟨rfl,by simp⟩)
 ·have hi:=yK hx;obtain⟨h1,h2⟩:=hs;rw[z2G hx,ldG] at h1;have hp:=hP (xV x) (by grind [xV]);rw[hL];rw[yY hx,Qi rfl,uB,hx,zob,hp,zob];refine .ite (λhc=>.ret ?_) λhc=>?_
  ·rw[Qi (by grind)] at h1;exact h1
  ·rw[Qa (by grind)] at h1;rw[yI (by simp;omega),zob];exact .ret ⟨_,by rw[wE i (by omega)],h1,by simp;omega⟩
 ·rw[hL];rw[uW];have h1:=hs.1;rw[UE,ldG] at h1;exact .ret h1
noncomputable def zY7 (y:List Int): List qB×Int:=(ldG (rdS (y.length+1) 0 y).1 [],len (ldG (rdS (y.length+1) 0 y).1 []))
theorem zW6{y:List Int}(hl:y.length<=2000000)(hb:xU y): zJE y=Ah (zY7 y):=by
 obtain⟨h1,h2⟩:=z8N (y.length+1) 0 y;unfold zJE zY7;rw[z91 hl hb,zob,z8G (PL:=zAN) (L:=zMg) (λs hs=>(z6G hs).1) (λ_ _=>rfl) (by omega) h1];rfl
theorem z9U{l:List qB}(h:∀ e∈l,EvB e)(hl:l.length<=4000000): zEw l l=Ah true:=by
 unfold zEw;rw[Qa (by simp)];refine(zSr (B:=zE6 l l) l (λ_=>Ak) Ak Aj (λi x hx=>by
  have hi:=yK hx;unfold zE6;rw[yY hx,Qi rfl,uB,hx,zob,zob,z1V (h x (zHM hx)),zob,wE i (by omega)];rfl) (by
  unfold zE6;grind)).trans (by simp)
end
section
theorem z6D{s:vN}(h:vC s): Ok (zNZ s) λr=>StI r.1/\vC (s.1,r.2):=by
 refine(Ok.Rng h (by omega) (by omega) (by omega)).bind λr1 h1=>(Ok.Voc (by omega) (by omega)).bind λr2 h2=>(Ok.Rng h1.2.2 (by omega) (by omega) (by omega)).bind λr3 h3=>(Ok.Rng h3.2.2 (by omega) (by omega) (by omega)).bind λr4 h4=>(Ok.Rng h4.2.2 (by omega) (by omega) (by omega)).bind λr5 h5=>?_;refine(z5P (n:=3) (p:=2) (q:=3) h5.2.2 (by omega) (by omega) (by omega) (by omega) (by omega) (by omega)).bind λbk hbk=>?_;obtain⟨b,k⟩:=bk;obtain⟨hp,hr,hm,hd,hk⟩:=hbk;dsimp only at hp hr hm;have hb:BsI b:=⟨by omega,by omega,by omega,hd⟩;exact Ok.bind (I:=λz:qX=>BsI z) ((z6K (y:=(r2,r3.1,(r4.1,r5.1),b)) ⟨h2,hb⟩).bind λr7 h7=>.ite (λ_=>.ret ⟨by simp,by simp,by simp,by simp⟩) λ_=>.ret hb) λz hz=>.ret ⟨⟨h2,hz⟩,hk⟩
theorem z5O:∀(l:List qB) (a:zA),(∀ e∈l,EvB e)->(zT2 l a).1.length<=a.length+1001*l.length
 | [],a,_=>by simp[zT2]
 | e::l,a,h=>by
  rw[zT2];by_cases hc:(tF e).2≠0
  ·grind
  ·have h1:=z5O l (a++((tF e).1++[10])) λx hx=>h x (Qm _ hx);have h2:=(zR1 (h e Qt)).2.2.1;grind
theorem z7x{l:List qB}(h:∀ e∈l,EvB e): (zOW l).1.length<=1001*300/\ml 0 (zOW l).1<=1000:=by
 unfold zOW;by_cases h3:300<l.length
 ·rw[Qi h3];simp[ml]
 rw[Qa h3];have h1:=z5O l [] h;refine⟨by grind,?_⟩;by_cases hc:(zT2 l []).2=0
 ·rw[(z0x l [] hc).2,QI];have:=z5C (l.map λe=>(tF e).1) 1000 λs hs=>by
   obtain⟨e,he,rfl⟩:=QD.1 hs;exact(zR1 (h e he)).2.2.1
  rwa [List.flatMap_map] at this
 ·have:(zT2 l []).1=[]:=by
   have:∀(l:List qB) (a:zA),(zT2 l a).2≠0->(zT2 l a).1=[]:=λl=>by
    induction l with
    | nil=>intro a h;exact absurd rfl h
    | cons e l ih=>
     intro a h;rw[zT2] at h ⊢;grind
   exact this l [] hc
  rw[this];simp[ml]
theorem z5j{l:List qB}(h:∀ e∈l,EvB e): (zRg l).1.length<=1008*300/\xU (zRg l).1:=by
 unfold zRg;by_cases hc:(zOW l).2≠0
 ·rw[Qi hc];exact⟨by simp,λx hx=>by cases hx⟩
 have h1:=(z7N (Decidable.not_not.1 hc)).1;have hr:∀ r∈l.map zZJ,Rec r:=λr hr=>by
  obtain⟨e,he,rfl⟩:=QD.1 hr;exact z2J (h e he)
 grind [zYE,z65]
end
section
abbrev No (s:zA): Prop:=(10:UInt8)∉s
theorem z2S{a b:zA}(ha:No a)(hb:No b): No (a++b):=by grind
theorem xF{a b:zA}(ha:No a)(hb:No b): No (a++32::b):=by grind
theorem zGA{n:Int}(h:wX n=Aj): No (Lib.itoa n):=λe=>(Wd.itoa (zJc.1 h).1 10 e).2 rfl
theorem z5t{s:zA}(h:vName s=Aj): No s:=λe=>(zZR ((zYN h).1 _ e)).2.2 rfl
theorem zWF (l:zH): No (qT l):=by
 unfold qT;split
 ·rename_i h;split
  ·exact λe=>(QO.1 e).elim (by decide) (z5t h)
  ·exact z5t h
 grind
theorem no_tx{t:zA}(h:z6c t=Aj): No t:=λe=>by
 unfold z6c at h;rw[Qc] at h;have:=QR.1 h.1 10 e;grind
theorem no_par{b:Bool}{s:zA}(h:No s): No (Fo.par b s):=by
 unfold Fo.par;grind
mutual
theorem z8t:∀ f,tO f=Aj->No (vE f)
 | .mk op s l,h=>by
  rw[tO,Qc] at h;refine z2S ?_ (z8L op l 0 h.2);unfold z2d;by_cases h1:op=1
  ·grind
  rw[Qa h1];by_cases h2:op=2
  ·grind
  rw[Qa h2];by_cases h3:op=3
  ·rw[Qi h3];have:=h.1;rw[Qi h3] at this;exact z5t this
  grind
theorem z8L:∀(op:Int) (l:List zC) (i:Nat),z2y l=Aj->No (txL op i l)
 | op,[],i,_=>by rw[txL];grind
 | op,x::l,i,h=>by
  rw[z2y,Qc] at h;refine z2S ?_ (z2S (no_par (z8t x h.1)) (z8L op l (i+1) h.2));unfold zX8;repeat' split
  all_goals decide
end
theorem no_fmt{f:zC}(hn:wO f<=5000): ∃ t c,zAR f=Ah (t,c)/\t.length<=4096/\(c=0->No t):=by
 obtain⟨t,c,h1,h2,h3,_⟩:=z23 hn;refine⟨t,c,h2,h3,?_⟩;rintro rfl;obtain⟨v1,_⟩:=zQb (zTt f (by omega));unfold zAt at h1;rw[v1,zob] at h1;by_cases hv:z2D f=0
 ·have hv':vG f=Aj/\tO f=true:=by
   unfold z2D at hv;split at hv
   ·grind
   ·cases hv
  have hlen:=zZf f hv'.2;have w:zD0 [] f=Ah (vE f):=((z60 f hv'.1 hn).imp λk e=>(e [] (by simp;omega)).trans (by grind)).lim;rw[hv,Qa (by decide),w,zob] at h1;unfold zBU zAr at h1;rw[zob] at h1;split at h1
  ·grind
  ·injection h1 with h1;injection h1 with h1 _;rw[<-h1];exact z8t f hv'.2
 grind
theorem z7D{e:qB}{s:zA}(h:zCF e=Ah (s,0)): (1<=e.1/\e.1<=10)/\wX e.2.1=Aj/\zAe e=Ah Aj/\zAl e=Ah s:=by
 unfold zCF at h;by_cases hr:(decide (e.1<1)||decide (10<e.1))=Aj
 ·grind
 rw[Qa hr,zHn,zob] at h;cases hs:wX e.2.1 with
 | false=>grind
 | true=>
  rw[hs,Qa (by decide)] at h;cases hp:zAe e with
  | none=>grind
  | some p=>
   rw[hp,zob,zob] at h;cases p with
   | false=>cases h
   | true=>
    cases hl:zAl e with
    | none=>grind
    | some z=>
     rw[hl,zob] at h;cases hq:uV z with
     | none=>grind
     | some y=>
      cases ht:zDf y e with
      | none=>grind
      | some b=>
       grind
end
section
theorem no_jn:∀ ws:List zA,(∀ w∈ws,No w)->No (uN ws)
 | [],_=>List.not_mem_nil
 | [w],h=>by simpa [uN] using h w
 | w::v::ws,h=>by
  exact z2S (h w (by simp)) λe=>(QO.1 e).elim (by decide) (no_jn (v::ws) λx hx=>h x (Qm _ hx))
theorem z9z{e:qB}(h:EvB e){s:zA}(hl:zCF e=Ah (s,0)): No s:=by
 obtain⟨hr,hn,hp,hs⟩:=z7D hl;obtain⟨n0,n1⟩:=zIK hn;obtain⟨t,c,f2,f3,f4⟩:=no_fmt h.f;have hi:=zGA hn;have hc:(e.1=1\/e.1=2)\/e.1=3\/e.1=4\/e.1=5\/e.1=6\/e.1=7\/(e.1=8\/e.1=9\/e.1=10):=by omega
 rcases hc with hk | hk | hk | hk | hk | hk | hk
 ·rw[l_put h n0 n1 hk f2] at hs;rw[p_put h hk] at hp;injection hs with hs;injection hp with hp;rw[<-hs];exact xF (by split <;> decide) (xF hi (no_tx hp))
 ·rw[l_wd h n0 n1 hk f2] at hs;injection hs with hs;rw[<-hs];exact xF (by decide) hi
 ·rw[z47 h hk] at hp;injection hp with hp;simp at hp;obtain⟨⟨⟨_,hi2,h1,h5⟩,_⟩,h3⟩:=hp;have hb:=zJc.1 hi2;have hcs:(e.2.2.2.2.2.1.1=1\/e.2.2.2.2.2.1.1=4\/e.2.2.2.2.2.1.1=5)\/e.2.2.2.2.2.1.1=2\/e.2.2.2.2.2.1.1=3:=by omega
  rcases hcs with hcs | hcs | hcs
  ·rw[l_say h n0 n1 hk rfl hcs f2] at hs;injection hs with hs;rw[<-hs];refine xF ?_ (xF hi (zWF _));rcases hcs with hcs | hcs | hcs <;> rw[hcs] <;> decide
  ·rw[l_chl h n0 n1 hk hcs f2 hb.1 hb.2] at hs;injection hs with hs;rw[<-hs];exact xF (by decide) (xF hi (xF (zGA hi2) (zWF _)))
  ·have hne:e.2.2.2.2.2.1.2.2.2.2≠[]:=by
    rw[hcs] at h3;intro e0;rw[e0] at h3;simp at h3
   rw[l_arg h n0 n1 hk hcs f2 hne] at hs;injection hs with hs;rw[<-hs];refine xF (by decide) (xF hi (xF (zWF _) (xF (by decide) (no_jn _ λw hw=>?_))));obtain⟨l,_,rfl⟩:=QD.1 hw;exact zWF l
 ·rw[p_opn h hk] at hp;injection hp with hp;simp at hp;obtain⟨_,ha,hb⟩:=hp;have ha':=zJc.1 ha;have hb':=zJc.1 hb;rw[l_opn h n0 n1 hk f2 ha'.1 ha'.2 hb'.1 hb'.2] at hs;injection hs with hs;rw[<-hs];exact xF (by decide) (xF hi (xF (zWF _) (xF (zGA ha) (zGA hb))))
 ·rw[z4t h hk] at hp;injection hp with hp;simp at hp;obtain⟨ht,hpl,⟨h2,h4⟩,hx,hy⟩:=hp;have ht':=zJc.1 ht;have hx':=zJc.1 hx;have hy':=zJc.1 hy;have hpl':wX e.2.2.2.2.2.2.2.2.1.1=true:=by
   unfold plB at hpl;rw[Ub,QJ,QJ] at hpl;rcases hpl with e | e <;> rw[e] <;> decide
  have hcs:e.2.2.2.2.2.2.2.2.1.2.1=2\/e.2.2.2.2.2.2.2.2.1.2.1=3\/e.2.2.2.2.2.2.2.2.1.2.1=4:=by omega
  have hq:=zJc.1 hpl';rcases hcs with hm | hm | hm
  ·rw[l_att h n0 n1 ht'.1 ht'.2 hq.1 hq.2 hy'.1 hy'.2 hk hm f2 hx'.1 hx'.2] at hs;injection hs with hs;rw[<-hs];exact xF (by decide) (xF hi (xF (zGA ht) (xF (zGA hpl') (xF (zGA hx) (zGA hy)))))
  ·rw[l_tak h n0 n1 ht'.1 ht'.2 hq.1 hq.2 hy'.1 hy'.2 hk hm f2] at hs;injection hs with hs;rw[<-hs];exact xF (by decide) (xF hi (xF (zGA ht) (xF (zGA hpl') (zGA hy))))
  ·rw[l_giv h n0 n1 ht'.1 ht'.2 hq.1 hq.2 hk hm f2] at hs;injection hs with hs;rw[<-hs];exact xF (by decide) (xF hi (xF (zGA ht) (zGA hpl')))
 ·rw[p_dec h hk] at hp;injection hp with hp;rw[Qc] at hp;have ha':=zJc.1 hp.2;rw[l_dec h n0 n1 hk f2 ha'.1 ha'.2] at hs;injection hs with hs;rw[<-hs];exact xF (by decide) (xF hi (xF (zGA hp.2) (zWF _)))
 ·rw[p_ch h hk f2] at hp;injection hp with hp;simp at hp;obtain⟨hc,_,hd⟩:=hp;have ha':=zJc.1 hd;rw[l_ch h n0 n1 hk f2 f3 ha'.1 ha'.2] at hs;injection hs with hs;rw[<-hs];refine xF ?_ (xF hi (xF (zGA hd) (f4 hc)));rcases hk with hk | hk | hk <;> rw[hk] <;> decide
end
section
theorem z1P{e:qB}(h:EvB e)(hl:z1j e): (tF e).2=0/\No (tF e).1/\zY6 (tF e).1=(e,0):=by
 obtain⟨t,ht⟩:=hl;obtain⟨h1,h2,h3,h4⟩:=zR1 h;rw[ht] at h2;injection h2 with h2;rw[<-h2] at h4 ⊢;refine⟨rfl,z9z h ht,?_⟩;unfold zY6;grind
theorem zXU{l:List qB}(h:∀ e∈l,EvB e/\z1j e)(hl:l.length<=300): zOW l=(l.flatMap λe=>(tF e).1++[10],0):=by
 unfold zOW;have hk:∀(l:List qB) (a:zA),(∀ e∈l,EvB e/\z1j e)->zT2 l a=(a++l.flatMap λe=>(tF e).1++[10],0):=λl=>by
  induction l with
  | nil=>simp[zT2]
  | cons e l ih=>
   intro a h;have:=z1P (h e Qt).1 (h e Qt).2;rw[zT2,Qa (by grind),ih _ λx hx=>h x (Qm _ hx)];simp
 grind
theorem z2K:∀(l:List qB) (f:Nat) (a:List qB),(∀ e∈l,EvB e/\z1j e)->(l.flatMap λe=>(tF e).1++[10]).length<=f->prs f (l.flatMap λe=>(tF e).1++[10]) a=z25 (a++l)
 | [],f,a,_,_=>by
  rw[List.flatMap_nil,QE];cases f with
  | zero=>rfl
  | succ f=>unfold prs;grind
 | e::l,f,a,h,hf=>by
  obtain⟨h1,h2,h3⟩:=z1P (h e Qt).1 (h e Qt).2;have ih:=z2K l (f-1) (a++[e]) λx hx=>h x (Qm _ hx);rw[UU] at hf ⊢;generalize (l.flatMap λe=>(tF e).1++[10])=R at ih hf ⊢;cases f with
  | zero=>simp at hf
  | succ f=>
   have hc:vD ((tF e).1++([10]++R))=((tF e).1,R,Aj):=z8I h2 R;unfold prs;grind
theorem z1y:∀(l a:List qB),(∀ e∈l,EvB e/\z1j e)->ldG (l.map zZJ) a=a++l
 | [],a,_=>by simp[ldG]
 | e::l,a,h=>by
  obtain⟨h1,h2,h3⟩:=z1P (h e Qt).1 (h e Qt).2;have e1:zY6 (xV (zZJ e))=(e,0):=by unfold zZJ;rw[z4y,h3]
  rw[QU,ldG,e1,Qa (by simp),z1y l _ λx hx=>h x (Qm _ hx)];simp
theorem zZ8{l:List qB}(h:∀ e∈l,EvB e/\z1j e)(hl:l.length<=300): zRg l=(frs 0 (l.map zZJ),0):=by
 unfold zRg;rw[zXU h hl,Qa (by simp)]
theorem z24:∀(f i:Nat) (rs:List (List Int)) (t:List Int),(∀ r∈rs,Rec r)->rs.length<f->zL7 (i+rs.length) t=none->(rdS f i (frs i rs++t)).1=rs
 | 0,i,rs,t,_,hf,_=>by omega
 | f+1,i,[],t,_,_,ht=>by
  grind [rdS,frs]
 | f+1,i,r::rs,t,h,hf,ht=>by
  have hr:=h r Qt;have hn:=hr.n;rw[frs,Qo,rdS,z1D i _ (by omega) hr.b];have e3:(frS i r++(frs (i+1) rs++t)).drop 4=r++(nb4 (smN i r)++(frs (i+1) rs++t)):=by simp[frS,nb2]
  have e4:(frS i r++(frs (i+1) rs++t)).drop (r.length+8)=frs (i+1) rs++t:=List.drop_left' (zXI i r);dsimp only;rw[e3,List.take_left' rfl,e4,z24 f (i+1) rs t (λx hx=>h x (Qm _ hx)) (by grind) (by rw[<-ht];congr 1;simp;omega)]
theorem z4M{l:List qB}(h:∀ e∈l,EvB e/\z1j e): ∀ r∈l.map zZJ,Rec r:=λr hr=>by
 obtain⟨e,he,rfl⟩:=QD.1 hr;exact z2J (h e he).1
theorem z4c{l:List qB}(h:∀ e∈l,EvB e/\z1j e){t:List Int}(ht:zL7 l.length t=none): zY7 (frs 0 (l.map zZJ)++t)=(l,(l.length:Int)):=by
 have hl:=(zYE 0 _ (z4M h)).2;rw[UJ] at hl;unfold zY7;rw[z24 _ 0 (l.map zZJ) t (z4M h) (by simp;omega) (by grind),z1y l [] h];simp
theorem z5b (i:Nat): zL7 i []=none:=by unfold zL7;grind
end
section
theorem zYI (hw:zHC=Ah Aj)(y0:List Int): zDH y0=Ah true:=by
 suffices h:Ok (zDH y0) λr=>r=Aj by obtain⟨r,h1,rfl⟩:=h;exact h1
 unfold zDH;rw[hw,z8B,zob];refine(z6D (z4I y0)).bind λr2 h2=>(z6Y h2.2 h2.1 (by decide) (by decide)).bind λr3 h3=>?_;obtain⟨hev,hn,hk⟩:=h3;have hE:∀ e∈r3.1,EvB e/\z1j e:=λe he=>⟨(hev e he).1.toEvB,(hev e he).2⟩;have hEv:∀ e∈r3.1,EvB e:=λe he=>(hE e he).1;obtain⟨f1,f2⟩:=z7x hEv;obtain⟨j1,j2⟩:=z5j hEv;rw[zN9 hEv (by omega),zob,zVn (by omega) (by omega),zob,zXQ hEv (by omega),zob,zW6 (by omega) j2,zob];have hp:prs (zOW r3.1).1.length (zOW r3.1).1 []=(r3.1,0,0):=by
  rw[zXU hE (by omega)];dsimp only;rw[z2K r3.1 _ [] hE (Qd _),QI];unfold z25;rw[Qa (by omega)]
 have hl:zY7 (zRg r3.1).1=(r3.1,(r3.1.length:Int)):=by
  have:=z4c hE (z5b r3.1.length);rw[QE] at this;rw[zZ8 hE (by omega)];exact this
 rw[hp,hl,zXU hE (by omega),zZ8 hE (by omega)];rw[z9U hEv (by omega)];simp;exact .ret rfl
end
section
theorem zQR (y0:List Int){W0:Prop}(_w0:W0): zDH y0=Ah true:=zYI z5L y0
end
end Go.GD
