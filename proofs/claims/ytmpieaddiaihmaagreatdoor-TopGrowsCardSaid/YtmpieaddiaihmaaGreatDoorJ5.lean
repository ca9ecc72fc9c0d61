/- A part. Conditions: none. -/
import Derived.Test.YtmpieaddiaihmaaGreatDoorJ4
namespace Go.GD
open Go Go.RowKit
set_option autoImplicit false
variable {qd:Prop}
set_option linter.unusedVariables false
def runD (os:Array Oper): List Nat->Sl->List Ob->Option (Sl×List Ob)
 | [],S,ob=>some (S,ob)
 | i::is,S,ob=>match os[i]? with
  | none=>none
  | some o=>match o.dst with
   | none=>none
   | some d=>guC os S o.guard (pvC S o.op ob fun ob v=>runD os is ((d,v)::S) ob) (runD os is ((d,undef)::S) ob)
def z7v:Array Bool->List Nat->Array Bool
 | li,[]=>li
 | li,i::is=>z7v (li.setIfInBounds i true) is
def z1G (os:Array Oper)(B:List Nat)(n:Nat): Array Bool->List Nat->Bool
 | _,[]=>true
 | li,i::is=>vF os B li i&&(match os[i]? with
  | some o=>match o.dst with
   | some d=>Nat.blt d n
   | none=>false
  | none=>false)&&z1G os B n (li.setIfInBounds i true) is
section
variable {P:Program}{n:Nat}{X:Hd qd}{ρ σ:Type}{Q:PQ ρ}{S:Sl}{Ls:List zJ}{F:List PP}{m m1 m2:Option ρ}{os:Array Oper}{l:List Oper}{x y:Operand}{p p':uH}{z0:Code}{id:Nat}
variable {d t:Nat}{ty ty2:TypeId}{pos pos2:String}{af af2:Array Edge}{g g2:Option (Nat×Bool)}{kd:IntKind}{B Jj:List Nat}{li:Array Bool}{fuel:Nat}
theorem uR (B Jj:List Nat)(k:Nat)(h:J P n X (zTA P z0 Q) (.dr l.toArray B Jj k (Array.replicate k false)) S Ls F m)(hk:l.length=k:=by rfl)(hm:P.follows .mixedOrders=true:=by kernel_rfl):
  J P n X Q (.code (.seq (.region id l.toArray true) z0)) S Ls F m :=
 ⟨fun hq r h0 a w hs=>by subst hk;exact ds B Jj hs (fun w' hs'=>h.go (zTA.np hq) r h0 a w' hs') hm⟩
theorem xY (B Jj:List Nat)(k:Nat)(h:J P n X Q (.dr l.toArray B Jj k (Array.replicate k false)) S Ls F m)(hk:l.length=k:=by rfl)(hm:P.follows .mixedOrders=true:=by kernel_rfl):
  J P n X Q (.code (.region id l.toArray true)) S Ls F m :=
 ⟨fun hq r h0 a w hs=>by subst hk;exact ds' B Jj hs (fun w' hs'=>h.go hq r h0 a w' hs') hm⟩
theorem qT (h:J P n X Q (.ex .normal) S Ls F m)(hr:Region.ready .any os li=[]:=by kernel_rfl): J P n X Q (.dr os B Jj fuel li) S Ls F m :=
 ⟨fun hq r h0 a w hs=>de (h.go hq r h0 a w hs) hr⟩
theorem zVb:∀(is:List Nat) (S S':Sl) (ob ob':List Ob) (li:Array Bool) (f:Nat),runD os is S ob=some (S',ob')->z1G os B n li is=true->tY P ob'=true->
  J P n X Q (.dr os B Jj f (z7v li is)) S' Ls F m->tY P ob=true∧J P n X Q (.dr os B Jj (f+is.length) li) S Ls F m
 | [],S,S',ob,ob',li,f,h,_,ho,k=>by
  simp only[runD,Qd,Prod.mk.injEq] at h
  obtain⟨rfl,rfl⟩:=h
  exact⟨ho,k⟩
 | i::is,S,S',ob,ob',li,f,h,ht,ho,k=>by
  simp only[runD] at h
  simp only[z1G,Qw] at ht
  obtain⟨⟨ht1,ht2⟩,ht3⟩:=ht
  split at h
  ·cases h
  ·rename_i o hi
   obtain⟨od,op,ty,pos,af,g⟩:=o
   rw[hi] at ht2
   simp only at h ht2
   split at h
   ·cases h
   ·rename_i d
    simp only at ht2
    rcases z0G h with⟨hg,h⟩ | ⟨hg,h⟩
    ·obtain⟨ob1,v,h,hv⟩:=z08 (P:=P) h
     obtain⟨h1,h2⟩:=zVb is _ S' ob1 ob' _ f h ht3 ho k
     obtain⟨h3,h4⟩:=hv h1
     exact⟨h4,⟨fun hq r hm a w hs=>dp i v hs hi (fun a' hs'=>h2.go hq r hm a' w hs') (fun c v a w hp=>(hq r c _ _ hp).elim) ht1 ht2 hg h3⟩⟩
    ·obtain⟨h1,h2⟩:=zVb is _ S' ob ob' _ f h ht3 ho k
     exact⟨h1,⟨fun hq r hm a w hs=>dk i hs hi (fun a' hs'=>h2.go hq r hm a' w hs') (fun c v a w hp=>(hq r c _ _ hp).elim) ht1 ht2 hg⟩⟩
theorem zW{S':Sl}{ob:List Ob}(f:Nat)(is:List Nat)(hr:runD os is S []=some (S',ob))(h:J P n X Q (.dr os B Jj f (z7v li is)) S' Ls F m)
  (hf:fuel=f+is.length:=by rfl) (hk:z1G os B n li is=true:=by kernel_rfl) (ho:tY P ob=true:=by kernel_rfl):J P n X Q (.dr os B Jj fuel li) S Ls F m :=
 hf▸(zVb is S S' [] ob li f hr hk ho h).2
theorem vR{op:Op}(i:Nat)(v:Value)(hi:os[i]?=some ⟨some d,op,ty,pos,af,g⟩)(h:J P n X Q (.dr os B Jj fuel (li.setIfInBounds i true)) ((d,v)::S) Ls F m)
  (hk:vF os B li i=true:=by kernel_rfl) (hd:Nat.blt d n=true:=by kernel_rfl) (hg:zR os S g=some true:=by kernel_rfl) (hv:pv P S op=some v:=by kernel_rfl):J P n X Q (.dr os B Jj (fuel+1) li) S Ls F m :=
 ⟨fun hq r hm a w hs=>dp i v hs hi (fun a' hs'=>h.go hq r hm a' w hs') (fun c v a w hp=>(hq r c _ _ hp).elim) hk hd hg hv⟩
theorem qR{s f b o:Nat}(i off:Nat)(hi:os[i]?=some ⟨some d,.fieldAddr s x f,ty,pos,af,g⟩)(hx:zL S x=some (pt b o))(h:J P n X Q (.dr os B Jj fuel (li.setIfInBounds i true)) ((d,pt b (o+off))::S) Ls F m)
  (hf:zXg P s f=some off:=by kernel_rfl) (hk:vF os B li i=true:=by kernel_rfl) (hd:Nat.blt d n=true:=by kernel_rfl) (hg:zR os S g=some true:=by kernel_rfl):J P n X Q (.dr os B Jj (fuel+1) li) S Ls F m :=
 ⟨fun hq r hm a w hs=>dp i _ hs hi (fun a' hs'=>h.go hq r hm a' w hs') (fun c v a w hp=>(hq r c _ _ hp).elim) hk hd hg (by simp[pv,hx,hf])⟩
theorem xF{op:Op}{v:Value}(i:Nat)(hi:os[i]?=some ⟨some d,op,ty,pos,af,g⟩)(hv:∀ {a:Act},qF a n S->∀ w',(execOp a.eval ⟨some d,op,ty,pos,af,g⟩).run P w'=.ok (.value v) w')(h:J P n X Q (.dr os B Jj fuel (li.setIfInBounds i true)) ((d,v)::S) Ls F m)
  (hk:vF os B li i=true:=by kernel_rfl) (hd:Nat.blt d n=true:=by kernel_rfl) (hg:zR os S g=some true:=by kernel_rfl):J P n X Q (.dr os B Jj (fuel+1) li) S Ls F m :=
 ⟨fun hq r hm a w hs=>dv i hs hi (hv hs.s) (fun a' hs'=>h.go hq r hm a' w hs') (fun c v a w hp=>(hq r c _ _ hp).elim) hk hd hg⟩
theorem wS{b o:Nat}{c:List Value}{te:TypeId}{fr:Nat×Nat}{v:Value}(i q:Nat)(hi:os[i]?=some ⟨some d,.load t x,ty,pos,af,g⟩)(hx:zL S x=some (pt b o))(hr:Ls[q]?=some [(b,.cells c.toArray te fr)])(hv:z7w c o some=some v)(h:J P n X Q (.dr os B Jj fuel (li.setIfInBounds i true)) ((d,v)::S) Ls F m)
  (ht:vC P t=some (false,1):=by kernel_rfl) (hb:B.all (fun j=>behind os i os.size j)=true:=by kernel_rfl) (hJ:Jj.contains q=true:=by kernel_rfl)
  (hk:vF os B li i=true:=by kernel_rfl) (hd:Nat.blt d n=true:=by kernel_rfl) (hg:zR os S g=some true:=by kernel_rfl):J P n X Q (.dr os B Jj (fuel+1) li) S Ls F m :=
 ⟨fun hq r hm a w hs=>dlo i q v hs hi hx hr (fun a' hs'=>h.go hq r hm a' w hs') (by
  rw[z0m] at hv
  have hv':c[o]?=some v:=by cases hc:c[o]? <;> simp_all
  have hlt:=(Qf.1 hv').1
  unfold xP
  rw[ht]
  have:Nat.ble (o+1) c.toArray.size=true:=by rw[UL,QS];exact hlt
  simp only[this,Qe,z1K]
  grind [List.drop_eq_getElem_cons,xW]) hb hJ (fun c v a w hp=>(hq r c _ _ hp).elim) hk hd hg⟩
theorem uQ{b o:Nat}{c:List Value}{te:TypeId}{fr:Nat×Nat}{cs:List Value}(i q k:Nat)(hi:os[i]?=some ⟨some d,.load t x,ty,pos,af,g⟩)(hx:zL S x=some (pt b o))(hr:Ls[q]?=some [(b,.cells c.toArray te fr)])(hv:z3a o c (fun l=>z3A k l some)=some cs)(h:J P n X Q (.dr os B Jj fuel (li.setIfInBounds i true)) ((d,.agg cs.toArray)::S) Ls F m)
  (ht:vC P t=some (true,k):=by kernel_rfl) (hb:B.all (fun j=>behind os i os.size j)=true:=by kernel_rfl) (hJ:Jj.contains q=true:=by kernel_rfl)
  (hk:vF os B li i=true:=by kernel_rfl) (hd:Nat.blt d n=true:=by kernel_rfl) (hg:zR os S g=some true:=by kernel_rfl):J P n X Q (.dr os B Jj (fuel+1) li) S Ls F m :=
 ⟨fun hq r hm a w hs=>dlo i q (.agg cs.toArray) hs hi hx hr (fun a' hs'=>h.go hq r hm a' w hs') (by
  obtain⟨h1,h2⟩:=z0k hv
  obtain⟨h3,h4⟩:=z0d h1
  rw[QY] at h4
  unfold xP
  rw[ht]
  have:Nat.ble (o+k) c.toArray.size=true:=by rw[UL];simp;omega
  simp only[this,Qe,z1K,xW]
  grind) hb hJ (fun c v a w hp=>(hq r c _ _ hp).elim) hk hd hg⟩
section
variable {τ ω:Type}{e:E τ}{ef:E ω}{te:TypeId}{r:zJ}{p0:Option Addr}{c k0:Nat}{z:List τ}{ix j:Int}{lo hi:Option Operand}{vlo vhi:Option Value}
theorem jdi{f:τ->Option ρ}(i k:Nat)(hi:os[i]?=some ⟨some d,.indexAddr t x y,ty,pos,af,g⟩)(hF:yE F k=R e p0 c k0 z)(hx:zL S x=some (.slice p0 k0 c))(hy:zL S y=some (.int kd ix))
  (h:∀ u b o,J P n X Q (.dr os B Jj fuel (li.setIfInBounds i true)) ((d,pt b o)::S) Ls (Pt e b o u::F) (f u))
  (ht:wP P t=some e.n:=by kernel_rfl) (hk:vF os B li i=true:=by kernel_rfl) (hd:Nat.blt d n=true:=by kernel_rfl) (hg:zR os S g=some true:=by kernel_rfl) :
  J P n X Q (.dr os B Jj (fuel+1) li) S Ls F ((zB z ix).bind f) :=
 ⟨fun hq r hm a w hs=>by
  obtain⟨u,h1,h2⟩:=uS hm
  exact dir i hs hi (hF▸hs.g k) hx hy h1 (fun b o a h'=>(h u b o).go hq r h2 a w h') ht (fun c v a w hp=>(hq r c _ _ hp).elim) hk hd hg⟩
theorem jdl{b o:Nat}{u:τ}(i:Nat)(ag:Bool)(op:uW e)(hi:os[i]?=some ⟨some d,.load t x,ty,pos,af,g⟩)(hP:wL Ls F (Pt e b o u))(hx:zL S x=some (pt b o))
  (h:op.op u [] F fun cs F'=>mkC ag cs fun v=>J P n X Q (.dr os B Jj fuel (li.setIfInBounds i true)) ((d,v)::S) Ls F' m) (ht:vC P t=some (ag,e.n):=by kernel_rfl) (hag:ag=true∨e.n=1:=by first | exact .inl rfl | exact .inr rfl)
  (hb:B.all (fun j=>behind os i os.size j)=true:=by kernel_rfl) (hk:vF os B li i=true:=by kernel_rfl) (hd:Nat.blt d n=true:=by kernel_rfl) (hg:zR os S g=some true:=by kernel_rfl):J P n X Q (.dr os B Jj (fuel+1) li) S Ls F m :=
 ⟨fun hq r hm a w hs=>dlp i ag hs hi (hP _ _ hs.o hs.f) hx (fun ci hc v hv a h'=>by
  obtain⟨F',h1,h2⟩:=op.spec hc h'.f h
  rw[QA] at h1
  exact(zXN h1 hv).go hq r hm a w ⟨h'.s,h'.o,h'.e,h2⟩) ht hag hb (fun c v a w hp=>(hq r c _ _ hp).elim) hk hd hg⟩
theorem jdI{f:τ->Option ρ}(i k:Nat)(hi:os[i]?=some ⟨some d,.indexAddr t x y,ty,pos,af,g⟩)(hF:yE F k=Ar e te r p0 c k0 z)(hx:zL S x=some (.slice p0 k0 c))(hy:zL S y=some (.int kd ix))
  (h:∀ u,zB z ix=some u->∀ b o,p0=some ⟨b,o,none⟩->J P n X Q (.dr os B Jj fuel (li.setIfInBounds i true)) ((d,pt b (o+ix.toNat*e.n))::S) Ls F (f u))
  (ht:wP P t=some e.n:=by kernel_rfl) (hk:vF os B li i=true:=by kernel_rfl) (hd:Nat.blt d n=true:=by kernel_rfl) (hg:zR os S g=some true:=by kernel_rfl) :
  J P n X Q (.dr os B Jj (fuel+1) li) S Ls F ((zB z ix).bind f) :=
 ⟨fun hq r hm a w hs=>by
  obtain⟨u,h1,h2⟩:=uS hm
  exact dia i hs hi (hF▸hs.g k) hx hy h1 (fun b o hp a h'=>(h u h1 b o hp).go hq r h2 a w h') ht (fun c v a w hp=>(hq r c _ _ hp).elim) hk hd hg⟩
theorem jdL{b o:Nat}{u:τ}(i ri k:Nat)(s:xG e ef)(ag:Bool)(op:uW ef)(hi:os[i]?=some ⟨some d,.load t x,ty,pos,af,g⟩)(hF:yE F k=Ar e te r p0 c k0 z)(hp:p0=some ⟨b,o,none⟩)(hm0:zB z ix=some u)(hx:zL S x=some (pt b (o+ix.toNat*e.n+s.off)))
  (h:op.op (s.get u) [] F fun cs F'=>mkC ag cs fun v=>J P n X Q (.dr os B Jj fuel (li.setIfInBounds i true)) ((d,v)::S) Ls F' m) (hr:Ls[ri]?=some r:=by rfl) (ht:vC P t=some (ag,ef.n):=by kernel_rfl) (hag:ag=true∨ef.n=1:=by first | exact .inl rfl | exact .inr rfl)
  (hb:B.all (fun j=>behind os i os.size j)=true:=by kernel_rfl) (hJ:Jj.contains ri=true:=by kernel_rfl) (hk:vF os B li i=true:=by kernel_rfl) (hd:Nat.blt d n=true:=by kernel_rfl) (hg:zR os S g=some true:=by kernel_rfl):J P n X Q (.dr os B Jj (fuel+1) li) S Ls F m :=
 ⟨fun hq r hm a w hs=>dla i ri s ag hs hi (hF▸hs.g k) hp hm0 hx (fun ci hc v hv a h'=>by
  obtain⟨F',h1,h2⟩:=op.spec hc h'.f h
  rw[QA] at h1
  exact(zXN h1 hv).go hq r hm a w ⟨h'.s,h'.o,h'.e,h2⟩) hr ht hag hb hJ (fun c v a w hp=>(hq r c _ _ hp).elim) hk hd hg⟩
theorem jdw{f:List τ->Option ρ}{i0:Int}(i:Nat)(hi0:os[i]?=some ⟨some d,.slice t x lo hi none,ty,pos,af,g⟩)(g0:wL Ls F (R e p0 c k0 z))(hx:zL S x=some (.slice p0 k0 c))(hlo:uX S lo=some vlo)(hhi:uX S hi=some vhi)(b1:Bd vlo i0 0)(b2:Bd vhi j z.length)
  (h:∀ u p' c',J P n X Q (.dr os B Jj fuel (li.setIfInBounds i true)) ((d,sv p' u c')::S) Ls (Rl e p' c' u::F) (f u))
  (ht:wP P t=some e.n:=by kernel_rfl) (hk:vF os B li i=true:=by kernel_rfl) (hd:Nat.blt d n=true:=by kernel_rfl) (hg:zR os S g=some true:=by kernel_rfl) :
  J P n X Q (.dr os B Jj (fuel+1) li) S Ls F ((sub z i0 j).bind f) :=
 ⟨fun hq r hm a w hs=>by
  obtain⟨u,h1,h2⟩:=uS hm
  exact z6l i hs hi0 (g0 _ _ hs.o hs.f) hx hlo hhi b1 b2 h1 (fun p' c' a h'=>(h u p' c').go hq r h2 a w h') ht (fun c v a w hp=>(hq r c _ _ hp).elim) hk hd hg⟩
theorem jdW{f:List τ->Option ρ}{x2:Operand}(i k:Nat)(hi0:os[i]?=some ⟨some d,.slice t x none (some x2) none,ty,pos,af,g⟩)(hF:yE F k=Ar e te r p0 c k0 z)(hx:zL S x=some (.slice p0 k0 c))(hhi:zL S x2=some (.int kd j))
  (h:∀ u,J P n X Q (.dr os B Jj fuel (li.setIfInBounds i true)) ((d,sv p0 u c)::S) Ls (Al e te r p0 c u::F) (f u))
  (ht:wP P t=some e.n:=by kernel_rfl) (hk:vF os B li i=true:=by kernel_rfl) (hd:Nat.blt d n=true:=by kernel_rfl) (hg:zR os S g=some true:=by kernel_rfl) :
  J P n X Q (.dr os B Jj (fuel+1) li) S Ls F ((sub z 0 j).bind f) :=
 ⟨fun hq r hm a w hs=>by
  obtain⟨u,h1,h2⟩:=uS hm
  exact z5q i hs hi0 (hF▸hs.g k) hx hhi h1 (fun a h'=>(h u).go hq r h2 a w h') ht (fun c v a w hp=>(hq r c _ _ hp).elim) hk hd hg⟩
theorem jdV{f:Unit->Option ρ}{x2:Operand}(i k:Nat)(hi0:os[i]?=some ⟨some d,.slice t x (some x2) none none,ty,pos,af,g⟩)(hF:yE F k=Ar e te r p0 c k0 z)(hx:zL S x=some (.slice p0 k0 c))(hlo:zL S x2=some (.int kd j))
  (h:∀ u p' c',Vw e.n p0 c k0 j p' (Int.toNat ((k0:Int)-j))->J P n X Q (.dr os B Jj fuel (li.setIfInBounds i true)) ((d,.slice p' (Int.toNat ((k0:Int)-j)) c')::S) Ls F (f u))
  (ht:wP P t=some e.n:=by kernel_rfl) (hk:vF os B li i=true:=by kernel_rfl) (hd:Nat.blt d n=true:=by kernel_rfl) (hg:zR os S g=some true:=by kernel_rfl) :
  J P n X Q (.dr os B Jj (fuel+1) li) S Ls F ((vJ (decide (0≤j)&&decide (j≤(z.length:Int)))).bind f) :=
 ⟨fun hq r hm a w hs=>by
  obtain⟨u,h1,h2⟩:=uS hm
  exact z3i i hs hi0 (hF▸hs.g k) hx hlo h1 (fun p' c' hv a h'=>(h u p' c' hv).go hq r h2 a w h') ht (fun c v a w hp=>(hq r c _ _ hp).elim) hk hd hg⟩
theorem jdX{f:τ->Option ρ}{p1:Option Addr}{m' c':Nat}{i0:Int}(i k:Nat)(hi0:os[i]?=some ⟨some d,.indexAddr t x y,ty,pos,af,g⟩)(hF:yE F k=Ar e te r p0 c k0 z)(hV:Vw e.n p0 c k0 i0 p1 m')(hx:zL S x=some (.slice p1 m' c'))(hy:zL S y=some (.int kd j))
  (h:∀ u b o,p0=some ⟨b,o,none⟩->zB z (i0+j)=some u->J P n X Q (.dr os B Jj fuel (li.setIfInBounds i true)) ((d,pt b (o+(i0+j).toNat*e.n))::S) Ls F (f u))
  (ht:wP P t=some e.n:=by kernel_rfl) (hk:vF os B li i=true:=by kernel_rfl) (hd:Nat.blt d n=true:=by kernel_rfl) (hg:zR os S g=some true:=by kernel_rfl) :
  J P n X Q (.dr os B Jj (fuel+1) li) S Ls F ((zZQ z i0 j).bind f) :=
 ⟨fun hq r hm a w hs=>by
  obtain⟨u,h1,h2⟩:=uS hm
  exact z4A i hs hi0 (hF▸hs.g k) hV hx hy h1 (fun b o hp hi a h'=>(h u b o hp hi).go hq r h2 a w h') ht (fun c v a w hp=>(hq r c _ _ hp).elim) hk hd hg⟩
end
theorem qM (i:Nat)(h:J P n X Q (.fo i os B Jj fuel li) S Ls F m)(hr:Region.ready .any os li=[i]:=by kernel_rfl): J P n X Q (.dr os B Jj (fuel+1) li) S Ls F m :=
 ⟨fun hq r hm a w hs=>by
  obtain⟨o,h1,h2⟩:=h.go hq r hm a w hs
  exact d1 i h1 h2 hr⟩
theorem jd2 (i j:Nat)(h:J P n X Q (.fo i os B Jj fuel li) S Ls F m)(h':J P n X Q (.fo j os B Jj fuel li) S Ls F m)(hr:Region.ready .any os li=[i,j]:=by kernel_rfl): J P n X Q (.dr os B Jj (fuel+1) li) S Ls F m :=
 ⟨fun hq r hm a w hs=>by
  obtain⟨o,h1,h2⟩:=h.go hq r hm a w hs
  obtain⟨o',h1',h2'⟩:=h'.go hq r hm a w hs
  exact d2 i j h1 h1' h2 h2' hr⟩
theorem jd3 (i j k:Nat)(h:J P n X Q (.fo i os B Jj fuel li) S Ls F m)(h':J P n X Q (.fo j os B Jj fuel li) S Ls F m)(h'':J P n X Q (.fo k os B Jj fuel li) S Ls F m)(hr:Region.ready .any os li=[i,j,k]:=by kernel_rfl): J P n X Q (.dr os B Jj (fuel+1) li) S Ls F m :=
 ⟨fun hq r hm a w hs=>by
  obtain⟨o,h1,h2⟩:=h.go hq r hm a w hs
  obtain⟨o',h1',h2'⟩:=h'.go hq r hm a w hs
  obtain⟨o'',h1'',h2''⟩:=h''.go hq r hm a w hs
  exact d3 i j k h1 h1' h1'' h2 h2' h2'' hr⟩
theorem qN{L0:List zJ}(h:J P n X Q (.dr os B Jj fuel li) S Ls F m)(hJ:Jj.map (Ls[·]?)=Jj.map (L0[·]?):=by rfl): J P n X Q (.af L0 os B Jj fuel li) S Ls F m :=
 ⟨fun hq r hm a w hs w0 hE=>dn hs hE (h.go hq r hm a w hs) hJ⟩
theorem jdb{L0:List zJ}(B' J':List Nat)(h:J P n X Q (.dr os B' J' fuel li) S Ls F m)(hb:B.all (fun j=>!li.getD j false)=false:=by kernel_rfl): J P n X Q (.af L0 os B Jj fuel li) S Ls F m :=
 ⟨fun hq r hm a w hs w0 hE=>db B' J' hs (h.go hq r hm a w hs) hb⟩
end
section
variable {P:Program}{n:Nat}{X:Hd qd}{ρ:Type}{Q:PQ ρ}{S:Sl}{Ls:List zJ}{F:List PP}{m:Option ρ}{os:Array Oper}{x:Operand}{p p':uH}{d t:Nat}{ty:TypeId}{pos:String}{af:Array Edge}{g:Option (Nat×Bool)}
theorem jfl0{b o:Nat}{c:List Value}{te:TypeId}{fr:Nat×Nat}{v:Value}(at0:At Ls p os ⟨some d,.load t x,ty,pos,af,g⟩ p')(i:Nat)(hx:zL S x=some (pt b o))(hr:Ls[i]?=some [(b,.cells c.toArray te fr)])(hv:z7w c o some=some v)(h:J P n X Q p' ((d,v)::S) Ls F m)
  (ht:vC P t=some (false,1):=by kernel_rfl) (hd:Nat.blt d n=true:=by kernel_rfl) (hg:zR os S g=some true:=by kernel_rfl):J P n X Q p S Ls F m :=
 ⟨fun hq r hm a w hs=>at0.run fun K hK=>zLH i v hs hx hr (fun a h'=>hK (zU.refl _ _) (h.go hq r hm a w h')) (by
  rw[z0m] at hv
  have hv':c[o]?=some v:=by cases hc:c[o]? <;> simp_all
  have hlt:=(Qf.1 hv').1
  unfold xP
  rw[ht]
  have:Nat.ble (o+1) c.toArray.size=true:=by rw[UL,QS];exact hlt
  simp only[this,Qe,z1K]
  grind [List.drop_eq_getElem_cons,xW]) hd hg⟩
end
end Go.GD
