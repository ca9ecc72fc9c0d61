/- A part. Conditions: none. -/
import Derived.Test.YtgdgcdmdogdmgaaGreatDoorJ4
namespace Go.GD
open Go Go.RowKit
set_option autoImplicit false
variable {qd:Prop}
set_option linter.unusedVariables false
def runD (os:Array Oper): List Nat->Sl->List Ob->Option (Sl×List Ob)
 | [],S,ob=>some (S,ob)
 | i::is,S,ob=>match os[i]? with
  | none=>none
  | some o=>match o.dst with
   | none=>none
   | some d=>guC os S o.guard (pvC S o.op ob fun ob v=>runD os is ((d,v)::S) ob) (runD os is ((d,undef)::S) ob)
def z7o:Array Bool->List Nat->Array Bool
 | li,[]=>li
 | li,i::is=>z7o (li.setIfInBounds i true) is
def zZC (os:Array Oper)(B:List Nat)(n:Nat): Array Bool->List Nat->Bool
 | _,[]=>true
 | li,i::is=>vE os B li i&&(match os[i]? with
  | some o=>match o.dst with
   | some d=>Nat.blt d n
   | none=>false
  | none=>false)&&zZC os B n (li.setIfInBounds i true) is
section
variable {P:Program}{n:Nat}{X:Hd qd}{ρ σ:Type}{Q:PQ ρ}{S:Sl}{Ls:List zG}{F:List PP}{m m1 m2:Option ρ}{os:Array Oper}{l:List Oper}{x y:Operand}{p p':yO}{z0:Code}{id:Nat}
variable {d t:Nat}{ty ty2:TypeId}{pos pos2:String}{af af2:Array Edge}{g g2:Option (Nat×Bool)}{kd:IntKind}{B Jj:List Nat}{li:Array Bool}{fuel:Nat}
theorem tB (B Jj:List Nat)(k:Nat)(h:J P n X (zSQ P z0 Q) (.dr l.toArray B Jj k (Array.replicate k false)) S Ls F m)(hk:l.length=k:=by rfl)(hm:P.follows .mixedOrders=true:=by kernel_rfl):
  J P n X Q (.code (.seq (.region id l.toArray true) z0)) S Ls F m :=
 ⟨fun hq r h0 a w hs=>by subst hk;exact ds B Jj hs (fun w' hs'=>h.go (zSQ.np hq) r h0 a w' hs') hm⟩
theorem jdS (B Jj:List Nat)(k:Nat)(h:J P n X Q (.dr l.toArray B Jj k (Array.replicate k false)) S Ls F m)(hk:l.length=k:=by rfl)(hm:P.follows .mixedOrders=true:=by kernel_rfl):
  J P n X Q (.code (.region id l.toArray true)) S Ls F m :=
 ⟨fun hq r h0 a w hs=>by subst hk;exact ds' B Jj hs (fun w' hs'=>h.go hq r h0 a w' hs') hm⟩
theorem wI (h:J P n X Q (.ex .normal) S Ls F m)(hr:Region.ready .any os li=[]:=by kernel_rfl): J P n X Q (.dr os B Jj fuel li) S Ls F m :=
 ⟨fun hq r h0 a w hs=>de (h.go hq r h0 a w hs) hr⟩
theorem zUI:∀(is:List Nat) (S S':Sl) (ob ob':List Ob) (li:Array Bool) (f:Nat),runD os is S ob=some (S',ob')->zZC os B n li is=true->zXg P ob'=true->
  J P n X Q (.dr os B Jj f (z7o li is)) S' Ls F m->zXg P ob=true∧J P n X Q (.dr os B Jj (f+is.length) li) S Ls F m
 | [],S,S',ob,ob',li,f,h,_,ho,k=>by
  simp only[runD,Qf,Prod.mk.injEq] at h
  obtain⟨rfl,rfl⟩:=h
  exact⟨ho,k⟩
 | i::is,S,S',ob,ob',li,f,h,ht,ho,k=>by
  simp only[runD] at h
  simp only[zZC,Qo] at ht
  obtain⟨⟨ht1,ht2⟩,ht3⟩:=ht
  split at h
  ·cases h
  ·rename_i o hi
   obtain⟨od,op,ty,pos,af,g⟩:=o
   rw[hi] at ht2
   simp only at h ht2
   split at h
   ·cases h
   ·rename_i d
    simp only at ht2
    rcases zZF h with⟨hg,h⟩ | ⟨hg,h⟩
    ·obtain⟨ob1,v,h,hv⟩:=zZa (P:=P) h
     obtain⟨h1,h2⟩:=zUI is _ S' ob1 ob' _ f h ht3 ho k
     obtain⟨h3,h4⟩:=hv h1
     exact⟨h4,⟨fun hq r hm a w hs=>dp i v hs hi (fun a' hs'=>h2.go hq r hm a' w hs') (fun c v a w hp=>(hq r c _ _ hp).elim) ht1 ht2 hg h3⟩⟩
    ·obtain⟨h1,h2⟩:=zUI is _ S' ob ob' _ f h ht3 ho k
     exact⟨h1,⟨fun hq r hm a w hs=>dk i hs hi (fun a' hs'=>h2.go hq r hm a' w hs') (fun c v a w hp=>(hq r c _ _ hp).elim) ht1 ht2 hg⟩⟩
theorem qB{S':Sl}{ob:List Ob}(f:Nat)(is:List Nat)(hr:runD os is S []=some (S',ob))(h:J P n X Q (.dr os B Jj f (z7o li is)) S' Ls F m)
  (hf:fuel=f+is.length:=by rfl) (hk:zZC os B n li is=true:=by kernel_rfl) (ho:zXg P ob=true:=by kernel_rfl):J P n X Q (.dr os B Jj fuel li) S Ls F m :=
 hf▸(zUI is S S' [] ob li f hr hk ho h).2
theorem yR{op:Op}(i:Nat)(v:Value)(hi:os[i]?=some ⟨some d,op,ty,pos,af,g⟩)(h:J P n X Q (.dr os B Jj fuel (li.setIfInBounds i true)) ((d,v)::S) Ls F m)
  (hk:vE os B li i=true:=by kernel_rfl) (hd:Nat.blt d n=true:=by kernel_rfl) (hg:zQ os S g=some true:=by kernel_rfl) (hv:pv P S op=some v:=by kernel_rfl):J P n X Q (.dr os B Jj (fuel+1) li) S Ls F m :=
 ⟨fun hq r hm a w hs=>dp i v hs hi (fun a' hs'=>h.go hq r hm a' w hs') (fun c v a w hp=>(hq r c _ _ hp).elim) hk hd hg hv⟩
theorem wE{s f b o:Nat}(i off:Nat)(hi:os[i]?=some ⟨some d,.fieldAddr s x f,ty,pos,af,g⟩)(hx:zK S x=some (pt b o))(h:J P n X Q (.dr os B Jj fuel (li.setIfInBounds i true)) ((d,pt b (o+off))::S) Ls F m)
  (hf:zXb P s f=some off:=by kernel_rfl) (hk:vE os B li i=true:=by kernel_rfl) (hd:Nat.blt d n=true:=by kernel_rfl) (hg:zQ os S g=some true:=by kernel_rfl):J P n X Q (.dr os B Jj (fuel+1) li) S Ls F m :=
 ⟨fun hq r hm a w hs=>dp i _ hs hi (fun a' hs'=>h.go hq r hm a' w hs') (fun c v a w hp=>(hq r c _ _ hp).elim) hk hd hg (by simp[pv,hx,hf])⟩
theorem tA{op:Op}{v:Value}(i:Nat)(hi:os[i]?=some ⟨some d,op,ty,pos,af,g⟩)(hv:∀ {a:Act},zY a n S->∀ w',(execOp a.eval ⟨some d,op,ty,pos,af,g⟩).run P w'=.ok (.value v) w')(h:J P n X Q (.dr os B Jj fuel (li.setIfInBounds i true)) ((d,v)::S) Ls F m)
  (hk:vE os B li i=true:=by kernel_rfl) (hd:Nat.blt d n=true:=by kernel_rfl) (hg:zQ os S g=some true:=by kernel_rfl):J P n X Q (.dr os B Jj (fuel+1) li) S Ls F m :=
 ⟨fun hq r hm a w hs=>dv i hs hi (hv hs.s) (fun a' hs'=>h.go hq r hm a' w hs') (fun c v a w hp=>(hq r c _ _ hp).elim) hk hd hg⟩
theorem yA{b o:Nat}{c:List Value}{te:TypeId}{fr:Nat×Nat}{v:Value}(i q:Nat)(hi:os[i]?=some ⟨some d,.load t x,ty,pos,af,g⟩)(hx:zK S x=some (pt b o))(hr:Ls[q]?=some [(b,.cells c.toArray te fr)])(hv:z6J c o some=some v)(h:J P n X Q (.dr os B Jj fuel (li.setIfInBounds i true)) ((d,v)::S) Ls F m)
  (ht:wX P t=some (false,1):=by kernel_rfl) (hb:B.all (fun j=>behind os i os.size j)=true:=by kernel_rfl) (hJ:Jj.contains q=true:=by kernel_rfl)
  (hk:vE os B li i=true:=by kernel_rfl) (hd:Nat.blt d n=true:=by kernel_rfl) (hg:zQ os S g=some true:=by kernel_rfl):J P n X Q (.dr os B Jj (fuel+1) li) S Ls F m :=
 ⟨fun hq r hm a w hs=>dlo i q v hs hi hx hr (fun a' hs'=>h.go hq r hm a' w hs') (by
  rw[zZO] at hv
  have hv':c[o]?=some v:=by cases hc:c[o]? <;> simp_all
  have hlt:=(Qg.1 hv').1
  unfold zMl
  rw[ht]
  have:Nat.ble (o+1) c.toArray.size=true:=by rw[Wd,Q1];exact hlt
  simp only[this,Qc,z54]
  grind [List.drop_eq_getElem_cons,tZ]) hb hJ (fun c v a w hp=>(hq r c _ _ hp).elim) hk hd hg⟩
theorem xV{b o:Nat}{c:List Value}{te:TypeId}{fr:Nat×Nat}{cs:List Value}(i q k:Nat)(hi:os[i]?=some ⟨some d,.load t x,ty,pos,af,g⟩)(hx:zK S x=some (pt b o))(hr:Ls[q]?=some [(b,.cells c.toArray te fr)])(hv:z2L o c (fun l=>z0h k l some)=some cs)(h:J P n X Q (.dr os B Jj fuel (li.setIfInBounds i true)) ((d,.agg cs.toArray)::S) Ls F m)
  (ht:wX P t=some (true,k):=by kernel_rfl) (hb:B.all (fun j=>behind os i os.size j)=true:=by kernel_rfl) (hJ:Jj.contains q=true:=by kernel_rfl)
  (hk:vE os B li i=true:=by kernel_rfl) (hd:Nat.blt d n=true:=by kernel_rfl) (hg:zQ os S g=some true:=by kernel_rfl):J P n X Q (.dr os B Jj (fuel+1) li) S Ls F m :=
 ⟨fun hq r hm a w hs=>dlo i q (.agg cs.toArray) hs hi hx hr (fun a' hs'=>h.go hq r hm a' w hs') (by
  obtain⟨h1,h2⟩:=zZy hv
  obtain⟨h3,h4⟩:=zZL h1
  rw[Uj] at h4
  unfold zMl
  rw[ht]
  have:Nat.ble (o+k) c.toArray.size=true:=by rw[Wd];simp;omega
  simp only[this,Qc,z54,tZ]
  grind) hb hJ (fun c v a w hp=>(hq r c _ _ hp).elim) hk hd hg⟩
section
variable {τ ω:Type}{e:E τ}{ef:E ω}{te:TypeId}{r:zG}{p0:Option Addr}{c k0:Nat}{z:List τ}{ix j:Int}{lo hi:Option Operand}{vlo vhi:Option Value}
theorem jdi{f:τ->Option ρ}(i k:Nat)(hi:os[i]?=some ⟨some d,.indexAddr t x y,ty,pos,af,g⟩)(hF:vW F k=R e p0 c k0 z)(hx:zK S x=some (.slice p0 k0 c))(hy:zK S y=some (.int kd ix))
  (h:∀ u b o,J P n X Q (.dr os B Jj fuel (li.setIfInBounds i true)) ((d,pt b o)::S) Ls (Pt e b o u::F) (f u))
  (ht:wY P t=some e.n:=by kernel_rfl) (hk:vE os B li i=true:=by kernel_rfl) (hd:Nat.blt d n=true:=by kernel_rfl) (hg:zQ os S g=some true:=by kernel_rfl) :
  J P n X Q (.dr os B Jj (fuel+1) li) S Ls F ((zB z ix).bind f) :=
 ⟨fun hq r hm a w hs=>by
  obtain⟨u,h1,h2⟩:=xQ hm
  exact dir i hs hi (hF▸hs.g k) hx hy h1 (fun b o a h'=>(h u b o).go hq r h2 a w h') ht (fun c v a w hp=>(hq r c _ _ hp).elim) hk hd hg⟩
theorem jdl{b o:Nat}{u:τ}(i:Nat)(ag:Bool)(op:uO e)(hi:os[i]?=some ⟨some d,.load t x,ty,pos,af,g⟩)(hP:wO Ls F (Pt e b o u))(hx:zK S x=some (pt b o))
  (h:op.op u [] F fun cs F'=>mkC ag cs fun v=>J P n X Q (.dr os B Jj fuel (li.setIfInBounds i true)) ((d,v)::S) Ls F' m) (ht:wX P t=some (ag,e.n):=by kernel_rfl) (hag:ag=true∨e.n=1:=by first | exact .inl rfl | exact .inr rfl)
  (hb:B.all (fun j=>behind os i os.size j)=true:=by kernel_rfl) (hk:vE os B li i=true:=by kernel_rfl) (hd:Nat.blt d n=true:=by kernel_rfl) (hg:zQ os S g=some true:=by kernel_rfl):J P n X Q (.dr os B Jj (fuel+1) li) S Ls F m :=
 ⟨fun hq r hm a w hs=>dlp i ag hs hi (hP _ _ hs.o hs.f) hx (fun ci hc v hv a h'=>by
  obtain⟨F',h1,h2⟩:=op.spec hc h'.f h
  rw[QB] at h1
  exact(zWD h1 hv).go hq r hm a w ⟨h'.s,h'.o,h'.e,h2⟩) ht hag hb (fun c v a w hp=>(hq r c _ _ hp).elim) hk hd hg⟩
theorem jdI{f:τ->Option ρ}(i k:Nat)(hi:os[i]?=some ⟨some d,.indexAddr t x y,ty,pos,af,g⟩)(hF:vW F k=Ar e te r p0 c k0 z)(hx:zK S x=some (.slice p0 k0 c))(hy:zK S y=some (.int kd ix))
  (h:∀ u,zB z ix=some u->∀ b o,p0=some ⟨b,o,none⟩->J P n X Q (.dr os B Jj fuel (li.setIfInBounds i true)) ((d,pt b (o+ix.toNat*e.n))::S) Ls F (f u))
  (ht:wY P t=some e.n:=by kernel_rfl) (hk:vE os B li i=true:=by kernel_rfl) (hd:Nat.blt d n=true:=by kernel_rfl) (hg:zQ os S g=some true:=by kernel_rfl) :
  J P n X Q (.dr os B Jj (fuel+1) li) S Ls F ((zB z ix).bind f) :=
 ⟨fun hq r hm a w hs=>by
  obtain⟨u,h1,h2⟩:=xQ hm
  exact dia i hs hi (hF▸hs.g k) hx hy h1 (fun b o hp a h'=>(h u h1 b o hp).go hq r h2 a w h') ht (fun c v a w hp=>(hq r c _ _ hp).elim) hk hd hg⟩
theorem jdL{b o:Nat}{u:τ}(i ri k:Nat)(s:xM e ef)(ag:Bool)(op:uO ef)(hi:os[i]?=some ⟨some d,.load t x,ty,pos,af,g⟩)(hF:vW F k=Ar e te r p0 c k0 z)(hp:p0=some ⟨b,o,none⟩)(hm0:zB z ix=some u)(hx:zK S x=some (pt b (o+ix.toNat*e.n+s.off)))
  (h:op.op (s.get u) [] F fun cs F'=>mkC ag cs fun v=>J P n X Q (.dr os B Jj fuel (li.setIfInBounds i true)) ((d,v)::S) Ls F' m) (hr:Ls[ri]?=some r:=by rfl) (ht:wX P t=some (ag,ef.n):=by kernel_rfl) (hag:ag=true∨ef.n=1:=by first | exact .inl rfl | exact .inr rfl)
  (hb:B.all (fun j=>behind os i os.size j)=true:=by kernel_rfl) (hJ:Jj.contains ri=true:=by kernel_rfl) (hk:vE os B li i=true:=by kernel_rfl) (hd:Nat.blt d n=true:=by kernel_rfl) (hg:zQ os S g=some true:=by kernel_rfl):J P n X Q (.dr os B Jj (fuel+1) li) S Ls F m :=
 ⟨fun hq r hm a w hs=>dla i ri s ag hs hi (hF▸hs.g k) hp hm0 hx (fun ci hc v hv a h'=>by
  obtain⟨F',h1,h2⟩:=op.spec hc h'.f h
  rw[QB] at h1
  exact(zWD h1 hv).go hq r hm a w ⟨h'.s,h'.o,h'.e,h2⟩) hr ht hag hb hJ (fun c v a w hp=>(hq r c _ _ hp).elim) hk hd hg⟩
theorem jdW{f:List τ->Option ρ}{x2:Operand}(i k:Nat)(hi0:os[i]?=some ⟨some d,.slice t x none (some x2) none,ty,pos,af,g⟩)(hF:vW F k=Ar e te r p0 c k0 z)(hx:zK S x=some (.slice p0 k0 c))(hhi:zK S x2=some (.int kd j))
  (h:∀ u,J P n X Q (.dr os B Jj fuel (li.setIfInBounds i true)) ((d,sv p0 u c)::S) Ls (Al e te r p0 c u::F) (f u))
  (ht:wY P t=some e.n:=by kernel_rfl) (hk:vE os B li i=true:=by kernel_rfl) (hd:Nat.blt d n=true:=by kernel_rfl) (hg:zQ os S g=some true:=by kernel_rfl) :
  J P n X Q (.dr os B Jj (fuel+1) li) S Ls F ((sub z 0 j).bind f) :=
 ⟨fun hq r hm a w hs=>by
  obtain⟨u,h1,h2⟩:=xQ hm
  exact z5D i hs hi0 (hF▸hs.g k) hx hhi h1 (fun a h'=>(h u).go hq r h2 a w h') ht (fun c v a w hp=>(hq r c _ _ hp).elim) hk hd hg⟩
theorem jdV{f:Unit->Option ρ}{x2:Operand}(i k:Nat)(hi0:os[i]?=some ⟨some d,.slice t x (some x2) none none,ty,pos,af,g⟩)(hF:vW F k=Ar e te r p0 c k0 z)(hx:zK S x=some (.slice p0 k0 c))(hlo:zK S x2=some (.int kd j))
  (h:∀ u p' c',Vw e.n p0 c k0 j p' (Int.toNat ((k0:Int)-j))->J P n X Q (.dr os B Jj fuel (li.setIfInBounds i true)) ((d,.slice p' (Int.toNat ((k0:Int)-j)) c')::S) Ls F (f u))
  (ht:wY P t=some e.n:=by kernel_rfl) (hk:vE os B li i=true:=by kernel_rfl) (hd:Nat.blt d n=true:=by kernel_rfl) (hg:zQ os S g=some true:=by kernel_rfl) :
  J P n X Q (.dr os B Jj (fuel+1) li) S Ls F ((wV (decide (0≤j)&&decide (j≤(z.length:Int)))).bind f) :=
 ⟨fun hq r hm a w hs=>by
  obtain⟨u,h1,h2⟩:=xQ hm
  exact z3P i hs hi0 (hF▸hs.g k) hx hlo h1 (fun p' c' hv a h'=>(h u p' c' hv).go hq r h2 a w h') ht (fun c v a w hp=>(hq r c _ _ hp).elim) hk hd hg⟩
theorem jdX{f:τ->Option ρ}{p1:Option Addr}{m' c':Nat}{i0:Int}(i k:Nat)(hi0:os[i]?=some ⟨some d,.indexAddr t x y,ty,pos,af,g⟩)(hF:vW F k=Ar e te r p0 c k0 z)(hV:Vw e.n p0 c k0 i0 p1 m')(hx:zK S x=some (.slice p1 m' c'))(hy:zK S y=some (.int kd j))
  (h:∀ u b o,p0=some ⟨b,o,none⟩->zB z (i0+j)=some u->J P n X Q (.dr os B Jj fuel (li.setIfInBounds i true)) ((d,pt b (o+(i0+j).toNat*e.n))::S) Ls F (f u))
  (ht:wY P t=some e.n:=by kernel_rfl) (hk:vE os B li i=true:=by kernel_rfl) (hd:Nat.blt d n=true:=by kernel_rfl) (hg:zQ os S g=some true:=by kernel_rfl) :
  J P n X Q (.dr os B Jj (fuel+1) li) S Ls F ((zYA z i0 j).bind f) :=
 ⟨fun hq r hm a w hs=>by
  obtain⟨u,h1,h2⟩:=xQ hm
  exact z2s i hs hi0 (hF▸hs.g k) hV hx hy h1 (fun b o hp hi a h'=>(h u b o hp hi).go hq r h2 a w h') ht (fun c v a w hp=>(hq r c _ _ hp).elim) hk hd hg⟩
end
theorem qQ (i:Nat)(h:J P n X Q (.fo i os B Jj fuel li) S Ls F m)(hr:Region.ready .any os li=[i]:=by kernel_rfl): J P n X Q (.dr os B Jj (fuel+1) li) S Ls F m :=
 ⟨fun hq r hm a w hs=>by
  obtain⟨o,h1,h2⟩:=h.go hq r hm a w hs
  exact d1 i h1 h2 hr⟩
theorem jd2 (i j:Nat)(h:J P n X Q (.fo i os B Jj fuel li) S Ls F m)(h':J P n X Q (.fo j os B Jj fuel li) S Ls F m)(hr:Region.ready .any os li=[i,j]:=by kernel_rfl): J P n X Q (.dr os B Jj (fuel+1) li) S Ls F m :=
 ⟨fun hq r hm a w hs=>by
  obtain⟨o,h1,h2⟩:=h.go hq r hm a w hs
  obtain⟨o',h1',h2'⟩:=h'.go hq r hm a w hs
  exact d2 i j h1 h1' h2 h2' hr⟩
theorem jd3 (i j k:Nat)(h:J P n X Q (.fo i os B Jj fuel li) S Ls F m)(h':J P n X Q (.fo j os B Jj fuel li) S Ls F m)(h'':J P n X Q (.fo k os B Jj fuel li) S Ls F m)(hr:Region.ready .any os li=[i,j,k]:=by kernel_rfl): J P n X Q (.dr os B Jj (fuel+1) li) S Ls F m :=
 ⟨fun hq r hm a w hs=>by
  obtain⟨o,h1,h2⟩:=h.go hq r hm a w hs
  obtain⟨o',h1',h2'⟩:=h'.go hq r hm a w hs
  obtain⟨o'',h1'',h2''⟩:=h''.go hq r hm a w hs
  exact d3 i j k h1 h1' h1'' h2 h2' h2'' hr⟩
theorem qU{L0:List zG}(h:J P n X Q (.dr os B Jj fuel li) S Ls F m)(hJ:Jj.map (Ls[·]?)=Jj.map (L0[·]?):=by rfl): J P n X Q (.af L0 os B Jj fuel li) S Ls F m :=
 ⟨fun hq r hm a w hs w0 hE=>dn hs hE (h.go hq r hm a w hs) hJ⟩
theorem jdb{L0:List zG}(B' J':List Nat)(h:J P n X Q (.dr os B' J' fuel li) S Ls F m)(hb:B.all (fun j=>!li.getD j false)=false:=by kernel_rfl): J P n X Q (.af L0 os B Jj fuel li) S Ls F m :=
 ⟨fun hq r hm a w hs w0 hE=>db B' J' hs (h.go hq r hm a w hs) hb⟩
end
section
variable {P:Program}{n:Nat}{X:Hd qd}{ρ:Type}{Q:PQ ρ}{S:Sl}{Ls:List zG}{F:List PP}{m:Option ρ}{os:Array Oper}{x:Operand}{p p':yO}{d t:Nat}{ty:TypeId}{pos:String}{af:Array Edge}{g:Option (Nat×Bool)}
theorem jfl0{b o:Nat}{c:List Value}{te:TypeId}{fr:Nat×Nat}{v:Value}(at0:At Ls p os ⟨some d,.load t x,ty,pos,af,g⟩ p')(i:Nat)(hx:zK S x=some (pt b o))(hr:Ls[i]?=some [(b,.cells c.toArray te fr)])(hv:z6J c o some=some v)(h:J P n X Q p' ((d,v)::S) Ls F m)
  (ht:wX P t=some (false,1):=by kernel_rfl) (hd:Nat.blt d n=true:=by kernel_rfl) (hg:zQ os S g=some true:=by kernel_rfl):J P n X Q p S Ls F m :=
 ⟨fun hq r hm a w hs=>at0.run fun K hK=>zMJ i v hs hx hr (fun a h'=>hK (zT.refl _ _) (h.go hq r hm a w h')) (by
  rw[zZO] at hv
  have hv':c[o]?=some v:=by cases hc:c[o]? <;> simp_all
  have hlt:=(Qg.1 hv').1
  unfold zMl
  rw[ht]
  have:Nat.ble (o+1) c.toArray.size=true:=by rw[Wd,Q1];exact hlt
  simp only[this,Qc,z54]
  grind [List.drop_eq_getElem_cons,tZ]) hd hg⟩
end
end Go.GD
