/- A part. Conditions: none. -/
import Derived.Test.YtcoildnkgkbjfaaGreatDoorJ5
namespace Go.GD
open Go Go.RowKit
set_option autoImplicit false
set_option linter.unusedVariables false
variable {qd:Prop}
structure vE (F:List PP)(f:PP): Prop where
 h:∃ k,uL F k=f
structure yG (Ls:List zH)(i:Nat)(r:zH): Prop where
 h:Ls[i]?=some r
section
variable {F:List PP}{f g:PP}{Ls:List zH}{r s:zH}{i:Nat}
theorem vE.y:vE (f::F) f:=⟨0,rfl⟩
theorem vE.n (h:vE F f): vE (g::F) f:=⟨h.h.elim fun k hk=>⟨k+1,hk⟩⟩
theorem yG.y:yG (r::Ls) 0 r:=⟨rfl⟩
theorem yG.n (h:yG Ls i r): yG (s::Ls) (i+1) r:=⟨by simpa using h.h⟩
inductive tH (Ls:List zH): Nat->List Nat->List zH->Prop
 | n {k:Nat}:tH Ls k [] []
 | c {k i:Nat} {js:List Nat} {r:zH} {L:List zH} (h:yG Ls i r) (t:tH Ls k js L):tH Ls k (i::js) (r::L)
 | z {k:Nat} {js:List Nat} {L:List zH} (t:tH Ls (k+1) js L) (h:Nat.ble Ls.length (k+900)=true):tH Ls k ((k+900)::js) ([]::L)
theorem tH.eq{k:Nat}{js:List Nat}{L:List zH}(h:tH Ls k js L): uT Ls js=L:=by
 induction h with
 | n=>rfl
 | c h _ ih=>rw[uT,QY,←uT,ih];simp[List.getD,h.h]
 | z _ h ih=>rw[uT,QY,←uT,ih];rw[U6] at h;simp[List.getD,List.getElem?_eq_none h]
end
inductive NEr:zH->Prop
 | nil:NEr []
 | any {r:zH}:NEr r
inductive BX (Ls:List zH): List zH->Prop
 | any {L:List zH}:BX Ls L
theorem BX.n{Ls:List zH}: BX Ls []:=.any
theorem BX.s{Ls L:List zH}(t:BX Ls L.tail): BX Ls L:=.any
theorem BX.m{Ls L:List zH}{r:zH}{i:Nat}(t:BX Ls L)(hne:NEr r:=by(fail_if_success exact NEr.nil);exact NEr.any)(h:yG Ls i r:=by(repeat (first | exact yG.y | apply yG.n));(first | done | fail)): BX Ls (r::L):=.any
class Sh (t:TypeId)(ag:outParam Bool)(k:outParam Nat): Prop
class Ty (t:TypeId){τ:outParam Type}(e:outParam (E τ))(op:outParam (yI e))(ag:outParam Bool): Prop
class Fs (s:TypeId)(os:outParam (List Nat)): Prop
class Zr (t:TypeId)(v:outParam Value): Prop
class Se (t:TypeId)(te:outParam TypeId){τ:outParam Type}(e:outParam (E τ)): Prop
class It (t:TypeId)(k:outParam IntKind): Prop
class Cn (f:FuncId)(i:Nat)(p:outParam Prop): Prop where
 h:p
section
variable {β:Type}
def pvX (S:Sl)(op:Op)(ob:List Ob)(kk:List Ob->Value->Option β): Option β:=match op with
 | .pick c a b=>zTO S c fun u=>match u with
  | .bool true=>zTO S a (kk ob)
  | .bool false=>zTO S b (kk ob)
  | _=>none
 | op=>pvC S op ob kk
def z5O (os:Array Oper): Nat->List Oper->Sl->List Ob->Option (Sl×List Oper×List Ob)
 | 0,l,S,ob=>some (S,l,ob)
 | _+1,[],S,ob=>some (S,[],ob)
 | k+1,o::l,S,ob=>match o.dst with
  | none=>some (S,o::l,ob)
  | some d=>match guC os S o.guard (pvX S o.op ob fun ob v=>z5O os k l ((d,v)::S) ob) (z5O os k l ((d,undef)::S) ob) with
   | some r=>some r
   | none=>some (S,o::l,ob)
end
theorem zZg{β:Type}{P:Program}{S:Sl}{op:Op}{ob:List Ob}{kk:List Ob->Value->Option β}{r:β}(h:pvX S op ob kk=some r):
  ∃ ob' v,kk ob' v=some r∧(zTA P ob'=true->pv P S op=some v∧zTA P ob=true):=by
 unfold pvX at h
 split at h
 ·rename_i c a b
  rw[zGp] at h
  obtain⟨u,hu,h⟩:=zBK h
  split at h
  ·rw[zGp] at h
   obtain⟨v,hv,h⟩:=zBK h
   exact⟨ob,v,h,fun ho=>⟨by simp[pv,hu,hv],ho⟩⟩
  ·rw[zGp] at h
   obtain⟨v,hv,h⟩:=zBK h
   exact⟨ob,v,h,fun ho=>⟨by simp[pv,hu,hv],ho⟩⟩
  ·cases h
 ·exact zUm h
theorem zML{P:Program}{os:Array Oper}{n:Nat}{Q:Exit->Act->World->Prop}{w:World}: ∀(k:Nat) (l:List Oper) (S S':Sl) (l':List Oper) (ob ob':List Ob) (a:Act),qO a n S->z5O os k l S ob=some (S',l',ob')->
  ((zVd l).all (fun d=>Nat.blt d n)=true)->zTA P ob'=true->(∀ a',qO a' n S'->wpList P os Q l' a' w)->zTA P ob=true∧wpList P os Q l a w
 | 0,l,S,S',l',ob,ob',a,hS,h,_,ho,kk=>by
  simp only[z5O,Qg,Prod.mk.injEq] at h
  obtain⟨rfl,rfl,rfl⟩:=h
  exact⟨ho,kk a hS⟩
 | _+1,[],S,S',l',ob,ob',a,hS,h,_,ho,kk=>by
  simp only[z5O,Qg,Prod.mk.injEq] at h
  obtain⟨rfl,rfl,rfl⟩:=h
  exact⟨ho,kk a hS⟩
 | k+1,o::l,S,S',l',ob,ob',a,hS,h,hd,ho,kk=>by
  simp only[z5O] at h
  split at h
  ·simp only[Qg,Prod.mk.injEq] at h
   obtain⟨rfl,rfl,rfl⟩:=h
   exact⟨ho,kk a hS⟩
  ·rename_i d hod
   simp only[zVd,hod,UD,Qb] at hd
   split at h
   ·rename_i r hr
    cases h
    rcases zUh hr with⟨hg,h⟩ | ⟨hg,h⟩
    ·obtain⟨ob1,v,h,hv⟩:=zZg (P:=P) h
     have key:∀ a,qO a n ((d,v)::S)->zTA P ob1=true∧wpList P os Q l a w:=fun a hS=>zML k l _ S' l' ob1 ob' a hS h hd.2 ho kk
     have h1:=(zML (P:=P) (Q:=Q) k l _ S' l' ob1 ob' _ (hS.put hd.1 v) h hd.2 ho kk).1
     obtain⟨h2,h3⟩:=hv h1
     refine⟨h3,zLN (v:=v) (w':=w) hg hS (zUL hS h2 _ _ _ _ _ w) ?_⟩
     rw[hod]
     exact(key _ (hS.put hd.1 v)).2
    ·have h1:=zML (P:=P) (Q:=Q) k l _ S' l' ob ob' _ (hS.put hd.1 undef) h hd.2 ho kk
     refine⟨h1.1,zNW hg hS ?_⟩
     rw[hod]
     exact h1.2
   ·simp only[Qg,Prod.mk.injEq] at h
    obtain⟨rfl,rfl,rfl⟩:=h
    exact⟨ho,kk a hS⟩
structure LdR (Ls:List zH)(b o:Nat)(v:Value): Prop where
 h:∃(i:Nat) (c:List Value) (te:TypeId) (fr:Nat×Nat),Ls[i]?=some [(b,Obj.cells (List.toArray c) te fr)]∧z3U c o some=some v
structure LdA (Ls:List zH)(b o k:Nat)(cs:List Value): Prop where
 h:∃(i:Nat) (c:List Value) (te:TypeId) (fr:Nat×Nat),Ls[i]?=some [(b,Obj.cells (List.toArray c) te fr)]∧zYM o c (fun l=>zWY k l some)=some cs
section
variable {Ls:List zH}{b o k te:Nat}{fr:Nat×Nat}{c cs:List Value}{v:Value}{r:zH}
theorem LdR.y (h:z3U c o some=some v): LdR ([(b,Obj.cells c.toArray te fr)]::Ls) b o v:=⟨0,c,te,fr,rfl,h⟩
theorem LdR.n (h:LdR Ls b o v): LdR (r::Ls) b o v:=by obtain⟨i,c,te,fr,h1,h2⟩:=h.h;exact⟨i+1,c,te,fr,by simpa using h1,h2⟩
theorem LdA.y (h:zYM o c (fun l=>zWY k l some)=some cs): LdA ([(b,Obj.cells c.toArray te fr)]::Ls) b o k cs:=⟨0,c,te,fr,rfl,h⟩
theorem LdA.n (h:LdA Ls b o k cs): LdA (r::Ls) b o k cs:=by obtain⟨i,c,te,fr,h1,h2⟩:=h.h;exact⟨i+1,c,te,fr,by simpa using h1,h2⟩
end
structure PtP{σ τ:Type}(e0:E σ)(b o0:Nat)(x0:σ)(e:E τ)(o:Nat)(u:τ): Prop where
 h:∀ Z w,zRR e0 Z w ⟨b,o0,none⟩ x0->zRR e Z w ⟨b,o,none⟩ u
structure PtS{τ:Type}(F:List PP)(e:E τ)(b o:Nat)(u:τ): Prop where
 h:∀ Z w,xA F Z w->zRR e Z w ⟨b,o,none⟩ u
section
variable {α β σ τ:Type}{a:E α}{a2:E β}{e0:E σ}{e:E τ}{b o o0:Nat}{x:α×β}{x0:σ}{u:τ}{F:List PP}{f:PP}
theorem PtP.r:PtP e b o u e o u:=⟨fun _ _ h=>h⟩
theorem PtP.l (h:PtP a b o0 x.1 e o u): PtP (qM a a2) b o0 x e o u:=⟨fun Z w h0=>h.h Z w (zRR.fst h0)⟩
theorem PtP.s (h:PtP a2 b (o0+a.n) x.2 e o u): PtP (qM a a2) b o0 x e o u:=⟨fun Z w h0=>h.h Z w (zRR.snd h0)⟩
theorem PtS.y (h:PtP e0 b o0 x0 e o u): PtS (Pt e0 b o0 x0::F) e b o u:=⟨fun Z w hF=>h.h Z w hF.1⟩
theorem PtS.n (h:PtS F e b o u): PtS (f::F) e b o u:=⟨fun Z w hF=>h.h Z w hF.2⟩
end
section
variable {P:Program}{n:Nat}{X:Hd qd}{ρ σ:Type}{Q:PQ ρ}{S S':Sl}{Ls:List zH}{F:List PP}{m m1 m2:Option ρ}{os:Array Oper}{l l':List Oper}{x y:Operand}{p p':yY}{z:Code}
variable {d t:Nat}{ty ty2:TypeId}{pos pos2:String}{af af2:Array Edge}{g g2:Option (Nat×Bool)}{kd:IntKind}{op:Op}
theorem gC{c:Code}(h:J P n X Q (.code c) S Ls F m): J P n X Q (.code c) S Ls F m:=h
theorem gO (h:J P n X Q (.ops os l) S Ls F m): J P n X Q (.ops os l) S Ls F m:=h
theorem gE{e:Exit}(h:J P n X Q (.ex e) S Ls F m): J P n X Q (.ex e) S Ls F m:=h
section
variable {dd:Option Nat}{u:Operand}{lo hi mx:Option Operand}{s f:Nat}{cl:Call}{t3:TypeId}{vs:Array (Nat×Operand)}
theorem gLd (h:J P n X Q (.ops os (⟨dd,.load t x,ty,pos,af,g⟩::l)) S Ls F m): J P n X Q (.ops os (⟨dd,.load t x,ty,pos,af,g⟩::l)) S Ls F m:=h
theorem gSt (h:J P n X Q (.ops os (⟨dd,.store t x y,ty,pos,af,g⟩::l)) S Ls F m): J P n X Q (.ops os (⟨dd,.store t x y,ty,pos,af,g⟩::l)) S Ls F m:=h
theorem gFa (h:J P n X Q (.ops os (⟨dd,.fieldAddr s x f,ty,pos,af,g⟩::l)) S Ls F m): J P n X Q (.ops os (⟨dd,.fieldAddr s x f,ty,pos,af,g⟩::l)) S Ls F m:=h
theorem gIa (h:J P n X Q (.ops os (⟨dd,.indexAddr t x y,ty,pos,af,g⟩::l)) S Ls F m): J P n X Q (.ops os (⟨dd,.indexAddr t x y,ty,pos,af,g⟩::l)) S Ls F m:=h
theorem gIx (h:J P n X Q (.ops os (⟨dd,.index t x y,ty,pos,af,g⟩::l)) S Ls F m): J P n X Q (.ops os (⟨dd,.index t x y,ty,pos,af,g⟩::l)) S Ls F m:=h
theorem gCl (h:J P n X Q (.ops os (⟨dd,.call cl,ty,pos,af,g⟩::l)) S Ls F m): J P n X Q (.ops os (⟨dd,.call cl,ty,pos,af,g⟩::l)) S Ls F m:=h
theorem gSl (h:J P n X Q (.ops os (⟨dd,.slice t x lo hi mx,ty,pos,af,g⟩::l)) S Ls F m): J P n X Q (.ops os (⟨dd,.slice t x lo hi mx,ty,pos,af,g⟩::l)) S Ls F m:=h
theorem gCt (h:J P n X Q (.ops os (⟨dd,.binOp .add t x y t3,ty,pos,af,g⟩::l)) S Ls F m): J P n X Q (.ops os (⟨dd,.binOp .add t x y t3,ty,pos,af,g⟩::l)) S Ls F m:=h
theorem gRm (h:J P n X Q (.ops os (⟨dd,.binOp .rem t x y t3,ty,pos,af,g⟩::l)) S Ls F m): J P n X Q (.ops os (⟨dd,.binOp .rem t x y t3,ty,pos,af,g⟩::l)) S Ls F m:=h
theorem gQu (h:J P n X Q (.ops os (⟨dd,.binOp .quo t x y t3,ty,pos,af,g⟩::l)) S Ls F m): J P n X Q (.ops os (⟨dd,.binOp .quo t x y t3,ty,pos,af,g⟩::l)) S Ls F m:=h
theorem gBx (h:J P n X Q (.ops os (⟨dd,.box t x,ty,pos,af,g⟩::l)) S Ls F m): J P n X Q (.ops os (⟨dd,.box t x,ty,pos,af,g⟩::l)) S Ls F m:=h
theorem gAl (h:J P n X Q (.ops os (⟨dd,.alloc t,ty,pos,af,g⟩::l)) S Ls F m): J P n X Q (.ops os (⟨dd,.alloc t,ty,pos,af,g⟩::l)) S Ls F m:=h
theorem gBs (h:J P n X Q (.ops os (⟨dd,.buildSlice t s vs,ty,pos,af,g⟩::l)) S Ls F m): J P n X Q (.ops os (⟨dd,.buildSlice t s vs,ty,pos,af,g⟩::l)) S Ls F m:=h
theorem gBd (h:J P n X Q (.ops os (⟨dd,.build t vs,ty,pos,af,g⟩::l)) S Ls F m): J P n X Q (.ops os (⟨dd,.build t vs,ty,pos,af,g⟩::l)) S Ls F m:=h
theorem gCv (h:J P n X Q (.ops os (⟨dd,.convert s t x,ty,pos,af,g⟩::l)) S Ls F m): J P n X Q (.ops os (⟨dd,.convert s t x,ty,pos,af,g⟩::l)) S Ls F m:=h
theorem gPk (h:J P n X Q (.ops os (⟨dd,.pick u x y,ty,pos,af,g⟩::l)) S Ls F m): J P n X Q (.ops os (⟨dd,.pick u x y,ty,pos,af,g⟩::l)) S Ls F m:=h
theorem gGu{bb:Bool}(h:J P n X Q (.ops os (⟨dd,op,ty,pos,af,some (s,bb)⟩::l)) S Ls F m): J P n X Q (.ops os (⟨dd,op,ty,pos,af,some (s,bb)⟩::l)) S Ls F m:=h
theorem gRt{fn:Func}{post:ρ->(Value->List zH->List PP->Prop)->Prop}(h:J P n X (zRB P fn X post) (.ex .ret) S Ls F m): J P n X (zRB P fn X post) (.ex .ret) S Ls F m:=h
theorem gNn{I:ρ->tF->Prop}(h:J P n X (jnQ X n I) (.ex .normal) S Ls F m): J P n X (jnQ X n I) (.ex .normal) S Ls F m:=h
theorem gLp{σ ρ:Type}{Q:PQ ρ}{m:Option (σ⊕ρ)}{I:σ->tF->Prop}(h:J P n X (lpQ X n I Q) (.ex .normal) S Ls F m): J P n X (lpQ X n I Q) (.ex .normal) S Ls F m:=h
end
section
variable {bb:Bool}{j:Nat}{o:Oper}{dd:Option Nat}{b:Bool}{u v:Operand}{za zb:Code}
theorem aM{ob:List Ob}(k:Nat)(hr:guC os S g (pvX S op [] fun ob v=>z5O os k l ((d,v)::S) ob) (z5O os k l ((d,undef)::S) [])=some (S',l',ob))(h:J P n X Q (.ops os l') S' Ls F m)
  (hd:(zVd (⟨some d,op,ty,pos,af,g⟩::l)).all (fun d=>Nat.blt d n)=true:=by kernel_rfl) (ho:zTA P ob=true:=by kernel_rfl):J P n X Q (.ops os (⟨some d,op,ty,pos,af,g⟩::l)) S Ls F m :=
 ⟨fun hq r hm a w hs=>(zML (k+1) _ S S' l' [] ob a hs.s (by simp only[z5O];rw[hr]) hd ho fun a' hS=>h.go hq r hm a' w (hs.slot hS)).2⟩
inductive Und:Bool->Prop
 | tt:Und true
 | ff:Und false
 | any {b:Bool}:Und b
theorem aGi (hj:os[j]?=some o)(ht:o.dst=some t)(hl:vG S t=some (.bool b))(h1:J P n X Q (.ops os (⟨dd,op,ty,pos,af,some (j,bb)⟩::l)) ((t,.bool true)::S) Ls F m1)
  (h2:J P n X Q (.ops os (⟨dd,op,ty,pos,af,some (j,bb)⟩::l)) ((t,.bool false)::S) Ls F m2) (hu:Und b:=by(fail_if_success (first | exact Und.tt | exact Und.ff));exact Und.any):J P n X Q (.ops os (⟨dd,op,ty,pos,af,some (j,bb)⟩::l)) S Ls F (if b=true then m1 else m2):=wM t hl h1 h2
theorem aGs (hj:os[j]?=some o)(ht:o.dst=some t)(hl:vG S t=some (.bool b))(h1:b=true->J P n X Q (.ops os (⟨dd,op,ty,pos,af,some (j,bb)⟩::l)) ((t,.bool true)::S) Ls F m)
  (h2:b=false->J P n X Q (.ops os (⟨dd,op,ty,pos,af,some (j,bb)⟩::l)) ((t,.bool false)::S) Ls F m) (hu:Und b:=by(fail_if_success (first | exact Und.tt | exact Und.ff));exact Und.any):J P n X Q (.ops os (⟨dd,op,ty,pos,af,some (j,bb)⟩::l)) S Ls F m:=jsp t hl h1 h2
theorem aPi (hl:vG S t=some (.bool b))(h1:J P n X Q (.ops os (⟨dd,.pick (.tmp t) u v,ty,pos,af,g⟩::l)) ((t,.bool true)::S) Ls F m1)
  (h2:J P n X Q (.ops os (⟨dd,.pick (.tmp t) u v,ty,pos,af,g⟩::l)) ((t,.bool false)::S) Ls F m2) (hu:Und b:=by(fail_if_success (first | exact Und.tt | exact Und.ff));exact Und.any):J P n X Q (.ops os (⟨dd,.pick (.tmp t) u v,ty,pos,af,g⟩::l)) S Ls F (if b=true then m1 else m2):=wM t hl h1 h2
theorem aPs (hl:vG S t=some (.bool b))(h1:b=true->J P n X Q (.ops os (⟨dd,.pick (.tmp t) u v,ty,pos,af,g⟩::l)) ((t,.bool true)::S) Ls F m)
  (h2:b=false->J P n X Q (.ops os (⟨dd,.pick (.tmp t) u v,ty,pos,af,g⟩::l)) ((t,.bool false)::S) Ls F m) (hu:Und b:=by(fail_if_success (first | exact Und.tt | exact Und.ff));exact Und.any):J P n X Q (.ops os (⟨dd,.pick (.tmp t) u v,ty,pos,af,g⟩::l)) S Ls F m:=jsp t hl h1 h2
theorem aCs (hl:vG S t=some (.bool b))(h1:b=true->J P n X Q (.code (.cond (.tmp t) za zb)) ((t,.bool true)::S) Ls F m)
  (h2:b=false->J P n X Q (.code (.cond (.tmp t) za zb)) ((t,.bool false)::S) Ls F m) (hu:Und b:=by(fail_if_success (first | exact Und.tt | exact Und.ff));exact Und.any):J P n X Q (.code (.cond (.tmp t) za zb)) S Ls F m:=jsp t hl h1 h2
end
section
variable {b o:Nat}{c cs:List Value}{te:TypeId}{v:Value}{k i:Nat}{ag:Bool}{r:zH}
theorem aLo[i0:Sh t false 1](hx:zP S x=some (pt b o))(h:J P n X Q (.ops os l) ((d,v)::S) Ls F m)(hr:LdR Ls b o v:=by(repeat (first | exact LdR.y rfl | apply LdR.n));(first | done | fail))
  (ht:uB P t=some (false,1):=by kernel_rfl) (hd:Nat.blt d n=true:=by kernel_rfl) (hg:qC os S g=some true:=by rfl):J P n X Q (.ops os (⟨some d,.load t x,ty,pos,af,g⟩::l)) S Ls F m:=by
 obtain⟨i,c,te,fr,h1,h2⟩:=hr.h
 exact qJ i hx h1 h2 h ht hd hg
theorem aLa[i0:Sh t true k](hx:zP S x=some (pt b o))(h:J P n X Q (.ops os l) ((d,.agg cs.toArray)::S) Ls F m)(hr:LdA Ls b o k cs:=by(repeat (first | exact LdA.y rfl | apply LdA.n));(first | done | fail))
  (ht:uB P t=some (true,k):=by kernel_rfl) (hd:Nat.blt d n=true:=by kernel_rfl) (hg:qC os S g=some true:=by rfl):J P n X Q (.ops os (⟨some d,.load t x,ty,pos,af,g⟩::l)) S Ls F m:=by
 obtain⟨i,c,te,fr,h1,h2⟩:=hr.h
 exact qV i k hx h1 h2 h ht hd hg
theorem aLd{τ:Type}{e:E τ}{op:yI e}{u:τ}[i0:Ty t e op ag](hx:zP S x=some (pt b o))(h:op.op u [] F fun cs F'=>mkC ag cs fun v=>J P n X Q (.ops os l) ((d,v)::S) Ls F' m)
  (hP:PtS F e b o u:=by(repeat (first | (apply PtS.y;(repeat (first | exact PtP.r | (apply PtP.l;(repeat (first | exact PtP.r | (apply PtP.l;(repeat (first | exact PtP.r | apply PtP.s));done) | apply PtP.s));done) | apply PtP.s));done) | apply PtS.n));(first | done | fail))
  (ht:uB P t=some (ag,e.n):=by kernel_rfl) (hag:ag=true∨e.n=1:=by first | exact .inl rfl | exact .inr rfl)
  (hd:Nat.blt d n=true:=by kernel_rfl) (hg:qC os S g=some true:=by rfl):J P n X Q (.ops os (⟨some d,.load t x,ty,pos,af,g⟩::l)) S Ls F m:=tG ag op (fun A w _ hF=>hP.h _ w hF) hx h ht hag hd hg
theorem aFa{s f off:Nat}{ofs:List Nat}[i0:Fs s ofs](hx:zP S x=some (pt b o))(h:J P n X Q (.ops os l) ((d,pt b (o+off))::S) Ls F m)(ho:ofs.getD f 0=off:=by rfl)
  (hf:zRb P s f=some off:=by kernel_rfl) (hd:Nat.blt d n=true:=by kernel_rfl) (hg:qC os S g=some true:=by rfl):J P n X Q (.ops os (⟨some d,.fieldAddr s x f,ty,pos,af,g⟩::l)) S Ls F m:=zO off hx h hf hd hg
theorem aSo (hx:zP S x=some (pt b o))(hy:zP S y=some v)(h:zMy v fun cs=>putC o c cs fun c'=>zRP Ls i (bx b te c') fun Ls'=>J P n X Q (.ops os l) S Ls' F m)(hr:yG Ls i (bx b te c):=by(repeat (first | exact yG.y | apply yG.n));(first | done | fail))
  (hv:zKe P t c.toArray o v=true:=by kernel_rfl) (hg:qC os S g=some true:=by rfl):J P n X Q (.ops os (⟨none,.store t x y,ty,pos,af,g⟩::l)) S Ls F m:=zV .s i hx hy hr.h h hv hg
theorem aBx (hx:zP S x=some v)(h:∀ b,zMy v fun cs=>zM8 Ls (bx b t cs) fun Ls'=>J P n X Q (.ops os l) ((d,pt b 0)::S) Ls' F m)
  (hd:Nat.blt d n=true:=by kernel_rfl) (hg:qC os S g=some true:=by rfl):J P n X Q (.ops os (⟨some d,.box t x,ty,pos,af,g⟩::l)) S Ls F m:=yB .s hx h hd hg
theorem aAl[i0:Zr t v](h:∀ b,zMy v fun cs=>zM8 Ls (bx b t cs) fun Ls'=>J P n X Q (.ops os l) ((d,pt b 0)::S) Ls' F m)
  (hx:zI6 P t=some v:=by kernel_rfl) (hd:Nat.blt d n=true:=by kernel_rfl) (hg:qC os S g=some true:=by rfl):J P n X Q (.ops os (⟨some d,.alloc t,ty,pos,af,g⟩::l)) S Ls F m:=qN .s v h hx hd hg
end
section
variable {τ:Type}{e:E τ}{te:TypeId}{r r2:zH}{p0 q0:Option Addr}{c k0 c2 k2 i:Nat}{z z2:List τ}{ix j:Int}{lo hi:Option Operand}{vlo vhi:Option Value}
theorem aIx{f:τ->Option ρ}(hx:zP S x=some (.slice p0 k0 c))(hy:zP S y=some (.int kd ix))(h:∀ u b o,J P n X Q (.ops os l) ((d,pt b o)::S) Ls (Pt e b o u::F) (f u))
  (hF:vE F (R e p0 c k0 z):=by(repeat (first | exact vE.y | refine vE.n ?_));(first | done | fail)) (ht:uI P t=some e.n:=by kernel_rfl) (hd:Nat.blt d n=true:=by kernel_rfl) (hg:qC os S g=some true:=by rfl) :
  J P n X Q (.ops os (⟨some d,.indexAddr t x y,ty,pos,af,g⟩::l)) S Ls F ((zD z ix).bind f):=by
 obtain⟨k,hk⟩:=hF.h
 exact tA k hk hx hy h ht hd hg
theorem aSl{f:List τ->Option ρ}(hx:zP S x=some (.slice p0 k0 c))(hlo:zQv S lo=some vlo)(hhi:zQv S hi=some vhi)(h:∀ u p' c',J P n X Q (.ops os l) ((d,sv p' u c')::S) Ls (Rl e p' c' u::F) (f u))
  (hF:vE F (R e p0 c k0 z):=by(repeat (first | exact vE.y | refine vE.n ?_));(first | done | fail)) (b1:Bd vlo ix 0:=by first | exact .inl ⟨rfl,rfl⟩ | exact .inr ⟨_,rfl⟩) (b2:Bd vhi j z.length:=by first | exact .inl ⟨rfl,rfl⟩ | exact .inr ⟨_,rfl⟩)
  (ht:uI P t=some e.n:=by kernel_rfl) (hd:Nat.blt d n=true:=by kernel_rfl) (hg:qC os S g=some true:=by rfl) :
  J P n X Q (.ops os (⟨some d,.slice t x lo hi none,ty,pos,af,g⟩::l)) S Ls F ((sub z ix j).bind f):=by
 obtain⟨k,hk⟩:=hF.h
 exact jsl (hk▸gk k) hx hlo hhi b1 b2 h ht hd hg
theorem aSP{f:List τ->Option ρ}{x2:Operand}(hx:zP S x=some (.slice p0 k0 c))(hhi:zP S x2=some (.int kd j))(h:∀ u,J P n X Q (.ops os l) ((d,sv p0 u c)::S) Ls (Al e te r p0 c u::F) (f u))
  (hF:vE F (Ar e te r p0 c k0 z):=by(repeat (first | exact vE.y | refine vE.n ?_));(first | done | fail)) (ht:uI P t=some e.n:=by kernel_rfl) (hd:Nat.blt d n=true:=by kernel_rfl) (hg:qC os S g=some true:=by rfl) :
  J P n X Q (.ops os (⟨some d,.slice t x none (some x2) none,ty,pos,af,g⟩::l)) S Ls F ((sub z 0 j).bind f):=by
 obtain⟨k,hk⟩:=hF.h
 exact jsP k hk hx hhi h ht hd hg
theorem aAr{f:List τ->Option ρ}(hx:zP S x=some (.slice p0 k0 c))(hy:zP S y=some (.slice q0 k2 c2))
  (h:∀ u r' p1 c',zRP Ls i r' fun Ls'=>J P n X Q (.ops os l) ((d,sv p1 u c')::S) Ls' (Al e te r' p1 c' u::F) (f u))
  (hF:vE F (Ar e te r p0 c k0 z):=by(repeat (first | exact vE.y | refine vE.n ?_));(first | done | fail)) (hF2:vE F (R e q0 c2 k2 z2):=by(repeat (first | exact vE.y | refine vE.n ?_));(first | done | fail)) (hr:yG Ls i r:=by(repeat (first | exact yG.y | apply yG.n));(first | done | fail))
  (ht:xL P t te e.n=true:=by kernel_rfl) (hd:Nat.blt d n=true:=by kernel_rfl) (hg:qC os S g=some true:=by rfl) :
  J P n X Q (.ops os (⟨some d,.call { callee:=.builtin .append,args:=[x,y].toArray,argTypes:=[t,t].toArray },ty,pos,af,g⟩::l)) S Ls F ((qT z z2).bind f):=by
 obtain⟨k,hk⟩:=hF.h
 obtain⟨k',hk'⟩:=hF2.h
 exact vK .s i k hk (hk'▸gk k') hx hy h hr.h ht hd hg
theorem aCat{p q:zA}{t2 t3:TypeId}{f:zA->Option ρ}(hx:zP S x=some (vs p))(hy:zP S y=some (vs q))(h:∀ r,J P n X Q (.ops os l) ((d,vs r)::S) Ls F (f r))
  (hd:Nat.blt d n=true:=by kernel_rfl) (hg:qC os S g=some true:=by rfl):J P n X Q (.ops os (⟨some d,.binOp .add t2 x y t3,ty,pos,af,g⟩::l)) S Ls F ((qE p q).bind f) :=
 yW fun r h1=>jv (fun hS=>zJz hS hx hy h1) (h r) hd hg
theorem aSi{s:zA}{f:Int->Option ρ}(hx:zP S x=some (vs s))(hy:zP S y=some (.int kd ix))(h:∀ r,J P n X Q (.ops os l) ((d,.int .u8 r)::S) Ls F (f r))
  (hu:P.underlying t=some .string:=by kernel_rfl) (hd:Nat.blt d n=true:=by kernel_rfl) (hg:qC os S g=some true:=by rfl):J P n X Q (.ops os (⟨some d,.index t x y,ty,pos,af,g⟩::l)) S Ls F ((vR s ix).bind f) :=
 yW fun r h1=>jv (fun hS=>z3f hS hx hy hu h1) (h r) hd hg
theorem aSs{s:zA}{f:zA->Option ρ}(hx:zP S x=some (vs s))(hlo:zQv S lo=some vlo)(hhi:zQv S hi=some vhi)(h:∀ r,J P n X Q (.ops os l) ((d,vs r)::S) Ls F (f r))
  (b1:Bd vlo ix 0:=by first | exact .inl ⟨rfl,rfl⟩ | exact .inr ⟨_,rfl⟩) (b2:Bd vhi j s.length:=by first | exact .inl ⟨rfl,rfl⟩ | exact .inr ⟨_,rfl⟩)
  (hu:P.underlying t=some .string:=by kernel_rfl) (hd:Nat.blt d n=true:=by kernel_rfl) (hg:qC os S g=some true:=by rfl):J P n X Q (.ops os (⟨some d,.slice t x lo hi none,ty,pos,af,g⟩::l)) S Ls F ((sub s ix j).bind f) :=
 yW fun r h1=>jv (fun hS=>zMw hS hx hu hlo hhi b1 b2 h1) (h r) hd hg
theorem aRm{a b:Int}{k:IntKind}{t2 t3:TypeId}{f:Int->Option ρ}(hx:zP S x=some (.int k a))(hy:zP S y=some (.int k b))(h:∀ r,J P n X Q (.ops os l) ((d,.int k r)::S) Ls F (f r))
  (hd:Nat.blt d n=true:=by kernel_rfl) (hg:qC os S g=some true:=by rfl):J P n X Q (.ops os (⟨some d,.binOp .rem t2 x y t3,ty,pos,af,g⟩::l)) S Ls F ((z4q a b).bind f) :=
 yW fun r h1=>jv (fun hS=>z5b hS hx hy h1) (h r) hd hg
theorem aQu{a b:Int}{k:IntKind}{t2 t3:TypeId}{f:Int->Option ρ}(hx:zP S x=some (.int k a))(hy:zP S y=some (.int k b))(h:∀ r,J P n X Q (.ops os l) ((d,.int k r)::S) Ls F (f r))
  (hd:Nat.blt d n=true:=by kernel_rfl) (hg:qC os S g=some true:=by rfl):J P n X Q (.ops os (⟨some d,.binOp .quo t2 x y t3,ty,pos,af,g⟩::l)) S Ls F ((z3i k a b).bind f) :=
 yW fun r h1=>jv (fun hS=>z1p hS hx hy h1) (h r) hd hg
end
section
variable {β:Type}
def overO:List Value->List Value->(List Value->Option β)->Option β
 | l,[],k=>k l
 | [],_::_,_=>none
 | _::l,v::vs,k=>overO l vs fun l'=>k (v::l')
def putO:Nat->List Value->List Value->(List Value->Option β)->Option β
 | 0,l,v,k=>overO l v k
 | _+1,[],_,_=>none
 | o+1,a::l,v,k=>putO o l v fun l'=>k (a::l')
def nthO:List Nat->Nat->(Nat->Option β)->Option β
 | [],_,_=>none
 | a::_,0,k=>k a
 | _::l,i+1,k=>nthO l i k
def z6B (v:Value)(k:List Value->Option β): Option β:=match v with
 | .agg ⟨cs⟩=>k cs
 | v=>k [v]
def appO:List Value->List Value->(List Value->Option β)->Option β
 | [],l,k=>k l
 | a::m,l,k=>appO m l fun l'=>k (a::l')
end
def bldC (S:Sl)(ofs:List Nat): List (Nat×Operand)->List Value->Option (List Value)
 | [],cs=>some cs
 | (j,x)::r,cs=>zTO S x fun u=>nthO ofs j fun o=>z6B u fun vs=>putO o cs vs fun cs'=>bldC S ofs r cs'
def bsC (S:Sl): List (Nat×Operand)->Nat->(List Value->Option (List Value))->Option (List Value)
 | [],_,k=>k []
 | (j,x)::r,i,k=>bif Nat.beq j i then zTO S x fun u=>bsC S r (i+1) fun cs=>z6B u fun vs=>appO vs cs k else none
section
variable {parts:List (Nat×Operand)}{ofs:List Nat}{zc cs:List Value}{k0:Nat}{te:TypeId}{τ:Type}{e:E τ}{z:List τ}
theorem aBd[i0:Fs t ofs][i1:Zr t (.agg zc.toArray)](h:J P n X Q (.ops os l) ((d,.agg cs.toArray)::S) Ls F m)(hb:bldC S ofs parts zc=some cs:=by rfl)(hv:pv P S (.build t parts.toArray)=some (.agg cs.toArray):=by kernel_rfl)
  (hd:Nat.blt d n=true:=by kernel_rfl) (hg:qC os S g=some true:=by rfl):J P n X Q (.ops os (⟨some d,.build t parts.toArray,ty,pos,af,g⟩::l)) S Ls F m:=zL _ h hv hd (hg)
theorem aCv{a:Int}{k k1:IntKind}{s t2:TypeId}[i0:It t2 k](hx:zP S x=some (.int k1 a))(h:J P n X Q (.ops os l) ((d,.int k (k.wrap a))::S) Ls F m)(hv:pv P S (.convert s t2 x)=some (.int k (k.wrap a)):=by kernel_rfl)
  (hd:Nat.blt d n=true:=by kernel_rfl) (hg:qC os S g=some true:=by rfl):J P n X Q (.ops os (⟨some d,.convert s t2 x,ty,pos,af,g⟩::l)) S Ls F m:=zL _ h hv hd hg
theorem avQ{α β:Type}{a:E α}{b:E β}{cs:List Value}{x1:α}{x2:β}(h:RV a Ls F (cs.take a.n) x1)(k:RV b Ls F (cs.drop a.n) x2): RV (qM a b) Ls F cs (x1,x2):=vP h k
theorem avN{p:Option Addr}{c:Nat}: RV (wJ e) Ls F [.slice p 0 c] []:=vL gn
theorem avF{p:Option Addr}{c m:Nat}(h:vE F (R e p c m z)): RV (wJ e) Ls F [.slice p m c] z:=vL (by obtain⟨k,hk⟩:=h.h;exact hk▸gk k)
theorem aBs[i0:Se t te e](h:∀ p1 c',J P n X Q (.ops os l) ((d,sv p1 z c')::S) Ls (Rl e p1 c' z::F) m)(hb:bsC S parts 0 some=some cs:=by rfl)
  (hrd:RD e Ls F cs z:=by(repeat' (first | exact rN | apply rC | exact vI | exact vB | exact vS | exact vU | exact avN | apply avQ | apply avF | exact vE.y | apply vE.n));(first | done | fail))
  (ht:xL P t te e.n=true:=by kernel_rfl) (hc:zJ5 P S t k0 parts=some cs:=by kernel_rfl) (hl:z.length=k0:=by rfl) (hd:Nat.blt d n=true:=by kernel_rfl) (hg:qC os S g=some true:=by rfl) :
  J P n X Q (.ops os (⟨some d,.buildSlice t k0 parts.toArray,ty,pos,af,g⟩::l)) S Ls F m:=uR .s te cs z hrd h ht hc hl hd hg
end
theorem wZ.f{f:PP}(h:vE F f): wZ Ls F f:=by obtain⟨k,hk⟩:=h.h;exact hk▸gk k
theorem wZ.zz{τ:Type}{e:E τ}{te:TypeId}: wZ Ls F (Ar e te [] none 0 0 []):=fun _ _ _ _=>⟨.inl ⟨rfl,rfl,rfl,rfl⟩,rfl⟩
theorem wZ.fa{f:PP}(h:vE F f:=by(repeat (first | exact vE.y | refine vE.n ?_));(first | done | fail)): wZ Ls F f:=wZ.f h
theorem wZ.ga{τ:Type}{e:E τ}{p:Option Addr}{c m:Nat}{l:List τ}(h:vE F (R e p c m l):=by(repeat (first | exact vE.y | refine vE.n ?_));(first | done | fail)): wZ Ls F (R e p c (List.length l) l):=gl (wZ.f h)
theorem wZ.gA{τ:Type}{e:E τ}{te:TypeId}{r:zH}{p:Option Addr}{c m:Nat}{l:List τ}(h:vE F (Ar e te r p c m l):=by(repeat (first | exact vE.y | refine vE.n ?_));(first | done | fail)): wZ Ls F (Ar e te r p c (List.length l) l):=gL (wZ.f h)
theorem wZ.pp{τ:Type}{e:E τ}{b o:Nat}{u:τ}(h:PtS F e b o u): wZ Ls F (Pt e b o u):=fun A w _ hF=>h.h _ w hF
theorem xT.cc{p:PP->Prop}{f:PP}{F:List PP}(h:p f)(t:xT p F): xT p (f::F):=⟨h,t⟩
theorem xT.nn{p:PP->Prop}: xT p []:=trivial
inductive SE:Sl->Sl->Prop
 | n:SE [] []
 | c {d:Nat} {v v':Value} {l l':Sl} (h:v=v') (t:SE l l'):SE ((d,v)::l) ((d,v')::l')
theorem SE.ca{d:Nat}{v v':Value}{l l':Sl}(t:SE l l')(h:v=v':=by first | (simp only[*];done) | (simp[*];done)): SE ((d,v)::l) ((d,v')::l'):=.c h t
theorem SE.eq{S S':Sl}(h:SE S S'): S=S':=by
 induction h with
 | n=>rfl
 | c h _ ih=>rw[h,ih]
theorem gvA{I:tF->Prop}{S1 S2:Sl}{L2:List zH}{F2:List PP}{js:List Nat}(hk:∀ K,I K->K S2 L2 F2)(hS:zQ8 S (S2.map Prod.fst)=some S1:=by rfl)
  (hE:SE S1 S2:=by(repeat (first | exact SE.n | apply SE.c rfl | refine SE.ca ?_));(first | done | fail))
  (hX:BX Ls L2:=by(repeat (first | exact BX.n | refine BX.m ?_ | refine BX.s ?_));(first | done | fail)) (hF:xT (wZ Ls F) F2:=by(repeat' (first | exact xT.nn | refine xT.cc ?_ ?_ | exact gn | exact wZ.zz | exact wZ.fa | exact wZ.ga | exact wZ.gA));(first | done | fail))
  (hL:tH Ls 0 js L2:=by(repeat' (first | exact tH.n | exact yG.y | apply tH.z _ rfl | apply tH.c | apply yG.n));(first | done | fail)) (hn:js.Nodup:=by decide):Gv Ls S F I:=by
 cases hE.eq
 exact gv hk js hF hL.eq hS hn
inductive Lnt (Ls:List zH)(F:List PP): List PP->List Nat->Prop
 | n:Lnt Ls F [] []
 | c {f:PP} {F1:List PP} {ls:List Nat} (h:vE F f) (t:Lnt Ls F F1 ls):Lnt Ls F (f::F1) ls
 | e {τ:Type} {e:E τ} {p:Option Addr} {c:Nat} {F1:List PP} {ls:List Nat} (t:Lnt Ls F F1 ls):Lnt Ls F (R e p c 0 []::F1) ls
 | l {τ:Type} {e:E τ} {te:TypeId} {r:zH} {p:Option Addr} {c m i:Nat} {z:List τ} {F1:List PP} {ls:List Nat} (h:vE F (Ar e te r p c m z)) (hi:yG Ls i r) (t:Lnt Ls F F1 ls):Lnt Ls F (R e p c m z::F1) (i::ls)
theorem Lnt.ca{f:PP}{F1:List PP}{ls:List Nat}(t:Lnt Ls F F1 ls)(h:vE F f:=by(repeat (first | exact vE.y | refine vE.n ?_));(first | done | fail)): Lnt Ls F (f::F1) ls:=.c h t
theorem Lnt.ok{F1:List PP}{ls ls0 js:List Nat}(h:Lnt Ls F F1 ls)(hk:zZe (js++ls0) Ls.length=true): (∀ i∈ls,i∈ls0)->xT (OKc Ls F js ls0) F1:=by
 induction h with
 | n=>exact fun _=>trivial
 | c h _ ih=>exact fun hs=>⟨by obtain⟨k,hk⟩:=h.h;exact hk▸ck k,ih hs⟩
 | e _ ih=>exact fun hs=>⟨cn,ih hs⟩
 | l h hi _ ih=>exact fun hs=>⟨by obtain⟨k,hk'⟩:=h.h;exact cl _ k hk hi.h hk' (by simpa using hs _ (Qz ..)),ih fun i hi=>hs i (Qq _ hi)⟩
theorem aC0 (ci:Nat){fd:FuncId}{pp:Prop}{cal:Operand}{xs:Array Operand}{ats:Array TypeId}{bs0 caps:Array Value}[i0:Cn fd ci pp](hcal:zP S cal=some (.func (.func fd) bs0 caps))
  (h:pp->J P n X Q (.ops os (⟨some d,.call { callee:=.value cal,args:=xs,argTypes:=ats },ty,pos,af,g⟩::l)) S Ls F m):J P n X Q (.ops os (⟨some d,.call { callee:=.value cal,args:=xs,argTypes:=ats },ty,pos,af,g⟩::l)) S Ls F m:=h i0.h
theorem aCa{fd:FuncId}{cal:Operand}{xs:List Operand}{bs0 caps:List Value}{ats:Array TypeId}{us vs:List Value}{L:List zH}{F1:List PP}{m1:Option σ}{post:σ->(Value->List zH->List PP->Prop)->Prop}{f:σ->Option ρ}{js ls:List Nat}
  (c:zN qd P fd vs L F1 m1 post) (hcal:zP S cal=some (.func (.func fd) bs0.toArray caps.toArray)) (hx:zZR S xs=some us) (hv:bs0++us++caps=vs)
  (h:∀ r K,(∀ {v L1 F1},z1N ls js L1 Ls F1 F (fun Ls' F'=>J P n X Q (.ops os l) ((d,v)::S) Ls' F' (f r))->K v L1 F1)->post r K)
  (hX:BX Ls L:=by(repeat (first | exact BX.n | refine BX.m ?_ | refine BX.s ?_));(first | done | fail)) (hF:Lnt Ls F F1 ls:=by(repeat' (first | exact Lnt.n | exact vE.y | exact yG.y | (apply Lnt.c;focus ((repeat (first | exact vE.y | refine vE.n ?_));(first | done | fail))) | apply Lnt.e | apply Lnt.l | refine vE.n ?_ | apply yG.n));(first | done | fail))
  (hL:tH Ls 0 js L:=by(repeat' (first | exact tH.n | exact yG.y | apply tH.z _ rfl | apply tH.c | apply yG.n));(first | done | fail)) (hk:zZe (js++ls) Ls.length=true:=by rfl) (hd:Nat.blt d n=true:=by kernel_rfl) (hg:qC os S g=some true:=by rfl) :
  J P n X Q (.ops os (⟨some d,.call { callee:=.value cal,args:=xs.toArray,argTypes:=ats },ty,pos,af,g⟩::l)) S Ls F (m1.bind f) :=
 qA .s js ls c hcal hx hv (hF.ok hk fun _ h=>h) h hL.eq hk hd hg
theorem aR1{fn:Func}{post:ρ->(Value->List zH->List PP->Prop)->Prop}{r:ρ}{v v1:Value}{L1:List zH}{F1:List PP}{js:List Nat}(hf:fn.results=#[.tmp t])(hv:vG S t=some v)(hk:∀ K,post r K->K v1 L1 F1)
  (he:v=v1:=by first | rfl | (simp only[sv,Uy] <;> rfl)) (hX:BX Ls L1:=by(repeat (first | exact BX.n | refine BX.m ?_ | refine BX.s ?_));(first | done | fail)) (hF:xT (wZ Ls F) F1:=by(repeat' (first | exact xT.nn | refine xT.cc ?_ ?_ | exact gn | exact wZ.zz | exact wZ.fa | exact wZ.ga | exact wZ.gA));(first | done | fail))
  (hL:tH Ls 0 js L1:=by(repeat' (first | exact tH.n | exact yG.y | apply tH.z _ rfl | apply tH.c | apply yG.n));(first | done | fail)) (hn:js.Nodup:=by decide):J P n X (zRB P fn X post) (.ex .ret) S Ls F (some r):=xJ hf hv hk js hF he hL.eq hn
theorem lR{b te:Nat}{c:List Value}{fr:Nat×Nat}{rs:List ResultVar}{vs:List Value}{i:Nat}{v:Value}[i0:Sh ty false 1](hl:vG S t=some (pt b 0))(hr:yG Ls i [(b,.cells c.toArray te fr)])(hv:z3U c 0 some=some v)(k:RL P S Ls rs vs)(hv2:zI2 P ty c.toArray 0=some v:=by kernel_rfl): RL P S Ls (.cell t ty::rs) (v::vs):=lC i v hl hr.h k hv2
theorem lA{b te j:Nat}{c cs:List Value}{fr:Nat×Nat}{rs:List ResultVar}{vs:List Value}{i:Nat}[i0:Sh ty true j](hl:vG S t=some (pt b 0))(hr:yG Ls i [(b,.cells c.toArray te fr)])(hv:zWY j c some=some cs)(k:RL P S Ls rs vs)(hv2:zI2 P ty c.toArray 0=some (.agg cs.toArray):=by kernel_rfl): RL P S Ls (.cell t ty::rs) (.agg cs.toArray::vs):=lC i _ hl hr.h k hv2
theorem aRg{fn:Func}{rs:List ResultVar}{vs:List Value}{post:ρ->(Value->List zH->List PP->Prop)->Prop}{r:ρ}{v1:Value}{L1:List zH}{F1:List PP}{js:List Nat}(hf:fn.results=rs.toArray)(hk:∀ K,post r K->K v1 L1 F1)
  (hr:RL P S Ls rs vs:=by(repeat' (first | exact lN | exact yG.y | rfl | apply lT | apply lR | apply lA | apply yG.n));(first | done | fail))
  (he:(if h:vs.length=1 then vs[0] else .tuple vs.toArray)=v1:=by first | rfl | (simp only[sv,Uy] <;> rfl)) (hX:BX Ls L1:=by(repeat (first | exact BX.n | refine BX.m ?_ | refine BX.s ?_));(first | done | fail)) (hF:xT (wZ Ls F) F1:=by(repeat' (first | exact xT.nn | refine xT.cc ?_ ?_ | exact gn | exact wZ.zz | exact wZ.fa | exact wZ.ga | exact wZ.gA));(first | done | fail))
  (hL:tH Ls 0 js L1:=by(repeat' (first | exact tH.n | exact yG.y | apply tH.z _ rfl | apply tH.c | apply yG.n));(first | done | fail)) (hn:js.Nodup:=by decide):J P n X (zRB P fn X post) (.ex .ret) S Ls F (some r):=tQ hf hr hk js hF he hL.eq hn
inductive UQ
 | r (x:zH)
 | c (l:List (Nat×Value))
def putsC:List Value->List (Nat×Value)->(List Value->Prop)->Prop
 | cs,[],k=>k cs
 | cs,(o,v)::l,k=>zRP cs o v fun cs'=>putsC cs' l k
def modR:List zH->Nat->List (Nat×Value)->(List zH->Prop)->Prop
 | [],_,_,_=>False
 | r::L,0,l,k=>match r with
  | [(b,.cells ⟨cs⟩ t fr)]=>putsC cs l fun cs'=>k ([(b,.cells cs'.toArray t fr)]::L)
  | _=>False
 | r::L,i+1,l,k=>modR L i l fun L'=>k (r::L')
def updQ:List zH->List (Nat×UQ)->(List zH->Prop)->Prop
 | L,[],k=>k L
 | L,(i,.r r)::us,k=>putR L i r fun L'=>updQ L' us k
 | L,(i,.c l)::us,k=>modR L i l fun L'=>updQ L' us k
abbrev KQ:=List Nat->List (Nat×UQ)->List Nat->Sl->List PP->Prop
def kq (S:Sl)(L:List zH)(F:List PP)(K:tF): KQ:=fun ks us fs S1 F1=>z6x S ks S1 fun S'=>updQ L us fun L'=>z66 F fs fun F'=>z6u F1 F' fun F2=>K S' L' F2
def cid:Code->Nat×Nat
 | .region id _ _=>(id,0)
 | .seq a _=>match cid a with
  | (k,j)=>(k,j+1)
 | .cond _ a _=>match cid a with
  | (k,j)=>(k,j+1)
 | .block _ a=>match cid a with
  | (k,j)=>(k,j+1)
 | .loop a=>match cid a with
  | (k,j)=>(k,j+1)
 | .scope a=>match cid a with
  | (k,j)=>(k,j+1)
 | _=>(9999,0)
structure LIK (n k j:Nat){σ:Type}(I:σ->KQ->Prop): Prop
theorem hI{σ:Type}{G:Prop}(n k j:Nat)(I:σ->KQ->Prop)(h:LIK n k j I->G): G:=h ⟨⟩
structure LPK (n k j:Nat)(I:KQ->Prop): Prop
theorem hP{G:Prop}(n k j:Nat)(I:KQ->Prop)(h:LPK n k j I->G): G:=h ⟨⟩
theorem jjpQ{cx cy:Code}{k j:Nat}{I:KQ->Prop}(hk:cid cx=(k,j))(hx:J P n X (jnQ X n fun(_:Unit) K=>I (kq S Ls F K)) (.code cx) S Ls F (some ()))
  (hy:∀ K:tF,(∀ {S' L' F'},J P n X Q (.code cy) S' L' F' m->K S' L' F')->I (kq S Ls F K)) (hI:LPK 4 k j I:=by assumption):J P n X Q (.code (.seq cx cy)) S Ls F m:=jjp (fun K=>I (kq S Ls F K)) hx hy
theorem jjqQ{cx:Code}{k j:Nat}{I:KQ->Prop}(hk:cid cx=(k,j))(hx:J P n X (jnQ X n fun(_:Unit) K=>I (kq S Ls F K)) (.code cx) S Ls F (some ()))
  (hy:∀ K:tF,(∀ {S' L' F'},J P n X Q (.ex .normal) S' L' F' m->K S' L' F')->I (kq S Ls F K)) (hI:LPK 5 k j I:=by assumption):J P n X Q (.code cx) S Ls F m:=jjq (fun K=>I (kq S Ls F K)) hx hy
section
variable {cx cy:Code}{k j:Nat}{I:σ->KQ->Prop}
theorem jlpQ{B:σ->Option (σ⊕ρ)}{s0:σ}(hk:cid cx=(k,j))(g:Gv Ls S F (fun K=>I s0 (kq S Ls F K)))
  (hb:∀ s K,(∀ {S' L' F'},J P n X (lpQ X n (fun s K=>I s (kq S Ls F K)) Q) (.code cx) S' L' F' (B s)->K S' L' F')->I s (kq S Ls F K)) (hI:LIK 0 k j I:=by assumption):J P n X Q (.code (.loop cx)) S Ls F (zJ B s0):=jlp (fun s K=>I s (kq S Ls F K)) g hb
theorem jjnQ{m1:Option σ}{f:σ->Option ρ}(hk:cid cx=(k,j))(hx:J P n X (jnQ X n fun s K=>I s (kq S Ls F K)) (.code cx) S Ls F m1)
  (hy:∀ s K,(∀ {S' L' F'},J P n X Q (.code cy) S' L' F' (f s)->K S' L' F')->I s (kq S Ls F K)) (hI:LIK 1 k j I:=by assumption):J P n X Q (.code (.seq cx cy)) S Ls F (m1.bind f):=jjn (fun s K=>I s (kq S Ls F K)) hx hy
theorem jjoQ{m1:Option (σ⊕ρ)}{f:σ->Option ρ}(hk:cid cx=(k,j))(hx:J P n X (lpQ X n (fun s K=>I s (kq S Ls F K)) Q) (.code cx) S Ls F m1)
  (hy:∀ s K,(∀ {S' L' F'},J P n X Q (.code cy) S' L' F' (f s)->K S' L' F')->I s (kq S Ls F K)) (hI:LIK 2 k j I:=by assumption):J P n X Q (.code (.seq cx cy)) S Ls F (uQ m1 f):=jjo (fun s K=>I s (kq S Ls F K)) hx hy
theorem jjcQ{m1:Option σ}{f:σ->Option ρ}(hk:cid cx=(k,j))(hx:J P n X (jnQ X n fun s K=>I s (kq S Ls F K)) (.code cx) S Ls F m1)
  (hy:∀ s K,(∀ {S' L' F'},J P n X Q (.ex .normal) S' L' F' (f s)->K S' L' F')->I s (kq S Ls F K)) (hI:LIK 3 k j I:=by assumption):J P n X Q (.code cx) S Ls F (m1.bind f):=jjc (fun s K=>I s (kq S Ls F K)) hx hy
end
theorem gGv{I:tF->Prop}(h:Gv Ls S F I): Gv Ls S F I:=h
inductive OT
 | e
 | l (is:List Nat) (t:OT)
 | f (i:Nat) (t:OT)
 | w (i j:Nat) (t u:OT)
 | v (i j k:Nat) (t u x:OT)
 | s (d:Nat) (t u:OT)
 | b (B J:List Nat) (t:OT)
def DJ (o:OT)(G:Prop): Prop:=G
structure DRK (id:Nat)(B J:List Nat)(o:OT): Prop
theorem hD{G:Prop}(id:Nat)(B J:List Nat)(o:OT)(h:DRK id B J o->G): G:=h ⟨⟩
section
variable {B Jj B' J' js ls:List Nat}{li:Array Bool}{fuel i j k q id:Nat}{o u w:OT}{is:List Nat}{G:Prop}{z0:Code}{v:Value}{ag:Bool}{b oo:Nat}{c cs:List Value}{te:TypeId}{fr:Nat×Nat}{L0:List zH}
theorem gDJ (h:DJ o G): DJ o G:=h
theorem dds (h:DJ o (J P n X (zN6 P z0 Q) (.dr l.toArray B Jj l.length (Array.replicate l.length false)) S Ls F m))(hh:DRK id B Jj o:=by assumption)(hm:P.follows .mixedOrders=true:=by kernel_rfl):
  J P n X Q (.code (.seq (.region id l.toArray true) z0)) S Ls F m:=jds B Jj _ h rfl hm
theorem ddS (h:DJ o (J P n X Q (.dr l.toArray B Jj l.length (Array.replicate l.length false)) S Ls F m))(hh:DRK id B Jj o:=by assumption)(hm:P.follows .mixedOrders=true:=by kernel_rfl):
  J P n X Q (.code (.region id l.toArray true)) S Ls F m:=uG B Jj _ h rfl hm
theorem dE (h:J P n X Q (.ex .normal) S Ls F m)(hr:Region.ready .any os li=[]:=by kernel_rfl): DJ .e (J P n X Q (.dr os B Jj fuel li) S Ls F m):=qI h hr
theorem dNil (h:DJ o G): DJ (.l [] o) G:=h
theorem d1f (h:DJ o (J P n X Q (.fo i os B Jj fuel li) S Ls F m))(hr:Region.ready .any os li=[i]:=by kernel_rfl): DJ (.f i o) (J P n X Q (.dr os B Jj (fuel+1) li) S Ls F m):=zT i h hr
theorem d2f (h:DJ o (J P n X Q (.fo i os B Jj fuel li) S Ls F m))(h':DJ u (J P n X Q (.fo j os B Jj fuel li) S Ls F m))(hr:Region.ready .any os li=[i,j]:=by kernel_rfl): DJ (.w i j o u) (J P n X Q (.dr os B Jj (fuel+1) li) S Ls F m):=tB i j h h' hr
theorem d3f (h:DJ o (J P n X Q (.fo i os B Jj fuel li) S Ls F m))(h':DJ u (J P n X Q (.fo j os B Jj fuel li) S Ls F m))(h'':DJ w (J P n X Q (.fo k os B Jj fuel li) S Ls F m))(hr:Region.ready .any os li=[i,j,k]:=by kernel_rfl): DJ (.v i j k o u w) (J P n X Q (.dr os B Jj (fuel+1) li) S Ls F m):=jd3 i j k h h' h'' hr
theorem dN (h:DJ o (J P n X Q (.dr os B Jj fuel li) S Ls F m))(hJ:Jj.map (Ls[·]?)=Jj.map (L0[·]?):=by rfl): DJ o (J P n X Q (.af L0 os B Jj fuel li) S Ls F m):=zM h hJ
theorem dB (h:DJ o (J P n X Q (.dr os B' J' fuel li) S Ls F m))(hb:B.all (fun j=>!li.getD j false)=false:=by kernel_rfl): DJ (.b B' J' o) (J P n X Q (.af L0 os B Jj fuel li) S Ls F m):=jdb B' J' h hb
theorem dSi{b:Bool}(hl:vG S t=some (.bool b))(h1:DJ o (J P n X Q (.dr os B Jj fuel li) ((t,.bool true)::S) Ls F m1))(h2:DJ u (J P n X Q (.dr os B Jj fuel li) ((t,.bool false)::S) Ls F m2)): DJ (.s t o u) (J P n X Q (.dr os B Jj fuel li) S Ls F (if b=true then m1 else m2)):=wM t hl h1 h2
theorem dSs{b:Bool}(hl:vG S t=some (.bool b))(h1:b=true->DJ o (J P n X Q (.dr os B Jj fuel li) ((t,.bool true)::S) Ls F m))(h2:b=false->DJ u (J P n X Q (.dr os B Jj fuel li) ((t,.bool false)::S) Ls F m)): DJ (.s t o u) (J P n X Q (.dr os B Jj fuel li) S Ls F m):=jsp t hl h1 h2
theorem dX{ob:List Ob}(hi:os[i]?=some ⟨some d,op,ty,pos,af,g⟩)(hv:pvX S op [] (fun ob v=>some (v,ob))=some (v,ob))(h:DJ (.l is o) (J P n X Q (.dr os B Jj fuel (li.setIfInBounds i true)) ((d,v)::S) Ls F m))(hg:qC os S g=some true:=by rfl)
  (hk:yQ os B li i=true:=by kernel_rfl) (hd:Nat.blt d n=true:=by kernel_rfl) (ho:zTA P ob=true:=by kernel_rfl):DJ (.l (i::is) o) (J P n X Q (.dr os B Jj (fuel+1) li) S Ls F m):=by
 obtain⟨ob',v',h1,h2⟩:=zZg (P:=P) hv
 cases h1
 exact qS i v hi h hk hd hg (h2 ho).1
theorem dSk (hi:os[i]?=some ⟨some d,op,ty,pos,af,g⟩)(hg:qC os S g=some false)(h:DJ (.l is o) (J P n X Q (.dr os B Jj fuel (li.setIfInBounds i true)) ((d,undef)::S) Ls F m))
  (hk:yQ os B li i=true:=by kernel_rfl) (hd:Nat.blt d n=true:=by kernel_rfl):DJ (.l (i::is) o) (J P n X Q (.dr os B Jj (fuel+1) li) S Ls F m) :=
 ⟨fun hq r hm a w hs=>dk i hs hi (fun a' hs'=>J.go h hq r hm a' w hs') (fun c v a w hp=>(hq r c _ _ hp).elim) hk hd hg⟩
theorem dFa{s f off:Nat}{ofs:List Nat}[i0:Fs s ofs](hi:os[i]?=some ⟨some d,.fieldAddr s x f,ty,pos,af,g⟩)(hx:zP S x=some (pt b oo))(h:DJ (.l is o) (J P n X Q (.dr os B Jj fuel (li.setIfInBounds i true)) ((d,pt b (oo+off))::S) Ls F m))(ho:ofs.getD f 0=off:=by rfl)
  (hf:zRb P s f=some off:=by kernel_rfl) (hk:yQ os B li i=true:=by kernel_rfl) (hd:Nat.blt d n=true:=by kernel_rfl) (hg:qC os S g=some true:=by rfl):DJ (.l (i::is) o) (J P n X Q (.dr os B Jj (fuel+1) li) S Ls F m):=qK i off hi hx h hf hk hd hg
theorem dLo[i0:Sh t false 1](hi:os[i]?=some ⟨some d,.load t x,ty,pos,af,g⟩)(hx:zP S x=some (pt b oo))(h:DJ (.l is o) (J P n X Q (.dr os B Jj fuel (li.setIfInBounds i true)) ((d,v)::S) Ls F m))
  (hr:yG Ls q [(b,.cells c.toArray te fr)]:=by(repeat (first | exact yG.y | apply yG.n));(first | done | fail)) (hv:z3U c oo some=some v:=by rfl)
  (ht:uB P t=some (false,1):=by kernel_rfl) (hb:B.all (fun j=>behind os i os.size j)=true:=by kernel_rfl) (hJ:Jj.contains q=true:=by kernel_rfl)
  (hk:yQ os B li i=true:=by kernel_rfl) (hd:Nat.blt d n=true:=by kernel_rfl) (hg:qC os S g=some true:=by rfl):DJ (.l (i::is) o) (J P n X Q (.dr os B Jj (fuel+1) li) S Ls F m):=wO i q hi hx hr.h hv h ht hb hJ hk hd hg
theorem dLa[i0:Sh t true k](hi:os[i]?=some ⟨some d,.load t x,ty,pos,af,g⟩)(hx:zP S x=some (pt b oo))(h:DJ (.l is o) (J P n X Q (.dr os B Jj fuel (li.setIfInBounds i true)) ((d,.agg cs.toArray)::S) Ls F m))
  (hr:yG Ls q [(b,.cells c.toArray te fr)]:=by(repeat (first | exact yG.y | apply yG.n));(first | done | fail)) (hv:zYM oo c (fun l=>zWY k l some)=some cs:=by rfl)
  (ht:uB P t=some (true,k):=by kernel_rfl) (hb:B.all (fun j=>behind os i os.size j)=true:=by kernel_rfl) (hJ:Jj.contains q=true:=by kernel_rfl)
  (hk:yQ os B li i=true:=by kernel_rfl) (hd:Nat.blt d n=true:=by kernel_rfl) (hg:qC os S g=some true:=by rfl):DJ (.l (i::is) o) (J P n X Q (.dr os B Jj (fuel+1) li) S Ls F m):=yZ i q k hi hx hr.h hv h ht hb hJ hk hd hg
theorem dLd{τ:Type}{e:E τ}{op:yI e}{u:τ}[i0:Ty t e op ag](hi:os[i]?=some ⟨some d,.load t x,ty,pos,af,g⟩)(hx:zP S x=some (pt b oo))(h:op.op u [] F fun cs F'=>mkC ag cs fun v=>DJ (.l is o) (J P n X Q (.dr os B Jj fuel (li.setIfInBounds i true)) ((d,v)::S) Ls F' m))
  (hP:PtS F e b oo u:=by(repeat (first | (apply PtS.y;(repeat (first | exact PtP.r | (apply PtP.l;(repeat (first | exact PtP.r | (apply PtP.l;(repeat (first | exact PtP.r | apply PtP.s));done) | apply PtP.s));done) | apply PtP.s));done) | apply PtS.n));(first | done | fail)) (ht:uB P t=some (ag,e.n):=by kernel_rfl) (hag:ag=true∨e.n=1:=by first | exact .inl rfl | exact .inr rfl)
  (hb:B.all (fun j=>behind os i os.size j)=true:=by kernel_rfl) (hk:yQ os B li i=true:=by kernel_rfl) (hd:Nat.blt d n=true:=by kernel_rfl) (hg:qC os S g=some true:=by rfl):DJ (.l (i::is) o) (J P n X Q (.dr os B Jj (fuel+1) li) S Ls F m) :=
 jdl i ag op hi (fun A w _ hF=>hP.h _ w hF) hx h ht hag hb hk hd hg
theorem dIx{τ:Type}{e:E τ}{p0:Option Addr}{c k0:Nat}{z:List τ}{ix:Int}{f:τ->Option ρ}(hi:os[i]?=some ⟨some d,.indexAddr t x y,ty,pos,af,g⟩)(hx:zP S x=some (.slice p0 k0 c))(hy:zP S y=some (.int kd ix))
  (h:∀ u b oo,DJ (.l is o) (J P n X Q (.dr os B Jj fuel (li.setIfInBounds i true)) ((d,pt b oo)::S) Ls (Pt e b oo u::F) (f u))) (hF:vE F (R e p0 c k0 z):=by(repeat (first | exact vE.y | refine vE.n ?_));(first | done | fail))
  (ht:uI P t=some e.n:=by kernel_rfl) (hk:yQ os B li i=true:=by kernel_rfl) (hd:Nat.blt d n=true:=by kernel_rfl) (hg:qC os S g=some true:=by rfl):DJ (.l (i::is) o) (J P n X Q (.dr os B Jj (fuel+1) li) S Ls F ((zD z ix).bind f)):=by
 obtain⟨k,hk'⟩:=hF.h
 exact jdi i k hi hk' hx hy h ht hk hd hg
theorem dCat{p q:zA}{t2 t3:TypeId}{f:zA->Option ρ}(hi:os[i]?=some ⟨some d,.binOp .add t2 x y t3,ty,pos,af,g⟩)(hx:zP S x=some (vs p))(hy:zP S y=some (vs q))(h:∀ r,DJ (.l is o) (J P n X Q (.dr os B Jj fuel (li.setIfInBounds i true)) ((d,vs r)::S) Ls F (f r)))
  (hk:yQ os B li i=true:=by kernel_rfl) (hd:Nat.blt d n=true:=by kernel_rfl) (hg:qC os S g=some true:=by rfl):DJ (.l (i::is) o) (J P n X Q (.dr os B Jj (fuel+1) li) S Ls F ((qE p q).bind f)) :=
 yW fun r h1=>xN i hi (fun hS=>zJz hS hx hy h1) (h r) hk hd hg
theorem dSx{s:zA}{ix:Int}{f:Int->Option ρ}(hi:os[i]?=some ⟨some d,.index t x y,ty,pos,af,g⟩)(hx:zP S x=some (vs s))(hy:zP S y=some (.int kd ix))(h:∀ r,DJ (.l is o) (J P n X Q (.dr os B Jj fuel (li.setIfInBounds i true)) ((d,.int .u8 r)::S) Ls F (f r)))
  (hu:P.underlying t=some .string:=by kernel_rfl) (hk:yQ os B li i=true:=by kernel_rfl) (hd:Nat.blt d n=true:=by kernel_rfl) (hg:qC os S g=some true:=by rfl):DJ (.l (i::is) o) (J P n X Q (.dr os B Jj (fuel+1) li) S Ls F ((vR s ix).bind f)) :=
 yW fun r h1=>xN i hi (fun hS=>z3f hS hx hy hu h1) (h r) hk hd hg
theorem dSb{s:zA}{ix j:Int}{lo hi:Option Operand}{vlo vhi:Option Value}{f:zA->Option ρ}(hi0:os[i]?=some ⟨some d,.slice t x lo hi none,ty,pos,af,g⟩)(hx:zP S x=some (vs s))(hlo:zQv S lo=some vlo)(hhi:zQv S hi=some vhi)(h:∀ r,DJ (.l is o) (J P n X Q (.dr os B Jj fuel (li.setIfInBounds i true)) ((d,vs r)::S) Ls F (f r)))
  (b1:Bd vlo ix 0:=by first | exact .inl ⟨rfl,rfl⟩ | exact .inr ⟨_,rfl⟩) (b2:Bd vhi j s.length:=by first | exact .inl ⟨rfl,rfl⟩ | exact .inr ⟨_,rfl⟩)
  (hu:P.underlying t=some .string:=by kernel_rfl) (hk:yQ os B li i=true:=by kernel_rfl) (hd:Nat.blt d n=true:=by kernel_rfl) (hg:qC os S g=some true:=by rfl):DJ (.l (i::is) o) (J P n X Q (.dr os B Jj (fuel+1) li) S Ls F ((sub s ix j).bind f)) :=
 yW fun r h1=>xN i hi0 (fun hS=>zMw hS hx hu hlo hhi b1 b2 h1) (h r) hk hd hg
theorem dBd{parts:List (Nat×Operand)}{ofs:List Nat}{zc cs:List Value}[i0:Fs t ofs][i1:Zr t (.agg zc.toArray)](hi:os[i]?=some ⟨some d,.build t parts.toArray,ty,pos,af,g⟩)(h:DJ (.l is o) (J P n X Q (.dr os B Jj fuel (li.setIfInBounds i true)) ((d,.agg cs.toArray)::S) Ls F m))(hb:bldC S ofs parts zc=some cs:=by rfl)(hv:pv P S (.build t parts.toArray)=some (.agg cs.toArray):=by kernel_rfl)
  (hk:yQ os B li i=true:=by kernel_rfl) (hd:Nat.blt d n=true:=by kernel_rfl) (hg:qC os S g=some true:=by rfl):DJ (.l (i::is) o) (J P n X Q (.dr os B Jj (fuel+1) li) S Ls F m):=qS i _ hi h hk hd hg hv
theorem eSo (hi:os[i]?=some ⟨none,.store t x y,ty,pos,af,g⟩)(hx:zP S x=some (pt b oo))(hy:zP S y=some v)(h:zMy v fun cs=>putC oo c cs fun c'=>zRP Ls q (bx b te c') fun Ls'=>DJ o (J P n X Q (.af Ls os B Jj fuel (li.setIfInBounds i true)) S Ls' F m))(hr:yG Ls q (bx b te c):=by(repeat (first | exact yG.y | apply yG.n));(first | done | fail))
  (hv:zKe P t c.toArray oo v=true:=by kernel_rfl) (hg:qC os S g=some true:=by rfl):DJ o (J P n X Q (.fo i os B Jj fuel li) S Ls F m):=zV (.f hi) q hx hy hr.h h hv hg
theorem eBx (hi:os[i]?=some ⟨some d,.box t x,ty,pos,af,g⟩)(hx:zP S x=some v)(h:∀ b,zMy v fun cs=>zM8 Ls (bx b t cs) fun Ls'=>DJ o (J P n X Q (.af Ls os B Jj fuel (li.setIfInBounds i true)) ((d,pt b 0)::S) Ls' F m))
  (hd:Nat.blt d n=true:=by kernel_rfl) (hg:qC os S g=some true:=by rfl):DJ o (J P n X Q (.fo i os B Jj fuel li) S Ls F m):=yB (.f hi) hx h hd hg
theorem eAl[i0:Zr t v](hi:os[i]?=some ⟨some d,.alloc t,ty,pos,af,g⟩)(h:∀ b,zMy v fun cs=>zM8 Ls (bx b t cs) fun Ls'=>DJ o (J P n X Q (.af Ls os B Jj fuel (li.setIfInBounds i true)) ((d,pt b 0)::S) Ls' F m))
  (hx:zI6 P t=some v:=by kernel_rfl) (hd:Nat.blt d n=true:=by kernel_rfl) (hg:qC os S g=some true:=by rfl):DJ o (J P n X Q (.fo i os B Jj fuel li) S Ls F m):=qN (.f hi) v h hx hd hg
theorem eLo[i0:Sh t false 1](hi:os[i]?=some ⟨some d,.load t x,ty,pos,af,g⟩)(hx:zP S x=some (pt b oo))(h:DJ o (J P n X Q (.af Ls os B Jj fuel (li.setIfInBounds i true)) ((d,v)::S) Ls F m))(hr:LdR Ls b oo v:=by(repeat (first | exact LdR.y rfl | apply LdR.n));(first | done | fail))
  (ht:uB P t=some (false,1):=by kernel_rfl) (hd:Nat.blt d n=true:=by kernel_rfl) (hg:qC os S g=some true:=by rfl):DJ o (J P n X Q (.fo i os B Jj fuel li) S Ls F m):=by
 obtain⟨q,c,te,fr,h1,h2⟩:=hr.h
 exact jfl0 (.f hi) q hx h1 h2 h ht hd hg
theorem eC0 (ci:Nat){fd:FuncId}{pp:Prop}{cal:Operand}{xs:Array Operand}{ats:Array TypeId}{bs0 caps:Array Value}[i0:Cn fd ci pp](hi:os[i]?=some ⟨some d,.call { callee:=.value cal,args:=xs,argTypes:=ats },ty,pos,af,g⟩)(hcal:zP S cal=some (.func (.func fd) bs0 caps))
  (h:pp->DJ o (J P n X Q (.fo i os B Jj fuel li) S Ls F m)):DJ o (J P n X Q (.fo i os B Jj fuel li) S Ls F m):=h i0.h
theorem eCa{fd:FuncId}{cal:Operand}{xs:List Operand}{bs0 caps:List Value}{ats:Array TypeId}{us vs:List Value}{L:List zH}{F1:List PP}{m1:Option σ}{post:σ->(Value->List zH->List PP->Prop)->Prop}{f:σ->Option ρ}
  (c:zN qd P fd vs L F1 m1 post) (hi:os[i]?=some ⟨some d,.call { callee:=.value cal,args:=xs.toArray,argTypes:=ats },ty,pos,af,g⟩) (hcal:zP S cal=some (.func (.func fd) bs0.toArray caps.toArray)) (hx:zZR S xs=some us) (hv:bs0++us++caps=vs)
  (h:∀ r K,(∀ {v L1 F1},z1N ls js L1 Ls F1 F (fun Ls' F'=>DJ o (J P n X Q (.af Ls os B Jj fuel (li.setIfInBounds i true)) ((d,v)::S) Ls' F' (f r)))->K v L1 F1)->post r K)
  (hX:BX Ls L:=by(repeat (first | exact BX.n | refine BX.m ?_ | refine BX.s ?_));(first | done | fail)) (hF:Lnt Ls F F1 ls:=by(repeat' (first | exact Lnt.n | exact vE.y | exact yG.y | (apply Lnt.c;focus ((repeat (first | exact vE.y | refine vE.n ?_));(first | done | fail))) | apply Lnt.e | apply Lnt.l | refine vE.n ?_ | apply yG.n));(first | done | fail)) (hL:tH Ls 0 js L:=by(repeat' (first | exact tH.n | exact yG.y | apply tH.z _ rfl | apply tH.c | apply yG.n));(first | done | fail)) (hk:zZe (js++ls) Ls.length=true:=by rfl) (hd:Nat.blt d n=true:=by kernel_rfl) (hg:qC os S g=some true:=by rfl) :
  DJ o (J P n X Q (.fo i os B Jj fuel li) S Ls F (m1.bind f)):=qA (.f hi) js ls c hcal hx hv (hF.ok hk fun _ h=>h) h hL.eq hk hd hg
theorem eBs{parts:List (Nat×Operand)}{cs:List Value}{k0:Nat}{τ:Type}{e:E τ}{z:List τ}[i0:Se t te e](hi:os[i]?=some ⟨some d,.buildSlice t k0 parts.toArray,ty,pos,af,g⟩)(h:∀ p1 c',DJ o (J P n X Q (.af Ls os B Jj fuel (li.setIfInBounds i true)) ((d,sv p1 z c')::S) Ls (Rl e p1 c' z::F) m))(hb:bsC S parts 0 some=some cs:=by rfl)
  (hrd:RD e Ls F cs z:=by(repeat' (first | exact rN | apply rC | exact vI | exact vB | exact vS | exact vU | exact avN | apply avQ | apply avF | exact vE.y | apply vE.n));(first | done | fail)) (ht:xL P t te e.n=true:=by kernel_rfl) (hc:zJ5 P S t k0 parts=some cs:=by kernel_rfl) (hl:z.length=k0:=by rfl) (hd:Nat.blt d n=true:=by kernel_rfl) (hg:qC os S g=some true:=by rfl) :
  DJ o (J P n X Q (.fo i os B Jj fuel li) S Ls F m):=uR (.f hi) te cs z hrd h ht hc hl hd hg
theorem eAr{τ:Type}{e:E τ}{r:zH}{p0 q0:Option Addr}{c k0 c2 k2:Nat}{z z2:List τ}{f:List τ->Option ρ}(hi:os[i]?=some ⟨some d,.call { callee:=.builtin .append,args:=[x,y].toArray,argTypes:=[t,t].toArray },ty,pos,af,g⟩)(hx:zP S x=some (.slice p0 k0 c))(hy:zP S y=some (.slice q0 k2 c2))
  (h:∀ u r' p1 c',zRP Ls q r' fun Ls'=>DJ o (J P n X Q (.af Ls os B Jj fuel (li.setIfInBounds i true)) ((d,sv p1 u c')::S) Ls' (Al e te r' p1 c' u::F) (f u)))
  (hF:vE F (Ar e te r p0 c k0 z):=by(repeat (first | exact vE.y | refine vE.n ?_));(first | done | fail)) (hF2:vE F (R e q0 c2 k2 z2):=by(repeat (first | exact vE.y | refine vE.n ?_));(first | done | fail)) (hr:yG Ls q r:=by(repeat (first | exact yG.y | apply yG.n));(first | done | fail))
  (ht:xL P t te e.n=true:=by kernel_rfl) (hd:Nat.blt d n=true:=by kernel_rfl) (hg:qC os S g=some true:=by rfl):DJ o (J P n X Q (.fo i os B Jj fuel li) S Ls F ((qT z z2).bind f)):=by
 obtain⟨k,hk⟩:=hF.h
 obtain⟨k',hk'⟩:=hF2.h
 exact vK (.f hi) q k hk (hk'▸gk k') hx hy h hr.h ht hd hg
end
end
attribute [irreducible] DJ
section
theorem au{G:Prop}(h:G:=by
 repeat' (first
  | (refine gO ?_;first
   | refine zI ?_ | refine wH ?_ | refine aM 100 rfl ?_
   | (refine gFa ?_;refine aFa rfl ?_) | (refine gLd ?_;first | refine aLo rfl ?_ | refine aLd rfl ?_ | refine aLa rfl ?_) | (refine gSt ?_;refine aSo rfl rfl ?_)
   | (refine gCl ?_;first | (refine aC0 0 rfl fun c=>?_;refine aCa c rfl rfl rfl ?_) | refine aAr rfl rfl ?_ | (refine aC0 1 rfl fun c=>?_;refine aCa c rfl rfl rfl ?_) | (refine aC0 2 rfl fun c=>?_;refine aCa c rfl rfl rfl ?_) | (refine aC0 3 rfl fun c=>?_;refine aCa c rfl rfl rfl ?_))
   | (refine gIa ?_;refine aIx rfl rfl ?_) | (refine gCt ?_;refine aCat rfl rfl ?_) | (refine gIx ?_;refine aSi rfl rfl ?_) | (refine gRm ?_;refine aRm rfl rfl ?_) | (refine gQu ?_;refine aQu rfl rfl ?_) | (refine gSl ?_;first | refine aSs rfl rfl rfl ?_ | refine aSl rfl rfl rfl ?_ | refine aSP rfl rfl ?_) | (refine gBx ?_;refine aBx rfl ?_) | (refine gAl ?_;refine aAl ?_) | (refine gBd ?_;refine aBd ?_) | (refine gCv ?_;refine aCv rfl ?_) | (refine gBs ?_;refine aBs ?_)
   | refine aM 0 rfl ?_
   | (refine gGu ?_;first | refine aGi rfl rfl rfl ?_ ?_ | refine aGs rfl rfl rfl ?_ ?_) | (refine gPk ?_;first | refine aPi rfl ?_ ?_ | refine aPs rfl ?_ ?_))
  | (refine gC ?_;first
   | refine jlpQ rfl ?_ ?_ | refine jjnQ rfl ?_ ?_ | refine jjoQ rfl ?_ ?_ | refine jjcQ rfl ?_ ?_ | refine jjpQ rfl ?_ ?_ | refine jjqQ rfl ?_ ?_
   | refine zG ?_ | refine dds ?_ | refine ddS ?_ | refine jst ?_ | refine jss ?_ | refine zY ?_ | refine vD ?_ | refine jct rfl ?_ | refine jcf rfl ?_ | refine zW rfl ?_ ?_ | refine uW ?_ | refine wC ?_ | refine qP ?_ | refine uV ?_ | refine jcs ?_ | refine jlb ?_ | refine aCs rfl ?_ ?_)
  | (refine gE ?_;first
   | refine wS ?_ | refine xY ?_ | refine uU ?_ | refine yT ?_ | refine jbr ?_ | refine uZ ?_ | refine jbm ?_ | refine jcn ?_ | refine jce ?_ | refine jcr ?_ | refine jrn ?_
   | (refine gNn ?_;exact qB (gvA (fun _ k=>k ..))) | (refine gRt ?_;first | exact aR1 rfl rfl (fun _ k=>k ..) | exact aRg rfl (fun _ k=>k ..)) | (refine gLp ?_;exact jln (gvA (fun _ k=>k ..))) | refine uX ?_ | refine jlr ?_)
  | (refine gDJ ?_;first
   | refine dE ?_ | refine dNil ?_ | refine dX rfl rfl ?_ | refine dSk rfl rfl ?_ | refine dFa rfl rfl ?_ | refine dLo rfl rfl ?_ | refine dLd rfl rfl ?_ | refine dLa rfl rfl ?_ | refine dIx rfl rfl rfl ?_ | refine dCat rfl rfl rfl ?_ | refine dSx rfl rfl rfl ?_ | refine dSb rfl rfl rfl rfl ?_ | refine dBd rfl ?_
   | refine d1f ?_ | refine dN ?_ | refine dB ?_ | refine dSi rfl ?_ ?_ | refine dSs rfl ?_ ?_ | refine d2f ?_ ?_ | refine d3f ?_ ?_ ?_
   | refine eSo rfl rfl rfl ?_ | (refine eC0 0 rfl rfl fun c=>?_;refine eCa c rfl rfl rfl rfl ?_) | refine eBx rfl rfl ?_ | refine eAl rfl ?_ | refine eLo rfl rfl ?_ | refine eBs rfl ?_ | refine eAr rfl rfl rfl ?_ | (refine eC0 1 rfl rfl fun c=>?_;refine eCa c rfl rfl rfl rfl ?_) | (refine eC0 2 rfl rfl fun c=>?_;refine eCa c rfl rfl rfl rfl ?_))
  | (refine gGv ?_;exact gvA (fun _ k=>k ..))
  | (intro r K k;(repeat intro _);refine k ?_)
  | (intro K k;(repeat intro _);refine k ?_)
  | refine fun _=>?_)):G:=h
end
end Go.GD
