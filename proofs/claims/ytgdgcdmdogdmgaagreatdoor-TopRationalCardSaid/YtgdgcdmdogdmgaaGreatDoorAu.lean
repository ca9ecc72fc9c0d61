/- A part. Conditions: none. -/
import Derived.Test.YtgdgcdmdogdmgaaGreatDoorJ5
import Derived.Test.YtgdgcdmdogdmgaaGreatDoorMake
import Derived.Test.YtgdgcdmdogdmgaaGreatDoorIfc
namespace Go.GD
open Go Go.RowKit
set_option autoImplicit false
set_option linter.unusedVariables false
variable {qd:Prop}
structure qF (F:List PP)(f:PP): Prop where
 h:∃ k,vW F k=f
structure qO (Ls:List zG)(i:Nat)(r:zG): Prop where
 h:Ls[i]?=some r
section
variable {F:List PP}{f g:PP}{Ls:List zG}{r s:zG}{i:Nat}
theorem qF.y:qF (f::F) f:=⟨0,rfl⟩
theorem qF.n (h:qF F f): qF (g::F) f:=⟨h.h.elim fun k hk=>⟨k+1,hk⟩⟩
theorem qO.y:qO (r::Ls) 0 r:=⟨rfl⟩
theorem qO.n (h:qO Ls i r): qO (s::Ls) (i+1) r:=⟨by simpa using h.h⟩
inductive xT (Ls:List zG): Nat->List Nat->List zG->Prop
 | n {k:Nat}:xT Ls k [] []
 | c {k i:Nat} {js:List Nat} {r:zG} {L:List zG} (h:qO Ls i r) (t:xT Ls k js L):xT Ls k (i::js) (r::L)
 | z {k:Nat} {js:List Nat} {L:List zG} (t:xT Ls (k+1) js L) (h:Nat.ble Ls.length (k+900)=true):xT Ls k ((k+900)::js) ([]::L)
theorem xT.eq{k:Nat}{js:List Nat}{L:List zG}(h:xT Ls k js L): yZ Ls js=L:=by
 induction h with
 | n=>rfl
 | c h _ ih=>rw[yZ,Ua,←yZ,ih];simp[List.getD,h.h]
 | z _ h ih=>rw[yZ,Ua,←yZ,ih];rw[Wd] at h;simp[List.getD,UD h]
end
inductive NEr:zG->Prop
 | nil:NEr []
 | any {r:zG}:NEr r
inductive BX (Ls:List zG): List zG->Prop
 | any {L:List zG}:BX Ls L
theorem BX.n{Ls:List zG}: BX Ls []:=.any
theorem BX.s{Ls L:List zG}(t:BX Ls L.tail): BX Ls L:=.any
theorem BX.m{Ls L:List zG}{r:zG}{i:Nat}(t:BX Ls L)(hne:NEr r:=by(fail_if_success exact NEr.nil);exact NEr.any)(h:qO Ls i r:=by(repeat (first | exact qO.y | apply qO.n));(first | done | fail)): BX Ls (r::L):=.any
class Sh (t:TypeId)(ag:outParam Bool)(k:outParam Nat): Prop
class Ty (t:TypeId){τ:outParam Type}(e:outParam (E τ))(op:outParam (uO e))(ag:outParam Bool): Prop
class Fs (s:TypeId)(os:outParam (List Nat)): Prop
class Zr (t:TypeId)(v:outParam Value): Prop
class Se (t:TypeId)(te:outParam TypeId){τ:outParam Type}(e:outParam (E τ)): Prop
class It (t:TypeId)(k:outParam IntKind): Prop
class Cn (f:FuncId)(i:Nat)(p:outParam Prop): Prop where
 h:p
section
variable {β:Type}
def pvX (S:Sl)(op:Op)(ob:List Ob)(kk:List Ob->Value->Option β): Option β:=match op with
 | .pick c a b=>zYM S c fun u=>match u with
  | .bool true=>zYM S a (kk ob)
  | .bool false=>zYM S b (kk ob)
  | _=>none
 | op=>pvC S op ob kk
def z7z (os:Array Oper): Nat->List Oper->Sl->List Ob->Option (Sl×List Oper×List Ob)
 | 0,l,S,ob=>some (S,l,ob)
 | _+1,[],S,ob=>some (S,[],ob)
 | k+1,o::l,S,ob=>match o.dst with
  | none=>some (S,o::l,ob)
  | some d=>match guC os S o.guard (pvX S o.op ob fun ob v=>z7z os k l ((d,v)::S) ob) (z7z os k l ((d,undef)::S) ob) with
   | some r=>some r
   | none=>some (S,o::l,ob)
end
theorem z4C{β:Type}{P:Program}{S:Sl}{op:Op}{ob:List Ob}{kk:List Ob->Value->Option β}{r:β}(h:pvX S op ob kk=some r):
  ∃ ob' v,kk ob' v=some r∧(zXg P ob'=true->pv P S op=some v∧zXg P ob=true):=by
 unfold pvX at h
 split at h
 ·rename_i c a b
  rw[zKL] at h
  obtain⟨u,hu,h⟩:=zCI h
  split at h
  ·rw[zKL] at h
   obtain⟨v,hv,h⟩:=zCI h
   exact⟨ob,v,h,fun ho=>⟨by simp[pv,hu,hv],ho⟩⟩
  ·rw[zKL] at h
   obtain⟨v,hv,h⟩:=zCI h
   exact⟨ob,v,h,fun ho=>⟨by simp[pv,hu,hv],ho⟩⟩
  ·cases h
 ·exact zZa h
theorem zQn{P:Program}{os:Array Oper}{n:Nat}{Q:Exit->Act->World->Prop}{w:World}: ∀(k:Nat) (l:List Oper) (S S':Sl) (l':List Oper) (ob ob':List Ob) (a:Act),zY a n S->z7z os k l S ob=some (S',l',ob')->
  ((z0j l).all (fun d=>Nat.blt d n)=true)->zXg P ob'=true->(∀ a',zY a' n S'->wpList P os Q l' a' w)->zXg P ob=true∧wpList P os Q l a w
 | 0,l,S,S',l',ob,ob',a,hS,h,_,ho,kk=>by
  simp only[z7z,Qf,Prod.mk.injEq] at h
  obtain⟨rfl,rfl,rfl⟩:=h
  exact⟨ho,kk a hS⟩
 | _+1,[],S,S',l',ob,ob',a,hS,h,_,ho,kk=>by
  simp only[z7z,Qf,Prod.mk.injEq] at h
  obtain⟨rfl,rfl,rfl⟩:=h
  exact⟨ho,kk a hS⟩
 | k+1,o::l,S,S',l',ob,ob',a,hS,h,hd,ho,kk=>by
  simp only[z7z] at h
  split at h
  ·simp only[Qf,Prod.mk.injEq] at h
   obtain⟨rfl,rfl,rfl⟩:=h
   exact⟨ho,kk a hS⟩
  ·rename_i d hod
   simp only[z0j,hod,UY,Qo] at hd
   split at h
   ·rename_i r hr
    cases h
    rcases zZF hr with⟨hg,h⟩ | ⟨hg,h⟩
    ·obtain⟨ob1,v,h,hv⟩:=z4C (P:=P) h
     have key:∀ a,zY a n ((d,v)::S)->zXg P ob1=true∧wpList P os Q l a w:=fun a hS=>zQn k l _ S' l' ob1 ob' a hS h hd.2 ho kk
     have h1:=(zQn (P:=P) (Q:=Q) k l _ S' l' ob1 ob' _ (hS.put hd.1 v) h hd.2 ho kk).1
     obtain⟨h2,h3⟩:=hv h1
     refine⟨h3,zPq (v:=v) (w':=w) hg hS (zY2 hS h2 _ _ _ _ _ w) ?_⟩
     rw[hod]
     exact(key _ (hS.put hd.1 v)).2
    ·have h1:=zQn (P:=P) (Q:=Q) k l _ S' l' ob ob' _ (hS.put hd.1 undef) h hd.2 ho kk
     refine⟨h1.1,zSH hg hS ?_⟩
     rw[hod]
     exact h1.2
   ·simp only[Qf,Prod.mk.injEq] at h
    obtain⟨rfl,rfl,rfl⟩:=h
    exact⟨ho,kk a hS⟩
structure LdR (Ls:List zG)(b o:Nat)(v:Value): Prop where
 h:∃(i:Nat) (c:List Value) (te:TypeId) (fr:Nat×Nat),Ls[i]?=some [(b,Obj.cells (List.toArray c) te fr)]∧z6J c o some=some v
structure LdA (Ls:List zG)(b o k:Nat)(cs:List Value): Prop where
 h:∃(i:Nat) (c:List Value) (te:TypeId) (fr:Nat×Nat),Ls[i]?=some [(b,Obj.cells (List.toArray c) te fr)]∧z2L o c (fun l=>z0h k l some)=some cs
section
variable {Ls:List zG}{b o k te:Nat}{fr:Nat×Nat}{c cs:List Value}{v:Value}{r:zG}
theorem LdR.y (h:z6J c o some=some v): LdR ([(b,Obj.cells c.toArray te fr)]::Ls) b o v:=⟨0,c,te,fr,rfl,h⟩
theorem LdR.n (h:LdR Ls b o v): LdR (r::Ls) b o v:=by obtain⟨i,c,te,fr,h1,h2⟩:=h.h;exact⟨i+1,c,te,fr,by simpa using h1,h2⟩
theorem LdA.y (h:z2L o c (fun l=>z0h k l some)=some cs): LdA ([(b,Obj.cells c.toArray te fr)]::Ls) b o k cs:=⟨0,c,te,fr,rfl,h⟩
theorem LdA.n (h:LdA Ls b o k cs): LdA (r::Ls) b o k cs:=by obtain⟨i,c,te,fr,h1,h2⟩:=h.h;exact⟨i+1,c,te,fr,by simpa using h1,h2⟩
end
structure tJ{σ τ:Type}(e0:E σ)(b o0:Nat)(x0:σ)(e:E τ)(o:Nat)(u:τ): Prop where
 h:∀ Z w,tT e0 Z w ⟨b,o0,none⟩ x0->tT e Z w ⟨b,o,none⟩ u
structure PtS{τ:Type}(F:List PP)(e:E τ)(b o:Nat)(u:τ): Prop where
 h:∀ Z w,uD F Z w->tT e Z w ⟨b,o,none⟩ u
section
variable {α β σ τ:Type}{a:E α}{a2:E β}{e0:E σ}{e:E τ}{b o o0:Nat}{x:α×β}{x0:σ}{u:τ}{F:List PP}{f:PP}
theorem tJ.r:tJ e b o u e o u:=⟨fun _ _ h=>h⟩
theorem tJ.l (h:tJ a b o0 x.1 e o u): tJ (wJ a a2) b o0 x e o u:=⟨fun Z w h0=>h.h Z w (tT.fst h0)⟩
theorem tJ.s (h:tJ a2 b (o0+a.n) x.2 e o u): tJ (wJ a a2) b o0 x e o u:=⟨fun Z w h0=>h.h Z w (tT.snd h0)⟩
theorem PtS.y (h:tJ e0 b o0 x0 e o u): PtS (Pt e0 b o0 x0::F) e b o u:=⟨fun Z w hF=>h.h Z w hF.1⟩
theorem PtS.n (h:PtS F e b o u): PtS (f::F) e b o u:=⟨fun Z w hF=>h.h Z w hF.2⟩
end
section
variable {P:Program}{n:Nat}{X:Hd qd}{ρ σ:Type}{Q:PQ ρ}{S S':Sl}{Ls:List zG}{F:List PP}{m m1 m2:Option ρ}{os:Array Oper}{l l':List Oper}{x y:Operand}{p p':yO}{z:Code}
variable {d t:Nat}{ty ty2:TypeId}{pos pos2:String}{af af2:Array Edge}{g g2:Option (Nat×Bool)}{kd:IntKind}{op:Op}
theorem gC{c:Code}(h:J P n X Q (.code c) S Ls F m): J P n X Q (.code c) S Ls F m:=h
theorem gO (h:J P n X Q (.ops os l) S Ls F m): J P n X Q (.ops os l) S Ls F m:=h
theorem gEx{e:Exit}(h:J P n X Q (.ex e) S Ls F m): J P n X Q (.ex e) S Ls F m:=h
section
variable {dd:Option Nat}{u:Operand}{lo hi mx:Option Operand}{s f:Nat}{cl:Call}{t3:TypeId}{vs:Array (Nat×Operand)}
theorem gLd (h:J P n X Q (.ops os (⟨dd,.load t x,ty,pos,af,g⟩::l)) S Ls F m): J P n X Q (.ops os (⟨dd,.load t x,ty,pos,af,g⟩::l)) S Ls F m:=h
theorem gSt (h:J P n X Q (.ops os (⟨dd,.store t x y,ty,pos,af,g⟩::l)) S Ls F m): J P n X Q (.ops os (⟨dd,.store t x y,ty,pos,af,g⟩::l)) S Ls F m:=h
theorem gFa (h:J P n X Q (.ops os (⟨dd,.fieldAddr s x f,ty,pos,af,g⟩::l)) S Ls F m): J P n X Q (.ops os (⟨dd,.fieldAddr s x f,ty,pos,af,g⟩::l)) S Ls F m:=h
theorem gIa (h:J P n X Q (.ops os (⟨dd,.indexAddr t x y,ty,pos,af,g⟩::l)) S Ls F m): J P n X Q (.ops os (⟨dd,.indexAddr t x y,ty,pos,af,g⟩::l)) S Ls F m:=h
theorem gIx (h:J P n X Q (.ops os (⟨dd,.index t x y,ty,pos,af,g⟩::l)) S Ls F m): J P n X Q (.ops os (⟨dd,.index t x y,ty,pos,af,g⟩::l)) S Ls F m:=h
theorem gCl (h:J P n X Q (.ops os (⟨dd,.call cl,ty,pos,af,g⟩::l)) S Ls F m): J P n X Q (.ops os (⟨dd,.call cl,ty,pos,af,g⟩::l)) S Ls F m:=h
theorem gSl (h:J P n X Q (.ops os (⟨dd,.slice t x lo hi mx,ty,pos,af,g⟩::l)) S Ls F m): J P n X Q (.ops os (⟨dd,.slice t x lo hi mx,ty,pos,af,g⟩::l)) S Ls F m:=h
theorem gCt (h:J P n X Q (.ops os (⟨dd,.binOp .add t x y t3,ty,pos,af,g⟩::l)) S Ls F m): J P n X Q (.ops os (⟨dd,.binOp .add t x y t3,ty,pos,af,g⟩::l)) S Ls F m:=h
theorem gRm (h:J P n X Q (.ops os (⟨dd,.binOp .rem t x y t3,ty,pos,af,g⟩::l)) S Ls F m): J P n X Q (.ops os (⟨dd,.binOp .rem t x y t3,ty,pos,af,g⟩::l)) S Ls F m:=h
theorem gQu (h:J P n X Q (.ops os (⟨dd,.binOp .quo t x y t3,ty,pos,af,g⟩::l)) S Ls F m): J P n X Q (.ops os (⟨dd,.binOp .quo t x y t3,ty,pos,af,g⟩::l)) S Ls F m:=h
theorem gBx (h:J P n X Q (.ops os (⟨dd,.box t x,ty,pos,af,g⟩::l)) S Ls F m): J P n X Q (.ops os (⟨dd,.box t x,ty,pos,af,g⟩::l)) S Ls F m:=h
theorem gAl (h:J P n X Q (.ops os (⟨dd,.alloc t,ty,pos,af,g⟩::l)) S Ls F m): J P n X Q (.ops os (⟨dd,.alloc t,ty,pos,af,g⟩::l)) S Ls F m:=h
theorem gBs (h:J P n X Q (.ops os (⟨dd,.buildSlice t s vs,ty,pos,af,g⟩::l)) S Ls F m): J P n X Q (.ops os (⟨dd,.buildSlice t s vs,ty,pos,af,g⟩::l)) S Ls F m:=h
theorem gBd (h:J P n X Q (.ops os (⟨dd,.build t vs,ty,pos,af,g⟩::l)) S Ls F m): J P n X Q (.ops os (⟨dd,.build t vs,ty,pos,af,g⟩::l)) S Ls F m:=h
theorem gCv (h:J P n X Q (.ops os (⟨dd,.convert s t x,ty,pos,af,g⟩::l)) S Ls F m): J P n X Q (.ops os (⟨dd,.convert s t x,ty,pos,af,g⟩::l)) S Ls F m:=h
theorem gPk (h:J P n X Q (.ops os (⟨dd,.pick u x y,ty,pos,af,g⟩::l)) S Ls F m): J P n X Q (.ops os (⟨dd,.pick u x y,ty,pos,af,g⟩::l)) S Ls F m:=h
theorem gGu{bb:Bool}(h:J P n X Q (.ops os (⟨dd,op,ty,pos,af,some (s,bb)⟩::l)) S Ls F m): J P n X Q (.ops os (⟨dd,op,ty,pos,af,some (s,bb)⟩::l)) S Ls F m:=h
theorem gRt{fn:Func}{post:ρ->(Value->List zG->List PP->Prop)->Prop}(h:J P n X (zV8 P fn X post) (.ex .ret) S Ls F m): J P n X (zV8 P fn X post) (.ex .ret) S Ls F m:=h
theorem gNn{I:ρ->uN->Prop}(h:J P n X (jnQ X n I) (.ex .normal) S Ls F m): J P n X (jnQ X n I) (.ex .normal) S Ls F m:=h
theorem gLp{σ ρ:Type}{Q:PQ ρ}{m:Option (σ⊕ρ)}{I:σ->uN->Prop}(h:J P n X (lpQ X n I Q) (.ex .normal) S Ls F m): J P n X (lpQ X n I Q) (.ex .normal) S Ls F m:=h
end
section
variable {bb:Bool}{j:Nat}{o:Oper}{dd:Option Nat}{b:Bool}{u v:Operand}{za zb:Code}
theorem aM{ob:List Ob}(k:Nat)(hr:guC os S g (pvX S op [] fun ob v=>z7z os k l ((d,v)::S) ob) (z7z os k l ((d,undef)::S) [])=some (S',l',ob))(h:J P n X Q (.ops os l') S' Ls F m)
  (hd:(z0j (⟨some d,op,ty,pos,af,g⟩::l)).all (fun d=>Nat.blt d n)=true:=by kernel_rfl) (ho:zXg P ob=true:=by kernel_rfl):J P n X Q (.ops os (⟨some d,op,ty,pos,af,g⟩::l)) S Ls F m :=
 ⟨fun hq r hm a w hs=>(zQn (k+1) _ S S' l' [] ob a hs.s (by simp only[z7z];rw[hr]) hd ho fun a' hS=>h.go hq r hm a' w (hs.slot hS)).2⟩
inductive tV:Bool->Prop
 | tt:tV true
 | ff:tV false
 | any {b:Bool}:tV b
theorem aGi (hj:os[j]?=some o)(ht:o.dst=some t)(hl:wT S t=some (.bool b))(h1:J P n X Q (.ops os (⟨dd,op,ty,pos,af,some (j,bb)⟩::l)) ((t,.bool true)::S) Ls F m1)
  (h2:J P n X Q (.ops os (⟨dd,op,ty,pos,af,some (j,bb)⟩::l)) ((t,.bool false)::S) Ls F m2) (hu:tV b:=by(fail_if_success (first | exact tV.tt | exact tV.ff));exact tV.any):J P n X Q (.ops os (⟨dd,op,ty,pos,af,some (j,bb)⟩::l)) S Ls F (if b=true then m1 else m2):=jsg t hl h1 h2
theorem aGs (hj:os[j]?=some o)(ht:o.dst=some t)(hl:wT S t=some (.bool b))(h1:b=true->J P n X Q (.ops os (⟨dd,op,ty,pos,af,some (j,bb)⟩::l)) ((t,.bool true)::S) Ls F m)
  (h2:b=false->J P n X Q (.ops os (⟨dd,op,ty,pos,af,some (j,bb)⟩::l)) ((t,.bool false)::S) Ls F m) (hu:tV b:=by(fail_if_success (first | exact tV.tt | exact tV.ff));exact tV.any):J P n X Q (.ops os (⟨dd,op,ty,pos,af,some (j,bb)⟩::l)) S Ls F m:=jsp t hl h1 h2
theorem aPi (hl:wT S t=some (.bool b))(h1:J P n X Q (.ops os (⟨dd,.pick (.tmp t) u v,ty,pos,af,g⟩::l)) ((t,.bool true)::S) Ls F m1)
  (h2:J P n X Q (.ops os (⟨dd,.pick (.tmp t) u v,ty,pos,af,g⟩::l)) ((t,.bool false)::S) Ls F m2) (hu:tV b:=by(fail_if_success (first | exact tV.tt | exact tV.ff));exact tV.any):J P n X Q (.ops os (⟨dd,.pick (.tmp t) u v,ty,pos,af,g⟩::l)) S Ls F (if b=true then m1 else m2):=jsg t hl h1 h2
theorem aPs (hl:wT S t=some (.bool b))(h1:b=true->J P n X Q (.ops os (⟨dd,.pick (.tmp t) u v,ty,pos,af,g⟩::l)) ((t,.bool true)::S) Ls F m)
  (h2:b=false->J P n X Q (.ops os (⟨dd,.pick (.tmp t) u v,ty,pos,af,g⟩::l)) ((t,.bool false)::S) Ls F m) (hu:tV b:=by(fail_if_success (first | exact tV.tt | exact tV.ff));exact tV.any):J P n X Q (.ops os (⟨dd,.pick (.tmp t) u v,ty,pos,af,g⟩::l)) S Ls F m:=jsp t hl h1 h2
theorem aCs (hl:wT S t=some (.bool b))(h1:b=true->J P n X Q (.code (.cond (.tmp t) za zb)) ((t,.bool true)::S) Ls F m)
  (h2:b=false->J P n X Q (.code (.cond (.tmp t) za zb)) ((t,.bool false)::S) Ls F m) (hu:tV b:=by(fail_if_success (first | exact tV.tt | exact tV.ff));exact tV.any):J P n X Q (.code (.cond (.tmp t) za zb)) S Ls F m:=jsp t hl h1 h2
end
section
variable {b o:Nat}{c cs:List Value}{te:TypeId}{v:Value}{k i:Nat}{ag:Bool}{r:zG}
theorem aLo[i0:Sh t false 1](hx:zK S x=some (pt b o))(h:J P n X Q (.ops os l) ((d,v)::S) Ls F m)(hr:LdR Ls b o v:=by(repeat (first | exact LdR.y rfl | apply LdR.n));(first | done | fail))
  (ht:wX P t=some (false,1):=by kernel_rfl) (hd:Nat.blt d n=true:=by kernel_rfl) (hg:zQ os S g=some true:=by rfl):J P n X Q (.ops os (⟨some d,.load t x,ty,pos,af,g⟩::l)) S Ls F m:=by
 obtain⟨i,c,te,fr,h1,h2⟩:=hr.h
 exact qJ i hx h1 h2 h ht hd hg
theorem aLa[i0:Sh t true k](hx:zK S x=some (pt b o))(h:J P n X Q (.ops os l) ((d,.agg cs.toArray)::S) Ls F m)(hr:LdA Ls b o k cs:=by(repeat (first | exact LdA.y rfl | apply LdA.n));(first | done | fail))
  (ht:wX P t=some (true,k):=by kernel_rfl) (hd:Nat.blt d n=true:=by kernel_rfl) (hg:zQ os S g=some true:=by rfl):J P n X Q (.ops os (⟨some d,.load t x,ty,pos,af,g⟩::l)) S Ls F m:=by
 obtain⟨i,c,te,fr,h1,h2⟩:=hr.h
 exact wW i k hx h1 h2 h ht hd hg
theorem aLd{τ:Type}{e:E τ}{op:uO e}{u:τ}[i0:Ty t e op ag](hx:zK S x=some (pt b o))(h:op.op u [] F fun cs F'=>mkC ag cs fun v=>J P n X Q (.ops os l) ((d,v)::S) Ls F' m)
  (hP:PtS F e b o u:=by(repeat (first | (apply PtS.y;(repeat (first | exact tJ.r | (apply tJ.l;(repeat (first | exact tJ.r | (apply tJ.l;(repeat (first | exact tJ.r | apply tJ.s));done) | apply tJ.s));done) | apply tJ.s));done) | apply PtS.n));(first | done | fail))
  (ht:wX P t=some (ag,e.n):=by kernel_rfl) (hag:ag=true∨e.n=1:=by first | exact .inl rfl | exact .inr rfl)
  (hd:Nat.blt d n=true:=by kernel_rfl) (hg:zQ os S g=some true:=by rfl):J P n X Q (.ops os (⟨some d,.load t x,ty,pos,af,g⟩::l)) S Ls F m:=yS ag op (fun A w _ hF=>hP.h _ w hF) hx h ht hag hd hg
theorem aFa{s f off:Nat}{ofs:List Nat}[i0:Fs s ofs](hx:zK S x=some (pt b o))(h:J P n X Q (.ops os l) ((d,pt b (o+off))::S) Ls F m)(ho:ofs.getD f 0=off:=by rfl)
  (hf:zXb P s f=some off:=by kernel_rfl) (hd:Nat.blt d n=true:=by kernel_rfl) (hg:zQ os S g=some true:=by rfl):J P n X Q (.ops os (⟨some d,.fieldAddr s x f,ty,pos,af,g⟩::l)) S Ls F m:=qC off hx h hf hd hg
theorem aSo (hx:zK S x=some (pt b o))(hy:zK S y=some v)(h:zR9 v fun cs=>putC o c cs fun c'=>uE Ls i (bx b te c') fun Ls'=>J P n X Q (.ops os l) S Ls' F m)(hr:qO Ls i (bx b te c):=by(repeat (first | exact qO.y | apply qO.n));(first | done | fail))
  (hv:zM1 P t c.toArray o v=true:=by kernel_rfl) (hg:zQ os S g=some true:=by rfl):J P n X Q (.ops os (⟨none,.store t x y,ty,pos,af,g⟩::l)) S Ls F m:=wA .s i hx hy hr.h h hv hg
theorem aBx (hx:zK S x=some v)(h:∀ b,zR9 v fun cs=>zM5 Ls (bx b t cs) fun Ls'=>J P n X Q (.ops os l) ((d,pt b 0)::S) Ls' F m)
  (hd:Nat.blt d n=true:=by kernel_rfl) (hg:zQ os S g=some true:=by rfl):J P n X Q (.ops os (⟨some d,.box t x,ty,pos,af,g⟩::l)) S Ls F m:=vH .s hx h hd hg
theorem aAl[i0:Zr t v](h:∀ b,zR9 v fun cs=>zM5 Ls (bx b t cs) fun Ls'=>J P n X Q (.ops os l) ((d,pt b 0)::S) Ls' F m)
  (hx:tX P t=some v:=by kernel_rfl) (hd:Nat.blt d n=true:=by kernel_rfl) (hg:zQ os S g=some true:=by rfl):J P n X Q (.ops os (⟨some d,.alloc t,ty,pos,af,g⟩::l)) S Ls F m:=vD .s v h hx hd hg
end
section
variable {τ:Type}{e:E τ}{te:TypeId}{r r2:zG}{p0 q0:Option Addr}{c k0 c2 k2 i:Nat}{z z2:List τ}{ix j:Int}{lo hi:Option Operand}{vlo vhi:Option Value}
theorem aIx{f:τ->Option ρ}(hx:zK S x=some (.slice p0 k0 c))(hy:zK S y=some (.int kd ix))(h:∀ u b o,J P n X Q (.ops os l) ((d,pt b o)::S) Ls (Pt e b o u::F) (f u))
  (hF:qF F (R e p0 c k0 z):=by(repeat (first | exact qF.y | refine qF.n ?_));(first | done | fail)) (ht:wY P t=some e.n:=by kernel_rfl) (hd:Nat.blt d n=true:=by kernel_rfl) (hg:zQ os S g=some true:=by rfl) :
  J P n X Q (.ops os (⟨some d,.indexAddr t x y,ty,pos,af,g⟩::l)) S Ls F ((zB z ix).bind f):=by
 obtain⟨k,hk⟩:=hF.h
 exact yK k hk hx hy h ht hd hg
theorem aSl{f:List τ->Option ρ}(hx:zK S x=some (.slice p0 k0 c))(hlo:uR S lo=some vlo)(hhi:uR S hi=some vhi)(h:∀ u p' c',J P n X Q (.ops os l) ((d,sv p' u c')::S) Ls (Rl e p' c' u::F) (f u))
  (hF:qF F (R e p0 c k0 z):=by(repeat (first | exact qF.y | refine qF.n ?_));(first | done | fail)) (b1:Bd vlo ix 0:=by first | exact .inl ⟨rfl,rfl⟩ | exact .inr ⟨_,rfl⟩) (b2:Bd vhi j z.length:=by first | exact .inl ⟨rfl,rfl⟩ | exact .inr ⟨_,rfl⟩)
  (ht:wY P t=some e.n:=by kernel_rfl) (hd:Nat.blt d n=true:=by kernel_rfl) (hg:zQ os S g=some true:=by rfl) :
  J P n X Q (.ops os (⟨some d,.slice t x lo hi none,ty,pos,af,g⟩::l)) S Ls F ((sub z ix j).bind f):=by
 obtain⟨k,hk⟩:=hF.h
 exact jsl (hk▸gk k) hx hlo hhi b1 b2 h ht hd hg
theorem aSP{f:List τ->Option ρ}{x2:Operand}(hx:zK S x=some (.slice p0 k0 c))(hhi:zK S x2=some (.int kd j))(h:∀ u,J P n X Q (.ops os l) ((d,sv p0 u c)::S) Ls (Al e te r p0 c u::F) (f u))
  (hF:qF F (Ar e te r p0 c k0 z):=by(repeat (first | exact qF.y | refine qF.n ?_));(first | done | fail)) (ht:wY P t=some e.n:=by kernel_rfl) (hd:Nat.blt d n=true:=by kernel_rfl) (hg:zQ os S g=some true:=by rfl) :
  J P n X Q (.ops os (⟨some d,.slice t x none (some x2) none,ty,pos,af,g⟩::l)) S Ls F ((sub z 0 j).bind f):=by
 obtain⟨k,hk⟩:=hF.h
 exact jsP k hk hx hhi h ht hd hg
theorem aAr{f:List τ->Option ρ}(hx:zK S x=some (.slice p0 k0 c))(hy:zK S y=some (.slice q0 k2 c2))
  (h:∀ u r' p1 c',uE Ls i r' fun Ls'=>J P n X Q (.ops os l) ((d,sv p1 u c')::S) Ls' (Al e te r' p1 c' u::F) (f u))
  (hF:qF F (Ar e te r p0 c k0 z):=by(repeat (first | exact qF.y | refine qF.n ?_));(first | done | fail)) (hF2:qF F (R e q0 c2 k2 z2):=by(repeat (first | exact qF.y | refine qF.n ?_));(first | done | fail)) (hr:qO Ls i r:=by(repeat (first | exact qO.y | apply qO.n));(first | done | fail))
  (ht:yW P t te e.n=true:=by kernel_rfl) (hd:Nat.blt d n=true:=by kernel_rfl) (hg:zQ os S g=some true:=by rfl) :
  J P n X Q (.ops os (⟨some d,.call { callee:=.builtin .append,args:=[x,y].toArray,argTypes:=[t,t].toArray },ty,pos,af,g⟩::l)) S Ls F ((qG z z2).bind f):=by
 obtain⟨k,hk⟩:=hF.h
 obtain⟨k',hk'⟩:=hF2.h
 exact xL .s i k hk (hk'▸gk k') hx hy h hr.h ht hd hg
theorem aCat{p q:zD}{t2 t3:TypeId}{f:zD->Option ρ}(hx:zK S x=some (vs p))(hy:zK S y=some (vs q))(h:∀ r,J P n X Q (.ops os l) ((d,vs r)::S) Ls F (f r))
  (hd:Nat.blt d n=true:=by kernel_rfl) (hg:zQ os S g=some true:=by rfl):J P n X Q (.ops os (⟨some d,.binOp .add t2 x y t3,ty,pos,af,g⟩::l)) S Ls F ((cat p q).bind f) :=
 tE fun r h1=>jv (fun hS=>zXq hS hx hy h1) (h r) hd hg
theorem aSi{s:zD}{f:Int->Option ρ}(hx:zK S x=some (vs s))(hy:zK S y=some (.int kd ix))(h:∀ r,J P n X Q (.ops os l) ((d,.int .u8 r)::S) Ls F (f r))
  (hu:P.underlying t=some .string:=by kernel_rfl) (hd:Nat.blt d n=true:=by kernel_rfl) (hg:zQ os S g=some true:=by rfl):J P n X Q (.ops os (⟨some d,.index t x y,ty,pos,af,g⟩::l)) S Ls F ((z2G s ix).bind f) :=
 tE fun r h1=>jv (fun hS=>z6v hS hx hy hu h1) (h r) hd hg
theorem aSs{s:zD}{f:zD->Option ρ}(hx:zK S x=some (vs s))(hlo:uR S lo=some vlo)(hhi:uR S hi=some vhi)(h:∀ r,J P n X Q (.ops os l) ((d,vs r)::S) Ls F (f r))
  (b1:Bd vlo ix 0:=by first | exact .inl ⟨rfl,rfl⟩ | exact .inr ⟨_,rfl⟩) (b2:Bd vhi j s.length:=by first | exact .inl ⟨rfl,rfl⟩ | exact .inr ⟨_,rfl⟩)
  (hu:P.underlying t=some .string:=by kernel_rfl) (hd:Nat.blt d n=true:=by kernel_rfl) (hg:zQ os S g=some true:=by rfl):J P n X Q (.ops os (⟨some d,.slice t x lo hi none,ty,pos,af,g⟩::l)) S Ls F ((sub s ix j).bind f) :=
 tE fun r h1=>jv (fun hS=>z4P hS hx hu hlo hhi b1 b2 h1) (h r) hd hg
theorem aRm{a b:Int}{k:IntKind}{t2 t3:TypeId}{f:Int->Option ρ}(hx:zK S x=some (.int k a))(hy:zK S y=some (.int k b))(h:∀ r,J P n X Q (.ops os l) ((d,.int k r)::S) Ls F (f r))
  (hd:Nat.blt d n=true:=by kernel_rfl) (hg:zQ os S g=some true:=by rfl):J P n X Q (.ops os (⟨some d,.binOp .rem t2 x y t3,ty,pos,af,g⟩::l)) S Ls F ((remK a b).bind f) :=
 tE fun r h1=>jv (fun hS=>r_remK hS hx hy h1) (h r) hd hg
theorem aQu{a b:Int}{k:IntKind}{t2 t3:TypeId}{f:Int->Option ρ}(hx:zK S x=some (.int k a))(hy:zK S y=some (.int k b))(h:∀ r,J P n X Q (.ops os l) ((d,.int k r)::S) Ls F (f r))
  (hd:Nat.blt d n=true:=by kernel_rfl) (hg:zQ os S g=some true:=by rfl):J P n X Q (.ops os (⟨some d,.binOp .quo t2 x y t3,ty,pos,af,g⟩::l)) S Ls F ((quoK k a b).bind f) :=
 tE fun r h1=>jv (fun hS=>z9q hS hx hy h1) (h r) hd hg
end
section
variable {β:Type}
def overO:List Value->List Value->(List Value->Option β)->Option β
 | l,[],k=>k l
 | [],_::_,_=>none
 | _::l,v::vs,k=>overO l vs fun l'=>k (v::l')
def putO:Nat->List Value->List Value->(List Value->Option β)->Option β
 | 0,l,v,k=>overO l v k
 | _+1,[],_,_=>none
 | o+1,a::l,v,k=>putO o l v fun l'=>k (a::l')
def nthO:List Nat->Nat->(Nat->Option β)->Option β
 | [],_,_=>none
 | a::_,0,k=>k a
 | _::l,i+1,k=>nthO l i k
def cellsO (v:Value)(k:List Value->Option β): Option β:=match v with
 | .agg ⟨cs⟩=>k cs
 | v=>k [v]
def appO:List Value->List Value->(List Value->Option β)->Option β
 | [],l,k=>k l
 | a::m,l,k=>appO m l fun l'=>k (a::l')
end
def bldC (S:Sl)(ofs:List Nat): List (Nat×Operand)->List Value->Option (List Value)
 | [],cs=>some cs
 | (j,x)::r,cs=>zYM S x fun u=>nthO ofs j fun o=>cellsO u fun vs=>putO o cs vs fun cs'=>bldC S ofs r cs'
def bsC (S:Sl): List (Nat×Operand)->Nat->(List Value->Option (List Value))->Option (List Value)
 | [],_,k=>k []
 | (j,x)::r,i,k=>bif Nat.beq j i then zYM S x fun u=>bsC S r (i+1) fun cs=>cellsO u fun vs=>appO vs cs k else none
section
variable {parts:List (Nat×Operand)}{ofs:List Nat}{zc cs:List Value}{k0:Nat}{te:TypeId}{τ:Type}{e:E τ}{z:List τ}
theorem aBd[i0:Fs t ofs][i1:Zr t (.agg zc.toArray)](h:J P n X Q (.ops os l) ((d,.agg cs.toArray)::S) Ls F m)(hb:bldC S ofs parts zc=some cs:=by rfl)(hv:pv P S (.build t parts.toArray)=some (.agg cs.toArray):=by kernel_rfl)
  (hd:Nat.blt d n=true:=by kernel_rfl) (hg:zQ os S g=some true:=by rfl):J P n X Q (.ops os (⟨some d,.build t parts.toArray,ty,pos,af,g⟩::l)) S Ls F m:=qD _ h hv hd (hg)
theorem aCv{a:Int}{k k1:IntKind}{s t2:TypeId}[i0:It t2 k](hx:zK S x=some (.int k1 a))(h:J P n X Q (.ops os l) ((d,.int k (k.wrap a))::S) Ls F m)(hv:pv P S (.convert s t2 x)=some (.int k (k.wrap a)):=by kernel_rfl)
  (hd:Nat.blt d n=true:=by kernel_rfl) (hg:zQ os S g=some true:=by rfl):J P n X Q (.ops os (⟨some d,.convert s t2 x,ty,pos,af,g⟩::l)) S Ls F m:=qD _ h hv hd hg
theorem avQ{α β:Type}{a:E α}{b:E β}{cs:List Value}{x1:α}{x2:β}(h:RV a Ls F (cs.take a.n) x1)(k:RV b Ls F (cs.drop a.n) x2): RV (wJ a b) Ls F cs (x1,x2):=vP h k
theorem avN{p:Option Addr}{c:Nat}: RV (zX e) Ls F [.slice p 0 c] []:=vL gn
theorem avF{p:Option Addr}{c m:Nat}(h:qF F (R e p c m z)): RV (zX e) Ls F [.slice p m c] z:=vL (by obtain⟨k,hk⟩:=h.h;exact hk▸gk k)
theorem aBs[i0:Se t te e](h:∀ p1 c',J P n X Q (.ops os l) ((d,sv p1 z c')::S) Ls (Rl e p1 c' z::F) m)(hb:bsC S parts 0 some=some cs:=by rfl)
  (hrd:RD e Ls F cs z:=by(repeat' (first | exact rN | apply rC | exact vI | exact vB | exact vS | exact vU | exact avN | apply avQ | apply avF | exact qF.y | apply qF.n));(first | done | fail))
  (ht:yW P t te e.n=true:=by kernel_rfl) (hc:zKl P S t k0 parts=some cs:=by kernel_rfl) (hl:z.length=k0:=by rfl) (hd:Nat.blt d n=true:=by kernel_rfl) (hg:zQ os S g=some true:=by rfl) :
  J P n X Q (.ops os (⟨some d,.buildSlice t k0 parts.toArray,ty,pos,af,g⟩::l)) S Ls F m:=uC .s te cs z hrd h ht hc hl hd hg
end
theorem wO.f{f:PP}(h:qF F f): wO Ls F f:=by obtain⟨k,hk⟩:=h.h;exact hk▸gk k
theorem wO.zz{τ:Type}{e:E τ}{te:TypeId}: wO Ls F (Ar e te [] none 0 0 []):=fun _ _ _ _=>⟨.inl ⟨rfl,rfl,rfl,rfl⟩,rfl⟩
theorem wO.fa{f:PP}(h:qF F f:=by(repeat (first | exact qF.y | refine qF.n ?_));(first | done | fail)): wO Ls F f:=wO.f h
theorem wO.ga{τ:Type}{e:E τ}{p:Option Addr}{c m:Nat}{l:List τ}(h:qF F (R e p c m l):=by(repeat (first | exact qF.y | refine qF.n ?_));(first | done | fail)): wO Ls F (R e p c (List.length l) l):=gl (wO.f h)
theorem wO.gA{τ:Type}{e:E τ}{te:TypeId}{r:zG}{p:Option Addr}{c m:Nat}{l:List τ}(h:qF F (Ar e te r p c m l):=by(repeat (first | exact qF.y | refine qF.n ?_));(first | done | fail)): wO Ls F (Ar e te r p c (List.length l) l):=gL (wO.f h)
theorem wO.pp{τ:Type}{e:E τ}{b o:Nat}{u:τ}(h:PtS F e b o u): wO Ls F (Pt e b o u):=fun A w _ hF=>h.h _ w hF
theorem xG.cc{p:PP->Prop}{f:PP}{F:List PP}(h:p f)(t:xG p F): xG p (f::F):=⟨h,t⟩
theorem xG.nn{p:PP->Prop}: xG p []:=trivial
inductive SE:Sl->Sl->Prop
 | n:SE [] []
 | c {d:Nat} {v v':Value} {l l':Sl} (h:v=v') (t:SE l l'):SE ((d,v)::l) ((d,v')::l')
theorem SE.ca{d:Nat}{v v':Value}{l l':Sl}(t:SE l l')(h:v=v':=by first | (simp only[*];done) | (simp[*];done)): SE ((d,v)::l) ((d,v')::l'):=.c h t
theorem SE.eq{S S':Sl}(h:SE S S'): S=S':=by
 induction h with
 | n=>rfl
 | c h _ ih=>rw[h,ih]
theorem gvA{I:uN->Prop}{S1 S2:Sl}{L2:List zG}{F2:List PP}{js:List Nat}(hk:∀ K,I K->K S2 L2 F2)(hS:zWh S (S2.map Prod.fst)=some S1:=by rfl)
  (hE:SE S1 S2:=by(repeat (first | exact SE.n | apply SE.c rfl | refine SE.ca ?_));(first | done | fail))
  (hX:BX Ls L2:=by(repeat (first | exact BX.n | refine BX.m ?_ | refine BX.s ?_));(first | done | fail)) (hF:xG (wO Ls F) F2:=by(repeat' (first | exact xG.nn | refine xG.cc ?_ ?_ | exact gn | exact wO.zz | exact wO.fa | exact wO.ga | exact wO.gA));(first | done | fail))
  (hL:xT Ls 0 js L2:=by(repeat' (first | exact xT.n | exact qO.y | apply xT.z _ rfl | apply xT.c | apply qO.n));(first | done | fail)) (hn:js.Nodup:=by decide):Gv Ls S F I:=by
 cases hE.eq
 exact gv hk js hF hL.eq hS hn
inductive Lnt (Ls:List zG)(F:List PP): List PP->List Nat->Prop
 | n:Lnt Ls F [] []
 | c {f:PP} {F1:List PP} {ls:List Nat} (h:qF F f) (t:Lnt Ls F F1 ls):Lnt Ls F (f::F1) ls
 | e {τ:Type} {e:E τ} {p:Option Addr} {c:Nat} {F1:List PP} {ls:List Nat} (t:Lnt Ls F F1 ls):Lnt Ls F (R e p c 0 []::F1) ls
 | l {τ:Type} {e:E τ} {te:TypeId} {r:zG} {p:Option Addr} {c m i:Nat} {z:List τ} {F1:List PP} {ls:List Nat} (h:qF F (Ar e te r p c m z)) (hi:qO Ls i r) (t:Lnt Ls F F1 ls):Lnt Ls F (R e p c m z::F1) (i::ls)
theorem Lnt.ca{f:PP}{F1:List PP}{ls:List Nat}(t:Lnt Ls F F1 ls)(h:qF F f:=by(repeat (first | exact qF.y | refine qF.n ?_));(first | done | fail)): Lnt Ls F (f::F1) ls:=.c h t
theorem Lnt.ok{F1:List PP}{ls ls0 js:List Nat}(h:Lnt Ls F F1 ls)(hk:z2Q (js++ls0) Ls.length=true): (∀ i∈ls,i∈ls0)->xG (OKc Ls F js ls0) F1:=by
 induction h with
 | n=>exact fun _=>trivial
 | c h _ ih=>exact fun hs=>⟨by obtain⟨k,hk⟩:=h.h;exact hk▸ck k,ih hs⟩
 | e _ ih=>exact fun hs=>⟨cn,ih hs⟩
 | l h hi _ ih=>exact fun hs=>⟨by obtain⟨k,hk'⟩:=h.h;exact cl _ k hk hi.h hk' (by simpa using hs _ (Qm ..)),ih fun i hi=>hs i (Qi _ hi)⟩
theorem aC0 (ci:Nat){fd:FuncId}{pp:Prop}{cal:Operand}{xs:Array Operand}{ats:Array TypeId}{bs0 caps:Array Value}[i0:Cn fd ci pp](hcal:zK S cal=some (.func (.func fd) bs0 caps))
  (h:pp->J P n X Q (.ops os (⟨some d,.call { callee:=.value cal,args:=xs,argTypes:=ats },ty,pos,af,g⟩::l)) S Ls F m):J P n X Q (.ops os (⟨some d,.call { callee:=.value cal,args:=xs,argTypes:=ats },ty,pos,af,g⟩::l)) S Ls F m:=h i0.h
theorem aCa{fd:FuncId}{cal:Operand}{xs:List Operand}{bs0 caps:List Value}{ats:Array TypeId}{us vs:List Value}{L:List zG}{F1:List PP}{m1:Option σ}{post:σ->(Value->List zG->List PP->Prop)->Prop}{f:σ->Option ρ}{js ls:List Nat}
  (c:zP qd P fd vs L F1 m1 post) (hcal:zK S cal=some (.func (.func fd) bs0.toArray caps.toArray)) (hx:z3W S xs=some us) (hv:bs0++us++caps=vs)
  (h:∀ r K,(∀ {v L1 F1},z6r ls js L1 Ls F1 F (fun Ls' F'=>J P n X Q (.ops os l) ((d,v)::S) Ls' F' (f r))->K v L1 F1)->post r K)
  (hX:BX Ls L:=by(repeat (first | exact BX.n | refine BX.m ?_ | refine BX.s ?_));(first | done | fail)) (hF:Lnt Ls F F1 ls:=by(repeat' (first | exact Lnt.n | exact qF.y | exact qO.y | (apply Lnt.c;focus ((repeat (first | exact qF.y | refine qF.n ?_));(first | done | fail))) | apply Lnt.e | apply Lnt.l | refine qF.n ?_ | apply qO.n));(first | done | fail))
  (hL:xT Ls 0 js L:=by(repeat' (first | exact xT.n | exact qO.y | apply xT.z _ rfl | apply xT.c | apply qO.n));(first | done | fail)) (hk:z2Q (js++ls) Ls.length=true:=by rfl) (hd:Nat.blt d n=true:=by kernel_rfl) (hg:zQ os S g=some true:=by rfl) :
  J P n X Q (.ops os (⟨some d,.call { callee:=.value cal,args:=xs.toArray,argTypes:=ats },ty,pos,af,g⟩::l)) S Ls F (m1.bind f) :=
 qK .s js ls c hcal hx hv (hF.ok hk fun _ h=>h) h hL.eq hk hd hg
theorem aR1{fn:Func}{post:ρ->(Value->List zG->List PP->Prop)->Prop}{r:ρ}{v v1:Value}{L1:List zG}{F1:List PP}{js:List Nat}(hf:fn.results=#[.tmp t])(hv:wT S t=some v)(hk:∀ K,post r K->K v1 L1 F1)
  (he:v=v1:=by first | rfl | (simp only[sv,UB] <;> rfl)) (hX:BX Ls L1:=by(repeat (first | exact BX.n | refine BX.m ?_ | refine BX.s ?_));(first | done | fail)) (hF:xG (wO Ls F) F1:=by(repeat' (first | exact xG.nn | refine xG.cc ?_ ?_ | exact gn | exact wO.zz | exact wO.fa | exact wO.ga | exact wO.gA));(first | done | fail))
  (hL:xT Ls 0 js L1:=by(repeat' (first | exact xT.n | exact qO.y | apply xT.z _ rfl | apply xT.c | apply qO.n));(first | done | fail)) (hn:js.Nodup:=by decide):J P n X (zV8 P fn X post) (.ex .ret) S Ls F (some r):=yY hf hv hk js hF he hL.eq hn
theorem lR{b te:Nat}{c:List Value}{fr:Nat×Nat}{rs:List ResultVar}{vs:List Value}{i:Nat}{v:Value}[i0:Sh ty false 1](hl:wT S t=some (pt b 0))(hr:qO Ls i [(b,.cells c.toArray te fr)])(hv:z6J c 0 some=some v)(k:RL P S Ls rs vs)(hv2:zMl P ty c.toArray 0=some v:=by kernel_rfl): RL P S Ls (.cell t ty::rs) (v::vs):=lC i v hl hr.h k hv2
theorem lA{b te j:Nat}{c cs:List Value}{fr:Nat×Nat}{rs:List ResultVar}{vs:List Value}{i:Nat}[i0:Sh ty true j](hl:wT S t=some (pt b 0))(hr:qO Ls i [(b,.cells c.toArray te fr)])(hv:z0h j c some=some cs)(k:RL P S Ls rs vs)(hv2:zMl P ty c.toArray 0=some (.agg cs.toArray):=by kernel_rfl): RL P S Ls (.cell t ty::rs) (.agg cs.toArray::vs):=lC i _ hl hr.h k hv2
theorem aRg{fn:Func}{rs:List ResultVar}{vs:List Value}{post:ρ->(Value->List zG->List PP->Prop)->Prop}{r:ρ}{v1:Value}{L1:List zG}{F1:List PP}{js:List Nat}(hf:fn.results=rs.toArray)(hk:∀ K,post r K->K v1 L1 F1)
  (hr:RL P S Ls rs vs:=by(repeat' (first | exact lN | exact qO.y | rfl | apply lT | apply lR | apply lA | apply qO.n));(first | done | fail))
  (he:(if h:vs.length=1 then vs[0] else .tuple vs.toArray)=v1:=by first | rfl | (simp only[sv,UB] <;> rfl)) (hX:BX Ls L1:=by(repeat (first | exact BX.n | refine BX.m ?_ | refine BX.s ?_));(first | done | fail)) (hF:xG (wO Ls F) F1:=by(repeat' (first | exact xG.nn | refine xG.cc ?_ ?_ | exact gn | exact wO.zz | exact wO.fa | exact wO.ga | exact wO.gA));(first | done | fail))
  (hL:xT Ls 0 js L1:=by(repeat' (first | exact xT.n | exact qO.y | apply xT.z _ rfl | apply xT.c | apply qO.n));(first | done | fail)) (hn:js.Nodup:=by decide):J P n X (zV8 P fn X post) (.ex .ret) S Ls F (some r):=uI hf hr hk js hF he hL.eq hn
theorem gMk{dd:Option Nat}(h:J P n X Q (.ops os (⟨dd,.makeSlice t x y,ty,pos,af,g⟩::l)) S Ls F m): J P n X Q (.ops os (⟨dd,.makeSlice t x y,ty,pos,af,g⟩::l)) S Ls F m:=h
structure OWK (d:Nat): Prop
theorem hO{G:Prop}(d:Nat)(h:OWK d->G): G:=h ⟨⟩
class By (t:TypeId)(te:outParam TypeId): Prop
section
variable {τ ω:Type}{e:E τ}{ef:E ω}{te:TypeId}{r:zG}{p0:Option Addr}{c k0 i:Nat}{z:List τ}{ix:Int}{b o o':Nat}{u:τ}{ag:Bool}{v zv:Value}
theorem aIa{f:τ->Option ρ}(hx:zK S x=some (.slice p0 k0 c))(hy:zK S y=some (.int kd ix))(h:∀ u,zB z ix=some u->∀ b o,p0=some ⟨b,o,none⟩->J P n X Q (.ops os l) ((d,pt b (o+ix.toNat*e.n))::S) Ls F (f u))
  (hF:qF F (Ar e te r p0 c k0 z):=by(repeat (first | exact qF.y | refine qF.n ?_));(first | done | fail)) (ht:wY P t=some e.n:=by kernel_rfl) (hd:Nat.blt d n=true:=by kernel_rfl) (hg:zQ os S g=some true:=by rfl):J P n X Q (.ops os (⟨some d,.indexAddr t x y,ty,pos,af,g⟩::l)) S Ls F ((zB z ix).bind f):=by
 obtain⟨k,hk⟩:=hF.h
 exact jia k hk hx hy h ht hd hg
theorem aLA{op:uO ef}[i0:Ty t ef op ag](s:xM e ef)(hx:zK S x=some (pt b o'))(h:op.op (s.get u) [] F fun cs F'=>mkC ag cs fun v=>J P n X Q (.ops os l) ((d,v)::S) Ls F' m)
  (hp:p0=some ⟨b,o,none⟩:=by assumption) (hF:qF F (Ar e te r p0 c k0 z):=by(repeat (first | exact qF.y | refine qF.n ?_));(first | done | fail)) (he:o'=o+ix.toNat*e.n+s.off:=by rfl) (hm:zB z ix=some u:=by assumption) (hr:qO Ls i r:=by(repeat (first | exact qO.y | apply qO.n));(first | done | fail))
  (ht:wX P t=some (ag,ef.n):=by kernel_rfl) (hag:ag=true∨ef.n=1:=by first | exact .inl rfl | exact .inr rfl) (hd:Nat.blt d n=true:=by kernel_rfl) (hg:zQ os S g=some true:=by rfl):J P n X Q (.ops os (⟨some d,.load t x,ty,pos,af,g⟩::l)) S Ls F m:=by
 obtain⟨k,hk⟩:=hF.h
 subst he
 exact jlA i k s ag op hk hp hm hx h hr.h ht hag hd hg
theorem aSA{op:uO ef}[i0:Ty t ef op ag]{nz:ω}(s:xM e ef)(hx:zK S x=some (pt b o'))(hy:zK S y=some v)(h:∀ r',uE Ls i r' fun Ls'=>J P n X Q (.ops os l) S Ls' (Ar e te r' p0 c k0 (z.set ix.toNat (s.put u nz))::F) m)
  (hp:p0=some ⟨b,o,none⟩:=by assumption) (hF:qF F (Ar e te r p0 c k0 z):=by(repeat (first | exact qF.y | refine qF.n ?_));(first | done | fail)) (he:o'=o+ix.toNat*e.n+s.off:=by rfl) (hm:zB z ix=some u:=by assumption) (hr:qO Ls i r:=by(repeat (first | exact qO.y | apply qO.n));(first | done | fail))
  (hv:RV ef Ls F v.cells.toList nz:=by(repeat' (first | exact vI | exact vB | exact vS | exact vU | exact avN | apply avQ | apply avF | exact qF.y | apply qF.n));(first | done | fail)) (ht:wX P t=some (ag,ef.n):=by kernel_rfl) (hg:zQ os S g=some true:=by rfl):J P n X Q (.ops os (⟨none,.store t x y,ty,pos,af,g⟩::l)) S Ls F m:=by
 obtain⟨k,hk⟩:=hF.h
 subst he
 exact jsA .s i k s nz ag hk hp hm hx hy hv h hr.h ht hg
theorem aMk{zd:τ}{k1 k2:IntKind}{i j:Int}{f:List τ->Option ρ}[i0:Se t te e][i1:Zr te zv](hx:zK S x=some (.int k1 i))(hy:zK S y=some (.int k2 j))
  (h:∀ z r' p1 c',zM5 Ls r' fun Ls'=>J P n X Q (.ops os l) ((d,sv p1 z c')::S) Ls' (Al e te r' p1 c' z::F) (f z)) (hzr:RV e Ls F zv.cells.toList zd:=by(repeat' (first | exact vI | exact vB | exact vS | exact vU | exact avN | apply avQ | apply avF | exact qF.y | apply qF.n));(first | done | fail)) (hz:tX P te=some zv:=by kernel_rfl) (ht:yW P t te e.n=true:=by kernel_rfl)
  (hd:Nat.blt d n=true:=by kernel_rfl) (hg:zQ os S g=some true:=by rfl):J P n X Q (.ops os (⟨some d,.makeSlice t x y,ty,pos,af,g⟩::l)) S Ls F ((mkS i j zd).bind f):=jmk .s te zd zv hzr hx hy h hz ht hd hg
theorem aBo{parts:List (Nat×Operand)}{cs:List Value}[i0:Se t te e](h:∀ r' p1 c',zM5 Ls r' fun Ls'=>J P n X Q (.ops os l) ((d,sv p1 z c')::S) Ls' (Al e te r' p1 c' z::F) m)(ho:OWK d:=by assumption)(hb:bsC S parts 0 some=some cs:=by rfl)
  (hrd:RD e Ls F cs z:=by(repeat' (first | exact rN | apply rC | exact vI | exact vB | exact vS | exact vU | exact avN | apply avQ | apply avF | exact qF.y | apply qF.n));(first | done | fail)) (ht:yW P t te e.n=true:=by kernel_rfl) (hc:zKl P S t k0 parts=some cs:=by kernel_rfl) (hl:z.length=k0:=by rfl) (hm:Nat.ble k0 16777216=true:=by kernel_rfl) (hd:Nat.blt d n=true:=by kernel_rfl) (hg:zQ os S g=some true:=by rfl) :
  J P n X Q (.ops os (⟨some d,.buildSlice t k0 parts.toArray,ty,pos,af,g⟩::l)) S Ls F m:=jbo .s te cs z hrd h ht hc hl hm hd hg
theorem aCb{z:List Int}{s:TypeId}[i0:By s te](hx:zK S x=some (.slice p0 k0 c))(h:J P n X Q (.ops os l) ((d,vs (zV2 z))::S) Ls F m)(hF:qF F (R (zH .u8) p0 c k0 z):=by(repeat (first | exact qF.y | refine qF.n ?_));(first | done | fail))
  (hs:P.underlying s=some (.slice te):=by kernel_rfl) (he:P.underlying te=some (.int .u8):=by kernel_rfl) (ht:P.underlying t=some .string:=by kernel_rfl) (hd:Nat.blt d n=true:=by kernel_rfl) (hg:zQ os S g=some true:=by rfl) :
  J P n X Q (.ops os (⟨some d,.convert s t x,ty,pos,af,g⟩::l)) S Ls F m:=by
 obtain⟨k,hk⟩:=hF.h
 exact jsb .s (hk▸gk k) hx hs he ht h hd hg
theorem aSh (hF:qF F (Ar e te r p0 c k0 z))(h:uE Ls i [] fun Ls'=>J P n X Q p S Ls' (R e p0 c k0 z::F) m)(hr:qO Ls i r:=by(repeat (first | exact qO.y | apply qO.n));(first | done | fail))(hl:uE Ls i [] (fun Ls'=>p.less Ls Ls'):=by first | exact trivial | exact rfl): J P n X Q p S Ls F m:=by
 obtain⟨k,hk⟩:=hF.h
 exact yU i k hk hr.h h hl
theorem z5E (hF:qF F (Ar e te r p0 c k0 z))(hr:qO Ls i r:=by(repeat (first | exact qO.y | apply qO.n));(first | done | fail))(hl:uE Ls i [] (fun Ls'=>p.less Ls Ls'):=by first | exact trivial | exact rfl)
  (h:uE Ls i [] fun Ls'=>J P n X Q p S Ls' (R e p0 c k0 z::F) m:=by first | exact aR1 rfl rfl (fun _ k=>k ..) | exact aRg rfl (fun _ k=>k ..)):J P n X Q p S Ls F m:=aSh hF h hr hl
theorem z9g (hF:qF F (Ar e te r p0 c k0 z))(hr:qO Ls i r:=by(repeat (first | exact qO.y | apply qO.n));(first | done | fail))(hl:uE Ls i [] (fun Ls'=>p.less Ls Ls'):=by first | exact trivial | exact rfl)
  (h:uE Ls i [] fun Ls'=>J P n X Q p S Ls' (R e p0 c k0 z::F) m:=by exact qI (gvA (fun _ k=>k ..))):J P n X Q p S Ls F m:=aSh hF h hr hl
theorem aShS (hF:qF F (Ar e te r p0 c k0 z))(hr:qO Ls i r:=by(repeat (first | exact qO.y | apply qO.n));(first | done | fail))(hl:uE Ls i [] (fun Ls'=>p.less Ls Ls'):=by first | exact trivial | exact rfl)
  (h:uE Ls i [] fun Ls'=>J P n X Q p S Ls' (R e p0 c k0 z::F) m:=by first | exact z5E (.n .y) | exact z5E (.n (.n .y)) | exact z5E (.n (.n (.n .y))) | exact z5E (.n (.n (.n (.n .y)))) | exact z5E (.n (.n (.n (.n (.n .y)))))):J P n X Q p S Ls F m:=aSh hF h hr hl
end
section
variable {te:TypeId}{r:zG}{p0:Option Addr}{c k0 i:Nat}{w:zD}{ix:Int}{b o':Nat}
theorem aBy{t2:TypeId}[i0:By t2 te](hx:zK S x=some (vs w))(h:∀ r p1 c',zM5 Ls r fun Ls'=>J P n X Q (.ops os l) ((d,.slice p1 w.length c')::S) Ls' (Byr te r p1 w.length w::F) m)
  (hs:P.underlying t=some .string:=by kernel_rfl) (ht:P.underlying t2=some (.slice te):=by kernel_rfl) (he:P.underlying te=some (.int .u8):=by kernel_rfl) (hd:Nat.blt d n=true:=by kernel_rfl) (hg:zQ os S g=some true:=by rfl) :
  J P n X Q (.ops os (⟨some d,.convert t t2 x,ty,pos,af,g⟩::l)) S Ls F m:=jby .s hx hs ht he h hd hg
theorem aByJ{f:UInt8->Option ρ}(hx:zK S x=some (.slice p0 k0 c))(hy:zK S y=some (.int kd ix))(h:∀ u,zB w ix=some u->∀ b,p0=some ⟨b,0,none⟩->J P n X Q (.ops os l) ((d,pt b (0+ix.toNat*1))::S) Ls F (f u))
  (hF:qF F (Byr te r p0 k0 w):=by(repeat (first | exact qF.y | refine qF.n ?_));(first | done | fail)) (ht:wY P t=some 1:=by kernel_rfl) (hd:Nat.blt d n=true:=by kernel_rfl) (hg:zQ os S g=some true:=by rfl):J P n X Q (.ops os (⟨some d,.indexAddr t x y,ty,pos,af,g⟩::l)) S Ls F ((zB w ix).bind f):=by
 obtain⟨k,hk⟩:=hF.h
 exact jbyJ k hk hx hy h ht hd hg
theorem aByL{u:UInt8}(hx:zK S x=some (pt b o'))(h:J P n X Q (.ops os l) ((d,.int .u8 ((u.toNat:Nat):Int))::S) Ls F m)(hp:p0=some ⟨b,0,none⟩:=by assumption)(hF:qF F (Byr te r p0 k0 w):=by(repeat (first | exact qF.y | refine qF.n ?_));(first | done | fail))(he:o'=0+ix.toNat*1:=by rfl)
  (hu:zB w ix=some u:=by assumption) (hr:qO Ls i r:=by(repeat (first | exact qO.y | apply qO.n));(first | done | fail)) (ht:wX P t=some (false,1):=by kernel_rfl) (hd:Nat.blt d n=true:=by kernel_rfl) (hg:zQ os S g=some true:=by rfl):J P n X Q (.ops os (⟨some d,.load t x,ty,pos,af,g⟩::l)) S Ls F m:=by
 obtain⟨k,hk⟩:=hF.h
 subst he
 exact jbyl i k hk hr.h hp hu hx h ht hd hg
theorem aByS{f:zD->Option ρ}{v:Int}(hx:zK S x=some (pt b o'))(hy:zK S y=some (.int .u8 v))(h:∀ l' r',uE Ls i r' fun Ls'=>J P n X Q (.ops os l) S Ls' (Byr te r' p0 k0 l'::F) (f l'))(hp:p0=some ⟨b,0,none⟩:=by assumption)
  (hF:qF F (Byr te r p0 k0 w):=by(repeat (first | exact qF.y | refine qF.n ?_));(first | done | fail)) (he:o'=0+ix.toNat*1:=by rfl) (hr:qO Ls i r:=by(repeat (first | exact qO.y | apply qO.n));(first | done | fail)) (ht:wX P t=some (false,1):=by kernel_rfl) (hg:zQ os S g=some true:=by rfl) :
  J P n X Q (.ops os (⟨none,.store t x y,ty,pos,af,g⟩::l)) S Ls F ((bset w ix v).bind f):=by
 obtain⟨k,hk⟩:=hF.h
 subst he
 exact jbys .s i k hk hr.h hp hx hy h ht hg
theorem aByC{t2:TypeId}[i0:By t te](hx:zK S x=some (.slice p0 k0 c))(h:J P n X Q (.ops os l) ((d,vs w)::S) Ls F m)(hF:qF F (Byr te r p0 k0 w):=by(repeat (first | exact qF.y | refine qF.n ?_));(first | done | fail))(hr:qO Ls i r:=by(repeat (first | exact qO.y | apply qO.n));(first | done | fail))
  (hs:P.underlying t=some (.slice te):=by kernel_rfl) (he:P.underlying te=some (.int .u8):=by kernel_rfl) (ht:P.underlying t2=some .string:=by kernel_rfl) (hd:Nat.blt d n=true:=by kernel_rfl) (hg:zQ os S g=some true:=by rfl) :
  J P n X Q (.ops os (⟨some d,.convert t t2 x,ty,pos,af,g⟩::l)) S Ls F m:=by
 obtain⟨k,hk⟩:=hF.h
 exact jbyS .s k hk hr.h hx hs he ht h hd hg
end
inductive UQ
 | r (x:zG)
 | c (l:List (Nat×Value))
def putsC:List Value->List (Nat×Value)->(List Value->Prop)->Prop
 | cs,[],k=>k cs
 | cs,(o,v)::l,k=>uE cs o v fun cs'=>putsC cs' l k
def modR:List zG->Nat->List (Nat×Value)->(List zG->Prop)->Prop
 | [],_,_,_=>False
 | r::L,0,l,k=>match r with
  | [(b,.cells ⟨cs⟩ t fr)]=>putsC cs l fun cs'=>k ([(b,.cells cs'.toArray t fr)]::L)
  | _=>False
 | r::L,i+1,l,k=>modR L i l fun L'=>k (r::L')
def updQ:List zG->List (Nat×UQ)->(List zG->Prop)->Prop
 | L,[],k=>k L
 | L,(i,.r r)::us,k=>putR L i r fun L'=>updQ L' us k
 | L,(i,.c l)::us,k=>modR L i l fun L'=>updQ L' us k
abbrev KQ:=List Nat->List (Nat×UQ)->List Nat->Sl->List PP->Prop
def kq (S:Sl)(L:List zG)(F:List PP)(K:uN): KQ:=fun ks us fs S1 F1=>selSC S ks S1 fun S'=>updQ L us fun L'=>selFC F fs fun F'=>appC F1 F' fun F2=>K S' L' F2
def cid:Code->Nat×Nat
 | .region id _ _=>(id,0)
 | .seq a _=>match cid a with
  | (k,j)=>(k,j+1)
 | .cond _ a _=>match cid a with
  | (k,j)=>(k,j+1)
 | .block _ a=>match cid a with
  | (k,j)=>(k,j+1)
 | .loop a=>match cid a with
  | (k,j)=>(k,j+1)
 | .scope a=>match cid a with
  | (k,j)=>(k,j+1)
 | _=>(9999,0)
structure ROK (d len:Nat){τ:Type}(e:E τ)(te:TypeId): Prop
theorem hR{τ:Type}{G:Prop}(d len:Nat)(e:E τ)(te:TypeId)(h:ROK d len e te->G): G:=h ⟨⟩
theorem jroE{τ:Type}{e:E τ}{te:TypeId}{d len:Nat}(hd:(os.back?.bind fun o:Oper=>o.dst)=some d)(h:zM5 Ls [] fun Ls'=>J P n X Q (.ops os []) S Ls' (Ar e te [] none 0 0 []::F) m)
  (hR:ROK d len e te:=by assumption) (hl:Nat.beq Ls.length len=true:=by rfl):J P n X Q (.ops os []) S Ls F m:=uA e te h (by rw[zJS];exact trivial)
structure LIK (n k j:Nat){σ:Type}(I:σ->KQ->Prop): Prop
theorem hI{σ:Type}{G:Prop}(n k j:Nat)(I:σ->KQ->Prop)(h:LIK n k j I->G): G:=h ⟨⟩
structure LPK (n k j:Nat)(I:KQ->Prop): Prop
theorem hP{G:Prop}(n k j:Nat)(I:KQ->Prop)(h:LPK n k j I->G): G:=h ⟨⟩
theorem jjpQ{cx cy:Code}{k j:Nat}{I:KQ->Prop}(hk:cid cx=(k,j))(hx:J P n X (jnQ X n fun(_:Unit) K=>I (kq S Ls F K)) (.code cx) S Ls F (some ()))
  (hy:∀ K:uN,(∀ {S' L' F'},J P n X Q (.code cy) S' L' F' m->K S' L' F')->I (kq S Ls F K)) (hI:LPK 4 k j I:=by assumption):J P n X Q (.code (.seq cx cy)) S Ls F m:=jjp (fun K=>I (kq S Ls F K)) hx hy
theorem jjqQ{cx:Code}{k j:Nat}{I:KQ->Prop}(hk:cid cx=(k,j))(hx:J P n X (jnQ X n fun(_:Unit) K=>I (kq S Ls F K)) (.code cx) S Ls F (some ()))
  (hy:∀ K:uN,(∀ {S' L' F'},J P n X Q (.ex .normal) S' L' F' m->K S' L' F')->I (kq S Ls F K)) (hI:LPK 5 k j I:=by assumption):J P n X Q (.code cx) S Ls F m:=jjq (fun K=>I (kq S Ls F K)) hx hy
section
variable {cx cy:Code}{k j:Nat}{I:σ->KQ->Prop}
theorem jlpQ{B:σ->Option (σ⊕ρ)}{s0:σ}(hk:cid cx=(k,j))(g:Gv Ls S F (fun K=>I s0 (kq S Ls F K)))
  (hb:∀ s K,(∀ {S' L' F'},J P n X (lpQ X n (fun s K=>I s (kq S Ls F K)) Q) (.code cx) S' L' F' (B s)->K S' L' F')->I s (kq S Ls F K)) (hI:LIK 0 k j I:=by assumption):J P n X Q (.code (.loop cx)) S Ls F (zN B s0):=jlp (fun s K=>I s (kq S Ls F K)) g hb
theorem jjnQ{m1:Option σ}{f:σ->Option ρ}(hk:cid cx=(k,j))(hx:J P n X (jnQ X n fun s K=>I s (kq S Ls F K)) (.code cx) S Ls F m1)
  (hy:∀ s K,(∀ {S' L' F'},J P n X Q (.code cy) S' L' F' (f s)->K S' L' F')->I s (kq S Ls F K)) (hI:LIK 1 k j I:=by assumption):J P n X Q (.code (.seq cx cy)) S Ls F (m1.bind f):=jjn (fun s K=>I s (kq S Ls F K)) hx hy
theorem jjoQ{m1:Option (σ⊕ρ)}{f:σ->Option ρ}(hk:cid cx=(k,j))(hx:J P n X (lpQ X n (fun s K=>I s (kq S Ls F K)) Q) (.code cx) S Ls F m1)
  (hy:∀ s K,(∀ {S' L' F'},J P n X Q (.code cy) S' L' F' (f s)->K S' L' F')->I s (kq S Ls F K)) (hI:LIK 2 k j I:=by assumption):J P n X Q (.code (.seq cx cy)) S Ls F (wZ m1 f):=jjo (fun s K=>I s (kq S Ls F K)) hx hy
theorem jjcQ{m1:Option σ}{f:σ->Option ρ}(hk:cid cx=(k,j))(hx:J P n X (jnQ X n fun s K=>I s (kq S Ls F K)) (.code cx) S Ls F m1)
  (hy:∀ s K,(∀ {S' L' F'},J P n X Q (.ex .normal) S' L' F' (f s)->K S' L' F')->I s (kq S Ls F K)) (hI:LIK 3 k j I:=by assumption):J P n X Q (.code cx) S Ls F (m1.bind f):=jjc (fun s K=>I s (kq S Ls F K)) hx hy
end
theorem gGv{I:uN->Prop}(h:Gv Ls S F I): Gv Ls S F I:=h
inductive OT
 | e
 | l (is:List Nat) (t:OT)
 | f (i:Nat) (t:OT)
 | w (i j:Nat) (t u:OT)
 | v (i j k:Nat) (t u x:OT)
 | s (d:Nat) (t u:OT)
 | b (B J:List Nat) (t:OT)
def DJ (o:OT)(G:Prop): Prop:=G
structure DRK (id:Nat)(B J:List Nat)(o:OT): Prop
theorem hD{G:Prop}(id:Nat)(B J:List Nat)(o:OT)(h:DRK id B J o->G): G:=h ⟨⟩
section
variable {B Jj B' J' js ls:List Nat}{li:Array Bool}{fuel i j k q id:Nat}{o u w:OT}{is:List Nat}{G:Prop}{z0:Code}{v:Value}{ag:Bool}{b oo:Nat}{c cs:List Value}{te:TypeId}{fr:Nat×Nat}{L0:List zG}
theorem gDJ (h:DJ o G): DJ o G:=h
theorem dds (h:DJ o (J P n X (zSQ P z0 Q) (.dr l.toArray B Jj l.length (Array.replicate l.length false)) S Ls F m))(hh:DRK id B Jj o:=by assumption)(hm:P.follows .mixedOrders=true:=by kernel_rfl):
  J P n X Q (.code (.seq (.region id l.toArray true) z0)) S Ls F m:=tB B Jj _ h rfl hm
theorem ddS (h:DJ o (J P n X Q (.dr l.toArray B Jj l.length (Array.replicate l.length false)) S Ls F m))(hh:DRK id B Jj o:=by assumption)(hm:P.follows .mixedOrders=true:=by kernel_rfl):
  J P n X Q (.code (.region id l.toArray true)) S Ls F m:=jdS B Jj _ h rfl hm
theorem dE (h:J P n X Q (.ex .normal) S Ls F m)(hr:Region.ready .any os li=[]:=by kernel_rfl): DJ .e (J P n X Q (.dr os B Jj fuel li) S Ls F m):=wI h hr
theorem dNil (h:DJ o G): DJ (.l [] o) G:=h
theorem d1f (h:DJ o (J P n X Q (.fo i os B Jj fuel li) S Ls F m))(hr:Region.ready .any os li=[i]:=by kernel_rfl): DJ (.f i o) (J P n X Q (.dr os B Jj (fuel+1) li) S Ls F m):=qQ i h hr
theorem d2f (h:DJ o (J P n X Q (.fo i os B Jj fuel li) S Ls F m))(h':DJ u (J P n X Q (.fo j os B Jj fuel li) S Ls F m))(hr:Region.ready .any os li=[i,j]:=by kernel_rfl): DJ (.w i j o u) (J P n X Q (.dr os B Jj (fuel+1) li) S Ls F m):=jd2 i j h h' hr
theorem d3f (h:DJ o (J P n X Q (.fo i os B Jj fuel li) S Ls F m))(h':DJ u (J P n X Q (.fo j os B Jj fuel li) S Ls F m))(h'':DJ w (J P n X Q (.fo k os B Jj fuel li) S Ls F m))(hr:Region.ready .any os li=[i,j,k]:=by kernel_rfl): DJ (.v i j k o u w) (J P n X Q (.dr os B Jj (fuel+1) li) S Ls F m):=jd3 i j k h h' h'' hr
theorem dN (h:DJ o (J P n X Q (.dr os B Jj fuel li) S Ls F m))(hJ:Jj.map (Ls[·]?)=Jj.map (L0[·]?):=by rfl): DJ o (J P n X Q (.af L0 os B Jj fuel li) S Ls F m):=qU h hJ
theorem dB (h:DJ o (J P n X Q (.dr os B' J' fuel li) S Ls F m))(hb:B.all (fun j=>!li.getD j false)=false:=by kernel_rfl): DJ (.b B' J' o) (J P n X Q (.af L0 os B Jj fuel li) S Ls F m):=jdb B' J' h hb
theorem dSi{b:Bool}(hl:wT S t=some (.bool b))(h1:DJ o (J P n X Q (.dr os B Jj fuel li) ((t,.bool true)::S) Ls F m1))(h2:DJ u (J P n X Q (.dr os B Jj fuel li) ((t,.bool false)::S) Ls F m2)): DJ (.s t o u) (J P n X Q (.dr os B Jj fuel li) S Ls F (if b=true then m1 else m2)):=jsg t hl h1 h2
theorem dSs{b:Bool}(hl:wT S t=some (.bool b))(h1:b=true->DJ o (J P n X Q (.dr os B Jj fuel li) ((t,.bool true)::S) Ls F m))(h2:b=false->DJ u (J P n X Q (.dr os B Jj fuel li) ((t,.bool false)::S) Ls F m)): DJ (.s t o u) (J P n X Q (.dr os B Jj fuel li) S Ls F m):=jsp t hl h1 h2
theorem dX{ob:List Ob}(hi:os[i]?=some ⟨some d,op,ty,pos,af,g⟩)(hv:pvX S op [] (fun ob v=>some (v,ob))=some (v,ob))(h:DJ (.l is o) (J P n X Q (.dr os B Jj fuel (li.setIfInBounds i true)) ((d,v)::S) Ls F m))(hg:zQ os S g=some true:=by rfl)
  (hk:vE os B li i=true:=by kernel_rfl) (hd:Nat.blt d n=true:=by kernel_rfl) (ho:zXg P ob=true:=by kernel_rfl):DJ (.l (i::is) o) (J P n X Q (.dr os B Jj (fuel+1) li) S Ls F m):=by
 obtain⟨ob',v',h1,h2⟩:=z4C (P:=P) hv
 cases h1
 exact yR i v hi h hk hd hg (h2 ho).1
theorem dSk (hi:os[i]?=some ⟨some d,op,ty,pos,af,g⟩)(hg:zQ os S g=some false)(h:DJ (.l is o) (J P n X Q (.dr os B Jj fuel (li.setIfInBounds i true)) ((d,undef)::S) Ls F m))
  (hk:vE os B li i=true:=by kernel_rfl) (hd:Nat.blt d n=true:=by kernel_rfl):DJ (.l (i::is) o) (J P n X Q (.dr os B Jj (fuel+1) li) S Ls F m) :=
 ⟨fun hq r hm a w hs=>dk i hs hi (fun a' hs'=>J.go h hq r hm a' w hs') (fun c v a w hp=>(hq r c _ _ hp).elim) hk hd hg⟩
theorem dFa{s f off:Nat}{ofs:List Nat}[i0:Fs s ofs](hi:os[i]?=some ⟨some d,.fieldAddr s x f,ty,pos,af,g⟩)(hx:zK S x=some (pt b oo))(h:DJ (.l is o) (J P n X Q (.dr os B Jj fuel (li.setIfInBounds i true)) ((d,pt b (oo+off))::S) Ls F m))(ho:ofs.getD f 0=off:=by rfl)
  (hf:zXb P s f=some off:=by kernel_rfl) (hk:vE os B li i=true:=by kernel_rfl) (hd:Nat.blt d n=true:=by kernel_rfl) (hg:zQ os S g=some true:=by rfl):DJ (.l (i::is) o) (J P n X Q (.dr os B Jj (fuel+1) li) S Ls F m):=wE i off hi hx h hf hk hd hg
theorem dLo[i0:Sh t false 1](hi:os[i]?=some ⟨some d,.load t x,ty,pos,af,g⟩)(hx:zK S x=some (pt b oo))(h:DJ (.l is o) (J P n X Q (.dr os B Jj fuel (li.setIfInBounds i true)) ((d,v)::S) Ls F m))
  (hr:qO Ls q [(b,.cells c.toArray te fr)]:=by(repeat (first | exact qO.y | apply qO.n));(first | done | fail)) (hv:z6J c oo some=some v:=by rfl)
  (ht:wX P t=some (false,1):=by kernel_rfl) (hb:B.all (fun j=>behind os i os.size j)=true:=by kernel_rfl) (hJ:Jj.contains q=true:=by kernel_rfl)
  (hk:vE os B li i=true:=by kernel_rfl) (hd:Nat.blt d n=true:=by kernel_rfl) (hg:zQ os S g=some true:=by rfl):DJ (.l (i::is) o) (J P n X Q (.dr os B Jj (fuel+1) li) S Ls F m):=yA i q hi hx hr.h hv h ht hb hJ hk hd hg
theorem dLa[i0:Sh t true k](hi:os[i]?=some ⟨some d,.load t x,ty,pos,af,g⟩)(hx:zK S x=some (pt b oo))(h:DJ (.l is o) (J P n X Q (.dr os B Jj fuel (li.setIfInBounds i true)) ((d,.agg cs.toArray)::S) Ls F m))
  (hr:qO Ls q [(b,.cells c.toArray te fr)]:=by(repeat (first | exact qO.y | apply qO.n));(first | done | fail)) (hv:z2L oo c (fun l=>z0h k l some)=some cs:=by rfl)
  (ht:wX P t=some (true,k):=by kernel_rfl) (hb:B.all (fun j=>behind os i os.size j)=true:=by kernel_rfl) (hJ:Jj.contains q=true:=by kernel_rfl)
  (hk:vE os B li i=true:=by kernel_rfl) (hd:Nat.blt d n=true:=by kernel_rfl) (hg:zQ os S g=some true:=by rfl):DJ (.l (i::is) o) (J P n X Q (.dr os B Jj (fuel+1) li) S Ls F m):=xV i q k hi hx hr.h hv h ht hb hJ hk hd hg
theorem dLd{τ:Type}{e:E τ}{op:uO e}{u:τ}[i0:Ty t e op ag](hi:os[i]?=some ⟨some d,.load t x,ty,pos,af,g⟩)(hx:zK S x=some (pt b oo))(h:op.op u [] F fun cs F'=>mkC ag cs fun v=>DJ (.l is o) (J P n X Q (.dr os B Jj fuel (li.setIfInBounds i true)) ((d,v)::S) Ls F' m))
  (hP:PtS F e b oo u:=by(repeat (first | (apply PtS.y;(repeat (first | exact tJ.r | (apply tJ.l;(repeat (first | exact tJ.r | (apply tJ.l;(repeat (first | exact tJ.r | apply tJ.s));done) | apply tJ.s));done) | apply tJ.s));done) | apply PtS.n));(first | done | fail)) (ht:wX P t=some (ag,e.n):=by kernel_rfl) (hag:ag=true∨e.n=1:=by first | exact .inl rfl | exact .inr rfl)
  (hb:B.all (fun j=>behind os i os.size j)=true:=by kernel_rfl) (hk:vE os B li i=true:=by kernel_rfl) (hd:Nat.blt d n=true:=by kernel_rfl) (hg:zQ os S g=some true:=by rfl):DJ (.l (i::is) o) (J P n X Q (.dr os B Jj (fuel+1) li) S Ls F m) :=
 jdl i ag op hi (fun A w _ hF=>hP.h _ w hF) hx h ht hag hb hk hd hg
theorem dIx{τ:Type}{e:E τ}{p0:Option Addr}{c k0:Nat}{z:List τ}{ix:Int}{f:τ->Option ρ}(hi:os[i]?=some ⟨some d,.indexAddr t x y,ty,pos,af,g⟩)(hx:zK S x=some (.slice p0 k0 c))(hy:zK S y=some (.int kd ix))
  (h:∀ u b oo,DJ (.l is o) (J P n X Q (.dr os B Jj fuel (li.setIfInBounds i true)) ((d,pt b oo)::S) Ls (Pt e b oo u::F) (f u))) (hF:qF F (R e p0 c k0 z):=by(repeat (first | exact qF.y | refine qF.n ?_));(first | done | fail))
  (ht:wY P t=some e.n:=by kernel_rfl) (hk:vE os B li i=true:=by kernel_rfl) (hd:Nat.blt d n=true:=by kernel_rfl) (hg:zQ os S g=some true:=by rfl):DJ (.l (i::is) o) (J P n X Q (.dr os B Jj (fuel+1) li) S Ls F ((zB z ix).bind f)):=by
 obtain⟨k,hk'⟩:=hF.h
 exact jdi i k hi hk' hx hy h ht hk hd hg
theorem dIa{τ:Type}{e:E τ}{r:zG}{p0:Option Addr}{c k0:Nat}{z:List τ}{ix:Int}{f:τ->Option ρ}(hi:os[i]?=some ⟨some d,.indexAddr t x y,ty,pos,af,g⟩)(hx:zK S x=some (.slice p0 k0 c))(hy:zK S y=some (.int kd ix))
  (h:∀ u,zB z ix=some u->∀ b oo,p0=some ⟨b,oo,none⟩->DJ (.l is o) (J P n X Q (.dr os B Jj fuel (li.setIfInBounds i true)) ((d,pt b (oo+ix.toNat*e.n))::S) Ls F (f u))) (hF:qF F (Ar e te r p0 c k0 z):=by(repeat (first | exact qF.y | refine qF.n ?_));(first | done | fail))
  (ht:wY P t=some e.n:=by kernel_rfl) (hk:vE os B li i=true:=by kernel_rfl) (hd:Nat.blt d n=true:=by kernel_rfl) (hg:zQ os S g=some true:=by rfl):DJ (.l (i::is) o) (J P n X Q (.dr os B Jj (fuel+1) li) S Ls F ((zB z ix).bind f)):=by
 obtain⟨k,hk'⟩:=hF.h
 exact jdI i k hi hk' hx hy h ht hk hd hg
theorem dLA{τ ω:Type}{e:E τ}{ef:E ω}{op:uO ef}{r:zG}{p0:Option Addr}{c k0 o1 o' q:Nat}{z:List τ}{ix:Int}{u:τ}[i0:Ty t ef op ag](s:xM e ef)(hi:os[i]?=some ⟨some d,.load t x,ty,pos,af,g⟩)(hx:zK S x=some (pt b o'))
  (h:op.op (s.get u) [] F fun cs F'=>mkC ag cs fun v=>DJ (.l is o) (J P n X Q (.dr os B Jj fuel (li.setIfInBounds i true)) ((d,v)::S) Ls F' m))
  (hp:p0=some ⟨b,o1,none⟩:=by assumption) (hF:qF F (Ar e te r p0 c k0 z):=by(repeat (first | exact qF.y | refine qF.n ?_));(first | done | fail)) (he:o'=o1+ix.toNat*e.n+s.off:=by rfl) (hm:zB z ix=some u:=by assumption) (hr:qO Ls q r:=by(repeat (first | exact qO.y | apply qO.n));(first | done | fail))
  (ht:wX P t=some (ag,ef.n):=by kernel_rfl) (hag:ag=true∨ef.n=1:=by first | exact .inl rfl | exact .inr rfl) (hb:B.all (fun j=>behind os i os.size j)=true:=by kernel_rfl) (hJ:Jj.contains q=true:=by kernel_rfl)
  (hk:vE os B li i=true:=by kernel_rfl) (hd:Nat.blt d n=true:=by kernel_rfl) (hg:zQ os S g=some true:=by rfl):DJ (.l (i::is) o) (J P n X Q (.dr os B Jj (fuel+1) li) S Ls F m):=by
 obtain⟨k,hk'⟩:=hF.h
 subst he
 exact jdL i q k s ag op hi hk' hp hm hx h hr.h ht hag hb hJ hk hd hg
theorem dCat{p q:zD}{t2 t3:TypeId}{f:zD->Option ρ}(hi:os[i]?=some ⟨some d,.binOp .add t2 x y t3,ty,pos,af,g⟩)(hx:zK S x=some (vs p))(hy:zK S y=some (vs q))(h:∀ r,DJ (.l is o) (J P n X Q (.dr os B Jj fuel (li.setIfInBounds i true)) ((d,vs r)::S) Ls F (f r)))
  (hk:vE os B li i=true:=by kernel_rfl) (hd:Nat.blt d n=true:=by kernel_rfl) (hg:zQ os S g=some true:=by rfl):DJ (.l (i::is) o) (J P n X Q (.dr os B Jj (fuel+1) li) S Ls F ((cat p q).bind f)) :=
 tE fun r h1=>tA i hi (fun hS=>zXq hS hx hy h1) (h r) hk hd hg
theorem dSx{s:zD}{ix:Int}{f:Int->Option ρ}(hi:os[i]?=some ⟨some d,.index t x y,ty,pos,af,g⟩)(hx:zK S x=some (vs s))(hy:zK S y=some (.int kd ix))(h:∀ r,DJ (.l is o) (J P n X Q (.dr os B Jj fuel (li.setIfInBounds i true)) ((d,.int .u8 r)::S) Ls F (f r)))
  (hu:P.underlying t=some .string:=by kernel_rfl) (hk:vE os B li i=true:=by kernel_rfl) (hd:Nat.blt d n=true:=by kernel_rfl) (hg:zQ os S g=some true:=by rfl):DJ (.l (i::is) o) (J P n X Q (.dr os B Jj (fuel+1) li) S Ls F ((z2G s ix).bind f)) :=
 tE fun r h1=>tA i hi (fun hS=>z6v hS hx hy hu h1) (h r) hk hd hg
theorem dSb{s:zD}{ix j:Int}{lo hi:Option Operand}{vlo vhi:Option Value}{f:zD->Option ρ}(hi0:os[i]?=some ⟨some d,.slice t x lo hi none,ty,pos,af,g⟩)(hx:zK S x=some (vs s))(hlo:uR S lo=some vlo)(hhi:uR S hi=some vhi)(h:∀ r,DJ (.l is o) (J P n X Q (.dr os B Jj fuel (li.setIfInBounds i true)) ((d,vs r)::S) Ls F (f r)))
  (b1:Bd vlo ix 0:=by first | exact .inl ⟨rfl,rfl⟩ | exact .inr ⟨_,rfl⟩) (b2:Bd vhi j s.length:=by first | exact .inl ⟨rfl,rfl⟩ | exact .inr ⟨_,rfl⟩)
  (hu:P.underlying t=some .string:=by kernel_rfl) (hk:vE os B li i=true:=by kernel_rfl) (hd:Nat.blt d n=true:=by kernel_rfl) (hg:zQ os S g=some true:=by rfl):DJ (.l (i::is) o) (J P n X Q (.dr os B Jj (fuel+1) li) S Ls F ((sub s ix j).bind f)) :=
 tE fun r h1=>tA i hi0 (fun hS=>z4P hS hx hu hlo hhi b1 b2 h1) (h r) hk hd hg
theorem dBd{parts:List (Nat×Operand)}{ofs:List Nat}{zc cs:List Value}[i0:Fs t ofs][i1:Zr t (.agg zc.toArray)](hi:os[i]?=some ⟨some d,.build t parts.toArray,ty,pos,af,g⟩)(h:DJ (.l is o) (J P n X Q (.dr os B Jj fuel (li.setIfInBounds i true)) ((d,.agg cs.toArray)::S) Ls F m))(hb:bldC S ofs parts zc=some cs:=by rfl)(hv:pv P S (.build t parts.toArray)=some (.agg cs.toArray):=by kernel_rfl)
  (hk:vE os B li i=true:=by kernel_rfl) (hd:Nat.blt d n=true:=by kernel_rfl) (hg:zQ os S g=some true:=by rfl):DJ (.l (i::is) o) (J P n X Q (.dr os B Jj (fuel+1) li) S Ls F m):=yR i _ hi h hk hd hg hv
theorem eSo (hi:os[i]?=some ⟨none,.store t x y,ty,pos,af,g⟩)(hx:zK S x=some (pt b oo))(hy:zK S y=some v)(h:zR9 v fun cs=>putC oo c cs fun c'=>uE Ls q (bx b te c') fun Ls'=>DJ o (J P n X Q (.af Ls os B Jj fuel (li.setIfInBounds i true)) S Ls' F m))(hr:qO Ls q (bx b te c):=by(repeat (first | exact qO.y | apply qO.n));(first | done | fail))
  (hv:zM1 P t c.toArray oo v=true:=by kernel_rfl) (hg:zQ os S g=some true:=by rfl):DJ o (J P n X Q (.fo i os B Jj fuel li) S Ls F m):=wA (.f hi) q hx hy hr.h h hv hg
theorem eBx (hi:os[i]?=some ⟨some d,.box t x,ty,pos,af,g⟩)(hx:zK S x=some v)(h:∀ b,zR9 v fun cs=>zM5 Ls (bx b t cs) fun Ls'=>DJ o (J P n X Q (.af Ls os B Jj fuel (li.setIfInBounds i true)) ((d,pt b 0)::S) Ls' F m))
  (hd:Nat.blt d n=true:=by kernel_rfl) (hg:zQ os S g=some true:=by rfl):DJ o (J P n X Q (.fo i os B Jj fuel li) S Ls F m):=vH (.f hi) hx h hd hg
theorem eAl[i0:Zr t v](hi:os[i]?=some ⟨some d,.alloc t,ty,pos,af,g⟩)(h:∀ b,zR9 v fun cs=>zM5 Ls (bx b t cs) fun Ls'=>DJ o (J P n X Q (.af Ls os B Jj fuel (li.setIfInBounds i true)) ((d,pt b 0)::S) Ls' F m))
  (hx:tX P t=some v:=by kernel_rfl) (hd:Nat.blt d n=true:=by kernel_rfl) (hg:zQ os S g=some true:=by rfl):DJ o (J P n X Q (.fo i os B Jj fuel li) S Ls F m):=vD (.f hi) v h hx hd hg
theorem eLo[i0:Sh t false 1](hi:os[i]?=some ⟨some d,.load t x,ty,pos,af,g⟩)(hx:zK S x=some (pt b oo))(h:DJ o (J P n X Q (.af Ls os B Jj fuel (li.setIfInBounds i true)) ((d,v)::S) Ls F m))(hr:LdR Ls b oo v:=by(repeat (first | exact LdR.y rfl | apply LdR.n));(first | done | fail))
  (ht:wX P t=some (false,1):=by kernel_rfl) (hd:Nat.blt d n=true:=by kernel_rfl) (hg:zQ os S g=some true:=by rfl):DJ o (J P n X Q (.fo i os B Jj fuel li) S Ls F m):=by
 obtain⟨q,c,te,fr,h1,h2⟩:=hr.h
 exact jfl0 (.f hi) q hx h1 h2 h ht hd hg
theorem eC0 (ci:Nat){fd:FuncId}{pp:Prop}{cal:Operand}{xs:Array Operand}{ats:Array TypeId}{bs0 caps:Array Value}[i0:Cn fd ci pp](hi:os[i]?=some ⟨some d,.call { callee:=.value cal,args:=xs,argTypes:=ats },ty,pos,af,g⟩)(hcal:zK S cal=some (.func (.func fd) bs0 caps))
  (h:pp->DJ o (J P n X Q (.fo i os B Jj fuel li) S Ls F m)):DJ o (J P n X Q (.fo i os B Jj fuel li) S Ls F m):=h i0.h
theorem eCa{fd:FuncId}{cal:Operand}{xs:List Operand}{bs0 caps:List Value}{ats:Array TypeId}{us vs:List Value}{L:List zG}{F1:List PP}{m1:Option σ}{post:σ->(Value->List zG->List PP->Prop)->Prop}{f:σ->Option ρ}
  (c:zP qd P fd vs L F1 m1 post) (hi:os[i]?=some ⟨some d,.call { callee:=.value cal,args:=xs.toArray,argTypes:=ats },ty,pos,af,g⟩) (hcal:zK S cal=some (.func (.func fd) bs0.toArray caps.toArray)) (hx:z3W S xs=some us) (hv:bs0++us++caps=vs)
  (h:∀ r K,(∀ {v L1 F1},z6r ls js L1 Ls F1 F (fun Ls' F'=>DJ o (J P n X Q (.af Ls os B Jj fuel (li.setIfInBounds i true)) ((d,v)::S) Ls' F' (f r)))->K v L1 F1)->post r K)
  (hX:BX Ls L:=by(repeat (first | exact BX.n | refine BX.m ?_ | refine BX.s ?_));(first | done | fail)) (hF:Lnt Ls F F1 ls:=by(repeat' (first | exact Lnt.n | exact qF.y | exact qO.y | (apply Lnt.c;focus ((repeat (first | exact qF.y | refine qF.n ?_));(first | done | fail))) | apply Lnt.e | apply Lnt.l | refine qF.n ?_ | apply qO.n));(first | done | fail)) (hL:xT Ls 0 js L:=by(repeat' (first | exact xT.n | exact qO.y | apply xT.z _ rfl | apply xT.c | apply qO.n));(first | done | fail)) (hk:z2Q (js++ls) Ls.length=true:=by rfl) (hd:Nat.blt d n=true:=by kernel_rfl) (hg:zQ os S g=some true:=by rfl) :
  DJ o (J P n X Q (.fo i os B Jj fuel li) S Ls F (m1.bind f)):=qK (.f hi) js ls c hcal hx hv (hF.ok hk fun _ h=>h) h hL.eq hk hd hg
theorem eSb{z:List Int}{s te:TypeId}{p0:Option Addr}{c k0:Nat}[i0:By s te](hi:os[i]?=some ⟨some d,.convert s t x,ty,pos,af,g⟩)(hx:zK S x=some (.slice p0 k0 c))(h:DJ o (J P n X Q (.af Ls os B Jj fuel (li.setIfInBounds i true)) ((d,vs (zV2 z))::S) Ls F m))(hF:qF F (R (zH .u8) p0 c k0 z):=by(repeat (first | exact qF.y | refine qF.n ?_));(first | done | fail))
  (hs:P.underlying s=some (.slice te):=by kernel_rfl) (he:P.underlying te=some (.int .u8):=by kernel_rfl) (ht:P.underlying t=some .string:=by kernel_rfl) (hd:Nat.blt d n=true:=by kernel_rfl) (hg:zQ os S g=some true:=by rfl):DJ o (J P n X Q (.fo i os B Jj fuel li) S Ls F m):=by
 obtain⟨k,hk⟩:=hF.h
 exact jsb (.f hi) (hk▸gk k) hx hs he ht h hd hg
theorem eByC{w:zD}{s te:TypeId}{r:zG}{p0:Option Addr}{c k0:Nat}[i0:By s te](hi:os[i]?=some ⟨some d,.convert s t x,ty,pos,af,g⟩)(hx:zK S x=some (.slice p0 k0 c))(h:DJ o (J P n X Q (.af Ls os B Jj fuel (li.setIfInBounds i true)) ((d,vs w)::S) Ls F m))(hF:qF F (Byr te r p0 k0 w):=by(repeat (first | exact qF.y | refine qF.n ?_));(first | done | fail))
  (hr:qO Ls q r:=by(repeat (first | exact qO.y | apply qO.n));(first | done | fail)) (hs:P.underlying s=some (.slice te):=by kernel_rfl) (he:P.underlying te=some (.int .u8):=by kernel_rfl) (ht:P.underlying t=some .string:=by kernel_rfl) (hd:Nat.blt d n=true:=by kernel_rfl) (hg:zQ os S g=some true:=by rfl):DJ o (J P n X Q (.fo i os B Jj fuel li) S Ls F m):=by
 obtain⟨k,hk⟩:=hF.h
 exact jbyS (.f hi) k hk hr.h hx hs he ht h hd hg
theorem eBo{parts:List (Nat×Operand)}{cs:List Value}{k0:Nat}{τ:Type}{e:E τ}{z:List τ}[i0:Se t te e](hi:os[i]?=some ⟨some d,.buildSlice t k0 parts.toArray,ty,pos,af,g⟩)(h:∀ r' p1 c',zM5 Ls r' fun Ls'=>DJ o (J P n X Q (.af Ls os B Jj fuel (li.setIfInBounds i true)) ((d,sv p1 z c')::S) Ls' (Al e te r' p1 c' z::F) m))
  (ho:OWK d:=by assumption) (hb:bsC S parts 0 some=some cs:=by rfl) (hrd:RD e Ls F cs z:=by(repeat' (first | exact rN | apply rC | exact vI | exact vB | exact vS | exact vU | exact avN | apply avQ | apply avF | exact qF.y | apply qF.n));(first | done | fail)) (ht:yW P t te e.n=true:=by kernel_rfl) (hc:zKl P S t k0 parts=some cs:=by kernel_rfl) (hl:z.length=k0:=by rfl) (hm:Nat.ble k0 16777216=true:=by kernel_rfl) (hd:Nat.blt d n=true:=by kernel_rfl) (hg:zQ os S g=some true:=by rfl) :
  DJ o (J P n X Q (.fo i os B Jj fuel li) S Ls F m):=jbo (.f hi) te cs z hrd h ht hc hl hm hd hg
theorem eBs{parts:List (Nat×Operand)}{cs:List Value}{k0:Nat}{τ:Type}{e:E τ}{z:List τ}[i0:Se t te e](hi:os[i]?=some ⟨some d,.buildSlice t k0 parts.toArray,ty,pos,af,g⟩)(h:∀ p1 c',DJ o (J P n X Q (.af Ls os B Jj fuel (li.setIfInBounds i true)) ((d,sv p1 z c')::S) Ls (Rl e p1 c' z::F) m))(hb:bsC S parts 0 some=some cs:=by rfl)
  (hrd:RD e Ls F cs z:=by(repeat' (first | exact rN | apply rC | exact vI | exact vB | exact vS | exact vU | exact avN | apply avQ | apply avF | exact qF.y | apply qF.n));(first | done | fail)) (ht:yW P t te e.n=true:=by kernel_rfl) (hc:zKl P S t k0 parts=some cs:=by kernel_rfl) (hl:z.length=k0:=by rfl) (hd:Nat.blt d n=true:=by kernel_rfl) (hg:zQ os S g=some true:=by rfl) :
  DJ o (J P n X Q (.fo i os B Jj fuel li) S Ls F m):=uC (.f hi) te cs z hrd h ht hc hl hd hg
theorem eAr{τ:Type}{e:E τ}{r:zG}{p0 q0:Option Addr}{c k0 c2 k2:Nat}{z z2:List τ}{f:List τ->Option ρ}(hi:os[i]?=some ⟨some d,.call { callee:=.builtin .append,args:=[x,y].toArray,argTypes:=[t,t].toArray },ty,pos,af,g⟩)(hx:zK S x=some (.slice p0 k0 c))(hy:zK S y=some (.slice q0 k2 c2))
  (h:∀ u r' p1 c',uE Ls q r' fun Ls'=>DJ o (J P n X Q (.af Ls os B Jj fuel (li.setIfInBounds i true)) ((d,sv p1 u c')::S) Ls' (Al e te r' p1 c' u::F) (f u)))
  (hF:qF F (Ar e te r p0 c k0 z):=by(repeat (first | exact qF.y | refine qF.n ?_));(first | done | fail)) (hF2:qF F (R e q0 c2 k2 z2):=by(repeat (first | exact qF.y | refine qF.n ?_));(first | done | fail)) (hr:qO Ls q r:=by(repeat (first | exact qO.y | apply qO.n));(first | done | fail))
  (ht:yW P t te e.n=true:=by kernel_rfl) (hd:Nat.blt d n=true:=by kernel_rfl) (hg:zQ os S g=some true:=by rfl):DJ o (J P n X Q (.fo i os B Jj fuel li) S Ls F ((qG z z2).bind f)):=by
 obtain⟨k,hk⟩:=hF.h
 obtain⟨k',hk'⟩:=hF2.h
 exact xL (.f hi) q k hk (hk'▸gk k') hx hy h hr.h ht hd hg
end
end
attribute [irreducible] DJ
section
theorem au{G:Prop}(h:G:=by
 repeat' (first
  | (refine gO ?_;first
   | refine jroE rfl ?_ | refine zL ?_ | refine wN ?_ | refine aM 100 rfl ?_
   | (refine gFa ?_;refine aFa rfl ?_) | (refine gLd ?_;first | refine aLo rfl ?_ | refine aLd rfl ?_ | refine aLa rfl ?_ | refine aByL rfl ?_ | refine aLA sI rfl ?_ | refine aLA (sI.fst) rfl ?_ | refine aLA (sI.snd) rfl ?_ | refine aLA (sI.snd.fst) rfl ?_ | refine aLA (sI.snd.snd) rfl ?_ | refine aLA (sI.snd.snd.fst) rfl ?_ | refine aLA (sI.snd.snd.snd) rfl ?_ | refine aLA (sI.snd.snd.snd.fst) rfl ?_ | refine aLA (sI.snd.snd.snd.snd) rfl ?_ | refine aLA (sI.snd.snd.snd.snd.fst) rfl ?_ | refine aLA (sI.snd.snd.snd.snd.snd) rfl ?_) | (refine gSt ?_;first | refine aSo rfl rfl ?_ | refine aByS rfl rfl ?_ | refine aSA (sI) rfl rfl ?_ | refine aSA (sI.fst) rfl rfl ?_ | refine aSA (sI.snd) rfl rfl ?_ | refine aSA (sI.snd.fst) rfl rfl ?_ | refine aSA (sI.snd.snd) rfl rfl ?_ | refine aSA (sI.snd.snd.fst) rfl rfl ?_ | refine aSA (sI.snd.snd.snd) rfl rfl ?_ | refine aSA (sI.snd.snd.snd.fst) rfl rfl ?_ | refine aSA (sI.snd.snd.snd.snd) rfl rfl ?_ | refine aSA (sI.snd.snd.snd.snd.fst) rfl rfl ?_ | refine aSA (sI.snd.snd.snd.snd.snd) rfl rfl ?_)
   | (refine gCl ?_;first | (refine aC0 0 rfl fun c=>?_;refine aCa c rfl rfl rfl ?_) | refine aAr rfl rfl ?_ | (refine aC0 1 rfl fun c=>?_;refine aCa c rfl rfl rfl ?_) | (refine aC0 2 rfl fun c=>?_;refine aCa c rfl rfl rfl ?_) | (refine aC0 3 rfl fun c=>?_;refine aCa c rfl rfl rfl ?_))
   | (refine gIa ?_;first | refine aIx rfl rfl ?_ | refine aIa rfl rfl ?_ | refine aByJ rfl rfl ?_) | (refine gCt ?_;refine aCat rfl rfl ?_) | (refine gIx ?_;refine aSi rfl rfl ?_) | (refine gRm ?_;refine aRm rfl rfl ?_) | (refine gQu ?_;refine aQu rfl rfl ?_) | (refine gSl ?_;first | refine aSs rfl rfl rfl ?_ | refine aSl rfl rfl rfl ?_ | refine aSP rfl rfl ?_) | (refine gBx ?_;refine aBx rfl ?_) | (refine gAl ?_;refine aAl ?_) | (refine gBd ?_;refine aBd ?_) | (refine gCv ?_;first | refine aCv rfl ?_ | refine aCb rfl ?_ | refine aBy rfl ?_ | refine aByC rfl ?_) | (refine gBs ?_;first | refine aBo ?_ | refine aBs ?_) | (refine gMk ?_;refine aMk rfl rfl ?_)
   | refine aM 0 rfl ?_
   | (refine gGu ?_;first | refine aGi rfl rfl rfl ?_ ?_ | refine aGs rfl rfl rfl ?_ ?_) | (refine gPk ?_;first | refine aPi rfl ?_ ?_ | refine aPs rfl ?_ ?_))
  | (refine gC ?_;first
   | refine jlpQ rfl ?_ ?_ | refine jjnQ rfl ?_ ?_ | refine jjoQ rfl ?_ ?_ | refine jjcQ rfl ?_ ?_ | refine jjpQ rfl ?_ ?_ | refine jjqQ rfl ?_ ?_
   | refine zJ ?_ | refine dds ?_ | refine ddS ?_ | refine jst ?_ | refine jss ?_ | refine zS ?_ | refine vM ?_ | refine jct rfl ?_ | refine jcf rfl ?_ | refine zV rfl ?_ ?_ | refine uM ?_ | refine qP ?_ | refine zZ ?_ | refine xF ?_ | refine jcs ?_ | refine jlb ?_ | refine aCs rfl ?_ ?_)
  | (refine gEx ?_;first
   | refine qN ?_ | refine yX ?_ | refine uP ?_ | refine yL ?_ | refine jbr ?_ | refine xD ?_ | refine jbm ?_ | refine jcn ?_ | refine jce ?_ | refine jcr ?_ | refine jrn ?_
   | (refine gNn ?_;first | exact qI (gvA (fun _ k=>k ..)) | exact z9g .y | exact z9g (.n .y) | exact z9g (.n (.n .y)) | exact z9g (.n (.n (.n .y))) | exact z9g (.n (.n (.n (.n .y)))) | exact z9g (.n (.n (.n (.n (.n .y))))) | exact z9g (.n (.n (.n (.n (.n (.n .y)))))) | exact z9g (.n (.n (.n (.n (.n (.n (.n .y)))))))) | (refine gRt ?_;first | exact aR1 rfl rfl (fun _ k=>k ..) | exact aRg rfl (fun _ k=>k ..) | exact z5E .y | exact z5E (.n .y) | exact z5E (.n (.n .y)) | exact z5E (.n (.n (.n .y))) | exact z5E (.n (.n (.n (.n .y)))) | exact z5E (.n (.n (.n (.n (.n .y))))) | exact z5E (.n (.n (.n (.n (.n (.n .y)))))) | exact z5E (.n (.n (.n (.n (.n (.n (.n .y))))))) | exact aShS .y | exact aShS (.n .y) | exact aShS (.n (.n .y)) | exact aShS (.n (.n (.n .y))) | exact aShS (.n (.n (.n (.n .y)))) | exact aShS (.n (.n (.n (.n (.n .y)))))) | (refine gLp ?_;exact uG (gvA (fun _ k=>k ..))) | refine uS ?_ | refine jlr ?_)
  | (refine gDJ ?_;first
   | refine dE ?_ | refine dNil ?_ | refine dX rfl rfl ?_ | refine dSk rfl rfl ?_ | refine dFa rfl rfl ?_ | refine dLo rfl rfl ?_ | refine dLd rfl rfl ?_ | refine dLa rfl rfl ?_ | refine dIx rfl rfl rfl ?_ | refine dIa rfl rfl rfl ?_ | refine dLA (sI) rfl rfl ?_ | refine dLA (sI.fst) rfl rfl ?_ | refine dLA (sI.snd) rfl rfl ?_ | refine dLA (sI.snd.fst) rfl rfl ?_ | refine dLA (sI.snd.snd) rfl rfl ?_ | refine dLA (sI.snd.snd.fst) rfl rfl ?_ | refine dLA (sI.snd.snd.snd) rfl rfl ?_ | refine dLA (sI.snd.snd.snd.fst) rfl rfl ?_ | refine dLA (sI.snd.snd.snd.snd) rfl rfl ?_ | refine dLA (sI.snd.snd.snd.snd.fst) rfl rfl ?_ | refine dLA (sI.snd.snd.snd.snd.snd) rfl rfl ?_ | refine dCat rfl rfl rfl ?_ | refine dSx rfl rfl rfl ?_ | refine dSb rfl rfl rfl rfl ?_ | refine dBd rfl ?_
   | refine d1f ?_ | refine dN ?_ | refine dB ?_ | refine dSi rfl ?_ ?_ | refine dSs rfl ?_ ?_ | refine d2f ?_ ?_ | refine d3f ?_ ?_ ?_
   | refine eSo rfl rfl rfl ?_ | (refine eC0 0 rfl rfl fun c=>?_;refine eCa c rfl rfl rfl rfl ?_) | refine eBx rfl rfl ?_ | refine eAl rfl ?_ | refine eLo rfl rfl ?_ | refine eSb rfl rfl ?_ | refine eByC rfl rfl ?_ | refine eBo rfl ?_ | refine eBs rfl ?_ | refine eAr rfl rfl rfl ?_ | (refine eC0 1 rfl rfl fun c=>?_;refine eCa c rfl rfl rfl rfl ?_) | (refine eC0 2 rfl rfl fun c=>?_;refine eCa c rfl rfl rfl rfl ?_))
  | (refine gGv ?_;exact gvA (fun _ k=>k ..))
  | (intro r K k;(repeat intro _);refine k ?_)
  | (intro K k;(repeat intro _);refine k ?_)
  | refine fun _=>?_)):G:=h
end
end Go.GD
