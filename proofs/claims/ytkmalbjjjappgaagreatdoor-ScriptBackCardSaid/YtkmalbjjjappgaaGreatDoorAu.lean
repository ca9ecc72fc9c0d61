/- A part. Conditions: none. -/
import Derived.Test.YtkmalbjjjappgaaGreatDoorCopy
import Derived.Test.YtkmalbjjjappgaaGreatDoorBase
import Derived.Shelf.Strings.FuncGrows
import Derived.Lib.DecodeN
namespace Go.GD
open Option renaming some->Ah,none->Ai
open Bool renaming true->Aj,false->Ak
open Go renaming Value->Am,World->Ao,TypeId->Ap,Program->Aq,Operand->As,IntKind->Au,Addr->Ax
set_option autoImplicit false
section
open Go Go.RowKit
set_option linter.unusedVariables false
variable {qd:Prop}
structure wZ (F:List PP)(f:PP): Prop where
 h:∃ k,xE F k=f
structure vM (Ls:List zK)(i:Nat)(r:zK): Prop where
 h:Ls[i]?=Ah r
section
variable {F:List PP}{f g:PP}{Ls:List zK}{r s:zK}{i:Nat}
theorem wZ.y:wZ (f::F) f:=⟨0,rfl⟩
theorem wZ.n (h:wZ F f): wZ (g::F) f:=⟨h.h.elim λk hk=>⟨k+1,hk⟩⟩
theorem vM.y:vM (r::Ls) 0 r:=⟨rfl⟩
theorem vM.n (h:vM Ls i r): vM (s::Ls) (i+1) r:=⟨by simpa using h.h⟩
inductive tY (Ls:List zK): Nat->List Nat->List zK->Prop
 | n {k:Nat}:tY Ls k [] []
 | c {k i:Nat} {js:List Nat} {r:zK} {L:List zK} (h:vM Ls i r) (t:tY Ls k js L):tY Ls k (i::js) (r::L)
 | z {k:Nat} {js:List Nat} {L:List zK} (t:tY Ls (k+1) js L) (h:Nat.ble Ls.length (k+900)=Aj):tY Ls k ((k+900)::js) ([]::L)
theorem tY.eq{k:Nat}{js:List Nat}{L:List zK}(h:tY Ls k js L): xC Ls js=L:=by
 induction h with
 | n=>rfl
 | c h _ ih=>rw[xC,QU,<-xC,ih];simp[List.getD,h.h]
 | z _ h ih=>rw[xC,QU,<-xC,ih];rw[UL] at h;simp[List.getD,List.getElem?_eq_none h]
end
inductive NEr:zK->Prop
 | nil:NEr []
 | any {r:zK}:NEr r
inductive BX (Ls:List zK): List zK->Prop
 | any {L:List zK}:BX Ls L
theorem BX.n{Ls:List zK}: BX Ls []:=.any
theorem BX.s{Ls L:List zK}(t:BX Ls L.tail): BX Ls L:=.any
theorem BX.m{Ls L:List zK}{r:zK}{i:Nat}(t:BX Ls L)(hne:NEr r:=by(fail_if_success exact NEr.nil);exact NEr.any)(h:vM Ls i r:=by(repeat (first | exact vM.y | apply vM.n));(first | done | fail)): BX Ls (r::L):=.any
class Sh (t:Ap)(ag:outParam Bool)(k:outParam Nat): Prop
class Ty (t:Ap){τ:outParam Type}(e:outParam (E τ))(op:outParam (yO e))(ag:outParam Bool): Prop
class Fs (s:Ap)(os:outParam (List Nat)): Prop
class Zr (t:Ap)(v:outParam Am): Prop
class Se (t:Ap)(te:outParam Ap){τ:outParam Type}(e:outParam (E τ)): Prop
class It (t:Ap)(k:outParam Au): Prop
class Cn (f:FuncId)(i:Nat)(p:outParam Prop): Prop where
 h:p
section
variable {β:Type}
def pvX (S:Sl)(op:Op)(ob:List Ob)(kk:List Ob->Am->Option β): Option β:=match op with
 | .pick c a b=>zVE S c λu=>match u with
  | .bool Aj=>zVE S a (kk ob)
  | .bool Ak=>zVE S b (kk ob)
  | _=>Ai
 | op=>pvC S op ob kk
def z7c (os:Array Oper): Nat->List Oper->Sl->List Ob->Option (Sl×List Oper×List Ob)
 | 0,l,S,ob=>Ah (S,l,ob)
 | _+1,[],S,ob=>Ah (S,[],ob)
 | k+1,o::l,S,ob=>match o.dst with
  | none=>Ah (S,o::l,ob)
  | some d=>match guC os S o.guard (pvX S o.op ob λob v=>z7c os k l ((d,v)::S) ob) (z7c os k l ((d,undef)::S) ob) with
   | some r=>Ah r
   | none=>Ah (S,o::l,ob)
end
theorem z14{β:Type}{P:Aq}{S:Sl}{op:Op}{ob:List Ob}{kk:List Ob->Am->Option β}{r:β}(h:pvX S op ob kk=Ah r):
  ∃ ob' v,kk ob' v=Ah r/\(zUn P ob'=Aj->pv P S op=Ah v/\zUn P ob=Aj):=by
 unfold pvX at h;split at h
 ·rename_i c a b;rw[zGh] at h;obtain⟨u,hu,h⟩:=zBO h;split at h
  ·rw[zGh] at h;obtain⟨v,hv,h⟩:=zBO h;exact⟨ob,v,h,λho=>⟨by simp[pv,hu,hv],ho⟩⟩
  ·rw[zGh] at h;obtain⟨v,hv,h⟩:=zBO h;exact⟨ob,v,h,λho=>⟨by simp[pv,hu,hv],ho⟩⟩
  ·cases h
 ·exact zWl h
theorem zOI{P:Aq}{os:Array Oper}{n:Nat}{Q:Exit->Act->Ao->Prop}{w:Ao}: ∀(k:Nat) (l:List Oper) (S S':Sl) (l':List Oper) (ob ob':List Ob) (a:Act),qV a n S->z7c os k l S ob=Ah (S',l',ob')->
  ((zYt l).all (λd=>Nat.blt d n)=Aj)->zUn P ob'=Aj->(∀ a',qV a' n S'->wpList P os Q l' a' w)->zUn P ob=Aj/\wpList P os Q l a w
 | 0,l,S,S',l',ob,ob',a,hS,h,_,ho,kk=>by
  simp only[z7c,Qf,Prod.mk.injEq] at h;obtain⟨rfl,rfl,rfl⟩:=h;exact⟨ho,kk a hS⟩
 | _+1,[],S,S',l',ob,ob',a,hS,h,_,ho,kk=>by
  simp only[z7c,Qf,Prod.mk.injEq] at h;obtain⟨rfl,rfl,rfl⟩:=h;exact⟨ho,kk a hS⟩
 | k+1,o::l,S,S',l',ob,ob',a,hS,h,hd,ho,kk=>by
  simp only[z7c] at h;split at h
  ·simp only[Qf,Prod.mk.injEq] at h;obtain⟨rfl,rfl,rfl⟩:=h;exact⟨ho,kk a hS⟩
  ·rename_i d hod;simp only[zYt,hod,Uw,Qc] at hd;split at h
   ·rename_i r hr;cases h;rcases zW3 hr with⟨hg,h⟩ | ⟨hg,h⟩
    ·obtain⟨ob1,v,h,hv⟩:=z14 (P:=P) h;have key:∀ a,qV a n ((d,v)::S)->zUn P ob1=Aj/\wpList P os Q l a w:=λa hS=>zOI k l _ S' l' ob1 ob' a hS h hd.2 ho kk;have h1:=(zOI (P:=P) (Q:=Q) k l _ S' l' ob1 ob' _ (hS.put hd.1 v) h hd.2 ho kk).1;obtain⟨h2,h3⟩:=hv h1;refine⟨h3,zND (v:=v) (w':=w) hg hS (zVv hS h2 _ _ _ _ _ w) ?_⟩;rw[hod];exact(key _ (hS.put hd.1 v)).2
    ·have h1:=zOI (P:=P) (Q:=Q) k l _ S' l' ob ob' _ (hS.put hd.1 undef) h hd.2 ho kk;refine⟨h1.1,zPT hg hS ?_⟩;rw[hod];exact h1.2
   ·simp only[Qf,Prod.mk.injEq] at h;obtain⟨rfl,rfl,rfl⟩:=h;exact⟨ho,kk a hS⟩
structure LdR (Ls:List zK)(b o:Nat)(v:Am): Prop where
 h:∃(i:Nat) (c:List Am) (te:Ap) (fr:Nat×Nat),Ls[i]?=Ah [(b,Obj.cells (List.toArray c) te fr)]/\z6d c o Ah=Ah v
structure LdA (Ls:List zK)(b o k:Nat)(cs:List Am): Prop where
 h:∃(i:Nat) (c:List Am) (te:Ap) (fr:Nat×Nat),Ls[i]?=Ah [(b,Obj.cells (List.toArray c) te fr)]/\z0O o c (λl=>zYn k l Ah)=Ah cs
section
variable {Ls:List zK}{b o k te:Nat}{fr:Nat×Nat}{c cs:List Am}{v:Am}{r:zK}
theorem LdR.y (h:z6d c o Ah=Ah v): LdR ([(b,Obj.cells c.toArray te fr)]::Ls) b o v:=⟨0,c,te,fr,rfl,h⟩
theorem LdR.n (h:LdR Ls b o v): LdR (r::Ls) b o v:=by obtain⟨i,c,te,fr,h1,h2⟩:=h.h;exact⟨i+1,c,te,fr,by simpa using h1,h2⟩
theorem LdA.y (h:z0O o c (λl=>zYn k l Ah)=Ah cs): LdA ([(b,Obj.cells c.toArray te fr)]::Ls) b o k cs:=⟨0,c,te,fr,rfl,h⟩
theorem LdA.n (h:LdA Ls b o k cs): LdA (r::Ls) b o k cs:=by obtain⟨i,c,te,fr,h1,h2⟩:=h.h;exact⟨i+1,c,te,fr,by simpa using h1,h2⟩
end
structure PtP{σ τ:Type}(e0:E σ)(b o0:Nat)(x0:σ)(e:E τ)(o:Nat)(u:τ): Prop where
 h:∀ Z w,zSo e0 Z w ⟨b,o0,Ai⟩ x0->zSo e Z w ⟨b,o,Ai⟩ u
structure PtS{τ:Type}(F:List PP)(e:E τ)(b o:Nat)(u:τ): Prop where
 h:∀ Z w,xI F Z w->zSo e Z w ⟨b,o,Ai⟩ u
section
variable {α β σ τ:Type}{a:E α}{a2:E β}{e0:E σ}{e:E τ}{b o o0:Nat}{x:α×β}{x0:σ}{u:τ}{F:List PP}{f:PP}
theorem PtP.r:PtP e b o u e o u:=⟨λ_ _ h=>h⟩
theorem PtP.l (h:PtP a b o0 x.1 e o u): PtP (qU a a2) b o0 x e o u:=⟨λZ w h0=>h.h Z w (zSo.fst h0)⟩
theorem PtP.s (h:PtP a2 b (o0+a.n) x.2 e o u): PtP (qU a a2) b o0 x e o u:=⟨λZ w h0=>h.h Z w (zSo.snd h0)⟩
theorem PtS.y (h:PtP e0 b o0 x0 e o u): PtS (Pt e0 b o0 x0::F) e b o u:=⟨λZ w hF=>h.h Z w hF.1⟩
theorem PtS.n (h:PtS F e b o u): PtS (f::F) e b o u:=⟨λZ w hF=>h.h Z w hF.2⟩
end
section
variable {P:Aq}{n:Nat}{X:Hd qd}{ρ σ:Type}{Q:PQ ρ}{S S':Sl}{Ls:List zK}{F:List PP}{m m1 m2:Option ρ}{os:Array Oper}{l l':List Oper}{x y:As}{p p':uJ}{z:Code}
variable {d t:Nat}{ty ty2:Ap}{pos pos2:String}{af af2:Array Edge}{g g2:Option (Nat×Bool)}{kd:Au}{op:Op}
theorem gC{c:Code}(h:J P n X Q (.code c) S Ls F m): J P n X Q (.code c) S Ls F m:=h
theorem gO (h:J P n X Q (.ops os l) S Ls F m): J P n X Q (.ops os l) S Ls F m:=h
theorem gEx{e:Exit}(h:J P n X Q (.ex e) S Ls F m): J P n X Q (.ex e) S Ls F m:=h
section
variable {dd:Option Nat}{u:As}{lo hi mx:Option As}{s f:Nat}{cl:Call}{t3:Ap}{vs:Array (Nat×As)}
theorem gLd (h:J P n X Q (.ops os (⟨dd,.load t x,ty,pos,af,g⟩::l)) S Ls F m): J P n X Q (.ops os (⟨dd,.load t x,ty,pos,af,g⟩::l)) S Ls F m:=h
theorem gSt (h:J P n X Q (.ops os (⟨dd,.store t x y,ty,pos,af,g⟩::l)) S Ls F m): J P n X Q (.ops os (⟨dd,.store t x y,ty,pos,af,g⟩::l)) S Ls F m:=h
theorem gFa (h:J P n X Q (.ops os (⟨dd,.fieldAddr s x f,ty,pos,af,g⟩::l)) S Ls F m): J P n X Q (.ops os (⟨dd,.fieldAddr s x f,ty,pos,af,g⟩::l)) S Ls F m:=h
theorem gIa (h:J P n X Q (.ops os (⟨dd,.indexAddr t x y,ty,pos,af,g⟩::l)) S Ls F m): J P n X Q (.ops os (⟨dd,.indexAddr t x y,ty,pos,af,g⟩::l)) S Ls F m:=h
theorem gIx (h:J P n X Q (.ops os (⟨dd,.index t x y,ty,pos,af,g⟩::l)) S Ls F m): J P n X Q (.ops os (⟨dd,.index t x y,ty,pos,af,g⟩::l)) S Ls F m:=h
theorem gCl (h:J P n X Q (.ops os (⟨dd,.call cl,ty,pos,af,g⟩::l)) S Ls F m): J P n X Q (.ops os (⟨dd,.call cl,ty,pos,af,g⟩::l)) S Ls F m:=h
theorem gSl (h:J P n X Q (.ops os (⟨dd,.slice t x lo hi mx,ty,pos,af,g⟩::l)) S Ls F m): J P n X Q (.ops os (⟨dd,.slice t x lo hi mx,ty,pos,af,g⟩::l)) S Ls F m:=h
theorem gCt (h:J P n X Q (.ops os (⟨dd,.binOp .add t x y t3,ty,pos,af,g⟩::l)) S Ls F m): J P n X Q (.ops os (⟨dd,.binOp .add t x y t3,ty,pos,af,g⟩::l)) S Ls F m:=h
theorem gRm (h:J P n X Q (.ops os (⟨dd,.binOp .rem t x y t3,ty,pos,af,g⟩::l)) S Ls F m): J P n X Q (.ops os (⟨dd,.binOp .rem t x y t3,ty,pos,af,g⟩::l)) S Ls F m:=h
theorem gQu (h:J P n X Q (.ops os (⟨dd,.binOp .quo t x y t3,ty,pos,af,g⟩::l)) S Ls F m): J P n X Q (.ops os (⟨dd,.binOp .quo t x y t3,ty,pos,af,g⟩::l)) S Ls F m:=h
theorem gBx (h:J P n X Q (.ops os (⟨dd,.box t x,ty,pos,af,g⟩::l)) S Ls F m): J P n X Q (.ops os (⟨dd,.box t x,ty,pos,af,g⟩::l)) S Ls F m:=h
theorem gAl (h:J P n X Q (.ops os (⟨dd,.alloc t,ty,pos,af,g⟩::l)) S Ls F m): J P n X Q (.ops os (⟨dd,.alloc t,ty,pos,af,g⟩::l)) S Ls F m:=h
theorem gBs (h:J P n X Q (.ops os (⟨dd,.buildSlice t s vs,ty,pos,af,g⟩::l)) S Ls F m): J P n X Q (.ops os (⟨dd,.buildSlice t s vs,ty,pos,af,g⟩::l)) S Ls F m:=h
theorem gBd (h:J P n X Q (.ops os (⟨dd,.build t vs,ty,pos,af,g⟩::l)) S Ls F m): J P n X Q (.ops os (⟨dd,.build t vs,ty,pos,af,g⟩::l)) S Ls F m:=h
theorem gCv (h:J P n X Q (.ops os (⟨dd,.convert s t x,ty,pos,af,g⟩::l)) S Ls F m): J P n X Q (.ops os (⟨dd,.convert s t x,ty,pos,af,g⟩::l)) S Ls F m:=h
theorem gPk (h:J P n X Q (.ops os (⟨dd,.pick u x y,ty,pos,af,g⟩::l)) S Ls F m): J P n X Q (.ops os (⟨dd,.pick u x y,ty,pos,af,g⟩::l)) S Ls F m:=h
theorem gGu{bb:Bool}(h:J P n X Q (.ops os (⟨dd,op,ty,pos,af,Ah (s,bb)⟩::l)) S Ls F m): J P n X Q (.ops os (⟨dd,op,ty,pos,af,Ah (s,bb)⟩::l)) S Ls F m:=h
variable{fn:Func}
theorem gRt{post:ρ->(Am->List zK->List PP->Prop)->Prop}(h:J P n X (zSd P fn X post) (.ex .ret) S Ls F m): J P n X (zSd P fn X post) (.ex .ret) S Ls F m:=h
theorem gNn{I:ρ->SLF->Prop}(h:J P n X (jnQ X n I) (.ex .normal) S Ls F m): J P n X (jnQ X n I) (.ex .normal) S Ls F m:=h
theorem gLp{m:Option (σ⊕ρ)}{I:σ->SLF->Prop}(h:J P n X (lpQ X n I Q) (.ex .normal) S Ls F m): J P n X (lpQ X n I Q) (.ex .normal) S Ls F m:=h
end
section
variable {bb:Bool}{j:Nat}{o:Oper}{dd:Option Nat}{b:Bool}{u v:As}{za zb:Code}
variable{ob:List Ob}
theorem aM(k:Nat)(hr:guC os S g (pvX S op [] λob v=>z7c os k l ((d,v)::S) ob) (z7c os k l ((d,undef)::S) [])=Ah (S',l',ob))(h:J P n X Q (.ops os l') S' Ls F m)
  (hd:(zYt (⟨Ah d,op,ty,pos,af,g⟩::l)).all (λd=>Nat.blt d n)=true:=by kernel_rfl) (ho:zUn P ob=true:=by kernel_rfl):J P n X Q (.ops os (⟨Ah d,op,ty,pos,af,g⟩::l)) S Ls F m:=
 ⟨λhq r hm a w hs=>(zOI (k+1) _ S S' l' [] ob a hs.s (by simp only[z7c];rw[hr]) hd ho λa' hS=>h.go hq r hm a' w (hs.slot hS)).2⟩
inductive Und:Bool->Prop
 | tt:Und Aj
 | ff:Und Ak
 | any {b:Bool}:Und b
theorem aGi (hj:os[j]?=Ah o)(ht:o.dst=Ah t)(hl:yF S t=Ah (.bool b))(h1:J P n X Q (.ops os (⟨dd,op,ty,pos,af,Ah (j,bb)⟩::l)) ((t,.bool Aj)::S) Ls F m1)
  (h2:J P n X Q (.ops os (⟨dd,op,ty,pos,af,Ah (j,bb)⟩::l)) ((t,.bool Ak)::S) Ls F m2) (hu:Und b:=by(fail_if_success (first | exact Und.tt | exact Und.ff));exact Und.any):J P n X Q (.ops os (⟨dd,op,ty,pos,af,Ah (j,bb)⟩::l)) S Ls F (if b=Aj then m1 else m2):=wG t hl h1 h2
theorem aGs (hj:os[j]?=Ah o)(ht:o.dst=Ah t)(hl:yF S t=Ah (.bool b))(h1:b=Aj->J P n X Q (.ops os (⟨dd,op,ty,pos,af,Ah (j,bb)⟩::l)) ((t,.bool Aj)::S) Ls F m)
  (h2:b=Ak->J P n X Q (.ops os (⟨dd,op,ty,pos,af,Ah (j,bb)⟩::l)) ((t,.bool Ak)::S) Ls F m) (hu:Und b:=by(fail_if_success (first | exact Und.tt | exact Und.ff));exact Und.any):J P n X Q (.ops os (⟨dd,op,ty,pos,af,Ah (j,bb)⟩::l)) S Ls F m:=jsp t hl h1 h2
end
section
variable {b o:Nat}{c cs:List Am}{te:Ap}{v:Am}{k i:Nat}{ag:Bool}{r:zK}
theorem aLo[i0:Sh t Ak 1](hx:zV S x=Ah (pt b o))(h:J P n X Q (.ops os l) ((d,v)::S) Ls F m)(hr:LdR Ls b o v:=by(repeat (first | exact LdR.y rfl | apply LdR.n));(first | done | fail))
  (ht:uE P t=Ah (Ak,1):=by kernel_rfl) (hd:Nat.blt d n=true:=by kernel_rfl) (hg:qI os S g=Ah true:=by rfl):J P n X Q (.ops os (⟨Ah d,.load t x,ty,pos,af,g⟩::l)) S Ls F m:=by
 obtain⟨i,c,te,fr,h1,h2⟩:=hr.h;exact zZ i hx h1 h2 h ht hd hg
theorem aLa[i0:Sh t Aj k](hx:zV S x=Ah (pt b o))(h:J P n X Q (.ops os l) ((d,.agg cs.toArray)::S) Ls F m)(hr:LdA Ls b o k cs:=by(repeat (first | exact LdA.y rfl | apply LdA.n));(first | done | fail))
  (ht:uE P t=Ah (Aj,k):=by kernel_rfl) (hd:Nat.blt d n=true:=by kernel_rfl) (hg:qI os S g=Ah true:=by rfl):J P n X Q (.ops os (⟨Ah d,.load t x,ty,pos,af,g⟩::l)) S Ls F m:=by
 obtain⟨i,c,te,fr,h1,h2⟩:=hr.h;exact qO i k hx h1 h2 h ht hd hg
theorem aLd{τ:Type}{e:E τ}{op:yO e}{u:τ}[i0:Ty t e op ag](hx:zV S x=Ah (pt b o))(h:op.op u [] F λcs F'=>mkC ag cs λv=>J P n X Q (.ops os l) ((d,v)::S) Ls F' m)
  (hP:PtS F e b o u:=by(repeat (first | (apply PtS.y;(repeat (first | exact PtP.r | (apply PtP.l;(repeat (first | exact PtP.r | (apply PtP.l;(repeat (first | exact PtP.r | apply PtP.s));done) | apply PtP.s));done) | apply PtP.s));done) | apply PtS.n));(first | done | fail))
  (ht:uE P t=Ah (ag,e.n):=by kernel_rfl) (hag:ag=Aj\/e.n=1:=by first | exact .inl rfl | exact .inr rfl)
  (hd:Nat.blt d n=true:=by kernel_rfl) (hg:qI os S g=Ah true:=by rfl):J P n X Q (.ops os (⟨Ah d,.load t x,ty,pos,af,g⟩::l)) S Ls F m:=yX ag op (λA w _ hF=>hP.h _ w hF) hx h ht hag hd hg
variable{off:Nat}
theorem aFa{s f:Nat}{ofs:List Nat}[i0:Fs s ofs](hx:zV S x=Ah (pt b o))(h:J P n X Q (.ops os l) ((d,pt b (o+off))::S) Ls F m)(ho:ofs.getD f 0=off:=by rfl)
  (hf:zUL P s f=Ah off:=by kernel_rfl) (hd:Nat.blt d n=true:=by kernel_rfl) (hg:qI os S g=Ah true:=by rfl):J P n X Q (.ops os (⟨Ah d,.fieldAddr s x f,ty,pos,af,g⟩::l)) S Ls F m:=zL off hx h hf hd hg
theorem aSo (hx:zV S x=Ah (pt b o))(hy:zV S y=Ah v)(h:zQa v λcs=>putC o c cs λc'=>xT Ls i (bx b te c') λLs'=>J P n X Q (.ops os l) S Ls' F m)(hr:vM Ls i (bx b te c):=by(repeat (first | exact vM.y | apply vM.n));(first | done | fail))
  (hv:zKq P t c.toArray o v=true:=by kernel_rfl) (hg:qI os S g=Ah true:=by rfl):J P n X Q (.ops os (⟨Ai,.store t x y,ty,pos,af,g⟩::l)) S Ls F m:=zW .s i hx hy hr.h h hv hg
theorem aBx (hx:zV S x=Ah v)(h:∀ b,zQa v λcs=>zMw Ls (bx b t cs) λLs'=>J P n X Q (.ops os l) ((d,pt b 0)::S) Ls' F m)
  (hd:Nat.blt d n=true:=by kernel_rfl) (hg:qI os S g=Ah true:=by rfl):J P n X Q (.ops os (⟨Ah d,.box t x,ty,pos,af,g⟩::l)) S Ls F m:=wT .s hx h hd hg
theorem aAl[i0:Zr t v](h:∀ b,zQa v λcs=>zMw Ls (bx b t cs) λLs'=>J P n X Q (.ops os l) ((d,pt b 0)::S) Ls' F m)
  (hx:zHO P t=Ah v:=by kernel_rfl) (hd:Nat.blt d n=true:=by kernel_rfl) (hg:qI os S g=Ah true:=by rfl):J P n X Q (.ops os (⟨Ah d,.alloc t,ty,pos,af,g⟩::l)) S Ls F m:=qM .s v h hx hd hg
end
section
variable {τ:Type}{e:E τ}{te:Ap}{r r2:zK}{p0 q0:Option Ax}{c k0 c2 k2 i:Nat}{z z2:List τ}{ix j:Int}{lo hi:Option As}{vlo vhi:Option Am}
theorem aIx{f:τ->Option ρ}(hx:zV S x=Ah (.slice p0 k0 c))(hy:zV S y=Ah (.int kd ix))(h:∀ u b o,J P n X Q (.ops os l) ((d,pt b o)::S) Ls (Pt e b o u::F) (f u))
  (hF:wZ F (R e p0 c k0 z):=by(repeat (first | exact wZ.y | refine wZ.n ?_));(first | done | fail)) (ht:uM P t=Ah e.n:=by kernel_rfl) (hd:Nat.blt d n=true:=by kernel_rfl) (hg:qI os S g=Ah true:=by rfl) :
  J P n X Q (.ops os (⟨Ah d,.indexAddr t x y,ty,pos,af,g⟩::l)) S Ls F ((zD z ix).bind f):=by
 obtain⟨k,hk⟩:=hF.h;exact yV k hk hx hy h ht hd hg
theorem aSl{f:List τ->Option ρ}(hx:zV S x=Ah (.slice p0 k0 c))(hlo:zSW S lo=Ah vlo)(hhi:zSW S hi=Ah vhi)(h:∀ u p' c',J P n X Q (.ops os l) ((d,sv p' u c')::S) Ls (Rl e p' c' u::F) (f u))
  (hF:wZ F (R e p0 c k0 z):=by(repeat (first | exact wZ.y | refine wZ.n ?_));(first | done | fail)) (b1:Bd vlo ix 0:=by first | exact .inl ⟨rfl,rfl⟩ | exact .inr ⟨_,rfl⟩) (b2:Bd vhi j z.length:=by first | exact .inl ⟨rfl,rfl⟩ | exact .inr ⟨_,rfl⟩)
  (ht:uM P t=Ah e.n:=by kernel_rfl) (hd:Nat.blt d n=true:=by kernel_rfl) (hg:qI os S g=Ah true:=by rfl) :
  J P n X Q (.ops os (⟨Ah d,.slice t x lo hi Ai,ty,pos,af,g⟩::l)) S Ls F ((sub z ix j).bind f):=by
 obtain⟨k,hk⟩:=hF.h;exact jsl (hk▸gk k) hx hlo hhi b1 b2 h ht hd hg
theorem aSP{f:List τ->Option ρ}{x2:As}(hx:zV S x=Ah (.slice p0 k0 c))(hhi:zV S x2=Ah (.int kd j))(h:∀ u,J P n X Q (.ops os l) ((d,sv p0 u c)::S) Ls (Al e te r p0 c u::F) (f u))
  (hF:wZ F (Ar e te r p0 c k0 z):=by(repeat (first | exact wZ.y | refine wZ.n ?_));(first | done | fail)) (ht:uM P t=Ah e.n:=by kernel_rfl) (hd:Nat.blt d n=true:=by kernel_rfl) (hg:qI os S g=Ah true:=by rfl) :
  J P n X Q (.ops os (⟨Ah d,.slice t x Ai (Ah x2) Ai,ty,pos,af,g⟩::l)) S Ls F ((sub z 0 j).bind f):=by
 obtain⟨k,hk⟩:=hF.h;exact jsP k hk hx hhi h ht hd hg
theorem aAr{f:List τ->Option ρ}(hx:zV S x=Ah (.slice p0 k0 c))(hy:zV S y=Ah (.slice q0 k2 c2))
  (h:∀ u r' p1 c',xT Ls i r' λLs'=>J P n X Q (.ops os l) ((d,sv p1 u c')::S) Ls' (Al e te r' p1 c' u::F) (f u))
  (hF:wZ F (Ar e te r p0 c k0 z):=by(repeat (first | exact wZ.y | refine wZ.n ?_));(first | done | fail)) (hF2:wZ F (R e q0 c2 k2 z2):=by(repeat (first | exact wZ.y | refine wZ.n ?_));(first | done | fail)) (hr:vM Ls i r:=by(repeat (first | exact vM.y | apply vM.n));(first | done | fail))
  (ht:xM P t te e.n=true:=by kernel_rfl) (hd:Nat.blt d n=true:=by kernel_rfl) (hg:qI os S g=Ah true:=by rfl) :
  J P n X Q (.ops os (⟨Ah d,.call { callee:=.builtin .append,args:=[x,y].toArray,argTypes:=[t,t].toArray },ty,pos,af,g⟩::l)) S Ls F ((qG z z2).bind f):=by
 obtain⟨k,hk⟩:=hF.h;obtain⟨k',hk'⟩:=hF2.h;exact qZ .s i k hk (hk'▸gk k') hx hy h hr.h ht hd hg
variable{t2:Ap}
theorem aCat{p q:zA}{t3:Ap}{f:zA->Option ρ}(hx:zV S x=Ah (vs p))(hy:zV S y=Ah (vs q))(h:∀ r,J P n X Q (.ops os l) ((d,vs r)::S) Ls F (f r))
  (hd:Nat.blt d n=true:=by kernel_rfl) (hg:qI os S g=Ah true:=by rfl):J P n X Q (.ops os (⟨Ah d,.binOp .add t2 x y t3,ty,pos,af,g⟩::l)) S Ls F ((qA p q).bind f):=
 yT λr h1=>jv (λhS=>zPq hS hx hy h1) (h r) hd hg
theorem aSi{s:zA}{f:Int->Option ρ}(hx:zV S x=Ah (vs s))(hy:zV S y=Ah (.int kd ix))(h:∀ r,J P n X Q (.ops os l) ((d,.int .u8 r)::S) Ls F (f r))
  (hu:P.underlying t=Ah .string:=by kernel_rfl) (hd:Nat.blt d n=true:=by kernel_rfl) (hg:qI os S g=Ah true:=by rfl):J P n X Q (.ops os (⟨Ah d,.index t x y,ty,pos,af,g⟩::l)) S Ls F ((vR s ix).bind f):=
 yT λr h1=>jv (λhS=>z1g hS hx hy hu h1) (h r) hd hg
theorem aSs{s:zA}{f:zA->Option ρ}(hx:zV S x=Ah (vs s))(hlo:zSW S lo=Ah vlo)(hhi:zSW S hi=Ah vhi)(h:∀ r,J P n X Q (.ops os l) ((d,vs r)::S) Ls F (f r))
  (b1:Bd vlo ix 0:=by first | exact .inl ⟨rfl,rfl⟩ | exact .inr ⟨_,rfl⟩) (b2:Bd vhi j s.length:=by first | exact .inl ⟨rfl,rfl⟩ | exact .inr ⟨_,rfl⟩)
  (hu:P.underlying t=Ah .string:=by kernel_rfl) (hd:Nat.blt d n=true:=by kernel_rfl) (hg:qI os S g=Ah true:=by rfl):J P n X Q (.ops os (⟨Ah d,.slice t x lo hi Ai,ty,pos,af,g⟩::l)) S Ls F ((sub s ix j).bind f):=
 yT λr h1=>jv (λhS=>zYL hS hx hu hlo hhi b1 b2 h1) (h r) hd hg
theorem aRm{a b:Int}{k:Au}{t3:Ap}{f:Int->Option ρ}(hx:zV S x=Ah (.int k a))(hy:zV S y=Ah (.int k b))(h:∀ r,J P n X Q (.ops os l) ((d,.int k r)::S) Ls F (f r))
  (hd:Nat.blt d n=true:=by kernel_rfl) (hg:qI os S g=Ah true:=by rfl):J P n X Q (.ops os (⟨Ah d,.binOp .rem t2 x y t3,ty,pos,af,g⟩::l)) S Ls F ((z08 a b).bind f):=
 yT λr h1=>jv (λhS=>z2Y hS hx hy h1) (h r) hd hg
end
section
variable {β:Type}
def overO:List Am->List Am->(List Am->Option β)->Option β
 | l,[],k=>k l
 | [],_::_,_=>Ai
 | _::l,v::vs,k=>overO l vs λl'=>k (v::l')
def putO:Nat->List Am->List Am->(List Am->Option β)->Option β
 | 0,l,v,k=>overO l v k
 | _+1,[],_,_=>Ai
 | o+1,a::l,v,k=>putO o l v λl'=>k (a::l')
def nthO:List Nat->Nat->(Nat->Option β)->Option β
 | [],_,_=>Ai
 | a::_,0,k=>k a
 | _::l,i+1,k=>nthO l i k
def z8K (v:Am)(k:List Am->Option β): Option β:=match v with
 | .agg ⟨cs⟩=>k cs
 | v=>k [v]
def appO:List Am->List Am->(List Am->Option β)->Option β
 | [],l,k=>k l
 | a::m,l,k=>appO m l λl'=>k (a::l')
end
def bldC (S:Sl)(ofs:List Nat): List (Nat×As)->List Am->Option (List Am)
 | [],cs=>Ah cs
 | (j,x)::r,cs=>zVE S x λu=>nthO ofs j λo=>z8K u λvs=>putO o cs vs λcs'=>bldC S ofs r cs'
def bsC (S:Sl): List (Nat×As)->Nat->(List Am->Option (List Am))->Option (List Am)
 | [],_,k=>k []
 | (j,x)::r,i,k=>bif Nat.beq j i then zVE S x λu=>bsC S r (i+1) λcs=>z8K u λvs=>appO vs cs k else Ai
section
variable {parts:List (Nat×As)}{ofs:List Nat}{zc cs:List Am}{k0:Nat}{te:Ap}{τ:Type}{e:E τ}{z:List τ}
theorem aBd[i0:Fs t ofs][i1:Zr t (.agg zc.toArray)](h:J P n X Q (.ops os l) ((d,.agg cs.toArray)::S) Ls F m)(hb:bldC S ofs parts zc=Ah cs:=by rfl)(hv:pv P S (.build t parts.toArray)=Ah (.agg cs.toArray):=by kernel_rfl)
  (hd:Nat.blt d n=true:=by kernel_rfl) (hg:qI os S g=Ah true:=by rfl):J P n X Q (.ops os (⟨Ah d,.build t parts.toArray,ty,pos,af,g⟩::l)) S Ls F m:=zI _ h hv hd (hg)
variable{t2:Ap}
theorem aCv{a:Int}{k k1:Au}{s:Ap}[i0:It t2 k](hx:zV S x=Ah (.int k1 a))(h:J P n X Q (.ops os l) ((d,.int k (k.wrap a))::S) Ls F m)(hv:pv P S (.convert s t2 x)=Ah (.int k (k.wrap a)):=by kernel_rfl)
  (hd:Nat.blt d n=true:=by kernel_rfl) (hg:qI os S g=Ah true:=by rfl):J P n X Q (.ops os (⟨Ah d,.convert s t2 x,ty,pos,af,g⟩::l)) S Ls F m:=zI _ h hv hd hg
theorem avQ{α β:Type}{a:E α}{b:E β}{x1:α}{x2:β}(h:RV a Ls F (cs.take a.n) x1)(k:RV b Ls F (cs.drop a.n) x2): RV (qU a b) Ls F cs (x1,x2):=vP h k
theorem avN{p:Option Ax}{c:Nat}: RV (wF e) Ls F [.slice p 0 c] []:=vL gn
theorem avF{p:Option Ax}{c m:Nat}(h:wZ F (R e p c m z)): RV (wF e) Ls F [.slice p m c] z:=vL (by obtain⟨k,hk⟩:=h.h;exact hk▸gk k)
theorem aBs[i0:Se t te e](h:∀ p1 c',J P n X Q (.ops os l) ((d,sv p1 z c')::S) Ls (Rl e p1 c' z::F) m)(hb:bsC S parts 0 Ah=Ah cs:=by rfl)
  (hrd:RD e Ls F cs z:=by(repeat' (first | exact rN | apply rC | exact vI | exact vB | exact vS | exact vU | exact avN | apply avQ | apply avF | exact wZ.y | apply wZ.n));(first | done | fail))
  (ht:xM P t te e.n=true:=by kernel_rfl) (hc:zJQ P S t k0 parts=Ah cs:=by kernel_rfl) (hl:z.length=k0:=by rfl) (hd:Nat.blt d n=true:=by kernel_rfl) (hg:qI os S g=Ah true:=by rfl) :
  J P n X Q (.ops os (⟨Ah d,.buildSlice t k0 parts.toArray,ty,pos,af,g⟩::l)) S Ls F m:=vT .s te cs z hrd h ht hc hl hd hg
end
theorem yD.f{f:PP}(h:wZ F f): yD Ls F f:=by obtain⟨k,hk⟩:=h.h;exact hk▸gk k
theorem yD.zz{τ:Type}{e:E τ}{te:Ap}: yD Ls F (Ar e te [] Ai 0 0 []):=λ_ _ _ _=>⟨.inl ⟨rfl,rfl,rfl,rfl⟩,rfl⟩
theorem yD.fa{f:PP}(h:wZ F f:=by(repeat (first | exact wZ.y | refine wZ.n ?_));(first | done | fail)): yD Ls F f:=yD.f h
theorem yD.pp{τ:Type}{e:E τ}{b o:Nat}{u:τ}(h:PtS F e b o u): yD Ls F (Pt e b o u):=λA w _ hF=>h.h _ w hF
theorem tG.cc{p:PP->Prop}{f:PP}{F:List PP}(h:p f)(t:tG p F): tG p (f::F):=⟨h,t⟩
theorem tG.nn{p:PP->Prop}: tG p []:=trivial
inductive SE:Sl->Sl->Prop
 | n:SE [] []
 | c {d:Nat} {v v':Am} {l l':Sl} (h:v=v') (t:SE l l'):SE ((d,v)::l) ((d,v')::l')
theorem SE.ca{d:Nat}{v v':Am}{l l':Sl}(t:SE l l')(h:v=v':=by first | (simp only[*];done) | (simp[*];done)): SE ((d,v)::l) ((d,v')::l'):=.c h t
theorem SE.eq{S S':Sl}(h:SE S S'): S=S':=by
 induction h with
 | n=>rfl
 | c h _ ih=>rw[h,ih]
theorem gvA{I:SLF->Prop}{S1 S2:Sl}{L2:List zK}{F2:List PP}{js:List Nat}(hk:∀ K,I K->K S2 L2 F2)(hS:zUU S (S2.map Prod.fst)=Ah S1:=by rfl)
  (hE:SE S1 S2:=by(repeat (first | exact SE.n | apply SE.c rfl | refine SE.ca ?_));(first | done | fail))
  (hX:BX Ls L2:=by(repeat (first | exact BX.n | refine BX.m ?_ | refine BX.s ?_));(first | done | fail)) (hF:tG (yD Ls F) F2:=by(repeat' (first | exact tG.nn | refine tG.cc ?_ ?_ | exact gn | exact yD.zz | exact yD.fa | exact yD.ga | exact yD.gA));(first | done | fail))
  (hL:tY Ls 0 js L2:=by(repeat' (first | exact tY.n | exact vM.y | apply tY.z _ rfl | apply tY.c | apply vM.n));(first | done | fail)) (hn:js.Nodup:=by decide):Gv Ls S F I:=by
 cases hE.eq;exact gv hk js hF hL.eq hS hn
inductive Lnt (Ls:List zK)(F:List PP): List PP->List Nat->Prop
 | n:Lnt Ls F [] []
 | c {f:PP} {F1:List PP} {ls:List Nat} (h:wZ F f) (t:Lnt Ls F F1 ls):Lnt Ls F (f::F1) ls
 | e {τ:Type} {e:E τ} {p:Option Ax} {c:Nat} {F1:List PP} {ls:List Nat} (t:Lnt Ls F F1 ls):Lnt Ls F (R e p c 0 []::F1) ls
 | l {τ:Type} {e:E τ} {te:Ap} {r:zK} {p:Option Ax} {c m i:Nat} {z:List τ} {F1:List PP} {ls:List Nat} (h:wZ F (Ar e te r p c m z)) (hi:vM Ls i r) (t:Lnt Ls F F1 ls):Lnt Ls F (R e p c m z::F1) (i::ls)
theorem Lnt.ok{F1:List PP}{ls ls0 js:List Nat}(h:Lnt Ls F F1 ls)(hk:z2U (js++ls0) Ls.length=Aj): (∀ i∈ls,i∈ls0)->tG (OKc Ls F js ls0) F1:=by
 induction h with
 | n=>exact λ_=>trivial
 | c h _ ih=>exact λhs=>⟨by obtain⟨k,hk⟩:=h.h;exact hk▸ck k,ih hs⟩
 | e _ ih=>exact λhs=>⟨cn,ih hs⟩
 | l h hi _ ih=>exact λhs=>⟨by obtain⟨k,hk'⟩:=h.h;exact cl _ k hk hi.h hk' (by simpa using hs _ (Qt ..)),ih λi hi=>hs i (Qm _ hi)⟩
variable{fd:FuncId}{pp:Prop}{cal:As}{xs:Array As}{ats:Array Ap}{caps:Array Am}
theorem aC0 (ci:Nat){bs0:Array Am}[i0:Cn fd ci pp](hcal:zV S cal=Ah (.func (.func fd) bs0 caps))
  (h:pp->J P n X Q (.ops os (⟨Ah d,.call { callee:=.value cal,args:=xs,argTypes:=ats },ty,pos,af,g⟩::l)) S Ls F m):J P n X Q (.ops os (⟨Ah d,.call { callee:=.value cal,args:=xs,argTypes:=ats },ty,pos,af,g⟩::l)) S Ls F m:=h i0.h
variable{us:List Am}{L:List zK}{F1:List PP}
theorem aCa{xs:List As}{bs0 caps:List Am}{vs:List Am}{m1:Option σ}{post:σ->(Am->List zK->List PP->Prop)->Prop}{f:σ->Option ρ}{js ls:List Nat}
  (c:zJ qd P fd vs L F1 m1 post) (hcal:zV S cal=Ah (.func (.func fd) bs0.toArray caps.toArray)) (hx:z1w S xs=Ah us) (hv:bs0++us++caps=vs)
  (h:∀ r K,(∀ {v L1 F1},z45 ls js L1 Ls F1 F (λLs' F'=>J P n X Q (.ops os l) ((d,v)::S) Ls' F' (f r))->K v L1 F1)->post r K)
  (hX:BX Ls L:=by(repeat (first | exact BX.n | refine BX.m ?_ | refine BX.s ?_));(first | done | fail)) (hF:Lnt Ls F F1 ls:=by(repeat' (first | exact Lnt.n | exact wZ.y | exact vM.y | (apply Lnt.c;focus ((repeat (first | exact wZ.y | refine wZ.n ?_));(first | done | fail))) | apply Lnt.e | apply Lnt.l | refine wZ.n ?_ | apply vM.n));(first | done | fail))
  (hL:tY Ls 0 js L:=by(repeat' (first | exact tY.n | exact vM.y | apply tY.z _ rfl | apply tY.c | apply vM.n));(first | done | fail)) (hk:z2U (js++ls) Ls.length=true:=by rfl) (hd:Nat.blt d n=true:=by kernel_rfl) (hg:qI os S g=Ah true:=by rfl) :
  J P n X Q (.ops os (⟨Ah d,.call { callee:=.value cal,args:=xs.toArray,argTypes:=ats },ty,pos,af,g⟩::l)) S Ls F (m1.bind f):=
 zY .s js ls c hcal hx hv (hF.ok hk λ_ h=>h) h hL.eq hk hd hg
variable{fn:Func}{v1:Am}{L1:List zK}
theorem aR1{post:ρ->(Am->List zK->List PP->Prop)->Prop}{r:ρ}{v:Am}{js:List Nat}(hf:fn.results=#[.tmp t])(hv:yF S t=Ah v)(hk:∀ K,post r K->K v1 L1 F1)
  (he:v=v1:=by first | rfl | (simp only[sv,Ug] <;> rfl)) (hX:BX Ls L1:=by(repeat (first | exact BX.n | refine BX.m ?_ | refine BX.s ?_));(first | done | fail)) (hF:tG (yD Ls F) F1:=by(repeat' (first | exact tG.nn | refine tG.cc ?_ ?_ | exact gn | exact yD.zz | exact yD.fa | exact yD.ga | exact yD.gA));(first | done | fail))
  (hL:tY Ls 0 js L1:=by(repeat' (first | exact tY.n | exact vM.y | apply tY.z _ rfl | apply tY.c | apply vM.n));(first | done | fail)) (hn:js.Nodup:=by decide):J P n X (zSd P fn X post) (.ex .ret) S Ls F (Ah r):=uL hf hv hk js hF he hL.eq hn
variable{rs:List ResultVar}
theorem lA{b te j:Nat}{c cs:List Am}{fr:Nat×Nat}{vs:List Am}{i:Nat}[i0:Sh ty Aj j](hl:yF S t=Ah (pt b 0))(hr:vM Ls i [(b,.cells c.toArray te fr)])(hv:zYn j c Ah=Ah cs)(k:RL P S Ls rs vs)(hv2:zKu P ty c.toArray 0=Ah (.agg cs.toArray):=by kernel_rfl): RL P S Ls (.cell t ty::rs) (.agg cs.toArray::vs):=lC i _ hl hr.h k hv2
theorem aRg{vs:List Am}{post:ρ->(Am->List zK->List PP->Prop)->Prop}{r:ρ}{js:List Nat}(hf:fn.results=rs.toArray)(hk:∀ K,post r K->K v1 L1 F1)
  (hr:RL P S Ls rs vs:=by(repeat' (first | exact lN | exact vM.y | rfl | apply lT | apply lR | apply lA | apply vM.n));(first | done | fail))
  (he:(if h:vs.length=1 then vs[0] else .tuple vs.toArray)=v1:=by first | rfl | (simp only[sv,Ug] <;> rfl)) (hX:BX Ls L1:=by(repeat (first | exact BX.n | refine BX.m ?_ | refine BX.s ?_));(first | done | fail)) (hF:tG (yD Ls F) F1:=by(repeat' (first | exact tG.nn | refine tG.cc ?_ ?_ | exact gn | exact yD.zz | exact yD.fa | exact yD.ga | exact yD.gA));(first | done | fail))
  (hL:tY Ls 0 js L1:=by(repeat' (first | exact tY.n | exact vM.y | apply tY.z _ rfl | apply tY.c | apply vM.n));(first | done | fail)) (hn:js.Nodup:=by decide):J P n X (zSd P fn X post) (.ex .ret) S Ls F (Ah r):=vV hf hr hk js hF he hL.eq hn
theorem gMk{dd:Option Nat}(h:J P n X Q (.ops os (⟨dd,.makeSlice t x y,ty,pos,af,g⟩::l)) S Ls F m): J P n X Q (.ops os (⟨dd,.makeSlice t x y,ty,pos,af,g⟩::l)) S Ls F m:=h
structure OWK (d:Nat): Prop
theorem hO{G:Prop}(d:Nat)(h:OWK d->G): G:=h ⟨⟩
class By (t:Ap)(te:outParam Ap): Prop
section
variable {τ ω:Type}{e:E τ}{ef:E ω}{te:Ap}{r:zK}{p0:Option Ax}{c k0 i:Nat}{z:List τ}{ix:Int}{b o o':Nat}{u:τ}{ag:Bool}{v zv:Am}
theorem aIa{f:τ->Option ρ}(hx:zV S x=Ah (.slice p0 k0 c))(hy:zV S y=Ah (.int kd ix))(h:∀ u,zD z ix=Ah u->∀ b o,p0=Ah ⟨b,o,Ai⟩->J P n X Q (.ops os l) ((d,pt b (o+ix.toNat*e.n))::S) Ls F (f u))
  (hF:wZ F (Ar e te r p0 c k0 z):=by(repeat (first | exact wZ.y | refine wZ.n ?_));(first | done | fail)) (ht:uM P t=Ah e.n:=by kernel_rfl) (hd:Nat.blt d n=true:=by kernel_rfl) (hg:qI os S g=Ah true:=by rfl):J P n X Q (.ops os (⟨Ah d,.indexAddr t x y,ty,pos,af,g⟩::l)) S Ls F ((zD z ix).bind f):=by
 obtain⟨k,hk⟩:=hF.h;exact jia k hk hx hy h ht hd hg
theorem aLA{op:yO ef}[i0:Ty t ef op ag](s:tT e ef)(hx:zV S x=Ah (pt b o'))(h:op.op (s.get u) [] F λcs F'=>mkC ag cs λv=>J P n X Q (.ops os l) ((d,v)::S) Ls F' m)
  (hp:p0=Ah ⟨b,o,Ai⟩:=by assumption) (hF:wZ F (Ar e te r p0 c k0 z):=by(repeat (first | exact wZ.y | refine wZ.n ?_));(first | done | fail)) (he:o'=o+ix.toNat*e.n+s.off:=by rfl) (hm:zD z ix=Ah u:=by assumption) (hr:vM Ls i r:=by(repeat (first | exact vM.y | apply vM.n));(first | done | fail))
  (ht:uE P t=Ah (ag,ef.n):=by kernel_rfl) (hag:ag=Aj\/ef.n=1:=by first | exact .inl rfl | exact .inr rfl) (hd:Nat.blt d n=true:=by kernel_rfl) (hg:qI os S g=Ah true:=by rfl):J P n X Q (.ops os (⟨Ah d,.load t x,ty,pos,af,g⟩::l)) S Ls F m:=by
 obtain⟨k,hk⟩:=hF.h;subst he;exact jlA i k s ag op hk hp hm hx h hr.h ht hag hd hg
theorem aSA{op:yO ef}[i0:Ty t ef op ag]{nz:ω}(s:tT e ef)(hx:zV S x=Ah (pt b o'))(hy:zV S y=Ah v)(h:∀ r',xT Ls i r' λLs'=>J P n X Q (.ops os l) S Ls' (Ar e te r' p0 c k0 (z.set ix.toNat (s.put u nz))::F) m)
  (hp:p0=Ah ⟨b,o,Ai⟩:=by assumption) (hF:wZ F (Ar e te r p0 c k0 z):=by(repeat (first | exact wZ.y | refine wZ.n ?_));(first | done | fail)) (he:o'=o+ix.toNat*e.n+s.off:=by rfl) (hm:zD z ix=Ah u:=by assumption) (hr:vM Ls i r:=by(repeat (first | exact vM.y | apply vM.n));(first | done | fail))
  (hv:RV ef Ls F v.cells.toList nz:=by(repeat' (first | exact vI | exact vB | exact vS | exact vU | exact avN | apply avQ | apply avF | exact wZ.y | apply wZ.n));(first | done | fail)) (ht:uE P t=Ah (ag,ef.n):=by kernel_rfl) (hg:qI os S g=Ah true:=by rfl):J P n X Q (.ops os (⟨Ai,.store t x y,ty,pos,af,g⟩::l)) S Ls F m:=by
 obtain⟨k,hk⟩:=hF.h;subst he;exact jsA .s i k s nz ag hk hp hm hx hy hv h hr.h ht hg
theorem aMk{zd:τ}{k1 k2:Au}{i j:Int}{f:List τ->Option ρ}[i0:Se t te e][i1:Zr te zv](hx:zV S x=Ah (.int k1 i))(hy:zV S y=Ah (.int k2 j))
  (h:∀ z r' p1 c',zMw Ls r' λLs'=>J P n X Q (.ops os l) ((d,sv p1 z c')::S) Ls' (Al e te r' p1 c' z::F) (f z)) (hzr:RV e Ls F zv.cells.toList zd:=by(repeat' (first | exact vI | exact vB | exact vS | exact vU | exact avN | apply avQ | apply avF | exact wZ.y | apply wZ.n));(first | done | fail)) (hz:zHO P te=Ah zv:=by kernel_rfl) (ht:xM P t te e.n=true:=by kernel_rfl)
  (hd:Nat.blt d n=true:=by kernel_rfl) (hg:qI os S g=Ah true:=by rfl):J P n X Q (.ops os (⟨Ah d,.makeSlice t x y,ty,pos,af,g⟩::l)) S Ls F ((tI i j zd).bind f):=jmk .s te zd zv hzr hx hy h hz ht hd hg
theorem aBo{parts:List (Nat×As)}{cs:List Am}[i0:Se t te e](h:∀ r' p1 c',zMw Ls r' λLs'=>J P n X Q (.ops os l) ((d,sv p1 z c')::S) Ls' (Al e te r' p1 c' z::F) m)(ho:OWK d:=by assumption)(hb:bsC S parts 0 Ah=Ah cs:=by rfl)
  (hrd:RD e Ls F cs z:=by(repeat' (first | exact rN | apply rC | exact vI | exact vB | exact vS | exact vU | exact avN | apply avQ | apply avF | exact wZ.y | apply wZ.n));(first | done | fail)) (ht:xM P t te e.n=true:=by kernel_rfl) (hc:zJQ P S t k0 parts=Ah cs:=by kernel_rfl) (hl:z.length=k0:=by rfl) (hm:Nat.ble k0 16777216=true:=by kernel_rfl) (hd:Nat.blt d n=true:=by kernel_rfl) (hg:qI os S g=Ah true:=by rfl) :
  J P n X Q (.ops os (⟨Ah d,.buildSlice t k0 parts.toArray,ty,pos,af,g⟩::l)) S Ls F m:=yR .s te cs z hrd h ht hc hl hm hd hg
theorem aCb{z:List Int}{s:Ap}[i0:By s te](hx:zV S x=Ah (.slice p0 k0 c))(h:J P n X Q (.ops os l) ((d,vs (xV z))::S) Ls F m)(hF:wZ F (R (zT .u8) p0 c k0 z):=by(repeat (first | exact wZ.y | refine wZ.n ?_));(first | done | fail))
  (hs:P.underlying s=Ah (.slice te):=by kernel_rfl) (he:P.underlying te=Ah (.int .u8):=by kernel_rfl) (ht:P.underlying t=Ah .string:=by kernel_rfl) (hd:Nat.blt d n=true:=by kernel_rfl) (hg:qI os S g=Ah true:=by rfl) :
  J P n X Q (.ops os (⟨Ah d,.convert s t x,ty,pos,af,g⟩::l)) S Ls F m:=by
 obtain⟨k,hk⟩:=hF.h;exact jsb .s (hk▸gk k) hx hs he ht h hd hg
theorem aSh (hF:wZ F (Ar e te r p0 c k0 z))(h:xT Ls i [] λLs'=>J P n X Q p S Ls' (R e p0 c k0 z::F) m)(hr:vM Ls i r:=by(repeat (first | exact vM.y | apply vM.n));(first | done | fail))(hl:xT Ls i [] (λLs'=>p.less Ls Ls'):=by first | exact trivial | exact rfl): J P n X Q p S Ls F m:=by
 obtain⟨k,hk⟩:=hF.h;exact vX i k hk hr.h h hl
theorem z2k (hF:wZ F (Ar e te r p0 c k0 z))(hr:vM Ls i r:=by(repeat (first | exact vM.y | apply vM.n));(first | done | fail))(hl:xT Ls i [] (λLs'=>p.less Ls Ls'):=by first | exact trivial | exact rfl)
  (h:xT Ls i [] λLs'=>J P n X Q p S Ls' (R e p0 c k0 z::F) m:=by first | exact aR1 rfl rfl (λ_ k=>k ..) | exact aRg rfl (λ_ k=>k ..)):J P n X Q p S Ls F m:=aSh hF h hr hl
theorem aShS (hF:wZ F (Ar e te r p0 c k0 z))(hr:vM Ls i r:=by(repeat (first | exact vM.y | apply vM.n));(first | done | fail))(hl:xT Ls i [] (λLs'=>p.less Ls Ls'):=by first | exact trivial | exact rfl)
  (h:xT Ls i [] λLs'=>J P n X Q p S Ls' (R e p0 c k0 z::F) m:=by first | exact z2k (.n .y) | exact z2k (.n (.n .y)) | exact z2k (.n (.n (.n .y))) | exact z2k (.n (.n (.n (.n .y)))) | exact z2k (.n (.n (.n (.n (.n .y)))))):J P n X Q p S Ls F m:=aSh hF h hr hl
end
section
variable {te:Ap}{r:zK}{p0:Option Ax}{c k0 i:Nat}{w:zA}{ix:Int}{b o':Nat}
end
inductive UQ
 | r (x:zK)
 | c (l:List (Nat×Am))
def putsC:List Am->List (Nat×Am)->(List Am->Prop)->Prop
 | cs,[],k=>k cs
 | cs,(o,v)::l,k=>xT cs o v λcs'=>putsC cs' l k
def modR:List zK->Nat->List (Nat×Am)->(List zK->Prop)->Prop
 | [],_,_,_=>False
 | r::L,0,l,k=>match r with
  | [(b,.cells ⟨cs⟩ t fr)]=>putsC cs l λcs'=>k ([(b,.cells cs'.toArray t fr)]::L)
  | _=>False
 | r::L,i+1,l,k=>modR L i l λL'=>k (r::L')
def updQ:List zK->List (Nat×UQ)->(List zK->Prop)->Prop
 | L,[],k=>k L
 | L,(i,.r r)::us,k=>putR L i r λL'=>updQ L' us k
 | L,(i,.c l)::us,k=>modR L i l λL'=>updQ L' us k
abbrev KQ:=List Nat->List (Nat×UQ)->List Nat->Sl->List PP->Prop
def kq (S:Sl)(L:List zK)(F:List PP)(K:SLF): KQ:=λks us fs S1 F1=>z9T S ks S1 λS'=>updQ L us λL'=>z9M F fs λF'=>z8u F1 F' λF2=>K S' L' F2
def cid:Code->Nat×Nat
 | .region id _ _=>(id,0)
 | .seq a _=>match cid a with
  | (k,j)=>(k,j+1)
 | .cond _ a _=>match cid a with
  | (k,j)=>(k,j+1)
 | .block _ a=>match cid a with
  | (k,j)=>(k,j+1)
 | .loop a=>match cid a with
  | (k,j)=>(k,j+1)
 | .scope a=>match cid a with
  | (k,j)=>(k,j+1)
 | _=>(9999,0)
structure ROK (d len:Nat){τ:Type}(e:E τ)(te:Ap): Prop
theorem hR{τ:Type}{G:Prop}(d len:Nat)(e:E τ)(te:Ap)(h:ROK d len e te->G): G:=h ⟨⟩
theorem jroE{τ:Type}{e:E τ}{te:Ap}{d len:Nat}(hd:(os.back?.bind λo:Oper=>o.dst)=Ah d)(h:zMw Ls [] λLs'=>J P n X Q (.ops os []) S Ls' (Ar e te [] Ai 0 0 []::F) m)
  (hR:ROK d len e te:=by assumption) (hl:Nat.beq Ls.length len=true:=by rfl):J P n X Q (.ops os []) S Ls F m:=yN e te h (by rw[zHh];exact trivial)
structure LIK (n k j:Nat){σ:Type}(I:σ->KQ->Prop): Prop
theorem hI{G:Prop}(n k j:Nat)(I:σ->KQ->Prop)(h:LIK n k j I->G): G:=h ⟨⟩
structure LPK (n k j:Nat)(I:KQ->Prop): Prop
theorem hP{G:Prop}(n k j:Nat)(I:KQ->Prop)(h:LPK n k j I->G): G:=h ⟨⟩
theorem jjpQ{cx cy:Code}{k j:Nat}{I:KQ->Prop}(hk:cid cx=(k,j))(hx:J P n X (jnQ X n λ(_:Unit) K=>I (kq S Ls F K)) (.code cx) S Ls F (Ah ()))
  (hy:∀ K:SLF,(∀ {S' L' F'},J P n X Q (.code cy) S' L' F' m->K S' L' F')->I (kq S Ls F K)) (hI:LPK 4 k j I:=by assumption):J P n X Q (.code (.seq cx cy)) S Ls F m:=jjp (λK=>I (kq S Ls F K)) hx hy
section
variable {cx cy:Code}{k j:Nat}{I:σ->KQ->Prop}
theorem jlpQ{B:σ->Option (σ⊕ρ)}{s0:σ}(hk:cid cx=(k,j))(g:Gv Ls S F (λK=>I s0 (kq S Ls F K)))
  (hb:∀ s K,(∀ {S' L' F'},J P n X (lpQ X n (λs K=>I s (kq S Ls F K)) Q) (.code cx) S' L' F' (B s)->K S' L' F')->I s (kq S Ls F K)) (hI:LIK 0 k j I:=by assumption):J P n X Q (.code (.loop cx)) S Ls F (zN B s0):=jlp (λs K=>I s (kq S Ls F K)) g hb
theorem jjnQ{m1:Option σ}{f:σ->Option ρ}(hk:cid cx=(k,j))(hx:J P n X (jnQ X n λs K=>I s (kq S Ls F K)) (.code cx) S Ls F m1)
  (hy:∀ s K,(∀ {S' L' F'},J P n X Q (.code cy) S' L' F' (f s)->K S' L' F')->I s (kq S Ls F K)) (hI:LIK 1 k j I:=by assumption):J P n X Q (.code (.seq cx cy)) S Ls F (m1.bind f):=jjn (λs K=>I s (kq S Ls F K)) hx hy
theorem jjoQ{m1:Option (σ⊕ρ)}{f:σ->Option ρ}(hk:cid cx=(k,j))(hx:J P n X (lpQ X n (λs K=>I s (kq S Ls F K)) Q) (.code cx) S Ls F m1)
  (hy:∀ s K,(∀ {S' L' F'},J P n X Q (.code cy) S' L' F' (f s)->K S' L' F')->I s (kq S Ls F K)) (hI:LIK 2 k j I:=by assumption):J P n X Q (.code (.seq cx cy)) S Ls F (yG m1 f):=jjo (λs K=>I s (kq S Ls F K)) hx hy
theorem jjcQ{m1:Option σ}{f:σ->Option ρ}(hk:cid cx=(k,j))(hx:J P n X (jnQ X n λs K=>I s (kq S Ls F K)) (.code cx) S Ls F m1)
  (hy:∀ s K,(∀ {S' L' F'},J P n X Q (.ex .normal) S' L' F' (f s)->K S' L' F')->I s (kq S Ls F K)) (hI:LIK 3 k j I:=by assumption):J P n X Q (.code cx) S Ls F (m1.bind f):=jjc (λs K=>I s (kq S Ls F K)) hx hy
end
theorem gGv{I:SLF->Prop}(h:Gv Ls S F I): Gv Ls S F I:=h
inductive OT
 | e
 | l (is:List Nat) (t:OT)
 | f (i:Nat) (t:OT)
 | w (i j:Nat) (t u:OT)
 | v (i j k:Nat) (t u x:OT)
 | s (d:Nat) (t u:OT)
 | b (B J:List Nat) (t:OT)
def DJ (o:OT)(G:Prop): Prop:=G
structure DRK (id:Nat)(B J:List Nat)(o:OT): Prop
theorem hD{G:Prop}(id:Nat)(B J:List Nat)(o:OT)(h:DRK id B J o->G): G:=h ⟨⟩
section
variable {B Jj B' J' js ls:List Nat}{li:Array Bool}{fuel i j k q id:Nat}{o u w:OT}{is:List Nat}{G:Prop}{z0:Code}{v:Am}{ag:Bool}{b oo:Nat}{c cs:List Am}{te:Ap}{fr:Nat×Nat}{L0:List zK}
theorem gDJ (h:DJ o G): DJ o G:=h
theorem dds (h:DJ o (J P n X (zPh P z0 Q) (.dr l.toArray B Jj l.length (Array.replicate l.length Ak)) S Ls F m))(hh:DRK id B Jj o:=by assumption)(hm:P.follows .mixedOrders=true:=by kernel_rfl):
  J P n X Q (.code (.seq (.region id l.toArray Aj) z0)) S Ls F m:=xW B Jj _ h rfl hm
theorem ddS (h:DJ o (J P n X Q (.dr l.toArray B Jj l.length (Array.replicate l.length Ak)) S Ls F m))(hh:DRK id B Jj o:=by assumption)(hm:P.follows .mixedOrders=true:=by kernel_rfl):
  J P n X Q (.code (.region id l.toArray Aj)) S Ls F m:=yE B Jj _ h rfl hm
theorem dE (h:J P n X Q (.ex .normal) S Ls F m)(hr:Region.ready .any os li=[]:=by kernel_rfl): DJ .e (J P n X Q (.dr os B Jj fuel li) S Ls F m):=qD h hr
theorem dNil (h:DJ o G): DJ (.l [] o) G:=h
theorem d1f (h:DJ o (J P n X Q (.fo i os B Jj fuel li) S Ls F m))(hr:Region.ready .any os li=[i]:=by kernel_rfl): DJ (.f i o) (J P n X Q (.dr os B Jj (fuel+1) li) S Ls F m):=zR i h hr
theorem d2f (h:DJ o (J P n X Q (.fo i os B Jj fuel li) S Ls F m))(h':DJ u (J P n X Q (.fo j os B Jj fuel li) S Ls F m))(hr:Region.ready .any os li=[i,j]:=by kernel_rfl): DJ (.w i j o u) (J P n X Q (.dr os B Jj (fuel+1) li) S Ls F m):=uS i j h h' hr
theorem dN (h:DJ o (J P n X Q (.dr os B Jj fuel li) S Ls F m))(hJ:Jj.map (Ls[·]?)=Jj.map (L0[·]?):=by rfl): DJ o (J P n X Q (.af L0 os B Jj fuel li) S Ls F m):=zM h hJ
theorem dB (h:DJ o (J P n X Q (.dr os B' J' fuel li) S Ls F m))(hb:B.all (λj=>!li.getD j Ak)=false:=by kernel_rfl): DJ (.b B' J' o) (J P n X Q (.af L0 os B Jj fuel li) S Ls F m):=tZ B' J' h hb
theorem dSi{b:Bool}(hl:yF S t=Ah (.bool b))(h1:DJ o (J P n X Q (.dr os B Jj fuel li) ((t,.bool Aj)::S) Ls F m1))(h2:DJ u (J P n X Q (.dr os B Jj fuel li) ((t,.bool Ak)::S) Ls F m2)): DJ (.s t o u) (J P n X Q (.dr os B Jj fuel li) S Ls F (if b=Aj then m1 else m2)):=wG t hl h1 h2
variable{ob:List Ob}
theorem dX(hi:os[i]?=Ah ⟨Ah d,op,ty,pos,af,g⟩)(hv:pvX S op [] (λob v=>Ah (v,ob))=Ah (v,ob))(h:DJ (.l is o) (J P n X Q (.dr os B Jj fuel (li.setIfInBounds i Aj)) ((d,v)::S) Ls F m))(hg:qI os S g=Ah true:=by rfl)
  (hk:uG os B li i=true:=by kernel_rfl) (hd:Nat.blt d n=true:=by kernel_rfl) (ho:zUn P ob=true:=by kernel_rfl):DJ (.l (i::is) o) (J P n X Q (.dr os B Jj (fuel+1) li) S Ls F m):=by
 obtain⟨ob',v',h1,h2⟩:=z14 (P:=P) hv;cases h1;exact qH i v hi h hk hd hg (h2 ho).1
theorem dSk (hi:os[i]?=Ah ⟨Ah d,op,ty,pos,af,g⟩)(hg:qI os S g=Ah Ak)(h:DJ (.l is o) (J P n X Q (.dr os B Jj fuel (li.setIfInBounds i Aj)) ((d,undef)::S) Ls F m))
  (hk:uG os B li i=true:=by kernel_rfl) (hd:Nat.blt d n=true:=by kernel_rfl):DJ (.l (i::is) o) (J P n X Q (.dr os B Jj (fuel+1) li) S Ls F m):=
 ⟨λhq r hm a w hs=>dk i hs hi (λa' hs'=>J.go h hq r hm a' w hs') (λc v a w hp=>(hq r c _ _ hp).elim) hk hd hg⟩
variable{off:Nat}
theorem dFa{s f:Nat}{ofs:List Nat}[i0:Fs s ofs](hi:os[i]?=Ah ⟨Ah d,.fieldAddr s x f,ty,pos,af,g⟩)(hx:zV S x=Ah (pt b oo))(h:DJ (.l is o) (J P n X Q (.dr os B Jj fuel (li.setIfInBounds i Aj)) ((d,pt b (oo+off))::S) Ls F m))(ho:ofs.getD f 0=off:=by rfl)
  (hf:zUL P s f=Ah off:=by kernel_rfl) (hk:uG os B li i=true:=by kernel_rfl) (hd:Nat.blt d n=true:=by kernel_rfl) (hg:qI os S g=Ah true:=by rfl):DJ (.l (i::is) o) (J P n X Q (.dr os B Jj (fuel+1) li) S Ls F m):=qC i off hi hx h hf hk hd hg
theorem dLo[i0:Sh t Ak 1](hi:os[i]?=Ah ⟨Ah d,.load t x,ty,pos,af,g⟩)(hx:zV S x=Ah (pt b oo))(h:DJ (.l is o) (J P n X Q (.dr os B Jj fuel (li.setIfInBounds i Aj)) ((d,v)::S) Ls F m))
  (hr:vM Ls q [(b,.cells c.toArray te fr)]:=by(repeat (first | exact vM.y | apply vM.n));(first | done | fail)) (hv:z6d c oo Ah=Ah v:=by rfl)
  (ht:uE P t=Ah (Ak,1):=by kernel_rfl) (hb:B.all (λj=>behind os i os.size j)=true:=by kernel_rfl) (hJ:Jj.contains q=true:=by kernel_rfl)
  (hk:uG os B li i=true:=by kernel_rfl) (hd:Nat.blt d n=true:=by kernel_rfl) (hg:qI os S g=Ah true:=by rfl):DJ (.l (i::is) o) (J P n X Q (.dr os B Jj (fuel+1) li) S Ls F m):=wM i q hi hx hr.h hv h ht hb hJ hk hd hg
theorem dLa[i0:Sh t Aj k](hi:os[i]?=Ah ⟨Ah d,.load t x,ty,pos,af,g⟩)(hx:zV S x=Ah (pt b oo))(h:DJ (.l is o) (J P n X Q (.dr os B Jj fuel (li.setIfInBounds i Aj)) ((d,.agg cs.toArray)::S) Ls F m))
  (hr:vM Ls q [(b,.cells c.toArray te fr)]:=by(repeat (first | exact vM.y | apply vM.n));(first | done | fail)) (hv:z0O oo c (λl=>zYn k l Ah)=Ah cs:=by rfl)
  (ht:uE P t=Ah (Aj,k):=by kernel_rfl) (hb:B.all (λj=>behind os i os.size j)=true:=by kernel_rfl) (hJ:Jj.contains q=true:=by kernel_rfl)
  (hk:uG os B li i=true:=by kernel_rfl) (hd:Nat.blt d n=true:=by kernel_rfl) (hg:qI os S g=Ah true:=by rfl):DJ (.l (i::is) o) (J P n X Q (.dr os B Jj (fuel+1) li) S Ls F m):=vJ i q k hi hx hr.h hv h ht hb hJ hk hd hg
theorem dLd{τ:Type}{e:E τ}{op:yO e}{u:τ}[i0:Ty t e op ag](hi:os[i]?=Ah ⟨Ah d,.load t x,ty,pos,af,g⟩)(hx:zV S x=Ah (pt b oo))(h:op.op u [] F λcs F'=>mkC ag cs λv=>DJ (.l is o) (J P n X Q (.dr os B Jj fuel (li.setIfInBounds i Aj)) ((d,v)::S) Ls F' m))
  (hP:PtS F e b oo u:=by(repeat (first | (apply PtS.y;(repeat (first | exact PtP.r | (apply PtP.l;(repeat (first | exact PtP.r | (apply PtP.l;(repeat (first | exact PtP.r | apply PtP.s));done) | apply PtP.s));done) | apply PtP.s));done) | apply PtS.n));(first | done | fail)) (ht:uE P t=Ah (ag,e.n):=by kernel_rfl) (hag:ag=Aj\/e.n=1:=by first | exact .inl rfl | exact .inr rfl)
  (hb:B.all (λj=>behind os i os.size j)=true:=by kernel_rfl) (hk:uG os B li i=true:=by kernel_rfl) (hd:Nat.blt d n=true:=by kernel_rfl) (hg:qI os S g=Ah true:=by rfl):DJ (.l (i::is) o) (J P n X Q (.dr os B Jj (fuel+1) li) S Ls F m):=
 xN i ag op hi (λA w _ hF=>hP.h _ w hF) hx h ht hag hb hk hd hg
theorem dIx{τ:Type}{e:E τ}{p0:Option Ax}{c k0:Nat}{z:List τ}{ix:Int}{f:τ->Option ρ}(hi:os[i]?=Ah ⟨Ah d,.indexAddr t x y,ty,pos,af,g⟩)(hx:zV S x=Ah (.slice p0 k0 c))(hy:zV S y=Ah (.int kd ix))
  (h:∀ u b oo,DJ (.l is o) (J P n X Q (.dr os B Jj fuel (li.setIfInBounds i Aj)) ((d,pt b oo)::S) Ls (Pt e b oo u::F) (f u))) (hF:wZ F (R e p0 c k0 z):=by(repeat (first | exact wZ.y | refine wZ.n ?_));(first | done | fail))
  (ht:uM P t=Ah e.n:=by kernel_rfl) (hk:uG os B li i=true:=by kernel_rfl) (hd:Nat.blt d n=true:=by kernel_rfl) (hg:qI os S g=Ah true:=by rfl):DJ (.l (i::is) o) (J P n X Q (.dr os B Jj (fuel+1) li) S Ls F ((zD z ix).bind f)):=by
 obtain⟨k,hk'⟩:=hF.h;exact xJ i k hi hk' hx hy h ht hk hd hg
variable{t2:Ap}
theorem dCat{p q:zA}{t3:Ap}{f:zA->Option ρ}(hi:os[i]?=Ah ⟨Ah d,.binOp .add t2 x y t3,ty,pos,af,g⟩)(hx:zV S x=Ah (vs p))(hy:zV S y=Ah (vs q))(h:∀ r,DJ (.l is o) (J P n X Q (.dr os B Jj fuel (li.setIfInBounds i Aj)) ((d,vs r)::S) Ls F (f r)))
  (hk:uG os B li i=true:=by kernel_rfl) (hd:Nat.blt d n=true:=by kernel_rfl) (hg:qI os S g=Ah true:=by rfl):DJ (.l (i::is) o) (J P n X Q (.dr os B Jj (fuel+1) li) S Ls F ((qA p q).bind f)):=
 yT λr h1=>jdv i hi (λhS=>zPq hS hx hy h1) (h r) hk hd hg
theorem dSx{s:zA}{ix:Int}{f:Int->Option ρ}(hi:os[i]?=Ah ⟨Ah d,.index t x y,ty,pos,af,g⟩)(hx:zV S x=Ah (vs s))(hy:zV S y=Ah (.int kd ix))(h:∀ r,DJ (.l is o) (J P n X Q (.dr os B Jj fuel (li.setIfInBounds i Aj)) ((d,.int .u8 r)::S) Ls F (f r)))
  (hu:P.underlying t=Ah .string:=by kernel_rfl) (hk:uG os B li i=true:=by kernel_rfl) (hd:Nat.blt d n=true:=by kernel_rfl) (hg:qI os S g=Ah true:=by rfl):DJ (.l (i::is) o) (J P n X Q (.dr os B Jj (fuel+1) li) S Ls F ((vR s ix).bind f)):=
 yT λr h1=>jdv i hi (λhS=>z1g hS hx hy hu h1) (h r) hk hd hg
theorem dBd{parts:List (Nat×As)}{ofs:List Nat}{zc:List Am}[i0:Fs t ofs][i1:Zr t (.agg zc.toArray)](hi:os[i]?=Ah ⟨Ah d,.build t parts.toArray,ty,pos,af,g⟩)(h:DJ (.l is o) (J P n X Q (.dr os B Jj fuel (li.setIfInBounds i Aj)) ((d,.agg cs.toArray)::S) Ls F m))(hb:bldC S ofs parts zc=Ah cs:=by rfl)(hv:pv P S (.build t parts.toArray)=Ah (.agg cs.toArray):=by kernel_rfl)
  (hk:uG os B li i=true:=by kernel_rfl) (hd:Nat.blt d n=true:=by kernel_rfl) (hg:qI os S g=Ah true:=by rfl):DJ (.l (i::is) o) (J P n X Q (.dr os B Jj (fuel+1) li) S Ls F m):=qH i _ hi h hk hd hg hv
theorem eSo (hi:os[i]?=Ah ⟨Ai,.store t x y,ty,pos,af,g⟩)(hx:zV S x=Ah (pt b oo))(hy:zV S y=Ah v)(h:zQa v λcs=>putC oo c cs λc'=>xT Ls q (bx b te c') λLs'=>DJ o (J P n X Q (.af Ls os B Jj fuel (li.setIfInBounds i Aj)) S Ls' F m))(hr:vM Ls q (bx b te c):=by(repeat (first | exact vM.y | apply vM.n));(first | done | fail))
  (hv:zKq P t c.toArray oo v=true:=by kernel_rfl) (hg:qI os S g=Ah true:=by rfl):DJ o (J P n X Q (.fo i os B Jj fuel li) S Ls F m):=zW (.f hi) q hx hy hr.h h hv hg
theorem eAl[i0:Zr t v](hi:os[i]?=Ah ⟨Ah d,.alloc t,ty,pos,af,g⟩)(h:∀ b,zQa v λcs=>zMw Ls (bx b t cs) λLs'=>DJ o (J P n X Q (.af Ls os B Jj fuel (li.setIfInBounds i Aj)) ((d,pt b 0)::S) Ls' F m))
  (hx:zHO P t=Ah v:=by kernel_rfl) (hd:Nat.blt d n=true:=by kernel_rfl) (hg:qI os S g=Ah true:=by rfl):DJ o (J P n X Q (.fo i os B Jj fuel li) S Ls F m):=qM (.f hi) v h hx hd hg
theorem eLo[i0:Sh t Ak 1](hi:os[i]?=Ah ⟨Ah d,.load t x,ty,pos,af,g⟩)(hx:zV S x=Ah (pt b oo))(h:DJ o (J P n X Q (.af Ls os B Jj fuel (li.setIfInBounds i Aj)) ((d,v)::S) Ls F m))(hr:LdR Ls b oo v:=by(repeat (first | exact LdR.y rfl | apply LdR.n));(first | done | fail))
  (ht:uE P t=Ah (Ak,1):=by kernel_rfl) (hd:Nat.blt d n=true:=by kernel_rfl) (hg:qI os S g=Ah true:=by rfl):DJ o (J P n X Q (.fo i os B Jj fuel li) S Ls F m):=by
 obtain⟨q,c,te,fr,h1,h2⟩:=hr.h;exact jfl0 (.f hi) q hx h1 h2 h ht hd hg
theorem eC0 (ci:Nat){bs0:Array Am}[i0:Cn fd ci pp](hi:os[i]?=Ah ⟨Ah d,.call { callee:=.value cal,args:=xs,argTypes:=ats },ty,pos,af,g⟩)(hcal:zV S cal=Ah (.func (.func fd) bs0 caps))
  (h:pp->DJ o (J P n X Q (.fo i os B Jj fuel li) S Ls F m)):DJ o (J P n X Q (.fo i os B Jj fuel li) S Ls F m):=h i0.h
theorem eCa{xs:List As}{bs0 caps:List Am}{vs:List Am}{m1:Option σ}{post:σ->(Am->List zK->List PP->Prop)->Prop}{f:σ->Option ρ}
  (c:zJ qd P fd vs L F1 m1 post) (hi:os[i]?=Ah ⟨Ah d,.call { callee:=.value cal,args:=xs.toArray,argTypes:=ats },ty,pos,af,g⟩) (hcal:zV S cal=Ah (.func (.func fd) bs0.toArray caps.toArray)) (hx:z1w S xs=Ah us) (hv:bs0++us++caps=vs)
  (h:∀ r K,(∀ {v L1 F1},z45 ls js L1 Ls F1 F (λLs' F'=>DJ o (J P n X Q (.af Ls os B Jj fuel (li.setIfInBounds i Aj)) ((d,v)::S) Ls' F' (f r)))->K v L1 F1)->post r K)
  (hX:BX Ls L:=by(repeat (first | exact BX.n | refine BX.m ?_ | refine BX.s ?_));(first | done | fail)) (hF:Lnt Ls F F1 ls:=by(repeat' (first | exact Lnt.n | exact wZ.y | exact vM.y | (apply Lnt.c;focus ((repeat (first | exact wZ.y | refine wZ.n ?_));(first | done | fail))) | apply Lnt.e | apply Lnt.l | refine wZ.n ?_ | apply vM.n));(first | done | fail)) (hL:tY Ls 0 js L:=by(repeat' (first | exact tY.n | exact vM.y | apply tY.z _ rfl | apply tY.c | apply vM.n));(first | done | fail)) (hk:z2U (js++ls) Ls.length=true:=by rfl) (hd:Nat.blt d n=true:=by kernel_rfl) (hg:qI os S g=Ah true:=by rfl) :
  DJ o (J P n X Q (.fo i os B Jj fuel li) S Ls F (m1.bind f)):=zY (.f hi) js ls c hcal hx hv (hF.ok hk λ_ h=>h) h hL.eq hk hd hg
theorem eBs{parts:List (Nat×As)}{k0:Nat}{τ:Type}{e:E τ}{z:List τ}[i0:Se t te e](hi:os[i]?=Ah ⟨Ah d,.buildSlice t k0 parts.toArray,ty,pos,af,g⟩)(h:∀ p1 c',DJ o (J P n X Q (.af Ls os B Jj fuel (li.setIfInBounds i Aj)) ((d,sv p1 z c')::S) Ls (Rl e p1 c' z::F) m))(hb:bsC S parts 0 Ah=Ah cs:=by rfl)
  (hrd:RD e Ls F cs z:=by(repeat' (first | exact rN | apply rC | exact vI | exact vB | exact vS | exact vU | exact avN | apply avQ | apply avF | exact wZ.y | apply wZ.n));(first | done | fail)) (ht:xM P t te e.n=true:=by kernel_rfl) (hc:zJQ P S t k0 parts=Ah cs:=by kernel_rfl) (hl:z.length=k0:=by rfl) (hd:Nat.blt d n=true:=by kernel_rfl) (hg:qI os S g=Ah true:=by rfl) :
  DJ o (J P n X Q (.fo i os B Jj fuel li) S Ls F m):=vT (.f hi) te cs z hrd h ht hc hl hd hg
theorem eAr{τ:Type}{e:E τ}{r:zK}{p0 q0:Option Ax}{c k0 c2 k2:Nat}{z z2:List τ}{f:List τ->Option ρ}(hi:os[i]?=Ah ⟨Ah d,.call { callee:=.builtin .append,args:=[x,y].toArray,argTypes:=[t,t].toArray },ty,pos,af,g⟩)(hx:zV S x=Ah (.slice p0 k0 c))(hy:zV S y=Ah (.slice q0 k2 c2))
  (h:∀ u r' p1 c',xT Ls q r' λLs'=>DJ o (J P n X Q (.af Ls os B Jj fuel (li.setIfInBounds i Aj)) ((d,sv p1 u c')::S) Ls' (Al e te r' p1 c' u::F) (f u)))
  (hF:wZ F (Ar e te r p0 c k0 z):=by(repeat (first | exact wZ.y | refine wZ.n ?_));(first | done | fail)) (hF2:wZ F (R e q0 c2 k2 z2):=by(repeat (first | exact wZ.y | refine wZ.n ?_));(first | done | fail)) (hr:vM Ls q r:=by(repeat (first | exact vM.y | apply vM.n));(first | done | fail))
  (ht:xM P t te e.n=true:=by kernel_rfl) (hd:Nat.blt d n=true:=by kernel_rfl) (hg:qI os S g=Ah true:=by rfl):DJ o (J P n X Q (.fo i os B Jj fuel li) S Ls F ((qG z z2).bind f)):=by
 obtain⟨k,hk⟩:=hF.h;obtain⟨k',hk'⟩:=hF2.h;exact qZ (.f hi) q k hk (hk'▸gk k') hx hy h hr.h ht hd hg
end
end
attribute [irreducible] DJ
section
theorem au{G:Prop}(h:G:=by
 repeat' (first
  | (refine gO ?_;first
   | refine jroE rfl ?_ | refine zG ?_ | refine wH ?_ | refine aM 100 rfl ?_
   | (refine gFa ?_;refine aFa rfl ?_) | (refine gLd ?_;first | refine aLo rfl ?_ | refine aLd rfl ?_ | refine aLa rfl ?_ | refine aByL rfl ?_ | refine aLA sI rfl ?_ | refine aLA (sI.fst) rfl ?_ | refine aLA (sI.snd) rfl ?_ | refine aLA (sI.snd.fst) rfl ?_ | refine aLA (sI.snd.snd) rfl ?_ | refine aLA (sI.snd.snd.fst) rfl ?_ | refine aLA (sI.snd.snd.snd) rfl ?_ | refine aLA (sI.snd.snd.snd.fst) rfl ?_ | refine aLA (sI.snd.snd.snd.snd) rfl ?_ | refine aLA (sI.snd.snd.snd.snd.fst) rfl ?_ | refine aLA (sI.snd.snd.snd.snd.snd) rfl ?_) | (refine gSt ?_;first | refine aSo rfl rfl ?_ | refine aByS rfl rfl ?_ | refine aSA (sI) rfl rfl ?_ | refine aSA (sI.fst) rfl rfl ?_ | refine aSA (sI.snd) rfl rfl ?_ | refine aSA (sI.snd.fst) rfl rfl ?_ | refine aSA (sI.snd.snd) rfl rfl ?_ | refine aSA (sI.snd.snd.fst) rfl rfl ?_ | refine aSA (sI.snd.snd.snd) rfl rfl ?_ | refine aSA (sI.snd.snd.snd.fst) rfl rfl ?_ | refine aSA (sI.snd.snd.snd.snd) rfl rfl ?_ | refine aSA (sI.snd.snd.snd.snd.fst) rfl rfl ?_ | refine aSA (sI.snd.snd.snd.snd.snd) rfl rfl ?_)
   | (refine gCl ?_;first | (refine aC0 0 rfl λc=>?_;refine aCa c rfl rfl rfl ?_) | refine aAr rfl rfl ?_ | (refine aC0 1 rfl λc=>?_;refine aCa c rfl rfl rfl ?_) | (refine aC0 2 rfl λc=>?_;refine aCa c rfl rfl rfl ?_) | (refine aC0 3 rfl λc=>?_;refine aCa c rfl rfl rfl ?_))
   | (refine gIa ?_;first | refine aIx rfl rfl ?_ | refine aIa rfl rfl ?_ | refine aByJ rfl rfl ?_) | (refine gCt ?_;refine aCat rfl rfl ?_) | (refine gIx ?_;refine aSi rfl rfl ?_) | (refine gRm ?_;refine aRm rfl rfl ?_) | (refine gQu ?_;refine aQu rfl rfl ?_) | (refine gSl ?_;first | refine aSs rfl rfl rfl ?_ | refine aSl rfl rfl rfl ?_ | refine aSP rfl rfl ?_) | (refine gBx ?_;refine aBx rfl ?_) | (refine gAl ?_;refine aAl ?_) | (refine gBd ?_;refine aBd ?_) | (refine gCv ?_;first | refine aCv rfl ?_ | refine aCb rfl ?_ | refine aBy rfl ?_ | refine aByC rfl ?_) | (refine gBs ?_;first | refine aBo ?_ | refine aBs ?_) | (refine gMk ?_;refine aMk rfl rfl ?_)
   | refine aM 0 rfl ?_
   | (refine gGu ?_;first | refine aGi rfl rfl rfl ?_ ?_ | refine aGs rfl rfl rfl ?_ ?_) | (refine gPk ?_;first | refine aPi rfl ?_ ?_ | refine aPs rfl ?_ ?_))
  | (refine gC ?_;first
   | refine jlpQ rfl ?_ ?_ | refine jjnQ rfl ?_ ?_ | refine jjoQ rfl ?_ ?_ | refine jjcQ rfl ?_ ?_ | refine jjpQ rfl ?_ ?_ | refine jjqQ rfl ?_ ?_
   | refine zF ?_ | refine dds ?_ | refine ddS ?_ | refine jst ?_ | refine jss ?_ | refine zS ?_ | refine wR ?_ | refine jct rfl ?_ | refine jcf rfl ?_ | refine zU rfl ?_ ?_ | refine yU ?_ | refine wJ ?_ | refine qJ ?_ | refine uT ?_ | refine jcs ?_ | refine jlb ?_ | refine aCs rfl ?_ ?_)
  | (refine gEx ?_;first
   | refine wN ?_ | refine yH ?_ | refine uP ?_ | refine vA ?_ | refine xS ?_ | refine uU ?_ | refine jbm ?_ | refine jcn ?_ | refine jce ?_ | refine jcr ?_ | refine jrn ?_
   | (refine gNn ?_;first | exact zX (gvA (λ_ k=>k ..)) | exact aShN .y | exact aShN (.n .y) | exact aShN (.n (.n .y)) | exact aShN (.n (.n (.n .y))) | exact aShN (.n (.n (.n (.n .y)))) | exact aShN (.n (.n (.n (.n (.n .y))))) | exact aShN (.n (.n (.n (.n (.n (.n .y)))))) | exact aShN (.n (.n (.n (.n (.n (.n (.n .y)))))))) | (refine gRt ?_;first | exact aR1 rfl rfl (λ_ k=>k ..) | exact aRg rfl (λ_ k=>k ..) | exact z2k .y | exact z2k (.n .y) | exact z2k (.n (.n .y)) | exact z2k (.n (.n (.n .y))) | exact z2k (.n (.n (.n (.n .y)))) | exact z2k (.n (.n (.n (.n (.n .y))))) | exact z2k (.n (.n (.n (.n (.n (.n .y)))))) | exact z2k (.n (.n (.n (.n (.n (.n (.n .y))))))) | exact aShS .y | exact aShS (.n .y) | exact aShS (.n (.n .y)) | exact aShS (.n (.n (.n .y))) | exact aShS (.n (.n (.n (.n .y)))) | exact aShS (.n (.n (.n (.n (.n .y)))))) | (refine gLp ?_;exact yP (gvA (λ_ k=>k ..))) | refine xB ?_ | refine jlr ?_)
  | (refine gDJ ?_;first
   | refine dE ?_ | refine dNil ?_ | refine dX rfl rfl ?_ | refine dSk rfl rfl ?_ | refine dFa rfl rfl ?_ | refine dLo rfl rfl ?_ | refine dLd rfl rfl ?_ | refine dLa rfl rfl ?_ | refine dIx rfl rfl rfl ?_ | refine dIa rfl rfl rfl ?_ | refine dLA (sI) rfl rfl ?_ | refine dLA (sI.fst) rfl rfl ?_ | refine dLA (sI.snd) rfl rfl ?_ | refine dLA (sI.snd.fst) rfl rfl ?_ | refine dLA (sI.snd.snd) rfl rfl ?_ | refine dLA (sI.snd.snd.fst) rfl rfl ?_ | refine dLA (sI.snd.snd.snd) rfl rfl ?_ | refine dLA (sI.snd.snd.snd.fst) rfl rfl ?_ | refine dLA (sI.snd.snd.snd.snd) rfl rfl ?_ | refine dLA (sI.snd.snd.snd.snd.fst) rfl rfl ?_ | refine dLA (sI.snd.snd.snd.snd.snd) rfl rfl ?_ | refine dCat rfl rfl rfl ?_ | refine dSx rfl rfl rfl ?_ | refine dSb rfl rfl rfl rfl ?_ | refine dBd rfl ?_
   | refine d1f ?_ | refine dN ?_ | refine dB ?_ | refine dSi rfl ?_ ?_ | refine dSs rfl ?_ ?_ | refine d2f ?_ ?_ | refine d3f ?_ ?_ ?_
   | refine eSo rfl rfl rfl ?_ | (refine eC0 0 rfl rfl λc=>?_;refine eCa c rfl rfl rfl rfl ?_) | refine eBx rfl rfl ?_ | refine eAl rfl ?_ | refine eLo rfl rfl ?_ | refine eSb rfl rfl ?_ | refine eByC rfl rfl ?_ | refine eBo rfl ?_ | refine eBs rfl ?_ | refine eAr rfl rfl rfl ?_ | (refine eC0 1 rfl rfl λc=>?_;refine eCa c rfl rfl rfl rfl ?_) | (refine eC0 2 rfl rfl λc=>?_;refine eCa c rfl rfl rfl rfl ?_))
  | (refine gGv ?_;exact gvA (λ_ k=>k ..))
  | (intro r K k;(repeat intro _);refine k ?_)
  | (intro K k;(repeat intro _);refine k ?_)
  | refine λ_=>?_)):G:=h
end
end
section
inductive zC
 | mk (op:Int) (name:zA) (args:List zC)
def fv:zC->Int×zA×List zC
 | .mk a b c=>(a,b,c)
def fm (x:Int×zA×List zC): zC:=.mk x.1 x.2.1 x.2.2
end
section
open Go Go.RowKit
set_option linter.unusedVariables false
variable {qd:Prop}
mutual
def frd (Z:List Nat)(w:Ao): zC->List Am->Prop
 | .mk op nm args,cs=>∃ p c,cs=[.int .i64 op,vs nm,.slice p args.length c]/\args.length<=c/\(args=[]\/∃ b off ds,p=Ah ⟨b,off,Ai⟩/\b∉Z/\b<w.heap.size/\z6y Z w args ds/\∀ j u,ds[j]?=Ah u->w.cell? ⟨b,off+j,Ai⟩=Ah u)
def z6y (Z:List Nat)(w:Ao): List zC->List Am->Prop
 | [],cs=>cs=[]
 | x::l,cs=>∃ c1 c2,cs=c1++c2/\frd Z w x c1/\z6y Z w l c2
end
mutual
theorem z2E{Z Z':List Nat}{w w':Ao}(s:yB Z w Z' w'): ∀(x:zC) (cs:List Am),frd Z w x cs->frd Z' w' x cs
 | .mk op nm args,cs,h=>by
  simp only[frd] at h ⊢;obtain⟨p,c,rfl,hc,h⟩:=h;refine⟨p,c,rfl,hc,h.imp id ?_⟩;rintro ⟨b,off,ds,rfl,hb,hlt,hl,hd⟩;obtain⟨h1,h2⟩:=s.same b hlt hb;exact⟨b,off,ds,rfl,h1,QP hlt s.size,zZM s args ds hl,λj u hu=>by grind [Ao.cell?_of_block]⟩
theorem zZM{Z Z':List Nat}{w w':Ao}(s:yB Z w Z' w'): ∀(l:List zC) (cs:List Am),z6y Z w l cs->z6y Z' w' l cs
 | [],cs,h=>by grind [z6y]
 | x::l,cs,h=>by
  simp only[z6y] at h ⊢;obtain⟨c1,c2,rfl,h1,h2⟩:=h;exact⟨c1,c2,rfl,z2E s x c1 h1,zZM s l c2 h2⟩
end
def qF:E zC:=⟨3,λZ w cs x=>frd Z w x cs,
 by
  intro Z w cs x h;cases x;simp only[frd] at h;grind,
 λs h=>z2E s _ _ h,
 by
  intro Z w cs x h;cases x;simp only[frd] at h;obtain⟨p,c,rfl,_⟩:=h;intro v hv;simp at hv;rcases hv with rfl | rfl | rfl <;> rfl⟩
variable{Z:List Nat}{w:Ao}
theorem zSt: ∀ {l:List zC} {cs:List Am},qF.rdL Z w cs l↔z6y Z w l cs
 | [],cs=>by simp only[E.rdL,z6y]
 | x::l,cs=>by
  simp only[E.rdL,z6y];exact⟨λ⟨c1,c2,h0,h1,h2⟩=>⟨c1,c2,h0,h1,zSt.1 h2⟩,λ⟨c1,c2,h0,h1,h2⟩=>⟨c1,c2,h0,h1,zSt.2 h2⟩⟩
abbrev zOE:E (Int×zA×List zC):=qU (zT .i64) (qU qP (wF qF))
variable{cs:List Am}{x:zC}
theorem z8n: qF.rd Z w cs x↔zOE.rd Z w cs (fv x):=by
 cases x with
 | mk op nm args=>
  show frd Z w (.mk op nm args) cs↔_;simp only[frd,fv];constructor
  ·rintro ⟨p,c,rfl,hc,h⟩;exact⟨[.int .i64 op],[vs nm,.slice p args.length c],rfl,rfl,[vs nm],[.slice p args.length c],rfl,rfl,p,c,rfl,hc,h.imp id λ⟨b,off,ds,h1,h2,h3,h4,h5⟩=>⟨b,off,ds,h1,h2,h3,zSt.2 h4,h5⟩⟩
  ·rintro ⟨c1,c2,rfl,h1,c3,c4,rfl,h2,p,c,h3,hc,h⟩;have h1:c1=[.int .i64 op]:=h1;have h2:c3=[vs nm]:=h2;subst h1 h2 h3;exact⟨p,c,rfl,hc,h.imp id λ⟨b,off,ds,h1,h2,h3,h4,h5⟩=>⟨b,off,ds,h1,h2,h3,zSt.1 h4,h5⟩⟩
def zGk:yO qF:=⟨λx tl fs k=>(oP oI (oP oS oL):yO zOE).op (fv x) tl fs k,λh h1 h2=>(oP oI (oP oS oL):yO zOE).spec (z8n.1 h) h1 h2⟩
section
variable {Ls:List zK}{F:List PP}
theorem vF(h:RV zOE Ls F cs (fv x)): RV qF Ls F cs x:=λA w hO hF=>z8n.2 (h A w hO hF)
end
end
section
open Go Go.RowKit Go.Shelf Go.Proofs
variable {qd:Prop}
theorem dec_hi (n b0 b1 b2 b3:Nat)(h:128<=b0): 128<=(Lib.decodeN n b0 b1 b2 b3).1/\(Lib.decodeN n b0 b1 b2 b3).1<=1114111:=by
 unfold Lib.decodeN;grind
theorem dec_lo (n b0 b1 b2 b3:Nat)(h:b0<128): Lib.decodeN n b0 b1 b2 b3=(b0,1):=by
 unfold Lib.decodeN;grind
variable{f:Int->Option Bool}
theorem z1a(h1:∀ n:Nat,n<128->(f (n:Int)).isSome=Aj)(h2:∀ n:Nat,128<=n->n<=1114111->f (n:Int)=Ah Aj)(s:List UInt8):
  ∀(k pos:Nat),pos+k=s.length->Lib.idxFuncFrom (λn=>(f (n:Int)).getD Ak) Aj ⟨⟨s⟩⟩ k pos=z8i f (s.drop pos) pos
 | 0,pos,h=>by
  rw[Q4 (by omega)];rfl
 | k+1,pos,h=>by
  have hlt:pos<s.length:=by omega
  have hsz:pos<(⟨⟨s⟩⟩:ByteArray).size:=hlt;have hg:(⟨⟨s⟩⟩:ByteArray).get! pos=s[pos]:=by
   show(Array.mk s)[pos]! = _;rw[getElem!_pos (Array.mk s) pos hlt];rfl
  have hd:s.drop pos=s[pos]::s.drop (pos+1):=QB hlt;have hdec:=Lib.decode_at ⟨⟨s⟩⟩ pos;rw[hg] at hdec;unfold Lib.idxFuncFrom;rw[Qi hsz,hd,z8i];by_cases hb:128<=s[pos].toNat
  ·obtain⟨k1,k2⟩:=dec_hi ((⟨⟨s⟩⟩:ByteArray).size-pos) s[pos].toNat ((⟨⟨s⟩⟩:ByteArray).get! (pos+1)).toNat ((⟨⟨s⟩⟩:ByteArray).get! (pos+2)).toNat ((⟨⟨s⟩⟩:ByteArray).get! (pos+3)).toNat hb;grind
  ·have hlo:=dec_lo ((⟨⟨s⟩⟩:ByteArray).size-pos) s[pos].toNat ((⟨⟨s⟩⟩:ByteArray).get! (pos+1)).toNat ((⟨⟨s⟩⟩:ByteArray).get! (pos+2)).toNat ((⟨⟨s⟩⟩:ByteArray).get! (pos+3)).toNat (by omega);rw[hdec,hlo];have hs:=h1 s[pos].toNat (by omega);by_cases hf:f (s[pos].toNat:Int)=Ah Aj
   ·grind
   ·rw[Qa (λe=>hf (by
     cases hq:f (s[pos].toNat:Int) with
     | none=>grind
     | some b=>grind)),Qa (λe=>e.elim hb hf)]
    exact z1a h1 h2 s k (pos+1) (by omega)
theorem z6k{P:Aq}{ρ:Ren}(L:Lays.n315 P ρ){g:FuncId}(c:∀ y:Int,zJ True P g [.int .i32 y] [] [] (f y) λr K=>K (vb r) [] [])
  (hc:∀ args w,(callFunc (ρ.f 315) args).run P w=.ok (.enter (ρ.f 315) args) w) {s:zA} {t:Bool} :
  zJ False P (ρ.f 315) [vs s,.func (.func g) #[] #[],vb t] [] [] (idxF f t s) λr K=>K (vi r) [] []:=by
 refine z8H hc λZ w r hm _=>?_;unfold idxF at hm;split at hm;case isFalse=>cases hm
 rename_i h;obtain⟨rfl,h1,h2⟩:=h;obtain rfl:=QA hm;have hp:PredGrows P g #[] (λn=>(f (n:Int)).getD Ak) w:=λW x hx _=>by
  have hfx:f (x:Int)=Ah ((f (x:Int)).getD Ak):=by
   by_cases hb:x<128
   ·have:=h1 x hb;cases hq:f (x:Int) with
    | none=>grind
    | some b=>rfl
   ·grind
  refine((c (x:Int)).go [] W _ hfx (qK.start (by simp)) trivial).mono λe w' he=>?_;cases e with
  | returned v=>
   refine he _ λ⟨e1,q⟩=>?_;subst e1;have hE:=q.e;exact⟨rfl,hE.os,hE.tape,hE.output,hE.size,λk hk=>hE.keep k hk (by simp[bl])⟩
  | panicked ch=>exact he.elim
  | outgrown=>exact he.elim
 have h:=Any.strings_indexFunc_grows L g #[] (c 0).hf (λn=>(f (n:Int)).getD Ak) Aj ⟨⟨s⟩⟩ w hp;have hidx:Lib.idxFunc (λn=>(f (n:Int)).getD Ak) Aj ⟨⟨s⟩⟩=z8i f s 0:=by
  unfold Lib.idxFunc;rw[show(⟨⟨s⟩⟩:ByteArray).size=s.length from rfl,z1a h1 h2 s s.length 0 (by omega),Uf]
 rw[hidx] at h;exact h.mono λe w' ⟨he,hw⟩=>⟨he,zPl hw⟩
end
end Go.GD
