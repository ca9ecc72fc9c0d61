/- A part. Conditions: none. -/
import Derived.Test.YtgdgcdmdogdmgaaGreatDoorJ2
namespace Go.GD
open Go Go.RowKit
set_option autoImplicit false
variable {qd:Prop}
set_option linter.unusedVariables false
def zR9 (v:Value)(k:List Value->Prop): Prop:=match v with
 | .agg ⟨cs⟩=>k cs
 | v=>k [v]
theorem zWt{v:Value}{k:List Value->Prop}: zR9 v k=k v.cells.toList:=by cases v <;> rfl
def z6J{β:Type}: List Value->Nat->(Value->Option β)->Option β
 | [],_,_=>none
 | v::_,0,k=>k v
 | _::l,o+1,k=>z6J l o k
theorem zZO{β:Type}: ∀ {l:List Value} {o:Nat} {k:Value->Option β},z6J l o k=(l[o]?).bind k
 | [],_,_=>by simp[z6J]
 | v::_,0,_=>rfl
 | _::l,o+1,k=>by simp[z6J,zZO]
def z0h{β:Type}: Nat->List Value->(List Value->Option β)->Option β
 | 0,_,k=>k []
 | _+1,[],_=>none
 | j+1,v::l,k=>z0h j l fun r=>k (v::r)
theorem zZL{β:Type}: ∀ {j:Nat} {l:List Value} {k:List Value->Option β} {r:β},z0h j l k=some r->k (l.take j)=some r∧j≤l.length
 | 0,_,_,_,h=>⟨h,Ut _⟩
 | _+1,[],_,_,h=>by cases h
 | j+1,v::l,k,r,h=>by
  obtain⟨h1,h2⟩:=zZL (j:=j) h
  grind
def z2L{β:Type}: Nat->List Value->(List Value->Option β)->Option β
 | 0,l,k=>k l
 | _+1,[],_=>none
 | o+1,_::l,k=>z2L o l k
theorem zZy{β:Type}: ∀ {o:Nat} {l:List Value} {k:List Value->Option β} {r:β},z2L o l k=some r->k (l.drop o)=some r∧o≤l.length
 | 0,_,_,_,h=>⟨h,Ut _⟩
 | _+1,[],_,_,h=>by cases h
 | o+1,v::l,k,r,h=>by
  obtain⟨h1,h2⟩:=zZy (o:=o) h
  grind
def z9K:List Value->List Value->(List Value->Prop)->Prop
 | l,[],k=>k l
 | [],_::_,_=>False
 | _::l,v::vs,k=>z9K l vs fun l'=>k (v::l')
theorem z3Z:∀ {l v:List Value} {k:List Value->Prop},z9K l v k->k (v++l.drop v.length)
 | l,[],k,h=>by simpa [z9K] using h
 | [],_::_,_,h=>h.elim
 | _::l,v::vs,k,h=>by have:=z3Z (l:=l) (v:=vs) h;grind
def putC:Nat->List Value->List Value->(List Value->Prop)->Prop
 | 0,l,v,k=>z9K l v k
 | _+1,[],_,_=>False
 | o+1,a::l,v,k=>putC o l v fun l'=>k (a::l')
theorem z68:∀ {o:Nat} {l v:List Value} {k:List Value->Prop},putC o l v k->k (l.take o++v++l.drop (o+v.length))
 | 0,l,v,k,h=>by have:=z3Z h;grind
 | _+1,[],_,_,h=>h.elim
 | o+1,a::l,v,k,h=>by
  have:=z68 (o:=o) (l:=l) h
  grind
structure uO{τ:Type}(e:E τ) where
 op:τ->List Value->List PP->(List Value->List PP->Prop)->Prop
 spec:∀ {Z:List Nat} {w:World} {cs:List Value} {x:τ} {tl:List Value} {fs:List PP} {k:List Value->List PP->Prop},e.rd Z w cs x->uD fs Z w->op x tl fs k->∃ F',k (cs++tl) F'∧uD F' Z w
def oI{kd:IntKind}: uO (zH kd):=⟨fun x tl fs k=>k (.int kd x::tl) fs,by rintro _ _ _ _ _ _ _ rfl h1 h2;grind⟩
def oB:uO zYO:=⟨fun x tl fs k=>k (.bool x::tl) fs,by rintro _ _ _ _ _ _ _ rfl h1 h2;grind⟩
def oS:uO qX:=⟨fun x tl fs k=>k (vs x::tl) fs,by rintro _ _ _ _ _ _ _ rfl h1 h2;grind⟩
def oU:uO z5a:=⟨fun _ tl fs k=>k tl fs,by rintro _ _ _ _ _ _ _ rfl h1 h2;grind⟩
def oL{τ:Type}{e:E τ}: uO (zX e):=⟨fun l tl fs k=>∀ p c,k (sv p l c::tl) (Rl e p c l::fs),by
 rintro _ _ _ _ _ _ _ ⟨p,c,rfl,h⟩ h1 h2
 grind [R.of,uD]⟩
def oP{α β:Type}{e:E α}{f:E β}(a:uO e)(b:uO f): uO (wJ e f):=⟨fun x tl fs k=>b.op x.2 tl fs fun tl fs=>a.op x.1 tl fs k,by
 rintro _ _ _ _ _ _ _ ⟨c1,c2,rfl,h1,h2⟩ h3 h4
 obtain⟨F1,h5,h6⟩:=b.spec h2 h3 h4
 obtain⟨F2,h7,h8⟩:=a.spec h1 h6 h5
 grind⟩
def sI{τ:Type}{e:E τ}: xM e e:=xM.id e
def mkC (ag:Bool)(cs:List Value)(k:Value->Prop): Prop:=match ag with
 | true=>k (.agg cs.toArray)
 | false=>match cs with
  | [v]=>k v
  | _=>False
theorem zWD{ag:Bool}{cs:List Value}{k:Value->Prop}{v:Value}(h:mkC ag cs k)(hv:tZ ag cs=some v): k v:=by
 cases ag with
 | true=>cases hv;exact h
 | false =>
  match cs,h,hv with
  | [u],h,hv=>cases hv;exact h
def RD{τ:Type}(e:E τ)(Ls:List zG)(F:List PP)(cs:List Value)(l:List τ): Prop:=∀ A w,zU A w Ls->uD F (bl Ls++A) w->e.rdL (bl Ls++A) w cs l
def RV{τ:Type}(e:E τ)(Ls:List zG)(F:List PP)(cs:List Value)(x:τ): Prop:=∀ A w,zU A w Ls->uD F (bl Ls++A) w->e.rd (bl Ls++A) w cs x
section
variable {P:Program}{n:Nat}{X:Hd qd}{ρ σ:Type}{Q:PQ ρ}{S:Sl}{Ls:List zG}{F:List PP}{m m1 m2:Option ρ}{os:Array Oper}{l:List Oper}{x y:Operand}{p p':yO}
variable {d t:Nat}{ty ty2:TypeId}{pos pos2:String}{af af2:Array Edge}{g g2:Option (Nat×Bool)}{kd:IntKind}
theorem zA{S':Sl}{l':List Oper}{ob:List Ob}(k:Nat)(hr:z8R os l k S []=some (S',l',ob))(h:J P n X Q (.ops os l') S' Ls F m)
  (hd:(z0j (l.take k)).all (fun d=>Nat.blt d n)=true:=by kernel_rfl) (ho:zXg P ob=true:=by kernel_rfl):J P n X Q (.ops os l) S Ls F m :=
 ⟨fun hq r hm a w hs=>(zQq l k S S' l' [] ob a hs.s hr hd ho fun a' hS=>h.go hq r hm a' w (hs.slot hS)).2⟩
theorem qD{op:Op}(v:Value)(h:J P n X Q (.ops os l) ((d,v)::S) Ls F m)(hv:pv P S op=some v:=by kernel_rfl)(hd:Nat.blt d n=true:=by kernel_rfl)(hg:zQ os S g=some true:=by kernel_rfl):
  J P n X Q (.ops os (⟨some d,op,ty,pos,af,g⟩::l)) S Ls F m :=
 ⟨fun hq r hm a w hs=>zPq (v:=v) (w':=w) hg hs.s (zY2 hs.s hv _ _ _ _ _ w) (h.go hq r hm _ w (hs.slot (hs.s.put hd v)))⟩
theorem jv{op:Op}{v:Value}(hv:∀ {a:Act},zY a n S->∀ w',(execOp a.eval ⟨some d,op,ty,pos,af,g⟩).run P w'=.ok (.value v) w')(h:J P n X Q (.ops os l) ((d,v)::S) Ls F m)
  (hd:Nat.blt d n=true:=by kernel_rfl) (hg:zQ os S g=some true:=by kernel_rfl):J P n X Q (.ops os (⟨some d,op,ty,pos,af,g⟩::l)) S Ls F m :=
 ⟨fun hq r hm a w hs=>sl (z8O hs (hv hs.s) (fun a h'=>h.go hq r hm a w h') hd hg)⟩
theorem qC{s f b o:Nat}(off:Nat)(hx:zK S x=some (pt b o))(h:J P n X Q (.ops os l) ((d,pt b (o+off))::S) Ls F m)
  (hf:zXb P s f=some off:=by kernel_rfl) (hd:Nat.blt d n=true:=by kernel_rfl) (hg:zQ os S g=some true:=by kernel_rfl):J P n X Q (.ops os (⟨some d,.fieldAddr s x f,ty,pos,af,g⟩::l)) S Ls F m :=
 ⟨fun hq r hm a w hs=>zPq (w':=w) hg hs.s (zY2 hs.s (v:=pt b (o+off)) (by simp[pv,hx,hf]) _ _ _ _ _ w) (h.go hq r hm _ w (hs.slot (hs.s.put hd _)))⟩
theorem qJ{b o:Nat}{c:List Value}{te:TypeId}{fr:Nat×Nat}{v:Value}(i:Nat)(hx:zK S x=some (pt b o))(hr:Ls[i]?=some [(b,.cells c.toArray te fr)])(hv:z6J c o some=some v)(h:J P n X Q (.ops os l) ((d,v)::S) Ls F m)
  (ht:wX P t=some (false,1):=by kernel_rfl) (hd:Nat.blt d n=true:=by kernel_rfl) (hg:zQ os S g=some true:=by kernel_rfl):J P n X Q (.ops os (⟨some d,.load t x,ty,pos,af,g⟩::l)) S Ls F m :=
 ⟨fun hq r hm a w hs=>sl (zMJ i v hs hx hr (fun a h'=>h.go hq r hm a w h') (by
  rw[zZO] at hv
  have hv':c[o]?=some v:=by cases hc:c[o]? <;> simp_all
  have hlt:=(Qg.1 hv').1
  unfold zMl
  rw[ht]
  have:Nat.ble (o+1) c.toArray.size=true:=by rw[Wd,Q1];exact hlt
  simp only[this,Qc,z54]
  grind [List.drop_eq_getElem_cons,tZ]) hd hg)⟩
theorem wW{b o:Nat}{c:List Value}{te:TypeId}{fr:Nat×Nat}{cs:List Value}(i k:Nat)(hx:zK S x=some (pt b o))(hr:Ls[i]?=some [(b,.cells c.toArray te fr)])(hv:z2L o c (fun l=>z0h k l some)=some cs)(h:J P n X Q (.ops os l) ((d,.agg cs.toArray)::S) Ls F m)
  (ht:wX P t=some (true,k):=by kernel_rfl) (hd:Nat.blt d n=true:=by kernel_rfl) (hg:zQ os S g=some true:=by kernel_rfl):J P n X Q (.ops os (⟨some d,.load t x,ty,pos,af,g⟩::l)) S Ls F m :=
 ⟨fun hq r hm a w hs=>sl (zMJ i (.agg cs.toArray) hs hx hr (fun a h'=>h.go hq r hm a w h') (by
  obtain⟨h1,h2⟩:=zZy hv
  obtain⟨h3,h4⟩:=zZL h1
  rw[Uj] at h4
  unfold zMl
  rw[ht]
  have:Nat.ble (o+k) c.toArray.size=true:=by rw[Wd];simp;omega
  simp only[this,Qc,z54,tZ]
  grind) hd hg)⟩
section
variable {τ:Type}{e:E τ}{te:TypeId}{r:zG}{p0:Option Addr}{c k0:Nat}{z:List τ}{ix:Int}
theorem yK{f:τ->Option ρ}(k:Nat)(hF:vW F k=R e p0 c k0 z)(hx:zK S x=some (.slice p0 k0 c))(hy:zK S y=some (.int kd ix))
  (h:∀ u b o,J P n X Q (.ops os l) ((d,pt b o)::S) Ls (Pt e b o u::F) (f u))
  (ht:wY P t=some e.n:=by kernel_rfl) (hd:Nat.blt d n=true:=by kernel_rfl) (hg:zQ os S g=some true:=by kernel_rfl) :
  J P n X Q (.ops os (⟨some d,.indexAddr t x y,ty,pos,af,g⟩::l)) S Ls F ((zB z ix).bind f) :=
 ⟨fun hq r hm a w hs=>by
  obtain⟨u,h1,h2⟩:=xQ hm
  exact sl (z4U hs (hF▸hs.g k) hx hy h1 (fun b o a h'=>(h u b o).go hq r h2 a w h') ht hd hg)⟩
theorem yS{b o:Nat}{u:τ}(ag:Bool)(op:uO e)(hP:wO Ls F (Pt e b o u))(hx:zK S x=some (pt b o))
  (h:op.op u [] F fun cs F'=>mkC ag cs fun v=>J P n X Q (.ops os l) ((d,v)::S) Ls F' m) (ht:wX P t=some (ag,e.n):=by kernel_rfl) (hag:ag=true∨e.n=1:=by first | exact .inl rfl | exact .inr rfl)
  (hd:Nat.blt d n=true:=by kernel_rfl) (hg:zQ os S g=some true:=by kernel_rfl):J P n X Q (.ops os (⟨some d,.load t x,ty,pos,af,g⟩::l)) S Ls F m :=
 ⟨fun hq r hm a w hs=>sl (z11 ag hs (hP _ _ hs.o hs.f) hx (fun ci hc v hv a h'=>by
  obtain⟨F',h1,h2⟩:=op.spec hc h'.f h
  rw[QB] at h1
  exact(zWD h1 hv).go hq r hm a w ⟨h'.s,h'.o,h'.e,h2⟩) ht hag hd hg)⟩
end
section
variable {τ ω:Type}{e:E τ}{ef:E ω}{te:TypeId}{r:zG}{p0:Option Addr}{c k0:Nat}{z:List τ}{ix:Int}
theorem jia{f:τ->Option ρ}(k:Nat)(hF:vW F k=Ar e te r p0 c k0 z)(hx:zK S x=some (.slice p0 k0 c))(hy:zK S y=some (.int kd ix))
  (h:∀ u,zB z ix=some u->∀ b o,p0=some ⟨b,o,none⟩->J P n X Q (.ops os l) ((d,pt b (o+ix.toNat*e.n))::S) Ls F (f u))
  (ht:wY P t=some e.n:=by kernel_rfl) (hd:Nat.blt d n=true:=by kernel_rfl) (hg:zQ os S g=some true:=by kernel_rfl) :
  J P n X Q (.ops os (⟨some d,.indexAddr t x y,ty,pos,af,g⟩::l)) S Ls F ((zB z ix).bind f) :=
 ⟨fun hq r hm a w hs=>by
  obtain⟨u,h1,h2⟩:=xQ hm
  exact sl (z2M hs (hF▸hs.g k) hx hy h1 (fun b o hp a h'=>(h u h1 b o hp).go hq r h2 a w h') ht hd hg)⟩
theorem jlA{b o:Nat}{u:τ}(i k:Nat)(s:xM e ef)(ag:Bool)(op:uO ef)(hF:vW F k=Ar e te r p0 c k0 z)(hp:p0=some ⟨b,o,none⟩)(hm:zB z ix=some u)(hx:zK S x=some (pt b (o+ix.toNat*e.n+s.off)))
  (h:op.op (s.get u) [] F fun cs F'=>mkC ag cs fun v=>J P n X Q (.ops os l) ((d,v)::S) Ls F' m) (hr:Ls[i]?=some r:=by rfl) (ht:wX P t=some (ag,ef.n):=by kernel_rfl) (hag:ag=true∨ef.n=1:=by first | exact .inl rfl | exact .inr rfl)
  (hd:Nat.blt d n=true:=by kernel_rfl) (hg:zQ os S g=some true:=by kernel_rfl):J P n X Q (.ops os (⟨some d,.load t x,ty,pos,af,g⟩::l)) S Ls F m :=
 ⟨fun hq r hm' a w hs=>sl (z4k i s ag hs (hF▸hs.g k) hp hm hx (fun ci hc v hv a h'=>by
  obtain⟨F',h1,h2⟩:=op.spec hc h'.f h
  rw[QB] at h1
  exact(zWD h1 hv).go hq r hm' a w ⟨h'.s,h'.o,h'.e,h2⟩) hr ht hag hd hg)⟩
end
section
variable {τ:Type}{e:E τ}{te:TypeId}{r:zG}{p0:Option Addr}{c k0:Nat}{z:List τ}{i j:Int}{lo hi:Option Operand}{vlo vhi:Option Value}
theorem jsl{f:List τ->Option ρ}(g0:wO Ls F (R e p0 c k0 z))(hx:zK S x=some (.slice p0 k0 c))(hlo:uR S lo=some vlo)(hhi:uR S hi=some vhi)(b1:Bd vlo i 0)(b2:Bd vhi j z.length)
  (h:∀ u p' c',J P n X Q (.ops os l) ((d,sv p' u c')::S) Ls (Rl e p' c' u::F) (f u))
  (ht:wY P t=some e.n:=by kernel_rfl) (hd:Nat.blt d n=true:=by kernel_rfl) (hg:zQ os S g=some true:=by kernel_rfl) :
  J P n X Q (.ops os (⟨some d,.slice t x lo hi none,ty,pos,af,g⟩::l)) S Ls F ((sub z i j).bind f) :=
 ⟨fun hq r hm a w hs=>by
  obtain⟨u,h1,h2⟩:=xQ hm
  exact sl (z4X hs (g0 _ _ hs.o hs.f) hx hlo hhi b1 b2 h1 (fun p' c' a h'=>(h u p' c').go hq r h2 a w h') ht hd hg)⟩
theorem jsP{f:List τ->Option ρ}{x2:Operand}(k:Nat)(hF:vW F k=Ar e te r p0 c k0 z)(hx:zK S x=some (.slice p0 k0 c))(hhi:zK S x2=some (.int kd j))
  (h:∀ u,J P n X Q (.ops os l) ((d,sv p0 u c)::S) Ls (Al e te r p0 c u::F) (f u))
  (ht:wY P t=some e.n:=by kernel_rfl) (hd:Nat.blt d n=true:=by kernel_rfl) (hg:zQ os S g=some true:=by kernel_rfl) :
  J P n X Q (.ops os (⟨some d,.slice t x none (some x2) none,ty,pos,af,g⟩::l)) S Ls F ((sub z 0 j).bind f) :=
 ⟨fun hq r hm a w hs=>by
  obtain⟨u,h1,h2⟩:=xQ hm
  exact sl (z2Y hs (hF▸hs.g k) hx hhi h1 (fun a h'=>(h u).go hq r h2 a w h') ht hd hg)⟩
theorem jsV{f:Unit->Option ρ}{x2:Operand}(k:Nat)(hF:vW F k=Ar e te r p0 c k0 z)(hx:zK S x=some (.slice p0 k0 c))(hlo:zK S x2=some (.int kd i))
  (h:∀ u p' c',Vw e.n p0 c k0 i p' (Int.toNat ((k0:Int)-i))->J P n X Q (.ops os l) ((d,.slice p' (Int.toNat ((k0:Int)-i)) c')::S) Ls F (f u))
  (ht:wY P t=some e.n:=by kernel_rfl) (hd:Nat.blt d n=true:=by kernel_rfl) (hg:zQ os S g=some true:=by kernel_rfl) :
  J P n X Q (.ops os (⟨some d,.slice t x (some x2) none none,ty,pos,af,g⟩::l)) S Ls F ((wV (decide (0≤i)&&decide (i≤(z.length:Int)))).bind f) :=
 ⟨fun hq r hm a w hs=>by
  obtain⟨u,h1,h2⟩:=xQ hm
  exact sl (z0o hs (hF▸hs.g k) hx hlo h1 (fun p' c' hv a h'=>(h u p' c' hv).go hq r h2 a w h') ht hd hg)⟩
theorem jiV{f:τ->Option ρ}{p1:Option Addr}{m' c':Nat}(k:Nat)(hF:vW F k=Ar e te r p0 c k0 z)(hV:Vw e.n p0 c k0 i p1 m')(hx:zK S x=some (.slice p1 m' c'))(hy:zK S y=some (.int kd j))
  (h:∀ u b o,p0=some ⟨b,o,none⟩->zB z (i+j)=some u->J P n X Q (.ops os l) ((d,pt b (o+(i+j).toNat*e.n))::S) Ls F (f u))
  (ht:wY P t=some e.n:=by kernel_rfl) (hd:Nat.blt d n=true:=by kernel_rfl) (hg:zQ os S g=some true:=by kernel_rfl) :
  J P n X Q (.ops os (⟨some d,.indexAddr t x y,ty,pos,af,g⟩::l)) S Ls F ((zYA z i j).bind f) :=
 ⟨fun hq r hm a w hs=>by
  obtain⟨u,h1,h2⟩:=xQ hm
  exact sl (z0V hs (hF▸hs.g k) hV hx hy h1 (fun b o hp hi a h'=>(h u b o hp hi).go hq r h2 a w h') ht hd hg)⟩
end
inductive At (Ls:List zG): yO->Array Oper->Oper->yO->Prop
 | s {os:Array Oper} {o:Oper} {l:List Oper}:At Ls (.ops os (o::l)) os o (.ops os l)
 | f {os:Array Oper} {o:Oper} {i:Nat} {B J:List Nat} {fuel:Nat} {li:Array Bool} (h:os[i]?=some o):At Ls (.fo i os B J fuel li) os o (.af Ls os B J fuel (li.setIfInBounds i true))
theorem At.run{o:Oper}(h:At Ls p os o p'){A:List Nat}{Q:Exit->Act->World->Prop}{a:Act}{w:World}
  (hs:∀ K:Act->World->Prop,(∀ {a' w' Ls'},zT qd Ls w Ls' w'->p'.go qd P A Ls' Q a' w'->K a' w')->wH P os Q o K a w):p.go qd P A Ls Q a w:=by
 cases h with
 | s=>exact sl (hs _ fun _ h=>h)
 | f hi=>exact⟨o,hi,hs _ fun hE h=>h w hE⟩
theorem vH{v:Value}(at0:At Ls p os ⟨some d,.box t x,ty,pos,af,g⟩ p')(hx:zK S x=some v)(h:∀ b,zR9 v fun cs=>zM5 Ls (bx b t cs) fun Ls'=>J P n X Q p' ((d,pt b 0)::S) Ls' F m)
  (hd:Nat.blt d n=true:=by kernel_rfl) (hg:zQ os S g=some true:=by kernel_rfl):J P n X Q p S Ls F m :=
 ⟨fun hq r hm a w hs=>at0.run fun K hK=>b_box hs hx (fun b a w' h' e=>hK e (by
  have h:=h b
  rw[zWt,zJS] at h
  exact h.go hq r hm a w' (by simp_all))) hd hg⟩
theorem vD (at0:At Ls p os ⟨some d,.alloc t,ty,pos,af,g⟩ p')(v:Value)(h:∀ b,zR9 v fun cs=>zM5 Ls (bx b t cs) fun Ls'=>J P n X Q p' ((d,pt b 0)::S) Ls' F m)
  (hx:tX P t=some v:=by kernel_rfl) (hd:Nat.blt d n=true:=by kernel_rfl) (hg:zQ os S g=some true:=by kernel_rfl):J P n X Q p S Ls F m :=
 ⟨fun hq r hm a w hs=>at0.run fun K hK=>z5v hs hx (fun b a w' h' e=>hK e (by
  have h:=h b
  rw[zWt,zJS] at h
  exact h.go hq r hm a w' (by simp_all))) hd hg⟩
theorem wA{b o:Nat}{c:List Value}{te:TypeId}{v:Value}(at0:At Ls p os ⟨none,.store t x y,ty,pos,af,g⟩ p')(i:Nat)(hx:zK S x=some (pt b o))(hy:zK S y=some v)(hr:Ls[i]?=some (bx b te c))
  (h:zR9 v fun cs=>putC o c cs fun c'=>uE Ls i (bx b te c') fun Ls'=>J P n X Q p' S Ls' F m) (hv:zM1 P t c.toArray o v=true:=by kernel_rfl) (hg:zQ os S g=some true:=by kernel_rfl):J P n X Q p S Ls F m :=
 ⟨fun hq r hm a w hs=>at0.run fun K hK=>zSM i hs hx hy hr (fun a w' h' e=>hK e (by
  rw[zWt] at h
  have h:=z68 h
  rw[zH7] at h
  exact h.go hq r hm a w' (by simpa [bx,tI] using h'))) hv hg⟩
section
variable {τ ω:Type}{e:E τ}{ef:E ω}{te:TypeId}{r:zG}{p0 q:Option Addr}{c k0 c2 k2:Nat}{z z2 u:List τ}{ix:Int}
theorem jsA{b o:Nat}{v:Value}{v0:τ}(at0:At Ls p os ⟨none,.store t x y,ty,pos,af,g⟩ p')(i k:Nat)(s:xM e ef)(nz:ω)(ag:Bool)(hF:vW F k=Ar e te r p0 c k0 z)(hp:p0=some ⟨b,o,none⟩)(hm:zB z ix=some v0)(hx:zK S x=some (pt b (o+ix.toNat*e.n+s.off)))
  (hy:zK S y=some v) (hv:RV ef Ls F v.cells.toList nz)
  (h:∀ r',uE Ls i r' fun Ls'=>J P n X Q p' S Ls' (Ar e te r' p0 c k0 (z.set ix.toNat (s.put v0 nz))::F) m) (hr:Ls[i]?=some r:=by rfl) (ht:wX P t=some (ag,ef.n):=by kernel_rfl) (hg:zQ os S g=some true:=by kernel_rfl):J P n X Q p S Ls F m :=
 ⟨fun hq r hm' a w hs=>at0.run fun K hK=>z2d i s nz ag hs (hF▸hs.g k) hp hm hx hy (hv _ _ hs.o hs.f) (fun r' a w' h' e=>hK e (by
  have h:=h r'
  rw[zH7] at h
  exact h.go hq r hm' a w' h')) hr ht hg⟩
end
end
section
variable {P:Program}{n:Nat}{X:Hd qd}{ρ:Type}{Q:PQ ρ}{S S':Sl}{Ls:List zG}{F:List PP}{m:Option ρ}{l:List Oper}{y:Code}{id:Nat}{ob:List Ob}
theorem jA (k:Nat)(hr:z8R l.toArray l k S []=some (S',[],ob))(h:J P n X Q (.code y) S' Ls F m)
  (hd:(z0j (l.take k)).all (fun d=>Nat.blt d n)=true:=by kernel_rfl) (ho:zXg P ob=true:=by kernel_rfl):J P n X Q (.code (.seq (.region id l.toArray false) y)) S Ls F m:=zJ (zA k hr (zL h) hd ho)
theorem jB (k:Nat)(hr:z8R l.toArray l k S []=some (S',[],ob))(h:J P n X Q (.ex .normal) S' Ls F m)
  (hd:(z0j (l.take k)).all (fun d=>Nat.blt d n)=true:=by kernel_rfl) (ho:zXg P ob=true:=by kernel_rfl):J P n X Q (.code (.region id l.toArray false)) S Ls F m:=vM (zA k hr (wN h) hd ho)
theorem jC{z:Code}(h:J P n X Q (.code z) S Ls F m): J P n X (zSQ P z Q) (.code .skip) S Ls F m:=uM (qN h)
end
end Go.GD
