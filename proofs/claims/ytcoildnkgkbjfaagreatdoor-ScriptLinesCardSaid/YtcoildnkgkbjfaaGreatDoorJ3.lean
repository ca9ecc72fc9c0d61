/- A part. Conditions: none. -/
import Derived.Test.YtcoildnkgkbjfaaGreatDoorJ2
namespace Go.GD
open Go Go.RowKit
set_option autoImplicit false
variable {qd:Prop}
set_option linter.unusedVariables false
def zMy (v:Value)(k:List Value->Prop): Prop:=match v with
 | .agg ⟨cs⟩=>k cs
 | v=>k [v]
theorem zSf{v:Value}{k:List Value->Prop}: zMy v k=k v.cells.toList:=by cases v <;> rfl
def z3U{β:Type}: List Value->Nat->(Value->Option β)->Option β
 | [],_,_=>none
 | v::_,0,k=>k v
 | _::l,o+1,k=>z3U l o k
theorem zUf{β:Type}: ∀ {l:List Value} {o:Nat} {k:Value->Option β},z3U l o k=(l[o]?).bind k
 | [],_,_=>by simp[z3U]
 | v::_,0,_=>rfl
 | _::l,o+1,k=>by simp[z3U,zUf]
def zWY{β:Type}: Nat->List Value->(List Value->Option β)->Option β
 | 0,_,k=>k []
 | _+1,[],_=>none
 | j+1,v::l,k=>zWY j l fun r=>k (v::r)
theorem zVA{β:Type}: ∀ {j:Nat} {l:List Value} {k:List Value->Option β} {r:β},zWY j l k=some r->k (l.take j)=some r∧j≤l.length
 | 0,_,_,_,h=>⟨h,Q9 _⟩
 | _+1,[],_,_,h=>by cases h
 | j+1,v::l,k,r,h=>by
  obtain⟨h1,h2⟩:=zVA (j:=j) h
  grind
def zYM{β:Type}: Nat->List Value->(List Value->Option β)->Option β
 | 0,l,k=>k l
 | _+1,[],_=>none
 | o+1,_::l,k=>zYM o l k
theorem zV6{β:Type}: ∀ {o:Nat} {l:List Value} {k:List Value->Option β} {r:β},zYM o l k=some r->k (l.drop o)=some r∧o≤l.length
 | 0,_,_,_,h=>⟨h,Q9 _⟩
 | _+1,[],_,_,h=>by cases h
 | o+1,v::l,k,r,h=>by
  obtain⟨h1,h2⟩:=zV6 (o:=o) h
  grind
def z4F:List Value->List Value->(List Value->Prop)->Prop
 | l,[],k=>k l
 | [],_::_,_=>False
 | _::l,v::vs,k=>z4F l vs fun l'=>k (v::l')
theorem zYy:∀ {l v:List Value} {k:List Value->Prop},z4F l v k->k (v++l.drop v.length)
 | l,[],k,h=>by simpa [z4F] using h
 | [],_::_,_,h=>h.elim
 | _::l,v::vs,k,h=>by have:=zYy (l:=l) (v:=vs) h;grind
def putC:Nat->List Value->List Value->(List Value->Prop)->Prop
 | 0,l,v,k=>z4F l v k
 | _+1,[],_,_=>False
 | o+1,a::l,v,k=>putC o l v fun l'=>k (a::l')
theorem z1v:∀ {o:Nat} {l v:List Value} {k:List Value->Prop},putC o l v k->k (l.take o++v++l.drop (o+v.length))
 | 0,l,v,k,h=>by have:=zYy h;grind
 | _+1,[],_,_,h=>h.elim
 | o+1,a::l,v,k,h=>by
  have:=z1v (o:=o) (l:=l) h
  grind
structure yI{τ:Type}(e:E τ) where
 op:τ->List Value->List PP->(List Value->List PP->Prop)->Prop
 spec:∀ {Z:List Nat} {w:World} {cs:List Value} {x:τ} {tl:List Value} {fs:List PP} {k:List Value->List PP->Prop},e.rd Z w cs x->xA fs Z w->op x tl fs k->∃ F',k (cs++tl) F'∧xA F' Z w
def oI{kd:IntKind}: yI (zR kd):=⟨fun x tl fs k=>k (.int kd x::tl) fs,by rintro _ _ _ _ _ _ _ rfl h1 h2;grind⟩
def oB:yI zH8:=⟨fun x tl fs k=>k (.bool x::tl) fs,by rintro _ _ _ _ _ _ _ rfl h1 h2;grind⟩
def oS:yI wD:=⟨fun x tl fs k=>k (vs x::tl) fs,by rintro _ _ _ _ _ _ _ rfl h1 h2;grind⟩
def oL{τ:Type}{e:E τ}: yI (wJ e):=⟨fun l tl fs k=>∀ p c,k (sv p l c::tl) (Rl e p c l::fs),by
 rintro _ _ _ _ _ _ _ ⟨p,c,rfl,h⟩ h1 h2
 grind [R.of,xA]⟩
def oP{α β:Type}{e:E α}{f:E β}(a:yI e)(b:yI f): yI (qM e f):=⟨fun x tl fs k=>b.op x.2 tl fs fun tl fs=>a.op x.1 tl fs k,by
 rintro _ _ _ _ _ _ _ ⟨c1,c2,rfl,h1,h2⟩ h3 h4
 obtain⟨F1,h5,h6⟩:=b.spec h2 h3 h4
 obtain⟨F2,h7,h8⟩:=a.spec h1 h6 h5
 grind⟩
def sI{τ:Type}{e:E τ}: tW e e:=tW.id e
def mkC (ag:Bool)(cs:List Value)(k:Value->Prop): Prop:=match ag with
 | true=>k (.agg cs.toArray)
 | false=>match cs with
  | [v]=>k v
  | _=>False
theorem zRS{ag:Bool}{cs:List Value}{k:Value->Prop}{v:Value}(h:mkC ag cs k)(hv:tX ag cs=some v): k v:=by
 cases ag with
 | true=>cases hv;exact h
 | false =>
  match cs,h,hv with
  | [u],h,hv=>cases hv;exact h
def RD{τ:Type}(e:E τ)(Ls:List zH)(F:List PP)(cs:List Value)(l:List τ): Prop:=∀ A w,qF A w Ls->xA F (bl Ls++A) w->e.rdL (bl Ls++A) w cs l
def RV{τ:Type}(e:E τ)(Ls:List zH)(F:List PP)(cs:List Value)(x:τ): Prop:=∀ A w,qF A w Ls->xA F (bl Ls++A) w->e.rd (bl Ls++A) w cs x
section
variable {P:Program}{n:Nat}{X:Hd qd}{ρ σ:Type}{Q:PQ ρ}{S:Sl}{Ls:List zH}{F:List PP}{m m1 m2:Option ρ}{os:Array Oper}{l:List Oper}{x y:Operand}{p p':yY}
variable {d t:Nat}{ty ty2:TypeId}{pos pos2:String}{af af2:Array Edge}{g g2:Option (Nat×Bool)}{kd:IntKind}
theorem zB{S':Sl}{l':List Oper}{ob:List Ob}(k:Nat)(hr:z4Y os l k S []=some (S',l',ob))(h:J P n X Q (.ops os l') S' Ls F m)
  (hd:(zVd (l.take k)).all (fun d=>Nat.blt d n)=true:=by kernel_rfl) (ho:zTA P ob=true:=by kernel_rfl):J P n X Q (.ops os l) S Ls F m :=
 ⟨fun hq r hm a w hs=>(zMJ l k S S' l' [] ob a hs.s hr hd ho fun a' hS=>h.go hq r hm a' w (hs.slot hS)).2⟩
theorem zL{op:Op}(v:Value)(h:J P n X Q (.ops os l) ((d,v)::S) Ls F m)(hv:pv P S op=some v:=by kernel_rfl)(hd:Nat.blt d n=true:=by kernel_rfl)(hg:qC os S g=some true:=by kernel_rfl):
  J P n X Q (.ops os (⟨some d,op,ty,pos,af,g⟩::l)) S Ls F m :=
 ⟨fun hq r hm a w hs=>zLN (v:=v) (w':=w) hg hs.s (zUL hs.s hv _ _ _ _ _ w) (h.go hq r hm _ w (hs.slot (hs.s.put hd v)))⟩
theorem jv{op:Op}{v:Value}(hv:∀ {a:Act},qO a n S->∀ w',(execOp a.eval ⟨some d,op,ty,pos,af,g⟩).run P w'=.ok (.value v) w')(h:J P n X Q (.ops os l) ((d,v)::S) Ls F m)
  (hd:Nat.blt d n=true:=by kernel_rfl) (hg:qC os S g=some true:=by kernel_rfl):J P n X Q (.ops os (⟨some d,op,ty,pos,af,g⟩::l)) S Ls F m :=
 ⟨fun hq r hm a w hs=>sl (z2h hs (hv hs.s) (fun a h'=>h.go hq r hm a w h') hd hg)⟩
theorem zO{s f b o:Nat}(off:Nat)(hx:zP S x=some (pt b o))(h:J P n X Q (.ops os l) ((d,pt b (o+off))::S) Ls F m)
  (hf:zRb P s f=some off:=by kernel_rfl) (hd:Nat.blt d n=true:=by kernel_rfl) (hg:qC os S g=some true:=by kernel_rfl):J P n X Q (.ops os (⟨some d,.fieldAddr s x f,ty,pos,af,g⟩::l)) S Ls F m :=
 ⟨fun hq r hm a w hs=>zLN (w':=w) hg hs.s (zUL hs.s (v:=pt b (o+off)) (by simp[pv,hx,hf]) _ _ _ _ _ w) (h.go hq r hm _ w (hs.slot (hs.s.put hd _)))⟩
theorem qJ{b o:Nat}{c:List Value}{te:TypeId}{fr:Nat×Nat}{v:Value}(i:Nat)(hx:zP S x=some (pt b o))(hr:Ls[i]?=some [(b,.cells c.toArray te fr)])(hv:z3U c o some=some v)(h:J P n X Q (.ops os l) ((d,v)::S) Ls F m)
  (ht:uB P t=some (false,1):=by kernel_rfl) (hd:Nat.blt d n=true:=by kernel_rfl) (hg:qC os S g=some true:=by kernel_rfl):J P n X Q (.ops os (⟨some d,.load t x,ty,pos,af,g⟩::l)) S Ls F m :=
 ⟨fun hq r hm a w hs=>sl (zJf i v hs hx hr (fun a h'=>h.go hq r hm a w h') (by
  rw[zUf] at hv
  have hv':c[o]?=some v:=by cases hc:c[o]? <;> simp_all
  have hlt:=(Qj.1 hv').1
  unfold zI2
  rw[ht]
  have:Nat.ble (o+1) c.toArray.size=true:=by rw[U6,Ua];exact hlt
  simp only[this,Qe,zXW]
  grind [List.drop_eq_getElem_cons,tX]) hd hg)⟩
theorem qV{b o:Nat}{c:List Value}{te:TypeId}{fr:Nat×Nat}{cs:List Value}(i k:Nat)(hx:zP S x=some (pt b o))(hr:Ls[i]?=some [(b,.cells c.toArray te fr)])(hv:zYM o c (fun l=>zWY k l some)=some cs)(h:J P n X Q (.ops os l) ((d,.agg cs.toArray)::S) Ls F m)
  (ht:uB P t=some (true,k):=by kernel_rfl) (hd:Nat.blt d n=true:=by kernel_rfl) (hg:qC os S g=some true:=by kernel_rfl):J P n X Q (.ops os (⟨some d,.load t x,ty,pos,af,g⟩::l)) S Ls F m :=
 ⟨fun hq r hm a w hs=>sl (zJf i (.agg cs.toArray) hs hx hr (fun a h'=>h.go hq r hm a w h') (by
  obtain⟨h1,h2⟩:=zV6 hv
  obtain⟨h3,h4⟩:=zVA h1
  rw[QO] at h4
  unfold zI2
  rw[ht]
  have:Nat.ble (o+k) c.toArray.size=true:=by rw[U6];simp;omega
  simp only[this,Qe,zXW,tX]
  grind) hd hg)⟩
section
variable {τ:Type}{e:E τ}{te:TypeId}{r:zH}{p0:Option Addr}{c k0:Nat}{z:List τ}{ix:Int}
theorem tA{f:τ->Option ρ}(k:Nat)(hF:uL F k=R e p0 c k0 z)(hx:zP S x=some (.slice p0 k0 c))(hy:zP S y=some (.int kd ix))
  (h:∀ u b o,J P n X Q (.ops os l) ((d,pt b o)::S) Ls (Pt e b o u::F) (f u))
  (ht:uI P t=some e.n:=by kernel_rfl) (hd:Nat.blt d n=true:=by kernel_rfl) (hg:qC os S g=some true:=by kernel_rfl) :
  J P n X Q (.ops os (⟨some d,.indexAddr t x y,ty,pos,af,g⟩::l)) S Ls F ((zD z ix).bind f) :=
 ⟨fun hq r hm a w hs=>by
  obtain⟨u,h1,h2⟩:=bnd hm
  exact sl (z0L hs (hF▸hs.g k) hx hy h1 (fun b o a h'=>(h u b o).go hq r h2 a w h') ht hd hg)⟩
theorem tG{b o:Nat}{u:τ}(ag:Bool)(op:yI e)(hP:wZ Ls F (Pt e b o u))(hx:zP S x=some (pt b o))
  (h:op.op u [] F fun cs F'=>mkC ag cs fun v=>J P n X Q (.ops os l) ((d,v)::S) Ls F' m) (ht:uB P t=some (ag,e.n):=by kernel_rfl) (hag:ag=true∨e.n=1:=by first | exact .inl rfl | exact .inr rfl)
  (hd:Nat.blt d n=true:=by kernel_rfl) (hg:qC os S g=some true:=by kernel_rfl):J P n X Q (.ops os (⟨some d,.load t x,ty,pos,af,g⟩::l)) S Ls F m :=
 ⟨fun hq r hm a w hs=>sl (z2L ag hs (hP _ _ hs.o hs.f) hx (fun ci hc v hv a h'=>by
  obtain⟨F',h1,h2⟩:=op.spec hc h'.f h
  rw[QJ] at h1
  exact(zRS h1 hv).go hq r hm a w ⟨h'.s,h'.o,h'.e,h2⟩) ht hag hd hg)⟩
end
section
variable {τ ω:Type}{e:E τ}{ef:E ω}{te:TypeId}{r:zH}{p0:Option Addr}{c k0:Nat}{z:List τ}{ix:Int}
theorem xC{f:τ->Option ρ}(k:Nat)(hF:uL F k=Ar e te r p0 c k0 z)(hx:zP S x=some (.slice p0 k0 c))(hy:zP S y=some (.int kd ix))
  (h:∀ u,zD z ix=some u->∀ b o,p0=some ⟨b,o,none⟩->J P n X Q (.ops os l) ((d,pt b (o+ix.toNat*e.n))::S) Ls F (f u))
  (ht:uI P t=some e.n:=by kernel_rfl) (hd:Nat.blt d n=true:=by kernel_rfl) (hg:qC os S g=some true:=by kernel_rfl) :
  J P n X Q (.ops os (⟨some d,.indexAddr t x y,ty,pos,af,g⟩::l)) S Ls F ((zD z ix).bind f) :=
 ⟨fun hq r hm a w hs=>by
  obtain⟨u,h1,h2⟩:=bnd hm
  exact sl (zXj hs (hF▸hs.g k) hx hy h1 (fun b o hp a h'=>(h u h1 b o hp).go hq r h2 a w h') ht hd hg)⟩
theorem jlA{b o:Nat}{u:τ}(i k:Nat)(s:tW e ef)(ag:Bool)(op:yI ef)(hF:uL F k=Ar e te r p0 c k0 z)(hp:p0=some ⟨b,o,none⟩)(hm:zD z ix=some u)(hx:zP S x=some (pt b (o+ix.toNat*e.n+s.off)))
  (h:op.op (s.get u) [] F fun cs F'=>mkC ag cs fun v=>J P n X Q (.ops os l) ((d,v)::S) Ls F' m) (hr:Ls[i]?=some r:=by rfl) (ht:uB P t=some (ag,ef.n):=by kernel_rfl) (hag:ag=true∨ef.n=1:=by first | exact .inl rfl | exact .inr rfl)
  (hd:Nat.blt d n=true:=by kernel_rfl) (hg:qC os S g=some true:=by kernel_rfl):J P n X Q (.ops os (⟨some d,.load t x,ty,pos,af,g⟩::l)) S Ls F m :=
 ⟨fun hq r hm' a w hs=>sl (z0a i s ag hs (hF▸hs.g k) hp hm hx (fun ci hc v hv a h'=>by
  obtain⟨F',h1,h2⟩:=op.spec hc h'.f h
  rw[QJ] at h1
  exact(zRS h1 hv).go hq r hm' a w ⟨h'.s,h'.o,h'.e,h2⟩) hr ht hag hd hg)⟩
end
section
variable {τ:Type}{e:E τ}{te:TypeId}{r:zH}{p0:Option Addr}{c k0:Nat}{z:List τ}{i j:Int}{lo hi:Option Operand}{vlo vhi:Option Value}
theorem jsl{f:List τ->Option ρ}(g0:wZ Ls F (R e p0 c k0 z))(hx:zP S x=some (.slice p0 k0 c))(hlo:zQv S lo=some vlo)(hhi:zQv S hi=some vhi)(b1:Bd vlo i 0)(b2:Bd vhi j z.length)
  (h:∀ u p' c',J P n X Q (.ops os l) ((d,sv p' u c')::S) Ls (Rl e p' c' u::F) (f u))
  (ht:uI P t=some e.n:=by kernel_rfl) (hd:Nat.blt d n=true:=by kernel_rfl) (hg:qC os S g=some true:=by kernel_rfl) :
  J P n X Q (.ops os (⟨some d,.slice t x lo hi none,ty,pos,af,g⟩::l)) S Ls F ((sub z i j).bind f) :=
 ⟨fun hq r hm a w hs=>by
  obtain⟨u,h1,h2⟩:=bnd hm
  exact sl (z08 hs (g0 _ _ hs.o hs.f) hx hlo hhi b1 b2 h1 (fun p' c' a h'=>(h u p' c').go hq r h2 a w h') ht hd hg)⟩
theorem jsF{f:List τ->Option ρ}{x2 x3:Operand}{kd2:IntKind}(g0:wZ Ls F (R e p0 c k0 z))(hx:zP S x=some (.slice p0 k0 c))(hlo:zQv S lo=some vlo)(hhi:zP S x2=some (.int kd j))(hmx:zP S x3=some (.int kd2 j))(b1:Bd vlo i 0)
  (h:∀ u p',J P n X Q (.ops os l) ((d,.slice p' (List.length u) (List.length u))::S) Ls (R e p' (List.length u) (List.length u) u::F) (f u))
  (ht:uI P t=some e.n:=by kernel_rfl) (hd:Nat.blt d n=true:=by kernel_rfl) (hg:qC os S g=some true:=by kernel_rfl) :
  J P n X Q (.ops os (⟨some d,.slice t x lo (some x2) (some x3),ty,pos,af,g⟩::l)) S Ls F ((sub z i j).bind f) :=
 ⟨fun hq r hm a w hs=>by
  obtain⟨u,h1,h2⟩:=bnd hm
  exact sl (zVs hs (g0 _ _ hs.o hs.f) hx hlo hhi hmx b1 h1 (fun p' a h'=>(h u p').go hq r h2 a w h') ht hd hg)⟩
theorem jsP{f:List τ->Option ρ}{x2:Operand}(k:Nat)(hF:uL F k=Ar e te r p0 c k0 z)(hx:zP S x=some (.slice p0 k0 c))(hhi:zP S x2=some (.int kd j))
  (h:∀ u,J P n X Q (.ops os l) ((d,sv p0 u c)::S) Ls (Al e te r p0 c u::F) (f u))
  (ht:uI P t=some e.n:=by kernel_rfl) (hd:Nat.blt d n=true:=by kernel_rfl) (hg:qC os S g=some true:=by kernel_rfl) :
  J P n X Q (.ops os (⟨some d,.slice t x none (some x2) none,ty,pos,af,g⟩::l)) S Ls F ((sub z 0 j).bind f) :=
 ⟨fun hq r hm a w hs=>by
  obtain⟨u,h1,h2⟩:=bnd hm
  exact sl (zXr hs (hF▸hs.g k) hx hhi h1 (fun a h'=>(h u).go hq r h2 a w h') ht hd hg)⟩
end
inductive At (Ls:List zH): yY->Array Oper->Oper->yY->Prop
 | s {os:Array Oper} {o:Oper} {l:List Oper}:At Ls (.ops os (o::l)) os o (.ops os l)
 | f {os:Array Oper} {o:Oper} {i:Nat} {B J:List Nat} {fuel:Nat} {li:Array Bool} (h:os[i]?=some o):At Ls (.fo i os B J fuel li) os o (.af Ls os B J fuel (li.setIfInBounds i true))
theorem At.run{o:Oper}(h:At Ls p os o p'){A:List Nat}{Q:Exit->Act->World->Prop}{a:Act}{w:World}
  (hs:∀ K:Act->World->Prop,(∀ {a' w' Ls'},zZ qd Ls w Ls' w'->p'.go qd P A Ls' Q a' w'->K a' w')->vC P os Q o K a w):p.go qd P A Ls Q a w:=by
 cases h with
 | s=>exact sl (hs _ fun _ h=>h)
 | f hi=>exact⟨o,hi,hs _ fun hE h=>h w hE⟩
theorem yB{v:Value}(at0:At Ls p os ⟨some d,.box t x,ty,pos,af,g⟩ p')(hx:zP S x=some v)(h:∀ b,zMy v fun cs=>zM8 Ls (bx b t cs) fun Ls'=>J P n X Q p' ((d,pt b 0)::S) Ls' F m)
  (hd:Nat.blt d n=true:=by kernel_rfl) (hg:qC os S g=some true:=by kernel_rfl):J P n X Q p S Ls F m :=
 ⟨fun hq r hm a w hs=>at0.run fun K hK=>b_box hs hx (fun b a w' h' e=>hK e (by
  have h:=h b
  rw[zSf,zIG] at h
  exact h.go hq r hm a w' (by simp_all))) hd hg⟩
theorem qN (at0:At Ls p os ⟨some d,.alloc t,ty,pos,af,g⟩ p')(v:Value)(h:∀ b,zMy v fun cs=>zM8 Ls (bx b t cs) fun Ls'=>J P n X Q p' ((d,pt b 0)::S) Ls' F m)
  (hx:zI6 P t=some v:=by kernel_rfl) (hd:Nat.blt d n=true:=by kernel_rfl) (hg:qC os S g=some true:=by kernel_rfl):J P n X Q p S Ls F m :=
 ⟨fun hq r hm a w hs=>at0.run fun K hK=>z7R hs hx (fun b a w' h' e=>hK e (by
  have h:=h b
  rw[zSf,zIG] at h
  exact h.go hq r hm a w' (by simp_all))) hd hg⟩
theorem zV{b o:Nat}{c:List Value}{te:TypeId}{v:Value}(at0:At Ls p os ⟨none,.store t x y,ty,pos,af,g⟩ p')(i:Nat)(hx:zP S x=some (pt b o))(hy:zP S y=some v)(hr:Ls[i]?=some (bx b te c))
  (h:zMy v fun cs=>putC o c cs fun c'=>zRP Ls i (bx b te c') fun Ls'=>J P n X Q p' S Ls' F m) (hv:zKe P t c.toArray o v=true:=by kernel_rfl) (hg:qC os S g=some true:=by kernel_rfl):J P n X Q p S Ls F m :=
 ⟨fun hq r hm a w hs=>at0.run fun K hK=>zXf i hs hx hy hr (fun a w' h' e=>hK e (by
  rw[zSf] at h
  have h:=z1v h
  rw[zHB] at h
  exact h.go hq r hm a w' (by simpa [bx,zZc] using h'))) hv hg⟩
section
variable {τ ω:Type}{e:E τ}{ef:E ω}{te:TypeId}{r:zH}{p0 q:Option Addr}{c k0 c2 k2:Nat}{z z2 u:List τ}{ix:Int}
theorem jsA{b o:Nat}{v:Value}{v0:τ}(at0:At Ls p os ⟨none,.store t x y,ty,pos,af,g⟩ p')(i k:Nat)(s:tW e ef)(nz:ω)(ag:Bool)(hF:uL F k=Ar e te r p0 c k0 z)(hp:p0=some ⟨b,o,none⟩)(hm:zD z ix=some v0)(hx:zP S x=some (pt b (o+ix.toNat*e.n+s.off)))
  (hy:zP S y=some v) (hv:RV ef Ls F v.cells.toList nz)
  (h:∀ r',zRP Ls i r' fun Ls'=>J P n X Q p' S Ls' (Ar e te r' p0 c k0 (z.set ix.toNat (s.put v0 nz))::F) m) (hr:Ls[i]?=some r:=by rfl) (ht:uB P t=some (ag,ef.n):=by kernel_rfl) (hg:qC os S g=some true:=by kernel_rfl):J P n X Q p S Ls F m :=
 ⟨fun hq r hm' a w hs=>at0.run fun K hK=>zYl i s nz ag hs (hF▸hs.g k) hp hm hx hy (hv _ _ hs.o hs.f) (fun r' a w' h' e=>hK e (by
  have h:=h r'
  rw[zHB] at h
  exact h.go hq r hm' a w' h')) hr ht hg⟩
end
end
section
variable {P:Program}{n:Nat}{X:Hd qd}{ρ:Type}{Q:PQ ρ}{S S':Sl}{Ls:List zH}{F:List PP}{m:Option ρ}{l:List Oper}{y:Code}{id:Nat}{ob:List Ob}
theorem jA (k:Nat)(hr:z4Y l.toArray l k S []=some (S',[],ob))(h:J P n X Q (.code y) S' Ls F m)
  (hd:(zVd (l.take k)).all (fun d=>Nat.blt d n)=true:=by kernel_rfl) (ho:zTA P ob=true:=by kernel_rfl):J P n X Q (.code (.seq (.region id l.toArray false) y)) S Ls F m:=zG (zB k hr (zI h) hd ho)
theorem jB (k:Nat)(hr:z4Y l.toArray l k S []=some (S',[],ob))(h:J P n X Q (.ex .normal) S' Ls F m)
  (hd:(zVd (l.take k)).all (fun d=>Nat.blt d n)=true:=by kernel_rfl) (ho:zTA P ob=true:=by kernel_rfl):J P n X Q (.code (.region id l.toArray false)) S Ls F m:=vD (zB k hr (wH h) hd ho)
theorem jC{z:Code}(h:J P n X Q (.code z) S Ls F m): J P n X (zN6 P z Q) (.code .skip) S Ls F m:=uW (wS h)
end
end Go.GD
