/- A part. Conditions: none. -/
import Derived.Test.YtmpieaddiaihmaaGreatDoorJ2
namespace Go.GD
open Go Go.RowKit
set_option autoImplicit false
variable {qd:Prop}
set_option linter.unusedVariables false
def zSK (v:Value)(k:List Value->Prop): Prop:=match v with
 | .agg ⟨cs⟩=>k cs
 | v=>k [v]
theorem zXx{v:Value}{k:List Value->Prop}: zSK v k=k v.cells.toList:=by cases v <;> rfl
def z7w{β:Type}: List Value->Nat->(Value->Option β)->Option β
 | [],_,_=>none
 | v::_,0,k=>k v
 | _::l,o+1,k=>z7w l o k
theorem z0m{β:Type}: ∀ {l:List Value} {o:Nat} {k:Value->Option β},z7w l o k=(l[o]?).bind k
 | [],_,_=>by simp[z7w]
 | v::_,0,_=>rfl
 | _::l,o+1,k=>by simp[z7w,z0m]
def z3A{β:Type}: Nat->List Value->(List Value->Option β)->Option β
 | 0,_,k=>k []
 | _+1,[],_=>none
 | j+1,v::l,k=>z3A j l fun r=>k (v::r)
theorem z0d{β:Type}: ∀ {j:Nat} {l:List Value} {k:List Value->Option β} {r:β},z3A j l k=some r->k (l.take j)=some r∧j≤l.length
 | 0,_,_,_,h=>⟨h,Ur _⟩
 | _+1,[],_,_,h=>by cases h
 | j+1,v::l,k,r,h=>by
  obtain⟨h1,h2⟩:=z0d (j:=j) h
  grind
def z3a{β:Type}: Nat->List Value->(List Value->Option β)->Option β
 | 0,l,k=>k l
 | _+1,[],_=>none
 | o+1,_::l,k=>z3a o l k
theorem z0k{β:Type}: ∀ {o:Nat} {l:List Value} {k:List Value->Option β} {r:β},z3a o l k=some r->k (l.drop o)=some r∧o≤l.length
 | 0,_,_,_,h=>⟨h,Ur _⟩
 | _+1,[],_,_,h=>by cases h
 | o+1,v::l,k,r,h=>by
  obtain⟨h1,h2⟩:=z0k (o:=o) h
  grind
def z92:List Value->List Value->(List Value->Prop)->Prop
 | l,[],k=>k l
 | [],_::_,_=>False
 | _::l,v::vs,k=>z92 l vs fun l'=>k (v::l')
theorem z5G:∀ {l v:List Value} {k:List Value->Prop},z92 l v k->k (v++l.drop v.length)
 | l,[],k,h=>by simpa [z92] using h
 | [],_::_,_,h=>h.elim
 | _::l,v::vs,k,h=>by have:=z5G (l:=l) (v:=vs) h;grind
def putC:Nat->List Value->List Value->(List Value->Prop)->Prop
 | 0,l,v,k=>z92 l v k
 | _+1,[],_,_=>False
 | o+1,a::l,v,k=>putC o l v fun l'=>k (a::l')
theorem z4G:∀ {o:Nat} {l v:List Value} {k:List Value->Prop},putC o l v k->k (l.take o++v++l.drop (o+v.length))
 | 0,l,v,k,h=>by have:=z5G h;grind
 | _+1,[],_,_,h=>h.elim
 | o+1,a::l,v,k,h=>by
  have:=z4G (o:=o) (l:=l) h
  grind
structure uW{τ:Type}(e:E τ) where
 op:τ->List Value->List PP->(List Value->List PP->Prop)->Prop
 spec:∀ {Z:List Nat} {w:World} {cs:List Value} {x:τ} {tl:List Value} {fs:List PP} {k:List Value->List PP->Prop},e.rd Z w cs x->uM fs Z w->op x tl fs k->∃ F',k (cs++tl) F'∧uM F' Z w
def oI{kd:IntKind}: uW (zC kd):=⟨fun x tl fs k=>k (.int kd x::tl) fs,by rintro _ _ _ _ _ _ _ rfl h1 h2;grind⟩
def oB:uW zZX:=⟨fun x tl fs k=>k (.bool x::tl) fs,by rintro _ _ _ _ _ _ _ rfl h1 h2;grind⟩
def oS:uW wB:=⟨fun x tl fs k=>k (vs x::tl) fs,by rintro _ _ _ _ _ _ _ rfl h1 h2;grind⟩
def oL{τ:Type}{e:E τ}: uW (qA e):=⟨fun l tl fs k=>∀ p c,k (sv p l c::tl) (Rl e p c l::fs),by
 rintro _ _ _ _ _ _ _ ⟨p,c,rfl,h⟩ h1 h2
 grind [R.of,uM]⟩
def oP{α β:Type}{e:E α}{f:E β}(a:uW e)(b:uW f): uW (wH e f):=⟨fun x tl fs k=>b.op x.2 tl fs fun tl fs=>a.op x.1 tl fs k,by
 rintro _ _ _ _ _ _ _ ⟨c1,c2,rfl,h1,h2⟩ h3 h4
 obtain⟨F1,h5,h6⟩:=b.spec h2 h3 h4
 obtain⟨F2,h7,h8⟩:=a.spec h1 h6 h5
 grind⟩
def sI{τ:Type}{e:E τ}: xG e e:=xG.id e
def mkC (ag:Bool)(cs:List Value)(k:Value->Prop): Prop:=match ag with
 | true=>k (.agg cs.toArray)
 | false=>match cs with
  | [v]=>k v
  | _=>False
theorem zXN{ag:Bool}{cs:List Value}{k:Value->Prop}{v:Value}(h:mkC ag cs k)(hv:xW ag cs=some v): k v:=by
 cases ag with
 | true=>cases hv;exact h
 | false =>
  match cs,h,hv with
  | [u],h,hv=>cases hv;exact h
def RD{τ:Type}(e:E τ)(Ls:List zJ)(F:List PP)(cs:List Value)(l:List τ): Prop:=∀ A w,zZ A w Ls->uM F (bl Ls++A) w->e.rdL (bl Ls++A) w cs l
def RV{τ:Type}(e:E τ)(Ls:List zJ)(F:List PP)(cs:List Value)(x:τ): Prop:=∀ A w,zZ A w Ls->uM F (bl Ls++A) w->e.rd (bl Ls++A) w cs x
section
variable {P:Program}{n:Nat}{X:Hd qd}{ρ σ:Type}{Q:PQ ρ}{S:Sl}{Ls:List zJ}{F:List PP}{m m1 m2:Option ρ}{os:Array Oper}{l:List Oper}{x y:Operand}{p p':uH}
variable {d t:Nat}{ty ty2:TypeId}{pos pos2:String}{af af2:Array Edge}{g g2:Option (Nat×Bool)}{kd:IntKind}
theorem zA{S':Sl}{l':List Oper}{ob:List Ob}(k:Nat)(hr:z9r os l k S []=some (S',l',ob))(h:J P n X Q (.ops os l') S' Ls F m)
  (hd:(z1f (l.take k)).all (fun d=>Nat.blt d n)=true:=by kernel_rfl) (ho:tY P ob=true:=by kernel_rfl):J P n X Q (.ops os l) S Ls F m :=
 ⟨fun hq r hm a w hs=>(zR7 l k S S' l' [] ob a hs.s hr hd ho fun a' hS=>h.go hq r hm a' w (hs.slot hS)).2⟩
theorem qE{op:Op}(v:Value)(h:J P n X Q (.ops os l) ((d,v)::S) Ls F m)(hv:pv P S op=some v:=by kernel_rfl)(hd:Nat.blt d n=true:=by kernel_rfl)(hg:zR os S g=some true:=by kernel_rfl):
  J P n X Q (.ops os (⟨some d,op,ty,pos,af,g⟩::l)) S Ls F m :=
 ⟨fun hq r hm a w hs=>zOm (v:=v) (w':=w) hg hs.s (zZi hs.s hv _ _ _ _ _ w) (h.go hq r hm _ w (hs.slot (hs.s.put hd v)))⟩
theorem jv{op:Op}{v:Value}(hv:∀ {a:Act},qF a n S->∀ w',(execOp a.eval ⟨some d,op,ty,pos,af,g⟩).run P w'=.ok (.value v) w')(h:J P n X Q (.ops os l) ((d,v)::S) Ls F m)
  (hd:Nat.blt d n=true:=by kernel_rfl) (hg:zR os S g=some true:=by kernel_rfl):J P n X Q (.ops os (⟨some d,op,ty,pos,af,g⟩::l)) S Ls F m :=
 ⟨fun hq r hm a w hs=>sl (z62 hs (hv hs.s) (fun a h'=>h.go hq r hm a w h') hd hg)⟩
theorem qB{s f b o:Nat}(off:Nat)(hx:zL S x=some (pt b o))(h:J P n X Q (.ops os l) ((d,pt b (o+off))::S) Ls F m)
  (hf:zXg P s f=some off:=by kernel_rfl) (hd:Nat.blt d n=true:=by kernel_rfl) (hg:zR os S g=some true:=by kernel_rfl):J P n X Q (.ops os (⟨some d,.fieldAddr s x f,ty,pos,af,g⟩::l)) S Ls F m :=
 ⟨fun hq r hm a w hs=>zOm (w':=w) hg hs.s (zZi hs.s (v:=pt b (o+off)) (by simp[pv,hx,hf]) _ _ _ _ _ w) (h.go hq r hm _ w (hs.slot (hs.s.put hd _)))⟩
theorem qG{b o:Nat}{c:List Value}{te:TypeId}{fr:Nat×Nat}{v:Value}(i:Nat)(hx:zL S x=some (pt b o))(hr:Ls[i]?=some [(b,.cells c.toArray te fr)])(hv:z7w c o some=some v)(h:J P n X Q (.ops os l) ((d,v)::S) Ls F m)
  (ht:vC P t=some (false,1):=by kernel_rfl) (hd:Nat.blt d n=true:=by kernel_rfl) (hg:zR os S g=some true:=by kernel_rfl):J P n X Q (.ops os (⟨some d,.load t x,ty,pos,af,g⟩::l)) S Ls F m :=
 ⟨fun hq r hm a w hs=>sl (zLH i v hs hx hr (fun a h'=>h.go hq r hm a w h') (by
  rw[z0m] at hv
  have hv':c[o]?=some v:=by cases hc:c[o]? <;> simp_all
  have hlt:=(Qf.1 hv').1
  unfold xP
  rw[ht]
  have:Nat.ble (o+1) c.toArray.size=true:=by rw[UL,QS];exact hlt
  simp only[this,Qe,z1K]
  grind [List.drop_eq_getElem_cons,xW]) hd hg)⟩
theorem wQ{b o:Nat}{c:List Value}{te:TypeId}{fr:Nat×Nat}{cs:List Value}(i k:Nat)(hx:zL S x=some (pt b o))(hr:Ls[i]?=some [(b,.cells c.toArray te fr)])(hv:z3a o c (fun l=>z3A k l some)=some cs)(h:J P n X Q (.ops os l) ((d,.agg cs.toArray)::S) Ls F m)
  (ht:vC P t=some (true,k):=by kernel_rfl) (hd:Nat.blt d n=true:=by kernel_rfl) (hg:zR os S g=some true:=by kernel_rfl):J P n X Q (.ops os (⟨some d,.load t x,ty,pos,af,g⟩::l)) S Ls F m :=
 ⟨fun hq r hm a w hs=>sl (zLH i (.agg cs.toArray) hs hx hr (fun a h'=>h.go hq r hm a w h') (by
  obtain⟨h1,h2⟩:=z0k hv
  obtain⟨h3,h4⟩:=z0d h1
  rw[QY] at h4
  unfold xP
  rw[ht]
  have:Nat.ble (o+k) c.toArray.size=true:=by rw[UL];simp;omega
  simp only[this,Qe,z1K,xW]
  grind) hd hg)⟩
section
variable {τ:Type}{e:E τ}{te:TypeId}{r:zJ}{p0:Option Addr}{c k0:Nat}{z:List τ}{ix:Int}
theorem yJ{f:τ->Option ρ}(k:Nat)(hF:yE F k=R e p0 c k0 z)(hx:zL S x=some (.slice p0 k0 c))(hy:zL S y=some (.int kd ix))
  (h:∀ u b o,J P n X Q (.ops os l) ((d,pt b o)::S) Ls (Pt e b o u::F) (f u))
  (ht:wP P t=some e.n:=by kernel_rfl) (hd:Nat.blt d n=true:=by kernel_rfl) (hg:zR os S g=some true:=by kernel_rfl) :
  J P n X Q (.ops os (⟨some d,.indexAddr t x y,ty,pos,af,g⟩::l)) S Ls F ((zB z ix).bind f) :=
 ⟨fun hq r hm a w hs=>by
  obtain⟨u,h1,h2⟩:=uS hm
  exact sl (z6G hs (hF▸hs.g k) hx hy h1 (fun b o a h'=>(h u b o).go hq r h2 a w h') ht hd hg)⟩
theorem yU{b o:Nat}{u:τ}(ag:Bool)(op:uW e)(hP:wL Ls F (Pt e b o u))(hx:zL S x=some (pt b o))
  (h:op.op u [] F fun cs F'=>mkC ag cs fun v=>J P n X Q (.ops os l) ((d,v)::S) Ls F' m) (ht:vC P t=some (ag,e.n):=by kernel_rfl) (hag:ag=true∨e.n=1:=by first | exact .inl rfl | exact .inr rfl)
  (hd:Nat.blt d n=true:=by kernel_rfl) (hg:zR os S g=some true:=by kernel_rfl):J P n X Q (.ops os (⟨some d,.load t x,ty,pos,af,g⟩::l)) S Ls F m :=
 ⟨fun hq r hm a w hs=>sl (z2t ag hs (hP _ _ hs.o hs.f) hx (fun ci hc v hv a h'=>by
  obtain⟨F',h1,h2⟩:=op.spec hc h'.f h
  rw[QA] at h1
  exact(zXN h1 hv).go hq r hm a w ⟨h'.s,h'.o,h'.e,h2⟩) ht hag hd hg)⟩
end
section
variable {τ ω:Type}{e:E τ}{ef:E ω}{te:TypeId}{r:zJ}{p0:Option Addr}{c k0:Nat}{z:List τ}{ix:Int}
theorem jia{f:τ->Option ρ}(k:Nat)(hF:yE F k=Ar e te r p0 c k0 z)(hx:zL S x=some (.slice p0 k0 c))(hy:zL S y=some (.int kd ix))
  (h:∀ u,zB z ix=some u->∀ b o,p0=some ⟨b,o,none⟩->J P n X Q (.ops os l) ((d,pt b (o+ix.toNat*e.n))::S) Ls F (f u))
  (ht:wP P t=some e.n:=by kernel_rfl) (hd:Nat.blt d n=true:=by kernel_rfl) (hg:zR os S g=some true:=by kernel_rfl) :
  J P n X Q (.ops os (⟨some d,.indexAddr t x y,ty,pos,af,g⟩::l)) S Ls F ((zB z ix).bind f) :=
 ⟨fun hq r hm a w hs=>by
  obtain⟨u,h1,h2⟩:=uS hm
  exact sl (z3R hs (hF▸hs.g k) hx hy h1 (fun b o hp a h'=>(h u h1 b o hp).go hq r h2 a w h') ht hd hg)⟩
theorem jlA{b o:Nat}{u:τ}(i k:Nat)(s:xG e ef)(ag:Bool)(op:uW ef)(hF:yE F k=Ar e te r p0 c k0 z)(hp:p0=some ⟨b,o,none⟩)(hm:zB z ix=some u)(hx:zL S x=some (pt b (o+ix.toNat*e.n+s.off)))
  (h:op.op (s.get u) [] F fun cs F'=>mkC ag cs fun v=>J P n X Q (.ops os l) ((d,v)::S) Ls F' m) (hr:Ls[i]?=some r:=by rfl) (ht:vC P t=some (ag,ef.n):=by kernel_rfl) (hag:ag=true∨ef.n=1:=by first | exact .inl rfl | exact .inr rfl)
  (hd:Nat.blt d n=true:=by kernel_rfl) (hg:zR os S g=some true:=by kernel_rfl):J P n X Q (.ops os (⟨some d,.load t x,ty,pos,af,g⟩::l)) S Ls F m :=
 ⟨fun hq r hm' a w hs=>sl (z5a i s ag hs (hF▸hs.g k) hp hm hx (fun ci hc v hv a h'=>by
  obtain⟨F',h1,h2⟩:=op.spec hc h'.f h
  rw[QA] at h1
  exact(zXN h1 hv).go hq r hm' a w ⟨h'.s,h'.o,h'.e,h2⟩) hr ht hag hd hg)⟩
end
section
variable {τ:Type}{e:E τ}{te:TypeId}{r:zJ}{p0:Option Addr}{c k0:Nat}{z:List τ}{i j:Int}{lo hi:Option Operand}{vlo vhi:Option Value}
theorem jsl{f:List τ->Option ρ}(g0:wL Ls F (R e p0 c k0 z))(hx:zL S x=some (.slice p0 k0 c))(hlo:uX S lo=some vlo)(hhi:uX S hi=some vhi)(b1:Bd vlo i 0)(b2:Bd vhi j z.length)
  (h:∀ u p' c',J P n X Q (.ops os l) ((d,sv p' u c')::S) Ls (Rl e p' c' u::F) (f u))
  (ht:wP P t=some e.n:=by kernel_rfl) (hd:Nat.blt d n=true:=by kernel_rfl) (hg:zR os S g=some true:=by kernel_rfl) :
  J P n X Q (.ops os (⟨some d,.slice t x lo hi none,ty,pos,af,g⟩::l)) S Ls F ((sub z i j).bind f) :=
 ⟨fun hq r hm a w hs=>by
  obtain⟨u,h1,h2⟩:=uS hm
  exact sl (z5Q hs (g0 _ _ hs.o hs.f) hx hlo hhi b1 b2 h1 (fun p' c' a h'=>(h u p' c').go hq r h2 a w h') ht hd hg)⟩
theorem jsF{f:List τ->Option ρ}{x2 x3:Operand}{kd2:IntKind}(g0:wL Ls F (R e p0 c k0 z))(hx:zL S x=some (.slice p0 k0 c))(hlo:uX S lo=some vlo)(hhi:zL S x2=some (.int kd j))(hmx:zL S x3=some (.int kd2 j))(b1:Bd vlo i 0)
  (h:∀ u p',J P n X Q (.ops os l) ((d,.slice p' (List.length u) (List.length u))::S) Ls (R e p' (List.length u) (List.length u) u::F) (f u))
  (ht:wP P t=some e.n:=by kernel_rfl) (hd:Nat.blt d n=true:=by kernel_rfl) (hg:zR os S g=some true:=by kernel_rfl) :
  J P n X Q (.ops os (⟨some d,.slice t x lo (some x2) (some x3),ty,pos,af,g⟩::l)) S Ls F ((sub z i j).bind f) :=
 ⟨fun hq r hm a w hs=>by
  obtain⟨u,h1,h2⟩:=uS hm
  exact sl (z26 hs (g0 _ _ hs.o hs.f) hx hlo hhi hmx b1 h1 (fun p' a h'=>(h u p').go hq r h2 a w h') ht hd hg)⟩
theorem jsP{f:List τ->Option ρ}{x2:Operand}(k:Nat)(hF:yE F k=Ar e te r p0 c k0 z)(hx:zL S x=some (.slice p0 k0 c))(hhi:zL S x2=some (.int kd j))
  (h:∀ u,J P n X Q (.ops os l) ((d,sv p0 u c)::S) Ls (Al e te r p0 c u::F) (f u))
  (ht:wP P t=some e.n:=by kernel_rfl) (hd:Nat.blt d n=true:=by kernel_rfl) (hg:zR os S g=some true:=by kernel_rfl) :
  J P n X Q (.ops os (⟨some d,.slice t x none (some x2) none,ty,pos,af,g⟩::l)) S Ls F ((sub z 0 j).bind f) :=
 ⟨fun hq r hm a w hs=>by
  obtain⟨u,h1,h2⟩:=uS hm
  exact sl (z3V hs (hF▸hs.g k) hx hhi h1 (fun a h'=>(h u).go hq r h2 a w h') ht hd hg)⟩
theorem jsE{f:List τ->Option ρ}{x2:Operand}(k:Nat)(hF:yE F k=Ar e te r p0 c k0 z)(hx:zL S x=some (.slice p0 k0 c))(hlo:zL S x2=some (.int kd i))
  (h:∀ u p' c',J P n X Q (.ops os l) ((d,sv p' u c')::S) Ls (Al e te r p' c' u::F) (f u))
  (ht:wP P t=some e.n:=by kernel_rfl) (hd:Nat.blt d n=true:=by kernel_rfl) (hg:zR os S g=some true:=by kernel_rfl) :
  J P n X Q (.ops os (⟨some d,.slice t x (some x2) none none,ty,pos,af,g⟩::l)) S Ls F ((sub z i (z.length:Int)).bind f) :=
 ⟨fun hq r hm a w hs=>by
  obtain⟨u,h1,h2⟩:=uS hm
  exact sl (z3I hs (hF▸hs.g k) hx hlo h1 (fun p' c' a h'=>(h u p' c').go hq r h2 a w h') ht hd hg)⟩
theorem jsV{f:Unit->Option ρ}{x2:Operand}(k:Nat)(hF:yE F k=Ar e te r p0 c k0 z)(hx:zL S x=some (.slice p0 k0 c))(hlo:zL S x2=some (.int kd i))
  (h:∀ u p' c',Vw e.n p0 c k0 i p' (Int.toNat ((k0:Int)-i))->J P n X Q (.ops os l) ((d,.slice p' (Int.toNat ((k0:Int)-i)) c')::S) Ls F (f u))
  (ht:wP P t=some e.n:=by kernel_rfl) (hd:Nat.blt d n=true:=by kernel_rfl) (hg:zR os S g=some true:=by kernel_rfl) :
  J P n X Q (.ops os (⟨some d,.slice t x (some x2) none none,ty,pos,af,g⟩::l)) S Ls F ((vJ (decide (0≤i)&&decide (i≤(z.length:Int)))).bind f) :=
 ⟨fun hq r hm a w hs=>by
  obtain⟨u,h1,h2⟩:=uS hm
  exact sl (z1L hs (hF▸hs.g k) hx hlo h1 (fun p' c' hv a h'=>(h u p' c' hv).go hq r h2 a w h') ht hd hg)⟩
theorem jiV{f:τ->Option ρ}{p1:Option Addr}{m' c':Nat}(k:Nat)(hF:yE F k=Ar e te r p0 c k0 z)(hV:Vw e.n p0 c k0 i p1 m')(hx:zL S x=some (.slice p1 m' c'))(hy:zL S y=some (.int kd j))
  (h:∀ u b o,p0=some ⟨b,o,none⟩->zB z (i+j)=some u->J P n X Q (.ops os l) ((d,pt b (o+(i+j).toNat*e.n))::S) Ls F (f u))
  (ht:wP P t=some e.n:=by kernel_rfl) (hd:Nat.blt d n=true:=by kernel_rfl) (hg:zR os S g=some true:=by kernel_rfl) :
  J P n X Q (.ops os (⟨some d,.indexAddr t x y,ty,pos,af,g⟩::l)) S Ls F ((zZQ z i j).bind f) :=
 ⟨fun hq r hm a w hs=>by
  obtain⟨u,h1,h2⟩:=uS hm
  exact sl (z2k hs (hF▸hs.g k) hV hx hy h1 (fun b o hp hi a h'=>(h u b o hp hi).go hq r h2 a w h') ht hd hg)⟩
end
inductive At (Ls:List zJ): uH->Array Oper->Oper->uH->Prop
 | s {os:Array Oper} {o:Oper} {l:List Oper}:At Ls (.ops os (o::l)) os o (.ops os l)
 | f {os:Array Oper} {o:Oper} {i:Nat} {B J:List Nat} {fuel:Nat} {li:Array Bool} (h:os[i]?=some o):At Ls (.fo i os B J fuel li) os o (.af Ls os B J fuel (li.setIfInBounds i true))
theorem At.run{o:Oper}(h:At Ls p os o p'){A:List Nat}{Q:Exit->Act->World->Prop}{a:Act}{w:World}
  (hs:∀ K:Act->World->Prop,(∀ {a' w' Ls'},zU qd Ls w Ls' w'->p'.go qd P A Ls' Q a' w'->K a' w')->wU P os Q o K a w):p.go qd P A Ls Q a w:=by
 cases h with
 | s=>exact sl (hs _ fun _ h=>h)
 | f hi=>exact⟨o,hi,hs _ fun hE h=>h w hE⟩
theorem wR{v:Value}(at0:At Ls p os ⟨some d,.box t x,ty,pos,af,g⟩ p')(hx:zL S x=some v)(h:∀ b,zSK v fun cs=>tZ Ls (bx b t cs) fun Ls'=>J P n X Q p' ((d,pt b 0)::S) Ls' F m)
  (hd:Nat.blt d n=true:=by kernel_rfl) (hg:zR os S g=some true:=by kernel_rfl):J P n X Q p S Ls F m :=
 ⟨fun hq r hm a w hs=>at0.run fun K hK=>b_box hs hx (fun b a w' h' e=>hK e (by
  have h:=h b
  rw[zXx,zKb] at h
  exact h.go hq r hm a w' (by simp_all))) hd hg⟩
theorem vH (at0:At Ls p os ⟨some d,.alloc t,ty,pos,af,g⟩ p')(v:Value)(h:∀ b,zSK v fun cs=>tZ Ls (bx b t cs) fun Ls'=>J P n X Q p' ((d,pt b 0)::S) Ls' F m)
  (hx:tL P t=some v:=by kernel_rfl) (hd:Nat.blt d n=true:=by kernel_rfl) (hg:zR os S g=some true:=by kernel_rfl):J P n X Q p S Ls F m :=
 ⟨fun hq r hm a w hs=>at0.run fun K hK=>z6Y hs hx (fun b a w' h' e=>hK e (by
  have h:=h b
  rw[zXx,zKb] at h
  exact h.go hq r hm a w' (by simp_all))) hd hg⟩
theorem qU{b o:Nat}{c:List Value}{te:TypeId}{v:Value}(at0:At Ls p os ⟨none,.store t x y,ty,pos,af,g⟩ p')(i:Nat)(hx:zL S x=some (pt b o))(hy:zL S y=some v)(hr:Ls[i]?=some (bx b te c))
  (h:zSK v fun cs=>putC o c cs fun c'=>uT Ls i (bx b te c') fun Ls'=>J P n X Q p' S Ls' F m) (hv:zMT P t c.toArray o v=true:=by kernel_rfl) (hg:zR os S g=some true:=by kernel_rfl):J P n X Q p S Ls F m :=
 ⟨fun hq r hm a w hs=>at0.run fun K hK=>zP8 i hs hx hy hr (fun a w' h' e=>hK e (by
  rw[zXx] at h
  have h:=z4G h
  rw[zJL] at h
  exact h.go hq r hm a w' (by simpa [bx,xR] using h'))) hv hg⟩
section
variable {τ ω:Type}{e:E τ}{ef:E ω}{te:TypeId}{r:zJ}{p0 q:Option Addr}{c k0 c2 k2:Nat}{z z2 u:List τ}{ix:Int}
theorem jsA{b o:Nat}{v:Value}{v0:τ}(at0:At Ls p os ⟨none,.store t x y,ty,pos,af,g⟩ p')(i k:Nat)(s:xG e ef)(nz:ω)(ag:Bool)(hF:yE F k=Ar e te r p0 c k0 z)(hp:p0=some ⟨b,o,none⟩)(hm:zB z ix=some v0)(hx:zL S x=some (pt b (o+ix.toNat*e.n+s.off)))
  (hy:zL S y=some v) (hv:RV ef Ls F v.cells.toList nz)
  (h:∀ r',uT Ls i r' fun Ls'=>J P n X Q p' S Ls' (Ar e te r' p0 c k0 (z.set ix.toNat (s.put v0 nz))::F) m) (hr:Ls[i]?=some r:=by rfl) (ht:vC P t=some (ag,ef.n):=by kernel_rfl) (hg:zR os S g=some true:=by kernel_rfl):J P n X Q p S Ls F m :=
 ⟨fun hq r hm' a w hs=>at0.run fun K hK=>z3U i s nz ag hs (hF▸hs.g k) hp hm hx hy (hv _ _ hs.o hs.f) (fun r' a w' h' e=>hK e (by
  have h:=h r'
  rw[zJL] at h
  exact h.go hq r hm' a w' h')) hr ht hg⟩
end
end
section
variable {P:Program}{n:Nat}{X:Hd qd}{ρ:Type}{Q:PQ ρ}{S S':Sl}{Ls:List zJ}{F:List PP}{m:Option ρ}{l:List Oper}{y:Code}{id:Nat}{ob:List Ob}
theorem jA (k:Nat)(hr:z9r l.toArray l k S []=some (S',[],ob))(h:J P n X Q (.code y) S' Ls F m)
  (hd:(z1f (l.take k)).all (fun d=>Nat.blt d n)=true:=by kernel_rfl) (ho:tY P ob=true:=by kernel_rfl):J P n X Q (.code (.seq (.region id l.toArray false) y)) S Ls F m:=zH (zA k hr (zK h) hd ho)
theorem jB (k:Nat)(hr:z9r l.toArray l k S []=some (S',[],ob))(h:J P n X Q (.ex .normal) S' Ls F m)
  (hd:(z1f (l.take k)).all (fun d=>Nat.blt d n)=true:=by kernel_rfl) (ho:tY P ob=true:=by kernel_rfl):J P n X Q (.code (.region id l.toArray false)) S Ls F m:=vG (zA k hr (wK h) hd ho)
theorem jC{z:Code}(h:J P n X Q (.code z) S Ls F m): J P n X (zTA P z Q) (.code .skip) S Ls F m:=yA (qK h)
end
end Go.GD
