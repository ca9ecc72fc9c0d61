/- A part. Conditions: none. -/
import Derived.Test.YtmpieaddiaihmaaGreatDoorJ3
namespace Go.GD
open Go Go.RowKit
set_option autoImplicit false
variable {qd:Prop}
set_option linter.unusedVariables false
section
variable {P:Program}{n:Nat}{X:Hd qd}{ρ σ:Type}{Q:PQ ρ}{S:Sl}{Ls:List zJ}{F:List PP}{m m1 m2:Option ρ}{os:Array Oper}{l:List Oper}{x y:Operand}{p p':uH}
variable {d t:Nat}{ty ty2:TypeId}{pos pos2:String}{af af2:Array Edge}{g g2:Option (Nat×Bool)}{kd:IntKind}
section
variable {τ ω:Type}{e:E τ}{ef:E ω}{te:TypeId}{r r2:zJ}{p0 q:Option Addr}{c k0 c2 k2:Nat}{z z2 u:List τ}{ix:Int}
theorem uE{f:List τ->Option ρ}(at0:At Ls p os ⟨some d,.call { callee:=.builtin .append,args:=[x,y].toArray,argTypes:=[t,t].toArray },ty,pos,af,g⟩ p')(i k:Nat)(hF:yE F k=Ar e te r p0 c k0 z)(g2:wL Ls F (R e q c2 k2 z2))(hx:zL S x=some (.slice p0 k0 c))(hy:zL S y=some (.slice q k2 c2))
  (h:∀ u r' p1 c',uT Ls i r' fun Ls'=>J P n X Q p' ((d,sv p1 u c')::S) Ls' (Al e te r' p1 c' u::F) (f u)) (hr:Ls[i]?=some r:=by rfl) (ht:yS P t te e.n=true:=by kernel_rfl) (hd:Nat.blt d n=true:=by kernel_rfl) (hg:zR os S g=some true:=by kernel_rfl) :
  J P n X Q p S Ls F ((qD z z2).bind f) :=
 ⟨fun hq r0 hm a w hs=>by
  obtain⟨u,h1,h2⟩:=uS hm
  exact at0.run fun K hK=>z5z i hs (hF▸hs.g k) (g2 _ _ hs.o hs.f) hx hy h1 (fun r' p1 c' a w' h' e=>hK e (by
   have h:=h u r' p1 c'
   rw[zJL] at h
   exact h.go hq r0 h2 a w' h')) hr ht hd hg⟩
theorem jao{f:List τ->Option ρ}(at0:At Ls p os ⟨some d,.call { callee:=.builtin .append,args:=[x,y].toArray,argTypes:=[t,t].toArray },ty,pos,af,g⟩ p')(i j k k':Nat)(hF:yE F k=Ar e te r p0 c k0 z)(hF2:yE F k'=Ar e te r2 q c2 k2 z2)(hx:zL S x=some (.slice p0 k0 c))(hy:zL S y=some (.slice q k2 c2))
  (h:∀ u r' p1 c',uT Ls i r' fun Ls'=>J P n X Q p' ((d,sv p1 u c')::S) Ls' (Al e te r' p1 c' u::F) (f u)) (hr:Ls[i]?=some r:=by rfl) (hr2:Ls[j]?=some r2:=by rfl) (ht:yS P t te e.n=true:=by kernel_rfl) (hd:Nat.blt d n=true:=by kernel_rfl) (hg:zR os S g=some true:=by kernel_rfl) :
  J P n X Q p S Ls F ((qD z z2).bind f) :=
 ⟨fun hq r0 hm a w hs=>by
  obtain⟨u,h1,h2⟩:=uS hm
  exact at0.run fun K hK=>z5U i j hs (hF▸hs.g k) (hF2▸hs.g k') hx hy h1 (fun r' p1 c' a w' h' e=>hK e (by
   have h:=h u r' p1 c'
   rw[zJL] at h
   exact h.go hq r0 h2 a w' h')) hr hr2 ht hd hg⟩
theorem jaf{f:List τ->Option ρ}(at0:At Ls p os ⟨some d,.call { callee:=.builtin .append,args:=[x,y].toArray,argTypes:=[t,t].toArray },ty,pos,af,g⟩ p')(te:TypeId)(g1:wL Ls F (R e p0 k0 k0 z))(g2:wL Ls F (R e q c2 k2 z2))(hx:zL S x=some (.slice p0 k0 k0))(hy:zL S y=some (.slice q k2 c2))
  (h:∀ u p1 c',J P n X Q p' ((d,sv p1 u c')::S) Ls (Rl e p1 c' u::F) (f u)) (ht:yS P t te e.n=true:=by kernel_rfl) (hd:Nat.blt d n=true:=by kernel_rfl) (hg:zR os S g=some true:=by kernel_rfl) :
  J P n X Q p S Ls F ((qD z z2).bind f) :=
 ⟨fun hq r0 hm a w hs=>by
  obtain⟨u,h1,h2⟩:=uS hm
  exact at0.run fun K hK=>z6S hs (g1 _ _ hs.o hs.f) (g2 _ _ hs.o hs.f) hx hy h1 (fun p1 c' a w' h' e=>hK e ((h u p1 c').go hq r0 h2 a w' h')) te ht hd hg⟩
theorem rN:RD e Ls F [] []:=fun _ _ _ _=>rfl
theorem rC{cs:List Value}{x:τ}{l:List τ}(h:RV e Ls F (cs.take e.n) x)(k:RD e Ls F (cs.drop e.n) l): RD e Ls F cs (x::l):=fun A w hO hF=>⟨_,_,(Qu e.n cs).symm,h A w hO hF,k A w hO hF⟩
theorem vI{k:IntKind}{x:Int}: RV (zC k) Ls F [.int k x] x:=fun _ _ _ _=>rfl
theorem vB{x:Bool}: RV zZX Ls F [vb x] x:=fun _ _ _ _=>rfl
theorem vS{x:zG}: RV wB Ls F [vs x] x:=fun _ _ _ _=>rfl
theorem vU:RV eUnit Ls F [] ():=fun _ _ _ _=>rfl
theorem vP{α β:Type}{a:E α}{b:E β}{cs:List Value}{x:α×β}(h:RV a Ls F (cs.take a.n) x.1)(k:RV b Ls F (cs.drop a.n) x.2): RV (wH a b) Ls F cs x:=fun A w hO hF=>⟨_,_,(Qu a.n cs).symm,h A w hO hF,k A w hO hF⟩
theorem vL{c' m':Nat}(h:wL Ls F (R e p0 c' m' z)): RV (qA e) Ls F [.slice p0 m' c'] z:=fun A w hO hF=>R.cell (h A w hO hF)
theorem yI{parts:List (Nat×Operand)}(at0:At Ls p os ⟨some d,.buildSlice t k0 parts.toArray,ty,pos,af,g⟩ p')(te:TypeId)(cs:List Value)(z:List τ)(hrd:RD e Ls F cs z)
  (h:∀ p1 c',J P n X Q p' ((d,sv p1 z c')::S) Ls (Rl e p1 c' z::F) m) (ht:yS P t te e.n=true:=by kernel_rfl) (hc:zLU P S t k0 parts=some cs:=by kernel_rfl) (hl:z.length=k0:=by rfl)
  (hd:Nat.blt d n=true:=by kernel_rfl) (hg:zR os S g=some true:=by kernel_rfl):J P n X Q p S Ls F m :=
 ⟨fun hq r0 hm a w hs=>at0.run fun K hK=>b_bs_rd cs z hs (hrd _ _ hs.o hs.f) (fun p1 c' a w' h' e=>hK e ((h p1 c').go hq r0 hm a w' h')) te ht hc hl hd hg⟩
theorem jbo{parts:List (Nat×Operand)}(at0:At Ls p os ⟨some d,.buildSlice t k0 parts.toArray,ty,pos,af,g⟩ p')(te:TypeId)(cs:List Value)(z:List τ)(hrd:RD e Ls F cs z)
  (h:∀ r' p1 c',tZ Ls r' fun Ls'=>J P n X Q p' ((d,sv p1 z c')::S) Ls' (Al e te r' p1 c' z::F) m) (ht:yS P t te e.n=true:=by kernel_rfl) (hc:zLU P S t k0 parts=some cs:=by kernel_rfl) (hl:z.length=k0:=by rfl) (hm:Nat.ble k0 16777216=true:=by kernel_rfl)
  (hd:Nat.blt d n=true:=by kernel_rfl) (hg:zR os S g=some true:=by kernel_rfl):J P n X Q p S Ls F m :=
 ⟨fun hq r0 hm' a w hs=>at0.run fun K hK=>z90 cs z hs (hrd _ _ hs.o hs.f) (fun r' p1 c' a w' h' e=>hK e (by
  have h:=h r' p1 c'
  rw[zKb] at h
  exact h.go hq r0 hm' a w' h')) ht hc hl hm hd hg⟩
theorem jsb{s t2 te:TypeId}{z:List Int}(at0:At Ls p os ⟨some d,.convert s t2 x,ty,pos,af,g⟩ p')(g1:wL Ls F (R (zC .u8) p0 c k0 z))(hx:zL S x=some (.slice p0 k0 c))(hs:P.underlying s=some (.slice te))(he:P.underlying te=some (.int .u8))(ht:P.underlying t2=some .string)
  (h:J P n X Q p' ((d,vs (zWJ z))::S) Ls F m) (hd:Nat.blt d n=true:=by kernel_rfl) (hg:zR os S g=some true:=by kernel_rfl):J P n X Q p S Ls F m :=
 ⟨fun hq r0 hm a w hS=>at0.run fun K hK=>b_strOf hS (g1 _ _ hS.o hS.f) hx hs he ht (fun a h'=>hK (zU.refl _ _) (h.go hq r0 hm a w h')) hd hg⟩
theorem jcv{p1:Option Addr}{m' c':Nat}{kk:Int}(at0:At Ls p os ⟨none,.call { callee:=.builtin .clear,args:=[x].toArray,argTypes:=[t].toArray },ty,pos,af,g⟩ p')(i k:Nat)(zd:τ)(zv:Value)(hF:yE F k=Ar e te r p0 c k0 z)(hV:Vw e.n p0 c k0 kk p1 m')(hx:zL S x=some (.slice p1 m' c'))(hzr:RV e Ls F zv.cells.toList zd)
  (h:∀ r',uT Ls i r' fun Ls'=>J P n X Q p' S Ls' (Ar e te r' p0 c k0 (zDV z kk zd)::F) m) (hz:tL P te=some zv:=by kernel_rfl) (hr:Ls[i]?=some r:=by rfl) (ht:yS P t te e.n=true:=by kernel_rfl) (hg:zR os S g=some true:=by kernel_rfl):J P n X Q p S Ls F m :=
 ⟨fun hq r0 hm a w hs=>at0.run fun K hK=>z2q i hs (hF▸hs.g k) hV hx hz (hzr _ _ hs.o hs.f) (fun r' a w' h' e=>hK e (by
  have h:=h r'
  rw[zJL] at h
  exact h.go hq r0 hm a w' h')) hr ht hg⟩
def SR (e:E τ)(Ls:List zJ)(F:List PP)(q:Option Addr)(z:List τ)(k:Nat): Prop:=∀ A w,zZ A w Ls->uM F (bl Ls++A) w->Src e (bl Ls++A) w q z∧z.length=k
theorem srR (h:wL Ls F (R e p0 c k0 z)): SR e Ls F p0 z k0:=fun A w hO hF=>R.srcs (h A w hO hF)
theorem srA (i k:Nat)(hF:yE F k=Ar e te r p0 c k0 z)(hr:Ls[i]?=some r:=by rfl): SR e Ls F p0 z k0:=fun A w hO hA=>Ar.srcs (by rw[←hF];exact hA.at k) hO hr
theorem srV (i k:Nat){kk:Int}{m':Nat}(hV:Vw e.n p0 c k0 kk q m')(hF:yE F k=Ar e te r p0 c k0 z)(hr:Ls[i]?=some r:=by rfl): SR e Ls F q (z.drop kk.toNat) m':=fun A w hO hA=>by
 have h:(Ar e te r p0 c k0 z).h (bl Ls++A) w:=by rw[←hF];exact hA.at k
 exact hV.src h.1 h.2.symm hO hr
def VW (e:E τ)(Ls:List zJ)(F:List PP)(p0:Option Addr)(c k0:Nat)(kk:Int)(q:Option Addr)(m':Nat): Prop:=∀ A w,zZ A w Ls->uM F (bl Ls++A) w->Vw e.n p0 c k0 kk q m'
theorem vwV{kk:Int}{m':Nat}(hV:Vw e.n p0 c k0 kk q m'): VW e Ls F p0 c k0 kk q m':=fun _ _ _ _=>hV
theorem vwW (k:Nat)(hF:yE F k=Ar e te r p0 c k0 z): VW e Ls F p0 c k0 0 p0 k0:=fun A w _ hA=>by
 have h:(Ar e te r p0 c k0 z).h (bl Ls++A) w:=by rw[←hF];exact hA.at k
 exact Vw.whole h.1 h.2
theorem jcp{q2:Option Addr}{m' c':Nat}{kk:Int}(at0:At Ls p os ⟨some d,.call { callee:=.builtin .copy,args:=[x,y].toArray,argTypes:=[t,t].toArray },ty,pos,af,g⟩ p')(i k:Nat)(hF:yE F k=Ar e te r p0 c k0 z)(hV:VW e Ls F p0 c k0 kk q m')(hR:SR e Ls F q2 z2 k2)(hx:zL S x=some (.slice q m' c'))(hy:zL S y=some (.slice q2 k2 c2))
  (h:∀ r',uT Ls i r' fun Ls'=>J P n X Q p' ((d,vi ((Nat.min k2 m':Nat):Int))::S) Ls' (Ar e te r' p0 c k0 (xC z kk z2)::F) m) (hr:Ls[i]?=some r:=by rfl) (ht:yS P t te e.n=true:=by kernel_rfl) (hd:Nat.blt d n=true:=by kernel_rfl) (hg:zR os S g=some true:=by kernel_rfl):J P n X Q p S Ls F m :=
 ⟨fun hq r0 hm a w hs=>at0.run fun K hK=>z3G i hs (hF▸hs.g k) (hV _ _ hs.o hs.f) (hR _ _ hs.o hs.f) hx hy (fun r' a w' h' e=>hK e (by
  have h:=h r'
  rw[zJL] at h
  exact h.go hq r0 hm a w' h')) hr ht hd hg⟩
end
section
variable {κ ν:Type}[BEq κ]{kt vt:TypeId}{kv:κ->Value}{vv:ν->Value}{r:zJ}{b:Nat}{z:List (κ×ν)}{k:κ}{v:ν}{x3:Operand}
end
def uH.less (Ls Ls':List zJ): uH->Prop
 | .dr _ _ J _ _=>J.map (Ls'[·]?)=J.map (Ls[·]?)
 | .fo _ _ _ _ _ _=>False
 | .af _ _ _ _ _ _=>False
 | _=>True
theorem uH.less_go{Ls':List zJ}(hl:p.less Ls Ls')(hs:∀ b∈bl Ls',b∈bl Ls){A:List Nat}{Q:Exit->Act->World->Prop}{a:Act}{w:World}{L0:List zJ}{w0:World}
  (h:SS qd A L0 w0 n S Ls' F a w) (k:p.go qd P A Ls' Q a w):p.go qd P A Ls Q a w:=by
 cases p with
 | dr os B J f li=>exact dless h k hs hl
 | fo _ _ _ _ _ _=>exact hl.elim
 | af _ _ _ _ _ _=>exact hl.elim
 | _=>exact k
section
variable {τ:Type}{e:E τ}{te:TypeId}{r:zJ}{p0:Option Addr}{c k0:Nat}{z:List τ}
theorem uI (i k:Nat)(hF:yE F k=Ar e te r p0 c k0 z)(hr:Ls[i]?=some r)(h:uT Ls i [] fun Ls'=>J P n X Q p S Ls' (R e p0 c k0 z::F) m)(hl:uT Ls i [] (fun Ls'=>p.less Ls Ls'):=by first | exact trivial | exact rfl): J P n X Q p S Ls F m :=
 ⟨fun hq r0 hm a w hs=>by
  rw[zJL] at h hl
  have h1:=hs.share i (hF▸hs.g k:(Ar e te r p0 c k0 z).h (bl Ls++X.A) w) hr
  exact uH.less_go hl z9l h1 (h.go hq r0 hm a w h1)⟩
theorem yX (e:E τ)(te:TypeId)(h:tZ Ls [] fun Ls'=>J P n X Q p S Ls' (Ar e te [] none 0 0 []::F) m)(hl:tZ Ls [] (fun Ls'=>p.less Ls Ls'):=by first | exact trivial | exact rfl): J P n X Q p S Ls F m :=
 ⟨fun hq r0 hm a w hs=>by
  rw[zKb] at h hl
  have h1:=hs.room e te
  exact uH.less_go hl z6n h1 (h.go hq r0 hm a w h1)⟩
end
structure zP (qd:Prop)(P:Program)(f:FuncId)(vs:List Value)(L:List zJ)(F:List PP){ρ:Type}(m:Option ρ)(post:ρ->(Value->List zJ->List PP->Prop)->Prop): Prop where
 hf:∀ args w,(callFunc f args).run P w=.ok (.enter f args) w
 go:∀ A w0 r,m=some r->zZ A w0 L->uM F (bl L++A) w0->Calls P f vs.toArray w0 (Ret fun v w=>Ex (post r) fun v1 L1 F1=>v=v1∧Bk qd A L w0 L1 F1 w)
abbrev wO (qd:Prop)(P:Program)(f:FuncId)(vs:List Value)(L:List zJ)(F:List PP){ρ:Type}(m:Option ρ)(post:List zJ->ρ->(Value->List zJ->List PP->Prop)->Prop): Prop:=zP qd P f vs L F m (post L)
def z7s (ls js:List Nat)(L1 Ls:List zJ)(F1 F:List PP)(k:List zJ->List PP->Prop): Prop:=match ls with
 | []=>z4D js L1 Ls fun Ls'=>appC F1 F fun F'=>k Ls' F'
 | _::_=>match F1 with
  | []=>z4D js L1 Ls fun Ls'=>k Ls' F
  | _::_=>False
theorem z9c{ls js:List Nat}{L1:List zJ}{F1:List PP}{A:List Nat}{L0:List zJ}{w0 w w':World}{a':Act}{S':Sl}{kk:List zJ->List PP->Prop}(h:z7s ls js L1 Ls F1 F kk)
  (c:AC qd A L0 w0 n S' Ls F js ls w a' w') (q:Bk qd (Ac A Ls js ls) (uL Ls js) w L1 F1 w') (hk:z4B (js++ls) Ls.length=true):∃ Ls' F',kk Ls' F'∧SS qd A L0 w0 n S' Ls' F' a' w'∧zU qd Ls w Ls' w':=by
 cases ls with
 | nil =>
  obtain⟨hl,h⟩:=zVH h
  rw[z3c] at h
  exact⟨_,_,h,c.on q _ hk hl rfl (.inl rfl),c.st q _ hk hl rfl⟩
 | cons a ls =>
  cases F1 with
  | cons f F1=>exact h.elim
  | nil =>
   obtain⟨hl,h⟩:=zVH h
   exact⟨_,_,h,c.on q _ hk hl rfl (.inr rfl),c.st q _ hk hl rfl⟩
theorem qL{fd:FuncId}{cal:Operand}{xs:List Operand}{bs0 caps:List Value}{ats:Array TypeId}{us vs:List Value}{L:List zJ}{F1:List PP}{m1:Option σ}{post:σ->(Value->List zJ->List PP->Prop)->Prop}{f:σ->Option ρ}
  (at0:At Ls p os ⟨some d,.call { callee:=.value cal,args:=xs.toArray,argTypes:=ats },ty,pos,af,g⟩ p') (js ls:List Nat) (c:zP qd P fd vs L F1 m1 post) (hcal:zL S cal=some (.func (.func fd) bs0.toArray caps.toArray)) (hx:z4b S xs=some us) (hv:bs0++us++caps=vs)
  (hF:xE (OKc Ls F js ls) F1) (h:∀ r K,(∀ {v L1 F1},z7s ls js L1 Ls F1 F (fun Ls' F'=>J P n X Q p' ((d,v)::S) Ls' F' (f r))->K v L1 F1)->post r K)
  (hL:uL Ls js=L:=by rfl) (hk:z4B (js++ls) Ls.length=true:=by kernel_rfl) (hd:Nat.blt d n=true:=by kernel_rfl) (hg:zR os S g=some true:=by kernel_rfl):J P n X Q p S Ls F (m1.bind f) :=
 ⟨fun hq r0 hm a w hs=>by
  obtain⟨r,h1,h2⟩:=uS hm
  subst hL hv
  refine at0.run fun K hK=>b_call js ls hs c.hf hcal hx (c.go _ _ _ h1 (hs.po js ls hk) (xE.all (fun _ hf=>hf _ _ hs.o hs.f) hF)) (fun v a' w' hR hc=>?_) hd hg
  refine hR _ (h r _ ?_)
  rintro v1 L1 F1 hj ⟨rfl,q⟩
  obtain⟨Ls',F',k1,k2,k3⟩:=z9c hj hc q hk
  exact hK k3 (k1.go hq r0 h2 a' w' k2)⟩
theorem wF{fd:FuncId}{xs:List Operand}{ats:Array TypeId}{vs:List Value}{F1:List PP}{m1:Option σ}{post:σ->(Value->List zJ->List PP->Prop)->Prop}{f:σ->Option ρ}
  (c:zP qd P fd vs [] F1 m1 post) (hx:z4b S xs=some vs)
  (hF:xE (OKc Ls F [] []) F1) (h:∀ r K,(∀ {v L1 F1},z7s [] [] L1 Ls F1 F (fun Ls' F'=>J P n X Q (.ops os l) ((d,v)::S) Ls' F' (f r))->K v L1 F1)->post r K)
  (hd:Nat.blt d n=true:=by kernel_rfl) (hg:zR os S g=some true:=by kernel_rfl):J P n X Q (.ops os (⟨some d,.call { callee:=.value (.func fd),args:=xs.toArray,argTypes:=ats },ty,pos,af,g⟩::l)) S Ls F (m1.bind f) :=
 qL (bs0:=[]) (caps:=[]) .s [] [] c rfl hx (QA vs) hF h rfl rfl hd hg
theorem zN{fd:FuncId}{fn:Func}{c:Code}{vs:List Value}{L:List zJ}{m1:Option σ}{post:σ->(Value->List zJ->List PP->Prop)->Prop}(hc:∀ args w,(callFunc fd args).run P w=.ok (.enter fd args) w)(hf:P.funcs[fd]?=some fn)(hb:fn.body=some c)
  (h:∀ X:Hd qd,J P fn.ntmps X (zWW P fn X post) (.code c) (zPM vs 0) L F m1) (hn:Nat.ble vs.length fn.ntmps=true:=by kernel_rfl):zP qd P fd vs L F m1 post :=
 ⟨hc,fun A w0 r hm hO hF=>ent hf hb hO hF (fun a hs=>(h ⟨A,L,w0⟩).go zWW.np r hm a w0 hs) hn⟩
theorem zVr{fd:FuncId}{vs:List Value}{L:List zJ}{M:Nat->Option σ}{post:σ->(Value->List zJ->List PP->Prop)->Prop}(h:∀ k,zP qd P fd vs L F (M k) post): zP qd P fd vs L F (z4n M) post :=
 ⟨(h 0).hf,fun A w0 r hm=>by obtain⟨k,hk⟩:=z73 hm;exact(h k).go A w0 r hk⟩
theorem z9x{fd:FuncId}{vs:List Value}{L:List zJ}{post:σ->(Value->List zJ->List PP->Prop)->Prop}(hc:∀ args w,(callFunc fd args).run P w=.ok (.enter fd args) w): zP qd P fd vs L F none post:=⟨hc,fun _ _ _ hm=>nomatch hm⟩
theorem yB{fn:Func}{post:ρ->(Value->List zJ->List PP->Prop)->Prop}{r:ρ}{v v1:Value}{L1:List zJ}{F1:List PP}(hf:fn.results=#[.tmp t])(hv:vE S t=some v)(hk:∀ K,post r K->K v1 L1 F1)(js:List Nat)(hF:xE (wL Ls F) F1)
  (he:v=v1:=by first | rfl | (simp only[sv,UB] <;> rfl)) (hL:uL Ls js=L1:=by rfl) (hn:js.Nodup:=by decide):J P n X (zWW P fn X post) (.ex .ret) S Ls F (some r) :=
 ⟨fun _ r0 hm a w hs=>by
  cases hm
  subst hL he
  exact rt1 hs hf hv fun G hG=>hk _ hG ⟨rfl,bk_sel hs js (xE.all (fun _ hf=>hf _ _ hs.o hs.f) hF) hn⟩⟩
def RL (P:Program)(S:Sl)(Ls:List zJ)(rs:List ResultVar)(vs:List Value): Prop:=∀ {qd A L0 w0 n F a w},SS qd A L0 w0 n S Ls F a w->z4h P S w rs vs
theorem lN:RL P S Ls [] []:=fun _=>resN
theorem lT{v:Value}{rs:List ResultVar}{vs:List Value}(h:vE S t=some v)(k:RL P S Ls rs vs): RL P S Ls (.tmp t::rs) (v::vs):=fun hs=>resT h (k hs)
theorem lC{b:Nat}{c:Array Value}{te:TypeId}{fr:Nat×Nat}{rs:List ResultVar}{vs:List Value}(i:Nat)(v:Value)(hl:vE S t=some (pt b 0))(hr:Ls[i]?=some [(b,.cells c te fr)])(k:RL P S Ls rs vs)(hv:xP P ty c 0=some v:=by kernel_rfl): RL P S Ls (.cell t ty::rs) (v::vs) :=
 fun hs=>rtc i hs hl hr (k hs) hv
theorem yD{fn:Func}{rs:List ResultVar}{vs:List Value}{post:ρ->(Value->List zJ->List PP->Prop)->Prop}{r:ρ}{v1:Value}{L1:List zJ}{F1:List PP}(hf:fn.results=rs.toArray)(hr:RL P S Ls rs vs)(hk:∀ K,post r K->K v1 L1 F1)(js:List Nat)(hF:xE (wL Ls F) F1)
  (he:(if h:vs.length=1 then vs[0] else .tuple vs.toArray)=v1:=by first | rfl | (simp only[sv,UB] <;> rfl)) (hL:uL Ls js=L1:=by rfl) (hn:js.Nodup:=by decide):J P n X (zWW P fn X post) (.ex .ret) S Ls F (some r) :=
 ⟨fun _ r0 hm a w hs=>by
  cases hm
  subst hL he
  exact rtg hs hf (hr hs) fun G hG=>hk _ hG ⟨rfl,bk_sel hs js (xE.all (fun _ hf=>hf _ _ hs.o hs.f) hF) hn⟩⟩
theorem jrn{fn:Func}{post:ρ->(Value->List zJ->List PP->Prop)->Prop}(h:J P n X (zWW P fn X post) (.ex .ret) S Ls F m): J P n X (zWW P fn X post) (.ex .normal) S Ls F m :=
 ⟨fun hq r hm a w hs=>h.go hq r hm a w hs⟩
end
end Go.GD
