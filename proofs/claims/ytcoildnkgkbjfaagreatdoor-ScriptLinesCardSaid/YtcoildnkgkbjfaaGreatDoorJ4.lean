/- A part. Conditions: none. -/
import Derived.Test.YtcoildnkgkbjfaaGreatDoorJ3
namespace Go.GD
open Go Go.RowKit
set_option autoImplicit false
variable {qd:Prop}
set_option linter.unusedVariables false
section
variable {P:Program}{n:Nat}{X:Hd qd}{ρ σ:Type}{Q:PQ ρ}{S:Sl}{Ls:List zH}{F:List PP}{m m1 m2:Option ρ}{os:Array Oper}{l:List Oper}{x y:Operand}{p p':yY}
variable {d t:Nat}{ty ty2:TypeId}{pos pos2:String}{af af2:Array Edge}{g g2:Option (Nat×Bool)}{kd:IntKind}
section
variable {τ ω:Type}{e:E τ}{ef:E ω}{te:TypeId}{r r2:zH}{p0 q:Option Addr}{c k0 c2 k2:Nat}{z z2 u:List τ}{ix:Int}
theorem vK{f:List τ->Option ρ}(at0:At Ls p os ⟨some d,.call { callee:=.builtin .append,args:=[x,y].toArray,argTypes:=[t,t].toArray },ty,pos,af,g⟩ p')(i k:Nat)(hF:uL F k=Ar e te r p0 c k0 z)(g2:wZ Ls F (R e q c2 k2 z2))(hx:zP S x=some (.slice p0 k0 c))(hy:zP S y=some (.slice q k2 c2))
  (h:∀ u r' p1 c',zRP Ls i r' fun Ls'=>J P n X Q p' ((d,sv p1 u c')::S) Ls' (Al e te r' p1 c' u::F) (f u)) (hr:Ls[i]?=some r:=by rfl) (ht:xL P t te e.n=true:=by kernel_rfl) (hd:Nat.blt d n=true:=by kernel_rfl) (hg:qC os S g=some true:=by kernel_rfl) :
  J P n X Q p S Ls F ((qT z z2).bind f) :=
 ⟨fun hq r0 hm a w hs=>by
  obtain⟨u,h1,h2⟩:=bnd hm
  exact at0.run fun K hK=>z00 i hs (hF▸hs.g k) (g2 _ _ hs.o hs.f) hx hy h1 (fun r' p1 c' a w' h' e=>hK e (by
   have h:=h u r' p1 c'
   rw[zHB] at h
   exact h.go hq r0 h2 a w' h')) hr ht hd hg⟩
theorem jao{f:List τ->Option ρ}(at0:At Ls p os ⟨some d,.call { callee:=.builtin .append,args:=[x,y].toArray,argTypes:=[t,t].toArray },ty,pos,af,g⟩ p')(i j k k':Nat)(hF:uL F k=Ar e te r p0 c k0 z)(hF2:uL F k'=Ar e te r2 q c2 k2 z2)(hx:zP S x=some (.slice p0 k0 c))(hy:zP S y=some (.slice q k2 c2))
  (h:∀ u r' p1 c',zRP Ls i r' fun Ls'=>J P n X Q p' ((d,sv p1 u c')::S) Ls' (Al e te r' p1 c' u::F) (f u)) (hr:Ls[i]?=some r:=by rfl) (hr2:Ls[j]?=some r2:=by rfl) (ht:xL P t te e.n=true:=by kernel_rfl) (hd:Nat.blt d n=true:=by kernel_rfl) (hg:qC os S g=some true:=by kernel_rfl) :
  J P n X Q p S Ls F ((qT z z2).bind f) :=
 ⟨fun hq r0 hm a w hs=>by
  obtain⟨u,h1,h2⟩:=bnd hm
  exact at0.run fun K hK=>z0A i j hs (hF▸hs.g k) (hF2▸hs.g k') hx hy h1 (fun r' p1 c' a w' h' e=>hK e (by
   have h:=h u r' p1 c'
   rw[zHB] at h
   exact h.go hq r0 h2 a w' h')) hr hr2 ht hd hg⟩
theorem jaf{f:List τ->Option ρ}(at0:At Ls p os ⟨some d,.call { callee:=.builtin .append,args:=[x,y].toArray,argTypes:=[t,t].toArray },ty,pos,af,g⟩ p')(te:TypeId)(g1:wZ Ls F (R e p0 k0 k0 z))(g2:wZ Ls F (R e q c2 k2 z2))(hx:zP S x=some (.slice p0 k0 k0))(hy:zP S y=some (.slice q k2 c2))
  (h:∀ u p1 c',J P n X Q p' ((d,sv p1 u c')::S) Ls (Rl e p1 c' u::F) (f u)) (ht:xL P t te e.n=true:=by kernel_rfl) (hd:Nat.blt d n=true:=by kernel_rfl) (hg:qC os S g=some true:=by kernel_rfl) :
  J P n X Q p S Ls F ((qT z z2).bind f) :=
 ⟨fun hq r0 hm a w hs=>by
  obtain⟨u,h1,h2⟩:=bnd hm
  exact at0.run fun K hK=>z0T hs (g1 _ _ hs.o hs.f) (g2 _ _ hs.o hs.f) hx hy h1 (fun p1 c' a w' h' e=>hK e ((h u p1 c').go hq r0 h2 a w' h')) te ht hd hg⟩
theorem rN:RD e Ls F [] []:=fun _ _ _ _=>rfl
theorem rC{cs:List Value}{x:τ}{l:List τ}(h:RV e Ls F (cs.take e.n) x)(k:RD e Ls F (cs.drop e.n) l): RD e Ls F cs (x::l):=fun A w hO hF=>⟨_,_,(QC e.n cs).symm,h A w hO hF,k A w hO hF⟩
theorem vI{k:IntKind}{x:Int}: RV (zR k) Ls F [.int k x] x:=fun _ _ _ _=>rfl
theorem vB{x:Bool}: RV zH8 Ls F [vb x] x:=fun _ _ _ _=>rfl
theorem vS{x:zA}: RV wD Ls F [vs x] x:=fun _ _ _ _=>rfl
theorem vU:RV z6e Ls F [] ():=fun _ _ _ _=>rfl
theorem vP{α β:Type}{a:E α}{b:E β}{cs:List Value}{x:α×β}(h:RV a Ls F (cs.take a.n) x.1)(k:RV b Ls F (cs.drop a.n) x.2): RV (qM a b) Ls F cs x:=fun A w hO hF=>⟨_,_,(QC a.n cs).symm,h A w hO hF,k A w hO hF⟩
theorem vL{c' m':Nat}(h:wZ Ls F (R e p0 c' m' z)): RV (wJ e) Ls F [.slice p0 m' c'] z:=fun A w hO hF=>R.cell (h A w hO hF)
theorem uR{parts:List (Nat×Operand)}(at0:At Ls p os ⟨some d,.buildSlice t k0 parts.toArray,ty,pos,af,g⟩ p')(te:TypeId)(cs:List Value)(z:List τ)(hrd:RD e Ls F cs z)
  (h:∀ p1 c',J P n X Q p' ((d,sv p1 z c')::S) Ls (Rl e p1 c' z::F) m) (ht:xL P t te e.n=true:=by kernel_rfl) (hc:zJ5 P S t k0 parts=some cs:=by kernel_rfl) (hl:z.length=k0:=by rfl)
  (hd:Nat.blt d n=true:=by kernel_rfl) (hg:qC os S g=some true:=by kernel_rfl):J P n X Q p S Ls F m :=
 ⟨fun hq r0 hm a w hs=>at0.run fun K hK=>z6N cs z hs (hrd _ _ hs.o hs.f) (fun p1 c' a w' h' e=>hK e ((h p1 c').go hq r0 hm a w' h')) te ht hc hl hd hg⟩
theorem xK{parts:List (Nat×Operand)}(at0:At Ls p os ⟨some d,.buildSlice t k0 parts.toArray,ty,pos,af,g⟩ p')(te:TypeId)(cs:List Value)(z:List τ)(hrd:RD e Ls F cs z)
  (h:∀ r' p1 c',zM8 Ls r' fun Ls'=>J P n X Q p' ((d,sv p1 z c')::S) Ls' (Al e te r' p1 c' z::F) m) (ht:xL P t te e.n=true:=by kernel_rfl) (hc:zJ5 P S t k0 parts=some cs:=by kernel_rfl) (hl:z.length=k0:=by rfl) (hm:Nat.ble k0 16777216=true:=by kernel_rfl)
  (hd:Nat.blt d n=true:=by kernel_rfl) (hg:qC os S g=some true:=by kernel_rfl):J P n X Q p S Ls F m :=
 ⟨fun hq r0 hm' a w hs=>at0.run fun K hK=>z48 cs z hs (hrd _ _ hs.o hs.f) (fun r' p1 c' a w' h' e=>hK e (by
  have h:=h r' p1 c'
  rw[zIG] at h
  exact h.go hq r0 hm' a w' h')) ht hc hl hm hd hg⟩
theorem jsb{s t2 te:TypeId}{z:List Int}(at0:At Ls p os ⟨some d,.convert s t2 x,ty,pos,af,g⟩ p')(g1:wZ Ls F (R (zR .u8) p0 c k0 z))(hx:zP S x=some (.slice p0 k0 c))(hs:P.underlying s=some (.slice te))(he:P.underlying te=some (.int .u8))(ht:P.underlying t2=some .string)
  (h:J P n X Q p' ((d,vs (zKH z))::S) Ls F m) (hd:Nat.blt d n=true:=by kernel_rfl) (hg:qC os S g=some true:=by kernel_rfl):J P n X Q p S Ls F m :=
 ⟨fun hq r0 hm a w hS=>at0.run fun K hK=>z6c hS (g1 _ _ hS.o hS.f) hx hs he ht (fun a h'=>hK (zZ.refl _ _) (h.go hq r0 hm a w h')) hd hg⟩
def SR (e:E τ)(Ls:List zH)(F:List PP)(q:Option Addr)(z:List τ)(k:Nat): Prop:=∀ A w,qF A w Ls->xA F (bl Ls++A) w->Src e (bl Ls++A) w q z∧z.length=k
theorem srV (i k:Nat){kk:Int}{m':Nat}(hV:Vw e.n p0 c k0 kk q m')(hF:uL F k=Ar e te r p0 c k0 z)(hr:Ls[i]?=some r:=by rfl): SR e Ls F q (z.drop kk.toNat) m':=fun A w hO hA=>by
 have h:(Ar e te r p0 c k0 z).h (bl Ls++A) w:=by rw[←hF];exact hA.at k
 exact hV.src h.1 h.2.symm hO hr
def VW (e:E τ)(Ls:List zH)(F:List PP)(p0:Option Addr)(c k0:Nat)(kk:Int)(q:Option Addr)(m':Nat): Prop:=∀ A w,qF A w Ls->xA F (bl Ls++A) w->Vw e.n p0 c k0 kk q m'
theorem vwV{kk:Int}{m':Nat}(hV:Vw e.n p0 c k0 kk q m'): VW e Ls F p0 c k0 kk q m':=fun _ _ _ _=>hV
theorem jcp{q2:Option Addr}{m' c':Nat}{kk:Int}(at0:At Ls p os ⟨some d,.call { callee:=.builtin .copy,args:=[x,y].toArray,argTypes:=[t,t].toArray },ty,pos,af,g⟩ p')(i k:Nat)(hF:uL F k=Ar e te r p0 c k0 z)(hV:VW e Ls F p0 c k0 kk q m')(hR:SR e Ls F q2 z2 k2)(hx:zP S x=some (.slice q m' c'))(hy:zP S y=some (.slice q2 k2 c2))
  (h:∀ r',zRP Ls i r' fun Ls'=>J P n X Q p' ((d,vi ((Nat.min k2 m':Nat):Int))::S) Ls' (Ar e te r' p0 c k0 (zIs z kk z2)::F) m) (hr:Ls[i]?=some r:=by rfl) (ht:xL P t te e.n=true:=by kernel_rfl) (hd:Nat.blt d n=true:=by kernel_rfl) (hg:qC os S g=some true:=by kernel_rfl):J P n X Q p S Ls F m :=
 ⟨fun hq r0 hm a w hs=>at0.run fun K hK=>zYQ i hs (hF▸hs.g k) (hV _ _ hs.o hs.f) (hR _ _ hs.o hs.f) hx hy (fun r' a w' h' e=>hK e (by
  have h:=h r'
  rw[zHB] at h
  exact h.go hq r0 hm a w' h')) hr ht hd hg⟩
end
section
variable {κ ν:Type}[BEq κ]{kt vt:TypeId}{kv:κ->Value}{vv:ν->Value}{r:zH}{b:Nat}{z:List (κ×ν)}{k:κ}{v:ν}{x3:Operand}
theorem jmm{rs:Option Operand}{rv:Option Value}(at0:At Ls p os ⟨some d,.makeMap t rs,ty,pos,af,g⟩ p')(kv:κ->Value)(vv:ν->Value)(H:zPZ P t kt vt kv)(hr:zQv S rs=some rv)(hi:rv=none∨∃ kd i,rv=some (.int kd i))
  (h:∀ b r',zM8 Ls r' fun Ls'=>J P n X Q p' ((d,.map (some b))::S) Ls' (Ma kv vv r' b []::F) m) (hd:Nat.blt d n=true:=by kernel_rfl) (hg:qC os S g=some true:=by kernel_rfl):J P n X Q p S Ls F m :=
 ⟨fun hq r0 hm a w hs=>at0.run fun K hK=>z3a kv vv hs H hr hi (fun b r' a w' h' e=>hK e (by
  have h:=h b r'
  rw[zIG] at h
  exact h.go hq r0 hm a w' h')) hd hg⟩
end
def yY.less (Ls Ls':List zH): yY->Prop
 | .dr _ _ J _ _=>J.map (Ls'[·]?)=J.map (Ls[·]?)
 | .fo _ _ _ _ _ _=>False
 | .af _ _ _ _ _ _=>False
 | _=>True
theorem yY.less_go{Ls':List zH}(hl:p.less Ls Ls')(hs:∀ b∈bl Ls',b∈bl Ls){A:List Nat}{Q:Exit->Act->World->Prop}{a:Act}{w:World}{L0:List zH}{w0:World}
  (h:SS qd A L0 w0 n S Ls' F a w) (k:p.go qd P A Ls' Q a w):p.go qd P A Ls Q a w:=by
 cases p with
 | dr os B J f li=>exact dless h k hs hl
 | fo _ _ _ _ _ _=>exact hl.elim
 | af _ _ _ _ _ _=>exact hl.elim
 | _=>exact k
section
variable {τ:Type}{e:E τ}{te:TypeId}{r:zH}{p0:Option Addr}{c k0:Nat}{z:List τ}
theorem wW (i k:Nat)(hF:uL F k=Ar e te r p0 c k0 z)(hr:Ls[i]?=some r)(h:zRP Ls i [] fun Ls'=>J P n X Q p S Ls' (R e p0 c k0 z::F) m)(hl:zRP Ls i [] (fun Ls'=>p.less Ls Ls'):=by first | exact trivial | exact rfl): J P n X Q p S Ls F m :=
 ⟨fun hq r0 hm a w hs=>by
  rw[zHB] at h hl
  have h1:=hs.share i (hF▸hs.g k:(Ar e te r p0 c k0 z).h (bl Ls++X.A) w) hr
  exact yY.less_go hl z4C h1 (h.go hq r0 hm a w h1)⟩
theorem yO (e:E τ)(te:TypeId)(h:zM8 Ls [] fun Ls'=>J P n X Q p S Ls' (Ar e te [] none 0 0 []::F) m)(hl:zM8 Ls [] (fun Ls'=>p.less Ls Ls'):=by first | exact trivial | exact rfl): J P n X Q p S Ls F m :=
 ⟨fun hq r0 hm a w hs=>by
  rw[zIG] at h hl
  have h1:=hs.room e te
  exact yY.less_go hl z1L h1 (h.go hq r0 hm a w h1)⟩
end
structure zN (qd:Prop)(P:Program)(f:FuncId)(vs:List Value)(L:List zH)(F:List PP){ρ:Type}(m:Option ρ)(post:ρ->(Value->List zH->List PP->Prop)->Prop): Prop where
 hf:∀ args w,(callFunc f args).run P w=.ok (.enter f args) w
 go:∀ A w0 r,m=some r->qF A w0 L->xA F (bl L++A) w0->Calls P f vs.toArray w0 (Ret fun v w=>Ex (post r) fun v1 L1 F1=>v=v1∧Bk qd A L w0 L1 F1 w)
abbrev CoL (qd:Prop)(P:Program)(f:FuncId)(vs:List Value)(L:List zH)(F:List PP){ρ:Type}(m:Option ρ)(post:List zH->ρ->(Value->List zH->List PP->Prop)->Prop): Prop:=zN qd P f vs L F m (post L)
def z1N (ls js:List Nat)(L1 Ls:List zH)(F1 F:List PP)(k:List zH->List PP->Prop): Prop:=match ls with
 | []=>zX8 js L1 Ls fun Ls'=>z6u F1 F fun F'=>k Ls' F'
 | _::_=>match F1 with
  | []=>zX8 js L1 Ls fun Ls'=>k Ls' F
  | _::_=>False
theorem z4G{ls js:List Nat}{L1:List zH}{F1:List PP}{A:List Nat}{L0:List zH}{w0 w w':World}{a':Act}{S':Sl}{kk:List zH->List PP->Prop}(h:z1N ls js L1 Ls F1 F kk)
  (c:AC qd A L0 w0 n S' Ls F js ls w a' w') (q:Bk qd (Ac A Ls js ls) (uT Ls js) w L1 F1 w') (hk:zZe (js++ls) Ls.length=true):∃ Ls' F',kk Ls' F'∧SS qd A L0 w0 n S' Ls' F' a' w'∧zZ qd Ls w Ls' w':=by
 cases ls with
 | nil =>
  obtain⟨hl,h⟩:=zPf h
  rw[zYF] at h
  exact⟨_,_,h,c.on q _ hk hl rfl (.inl rfl),c.st q _ hk hl rfl⟩
 | cons a ls =>
  cases F1 with
  | cons f F1=>exact h.elim
  | nil =>
   obtain⟨hl,h⟩:=zPf h
   exact⟨_,_,h,c.on q _ hk hl rfl (.inr rfl),c.st q _ hk hl rfl⟩
theorem qA{fd:FuncId}{cal:Operand}{xs:List Operand}{bs0 caps:List Value}{ats:Array TypeId}{us vs:List Value}{L:List zH}{F1:List PP}{m1:Option σ}{post:σ->(Value->List zH->List PP->Prop)->Prop}{f:σ->Option ρ}
  (at0:At Ls p os ⟨some d,.call { callee:=.value cal,args:=xs.toArray,argTypes:=ats },ty,pos,af,g⟩ p') (js ls:List Nat) (c:zN qd P fd vs L F1 m1 post) (hcal:zP S cal=some (.func (.func fd) bs0.toArray caps.toArray)) (hx:zZR S xs=some us) (hv:bs0++us++caps=vs)
  (hF:xT (OKc Ls F js ls) F1) (h:∀ r K,(∀ {v L1 F1},z1N ls js L1 Ls F1 F (fun Ls' F'=>J P n X Q p' ((d,v)::S) Ls' F' (f r))->K v L1 F1)->post r K)
  (hL:uT Ls js=L:=by rfl) (hk:zZe (js++ls) Ls.length=true:=by kernel_rfl) (hd:Nat.blt d n=true:=by kernel_rfl) (hg:qC os S g=some true:=by kernel_rfl):J P n X Q p S Ls F (m1.bind f) :=
 ⟨fun hq r0 hm a w hs=>by
  obtain⟨r,h1,h2⟩:=bnd hm
  subst hL hv
  refine at0.run fun K hK=>b_call js ls hs c.hf hcal hx (c.go _ _ _ h1 (hs.po js ls hk) (xT.all (fun _ hf=>hf _ _ hs.o hs.f) hF)) (fun v a' w' hR hc=>?_) hd hg
  refine hR _ (h r _ ?_)
  rintro v1 L1 F1 hj ⟨rfl,q⟩
  obtain⟨Ls',F',k1,k2,k3⟩:=z4G hj hc q hk
  exact hK k3 (k1.go hq r0 h2 a' w' k2)⟩
theorem wG{fd:FuncId}{xs:List Operand}{ats:Array TypeId}{vs:List Value}{F1:List PP}{m1:Option σ}{post:σ->(Value->List zH->List PP->Prop)->Prop}{f:σ->Option ρ}
  (c:zN qd P fd vs [] F1 m1 post) (hx:zZR S xs=some vs)
  (hF:xT (OKc Ls F [] []) F1) (h:∀ r K,(∀ {v L1 F1},z1N [] [] L1 Ls F1 F (fun Ls' F'=>J P n X Q (.ops os l) ((d,v)::S) Ls' F' (f r))->K v L1 F1)->post r K)
  (hd:Nat.blt d n=true:=by kernel_rfl) (hg:qC os S g=some true:=by kernel_rfl):J P n X Q (.ops os (⟨some d,.call { callee:=.value (.func fd),args:=xs.toArray,argTypes:=ats },ty,pos,af,g⟩::l)) S Ls F (m1.bind f) :=
 qA (bs0:=[]) (caps:=[]) .s [] [] c rfl hx (QJ vs) hF h rfl rfl hd hg
theorem zS{fd:FuncId}{fn:Func}{c:Code}{vs:List Value}{L:List zH}{m1:Option σ}{post:σ->(Value->List zH->List PP->Prop)->Prop}(hc:∀ args w,(callFunc fd args).run P w=.ok (.enter fd args) w)(hf:P.funcs[fd]?=some fn)(hb:fn.body=some c)
  (h:∀ X:Hd qd,J P fn.ntmps X (zRB P fn X post) (.code c) (zKQ vs 0) L F m1) (hn:Nat.ble vs.length fn.ntmps=true:=by kernel_rfl):zN qd P fd vs L F m1 post :=
 ⟨hc,fun A w0 r hm hO hF=>ent hf hb hO hF (fun a hs=>(h ⟨A,L,w0⟩).go zRB.np r hm a w0 hs) hn⟩
theorem uO{fd:FuncId}{vs:List Value}{L:List zH}{M:Nat->Option σ}{post:σ->(Value->List zH->List PP->Prop)->Prop}(h:∀ k,zN qd P fd vs L F (M k) post): zN qd P fd vs L F (yH M) post :=
 ⟨(h 0).hf,fun A w0 r hm=>by obtain⟨k,hk⟩:=z2H hm;exact(h k).go A w0 r hk⟩
theorem uP{fd:FuncId}{vs:List Value}{L:List zH}{post:σ->(Value->List zH->List PP->Prop)->Prop}(hc:∀ args w,(callFunc fd args).run P w=.ok (.enter fd args) w): zN qd P fd vs L F none post:=⟨hc,fun _ _ _ hm=>nomatch hm⟩
theorem xJ{fn:Func}{post:ρ->(Value->List zH->List PP->Prop)->Prop}{r:ρ}{v v1:Value}{L1:List zH}{F1:List PP}(hf:fn.results=#[.tmp t])(hv:vG S t=some v)(hk:∀ K,post r K->K v1 L1 F1)(js:List Nat)(hF:xT (wZ Ls F) F1)
  (he:v=v1:=by first | rfl | (simp only[sv,Uy] <;> rfl)) (hL:uT Ls js=L1:=by rfl) (hn:js.Nodup:=by decide):J P n X (zRB P fn X post) (.ex .ret) S Ls F (some r) :=
 ⟨fun _ r0 hm a w hs=>by
  cases hm
  subst hL he
  exact rt1 hs hf hv fun G hG=>hk _ hG ⟨rfl,z5l hs js (xT.all (fun _ hf=>hf _ _ hs.o hs.f) hF) hn⟩⟩
def RL (P:Program)(S:Sl)(Ls:List zH)(rs:List ResultVar)(vs:List Value): Prop:=∀ {qd A L0 w0 n F a w},SS qd A L0 w0 n S Ls F a w->zZN P S w rs vs
theorem lN:RL P S Ls [] []:=fun _=>resN
theorem lT{v:Value}{rs:List ResultVar}{vs:List Value}(h:vG S t=some v)(k:RL P S Ls rs vs): RL P S Ls (.tmp t::rs) (v::vs):=fun hs=>resT h (k hs)
theorem lC{b:Nat}{c:Array Value}{te:TypeId}{fr:Nat×Nat}{rs:List ResultVar}{vs:List Value}(i:Nat)(v:Value)(hl:vG S t=some (pt b 0))(hr:Ls[i]?=some [(b,.cells c te fr)])(k:RL P S Ls rs vs)(hv:zI2 P ty c 0=some v:=by kernel_rfl): RL P S Ls (.cell t ty::rs) (v::vs) :=
 fun hs=>rtc i hs hl hr (k hs) hv
theorem tQ{fn:Func}{rs:List ResultVar}{vs:List Value}{post:ρ->(Value->List zH->List PP->Prop)->Prop}{r:ρ}{v1:Value}{L1:List zH}{F1:List PP}(hf:fn.results=rs.toArray)(hr:RL P S Ls rs vs)(hk:∀ K,post r K->K v1 L1 F1)(js:List Nat)(hF:xT (wZ Ls F) F1)
  (he:(if h:vs.length=1 then vs[0] else .tuple vs.toArray)=v1:=by first | rfl | (simp only[sv,Uy] <;> rfl)) (hL:uT Ls js=L1:=by rfl) (hn:js.Nodup:=by decide):J P n X (zRB P fn X post) (.ex .ret) S Ls F (some r) :=
 ⟨fun _ r0 hm a w hs=>by
  cases hm
  subst hL he
  exact rtg hs hf (hr hs) fun G hG=>hk _ hG ⟨rfl,z5l hs js (xT.all (fun _ hf=>hf _ _ hs.o hs.f) hF) hn⟩⟩
theorem jrn{fn:Func}{post:ρ->(Value->List zH->List PP->Prop)->Prop}(h:J P n X (zRB P fn X post) (.ex .ret) S Ls F m): J P n X (zRB P fn X post) (.ex .normal) S Ls F m :=
 ⟨fun hq r hm a w hs=>h.go hq r hm a w hs⟩
end
end Go.GD
