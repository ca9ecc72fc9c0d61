/- A part. Conditions: none. -/
import Derived.Test.YtgdgcdmdogdmgaaGreatDoorJ3
namespace Go.GD
open Go Go.RowKit
set_option autoImplicit false
variable {qd:Prop}
set_option linter.unusedVariables false
section
variable {P:Program}{n:Nat}{X:Hd qd}{ρ σ:Type}{Q:PQ ρ}{S:Sl}{Ls:List zG}{F:List PP}{m m1 m2:Option ρ}{os:Array Oper}{l:List Oper}{x y:Operand}{p p':yO}
variable {d t:Nat}{ty ty2:TypeId}{pos pos2:String}{af af2:Array Edge}{g g2:Option (Nat×Bool)}{kd:IntKind}
section
variable {τ ω:Type}{e:E τ}{ef:E ω}{te:TypeId}{r r2:zG}{p0 q:Option Addr}{c k0 c2 k2:Nat}{z z2 u:List τ}{ix:Int}
theorem xL{f:List τ->Option ρ}(at0:At Ls p os ⟨some d,.call { callee:=.builtin .append,args:=[x,y].toArray,argTypes:=[t,t].toArray },ty,pos,af,g⟩ p')(i k:Nat)(hF:vW F k=Ar e te r p0 c k0 z)(g2:wO Ls F (R e q c2 k2 z2))(hx:zK S x=some (.slice p0 k0 c))(hy:zK S y=some (.slice q k2 c2))
  (h:∀ u r' p1 c',uE Ls i r' fun Ls'=>J P n X Q p' ((d,sv p1 u c')::S) Ls' (Al e te r' p1 c' u::F) (f u)) (hr:Ls[i]?=some r:=by rfl) (ht:yW P t te e.n=true:=by kernel_rfl) (hd:Nat.blt d n=true:=by kernel_rfl) (hg:zQ os S g=some true:=by kernel_rfl) :
  J P n X Q p S Ls F ((qG z z2).bind f) :=
 ⟨fun hq r0 hm a w hs=>by
  obtain⟨u,h1,h2⟩:=xQ hm
  exact at0.run fun K hK=>z5V i hs (hF▸hs.g k) (g2 _ _ hs.o hs.f) hx hy h1 (fun r' p1 c' a w' h' e=>hK e (by
   have h:=h u r' p1 c'
   rw[zH7] at h
   exact h.go hq r0 h2 a w' h')) hr ht hd hg⟩
theorem jao{f:List τ->Option ρ}(at0:At Ls p os ⟨some d,.call { callee:=.builtin .append,args:=[x,y].toArray,argTypes:=[t,t].toArray },ty,pos,af,g⟩ p')(i j k k':Nat)(hF:vW F k=Ar e te r p0 c k0 z)(hF2:vW F k'=Ar e te r2 q c2 k2 z2)(hx:zK S x=some (.slice p0 k0 c))(hy:zK S y=some (.slice q k2 c2))
  (h:∀ u r' p1 c',uE Ls i r' fun Ls'=>J P n X Q p' ((d,sv p1 u c')::S) Ls' (Al e te r' p1 c' u::F) (f u)) (hr:Ls[i]?=some r:=by rfl) (hr2:Ls[j]?=some r2:=by rfl) (ht:yW P t te e.n=true:=by kernel_rfl) (hd:Nat.blt d n=true:=by kernel_rfl) (hg:zQ os S g=some true:=by kernel_rfl) :
  J P n X Q p S Ls F ((qG z z2).bind f) :=
 ⟨fun hq r0 hm a w hs=>by
  obtain⟨u,h1,h2⟩:=xQ hm
  exact at0.run fun K hK=>z4f i j hs (hF▸hs.g k) (hF2▸hs.g k') hx hy h1 (fun r' p1 c' a w' h' e=>hK e (by
   have h:=h u r' p1 c'
   rw[zH7] at h
   exact h.go hq r0 h2 a w' h')) hr hr2 ht hd hg⟩
theorem rN:RD e Ls F [] []:=fun _ _ _ _=>rfl
theorem rC{cs:List Value}{x:τ}{l:List τ}(h:RV e Ls F (cs.take e.n) x)(k:RD e Ls F (cs.drop e.n) l): RD e Ls F cs (x::l):=fun A w hO hF=>⟨_,_,(QT e.n cs).symm,h A w hO hF,k A w hO hF⟩
theorem vI{k:IntKind}{x:Int}: RV (zH k) Ls F [.int k x] x:=fun _ _ _ _=>rfl
theorem vB{x:Bool}: RV zYO Ls F [vb x] x:=fun _ _ _ _=>rfl
theorem vS{x:zD}: RV qX Ls F [vs x] x:=fun _ _ _ _=>rfl
theorem vU:RV z5a Ls F [] ():=fun _ _ _ _=>rfl
theorem vP{α β:Type}{a:E α}{b:E β}{cs:List Value}{x:α×β}(h:RV a Ls F (cs.take a.n) x.1)(k:RV b Ls F (cs.drop a.n) x.2): RV (wJ a b) Ls F cs x:=fun A w hO hF=>⟨_,_,(QT a.n cs).symm,h A w hO hF,k A w hO hF⟩
theorem vL{c' m':Nat}(h:wO Ls F (R e p0 c' m' z)): RV (zX e) Ls F [.slice p0 m' c'] z:=fun A w hO hF=>R.cell (h A w hO hF)
theorem uC{parts:List (Nat×Operand)}(at0:At Ls p os ⟨some d,.buildSlice t k0 parts.toArray,ty,pos,af,g⟩ p')(te:TypeId)(cs:List Value)(z:List τ)(hrd:RD e Ls F cs z)
  (h:∀ p1 c',J P n X Q p' ((d,sv p1 z c')::S) Ls (Rl e p1 c' z::F) m) (ht:yW P t te e.n=true:=by kernel_rfl) (hc:zKl P S t k0 parts=some cs:=by kernel_rfl) (hl:z.length=k0:=by rfl)
  (hd:Nat.blt d n=true:=by kernel_rfl) (hg:zQ os S g=some true:=by kernel_rfl):J P n X Q p S Ls F m :=
 ⟨fun hq r0 hm a w hs=>at0.run fun K hK=>b_bs_rd cs z hs (hrd _ _ hs.o hs.f) (fun p1 c' a w' h' e=>hK e ((h p1 c').go hq r0 hm a w' h')) te ht hc hl hd hg⟩
theorem jbo{parts:List (Nat×Operand)}(at0:At Ls p os ⟨some d,.buildSlice t k0 parts.toArray,ty,pos,af,g⟩ p')(te:TypeId)(cs:List Value)(z:List τ)(hrd:RD e Ls F cs z)
  (h:∀ r' p1 c',zM5 Ls r' fun Ls'=>J P n X Q p' ((d,sv p1 z c')::S) Ls' (Al e te r' p1 c' z::F) m) (ht:yW P t te e.n=true:=by kernel_rfl) (hc:zKl P S t k0 parts=some cs:=by kernel_rfl) (hl:z.length=k0:=by rfl) (hm:Nat.ble k0 16777216=true:=by kernel_rfl)
  (hd:Nat.blt d n=true:=by kernel_rfl) (hg:zQ os S g=some true:=by kernel_rfl):J P n X Q p S Ls F m :=
 ⟨fun hq r0 hm' a w hs=>at0.run fun K hK=>z9G cs z hs (hrd _ _ hs.o hs.f) (fun r' p1 c' a w' h' e=>hK e (by
  have h:=h r' p1 c'
  rw[zJS] at h
  exact h.go hq r0 hm' a w' h')) ht hc hl hm hd hg⟩
theorem jsb{s t2 te:TypeId}{z:List Int}(at0:At Ls p os ⟨some d,.convert s t2 x,ty,pos,af,g⟩ p')(g1:wO Ls F (R (zH .u8) p0 c k0 z))(hx:zK S x=some (.slice p0 k0 c))(hs:P.underlying s=some (.slice te))(he:P.underlying te=some (.int .u8))(ht:P.underlying t2=some .string)
  (h:J P n X Q p' ((d,vs (zV2 z))::S) Ls F m) (hd:Nat.blt d n=true:=by kernel_rfl) (hg:zQ os S g=some true:=by kernel_rfl):J P n X Q p S Ls F m :=
 ⟨fun hq r0 hm a w hS=>at0.run fun K hK=>b_strOf hS (g1 _ _ hS.o hS.f) hx hs he ht (fun a h'=>hK (zT.refl _ _) (h.go hq r0 hm a w h')) hd hg⟩
theorem jcv{p1:Option Addr}{m' c':Nat}{kk:Int}(at0:At Ls p os ⟨none,.call { callee:=.builtin .clear,args:=[x].toArray,argTypes:=[t].toArray },ty,pos,af,g⟩ p')(i k:Nat)(zd:τ)(zv:Value)(hF:vW F k=Ar e te r p0 c k0 z)(hV:Vw e.n p0 c k0 kk p1 m')(hx:zK S x=some (.slice p1 m' c'))(hzr:RV e Ls F zv.cells.toList zd)
  (h:∀ r',uE Ls i r' fun Ls'=>J P n X Q p' S Ls' (Ar e te r' p0 c k0 (zDI z kk zd)::F) m) (hz:tX P te=some zv:=by kernel_rfl) (hr:Ls[i]?=some r:=by rfl) (ht:yW P t te e.n=true:=by kernel_rfl) (hg:zQ os S g=some true:=by kernel_rfl):J P n X Q p S Ls F m :=
 ⟨fun hq r0 hm a w hs=>at0.run fun K hK=>z1Z i hs (hF▸hs.g k) hV hx hz (hzr _ _ hs.o hs.f) (fun r' a w' h' e=>hK e (by
  have h:=h r'
  rw[zH7] at h
  exact h.go hq r0 hm a w' h')) hr ht hg⟩
def SR (e:E τ)(Ls:List zG)(F:List PP)(q:Option Addr)(z:List τ)(k:Nat): Prop:=∀ A w,zU A w Ls->uD F (bl Ls++A) w->Src e (bl Ls++A) w q z∧z.length=k
theorem srR (h:wO Ls F (R e p0 c k0 z)): SR e Ls F p0 z k0:=fun A w hO hF=>R.srcs (h A w hO hF)
theorem srA (i k:Nat)(hF:vW F k=Ar e te r p0 c k0 z)(hr:Ls[i]?=some r:=by rfl): SR e Ls F p0 z k0:=fun A w hO hA=>Ar.srcs (by rw[←hF];exact hA.at k) hO hr
theorem srV (i k:Nat){kk:Int}{m':Nat}(hV:Vw e.n p0 c k0 kk q m')(hF:vW F k=Ar e te r p0 c k0 z)(hr:Ls[i]?=some r:=by rfl): SR e Ls F q (z.drop kk.toNat) m':=fun A w hO hA=>by
 have h:(Ar e te r p0 c k0 z).h (bl Ls++A) w:=by rw[←hF];exact hA.at k
 exact hV.src h.1 h.2.symm hO hr
def VW (e:E τ)(Ls:List zG)(F:List PP)(p0:Option Addr)(c k0:Nat)(kk:Int)(q:Option Addr)(m':Nat): Prop:=∀ A w,zU A w Ls->uD F (bl Ls++A) w->Vw e.n p0 c k0 kk q m'
theorem vwV{kk:Int}{m':Nat}(hV:Vw e.n p0 c k0 kk q m'): VW e Ls F p0 c k0 kk q m':=fun _ _ _ _=>hV
theorem vwW (k:Nat)(hF:vW F k=Ar e te r p0 c k0 z): VW e Ls F p0 c k0 0 p0 k0:=fun A w _ hA=>by
 have h:(Ar e te r p0 c k0 z).h (bl Ls++A) w:=by rw[←hF];exact hA.at k
 exact Vw.whole h.1 h.2
theorem jcp{q2:Option Addr}{m' c':Nat}{kk:Int}(at0:At Ls p os ⟨some d,.call { callee:=.builtin .copy,args:=[x,y].toArray,argTypes:=[t,t].toArray },ty,pos,af,g⟩ p')(i k:Nat)(hF:vW F k=Ar e te r p0 c k0 z)(hV:VW e Ls F p0 c k0 kk q m')(hR:SR e Ls F q2 z2 k2)(hx:zK S x=some (.slice q m' c'))(hy:zK S y=some (.slice q2 k2 c2))
  (h:∀ r',uE Ls i r' fun Ls'=>J P n X Q p' ((d,vi ((Nat.min k2 m':Nat):Int))::S) Ls' (Ar e te r' p0 c k0 (zJf z kk z2)::F) m) (hr:Ls[i]?=some r:=by rfl) (ht:yW P t te e.n=true:=by kernel_rfl) (hd:Nat.blt d n=true:=by kernel_rfl) (hg:zQ os S g=some true:=by kernel_rfl):J P n X Q p S Ls F m :=
 ⟨fun hq r0 hm a w hs=>at0.run fun K hK=>z2X i hs (hF▸hs.g k) (hV _ _ hs.o hs.f) (hR _ _ hs.o hs.f) hx hy (fun r' a w' h' e=>hK e (by
  have h:=h r'
  rw[zH7] at h
  exact h.go hq r0 hm a w' h')) hr ht hd hg⟩
end
section
variable {κ ν:Type}[BEq κ]{kt vt:TypeId}{kv:κ->Value}{vv:ν->Value}{r:zG}{b:Nat}{z:List (κ×ν)}{k:κ}{v:ν}{x3:Operand}
theorem jmm{rs:Option Operand}{rv:Option Value}(at0:At Ls p os ⟨some d,.makeMap t rs,ty,pos,af,g⟩ p')(kv:κ->Value)(vv:ν->Value)(H:zSb P t kt vt kv)(hr:uR S rs=some rv)(hi:rv=none∨∃ kd i,rv=some (.int kd i))
  (h:∀ b r',zM5 Ls r' fun Ls'=>J P n X Q p' ((d,.map (some b))::S) Ls' (Ma kv vv r' b []::F) m) (hd:Nat.blt d n=true:=by kernel_rfl) (hg:zQ os S g=some true:=by kernel_rfl):J P n X Q p S Ls F m :=
 ⟨fun hq r0 hm a w hs=>at0.run fun K hK=>z58 kv vv hs H hr hi (fun b r' a w' h' e=>hK e (by
  have h:=h b r'
  rw[zJS] at h
  exact h.go hq r0 hm a w' h')) hd hg⟩
theorem jmG[LawfulBEq κ](at0:At Ls p os ⟨some d,.lookup t x y true,ty,pos,af,g⟩ p')(i q:Nat)(zv:ν)(H:zSb P t kt vt kv)(hF:vW F q=Ma kv vv r b z)(hx:zK S x=some (.map (some b)))(hy:zK S y=some (kv k))
  (h:J P n X Q p' ((d,.tuple #[vv ((uW z k).getD zv),vb (uW z k).isSome])::S) Ls F m) (hz:tX P vt=some (vv zv):=by kernel_rfl) (hr:Ls[i]?=some r:=by rfl) (hd:Nat.blt d n=true:=by kernel_rfl) (hg:zQ os S g=some true:=by kernel_rfl):J P n X Q p S Ls F m :=
 ⟨fun hq r0 hm a w hs=>at0.run fun K hK=>z8F true hs H (hF▸hs.g q) hx hy hz hr (fun a h'=>hK (zT.refl _ _) (h.go hq r0 hm a w h')) hd hg⟩
theorem jmp[LawfulBEq κ](at0:At Ls p os ⟨none,.mapUpdate t x y x3,ty,pos,af,g⟩ p')(i q:Nat)(H:zSb P t kt vt kv)(hF:vW F q=Ma kv vv r b z)(hx:zK S x=some (.map (some b)))(hy:zK S y=some (kv k))(hz:zK S x3=some (vv v))
  (h:∀ r',uE Ls i r' fun Ls'=>J P n X Q p' S Ls' (Ma kv vv r' b (uQ z k v)::F) m) (hr:Ls[i]?=some r:=by rfl) (hg:zQ os S g=some true:=by kernel_rfl):J P n X Q p S Ls F m :=
 ⟨fun hq r0 hm a w hs=>at0.run fun K hK=>z2V i hs H (hF▸hs.g q) hx hy hz hr (fun r' a w' h' e=>hK e (by
  have h:=h r'
  rw[zH7] at h
  exact h.go hq r0 hm a w' h')) hg⟩
end
def yO.less (Ls Ls':List zG): yO->Prop
 | .dr _ _ J _ _=>J.map (Ls'[·]?)=J.map (Ls[·]?)
 | .fo _ _ _ _ _ _=>False
 | .af _ _ _ _ _ _=>False
 | _=>True
theorem yO.less_go{Ls':List zG}(hl:p.less Ls Ls')(hs:∀ b∈bl Ls',b∈bl Ls){A:List Nat}{Q:Exit->Act->World->Prop}{a:Act}{w:World}{L0:List zG}{w0:World}
  (h:SS qd A L0 w0 n S Ls' F a w) (k:p.go qd P A Ls' Q a w):p.go qd P A Ls Q a w:=by
 cases p with
 | dr os B J f li=>exact dless h k hs hl
 | fo _ _ _ _ _ _=>exact hl.elim
 | af _ _ _ _ _ _=>exact hl.elim
 | _=>exact k
section
variable {τ:Type}{e:E τ}{te:TypeId}{r:zG}{p0:Option Addr}{c k0:Nat}{z:List τ}
theorem yU (i k:Nat)(hF:vW F k=Ar e te r p0 c k0 z)(hr:Ls[i]?=some r)(h:uE Ls i [] fun Ls'=>J P n X Q p S Ls' (R e p0 c k0 z::F) m)(hl:uE Ls i [] (fun Ls'=>p.less Ls Ls'):=by first | exact trivial | exact rfl): J P n X Q p S Ls F m :=
 ⟨fun hq r0 hm a w hs=>by
  rw[zH7] at h hl
  have h1:=hs.share i (hF▸hs.g k:(Ar e te r p0 c k0 z).h (bl Ls++X.A) w) hr
  exact yO.less_go hl z9C h1 (h.go hq r0 hm a w h1)⟩
theorem uA (e:E τ)(te:TypeId)(h:zM5 Ls [] fun Ls'=>J P n X Q p S Ls' (Ar e te [] none 0 0 []::F) m)(hl:zM5 Ls [] (fun Ls'=>p.less Ls Ls'):=by first | exact trivial | exact rfl): J P n X Q p S Ls F m :=
 ⟨fun hq r0 hm a w hs=>by
  rw[zJS] at h hl
  have h1:=hs.room e te
  exact yO.less_go hl z5q h1 (h.go hq r0 hm a w h1)⟩
end
structure zP (qd:Prop)(P:Program)(f:FuncId)(vs:List Value)(L:List zG)(F:List PP){ρ:Type}(m:Option ρ)(post:ρ->(Value->List zG->List PP->Prop)->Prop): Prop where
 hf:∀ args w,(callFunc f args).run P w=.ok (.enter f args) w
 go:∀ A w0 r,m=some r->zU A w0 L->uD F (bl L++A) w0->Calls P f vs.toArray w0 (Ret fun v w=>Ex (post r) fun v1 L1 F1=>v=v1∧Bk qd A L w0 L1 F1 w)
abbrev wL (qd:Prop)(P:Program)(f:FuncId)(vs:List Value)(L:List zG)(F:List PP){ρ:Type}(m:Option ρ)(post:List zG->ρ->(Value->List zG->List PP->Prop)->Prop): Prop:=zP qd P f vs L F m (post L)
def z6r (ls js:List Nat)(L1 Ls:List zG)(F1 F:List PP)(k:List zG->List PP->Prop): Prop:=match ls with
 | []=>z2F js L1 Ls fun Ls'=>appC F1 F fun F'=>k Ls' F'
 | _::_=>match F1 with
  | []=>z2F js L1 Ls fun Ls'=>k Ls' F
  | _::_=>False
theorem z8q{ls js:List Nat}{L1:List zG}{F1:List PP}{A:List Nat}{L0:List zG}{w0 w w':World}{a':Act}{S':Sl}{kk:List zG->List PP->Prop}(h:z6r ls js L1 Ls F1 F kk)
  (c:AC qd A L0 w0 n S' Ls F js ls w a' w') (q:Bk qd (Ac A Ls js ls) (yZ Ls js) w L1 F1 w') (hk:z2Q (js++ls) Ls.length=true):∃ Ls' F',kk Ls' F'∧SS qd A L0 w0 n S' Ls' F' a' w'∧zT qd Ls w Ls' w':=by
 cases ls with
 | nil =>
  obtain⟨hl,h⟩:=zTx h
  rw[z3I] at h
  exact⟨_,_,h,c.on q _ hk hl rfl (.inl rfl),c.st q _ hk hl rfl⟩
 | cons a ls =>
  cases F1 with
  | cons f F1=>exact h.elim
  | nil =>
   obtain⟨hl,h⟩:=zTx h
   exact⟨_,_,h,c.on q _ hk hl rfl (.inr rfl),c.st q _ hk hl rfl⟩
theorem qK{fd:FuncId}{cal:Operand}{xs:List Operand}{bs0 caps:List Value}{ats:Array TypeId}{us vs:List Value}{L:List zG}{F1:List PP}{m1:Option σ}{post:σ->(Value->List zG->List PP->Prop)->Prop}{f:σ->Option ρ}
  (at0:At Ls p os ⟨some d,.call { callee:=.value cal,args:=xs.toArray,argTypes:=ats },ty,pos,af,g⟩ p') (js ls:List Nat) (c:zP qd P fd vs L F1 m1 post) (hcal:zK S cal=some (.func (.func fd) bs0.toArray caps.toArray)) (hx:z3W S xs=some us) (hv:bs0++us++caps=vs)
  (hF:xG (OKc Ls F js ls) F1) (h:∀ r K,(∀ {v L1 F1},z6r ls js L1 Ls F1 F (fun Ls' F'=>J P n X Q p' ((d,v)::S) Ls' F' (f r))->K v L1 F1)->post r K)
  (hL:yZ Ls js=L:=by rfl) (hk:z2Q (js++ls) Ls.length=true:=by kernel_rfl) (hd:Nat.blt d n=true:=by kernel_rfl) (hg:zQ os S g=some true:=by kernel_rfl):J P n X Q p S Ls F (m1.bind f) :=
 ⟨fun hq r0 hm a w hs=>by
  obtain⟨r,h1,h2⟩:=xQ hm
  subst hL hv
  refine at0.run fun K hK=>b_call js ls hs c.hf hcal hx (c.go _ _ _ h1 (hs.po js ls hk) (xG.all (fun _ hf=>hf _ _ hs.o hs.f) hF)) (fun v a' w' hR hc=>?_) hd hg
  refine hR _ (h r _ ?_)
  rintro v1 L1 F1 hj ⟨rfl,q⟩
  obtain⟨Ls',F',k1,k2,k3⟩:=z8q hj hc q hk
  exact hK k3 (k1.go hq r0 h2 a' w' k2)⟩
theorem wD{fd:FuncId}{xs:List Operand}{ats:Array TypeId}{vs:List Value}{F1:List PP}{m1:Option σ}{post:σ->(Value->List zG->List PP->Prop)->Prop}{f:σ->Option ρ}
  (c:zP qd P fd vs [] F1 m1 post) (hx:z3W S xs=some vs)
  (hF:xG (OKc Ls F [] []) F1) (h:∀ r K,(∀ {v L1 F1},z6r [] [] L1 Ls F1 F (fun Ls' F'=>J P n X Q (.ops os l) ((d,v)::S) Ls' F' (f r))->K v L1 F1)->post r K)
  (hd:Nat.blt d n=true:=by kernel_rfl) (hg:zQ os S g=some true:=by kernel_rfl):J P n X Q (.ops os (⟨some d,.call { callee:=.value (.func fd),args:=xs.toArray,argTypes:=ats },ty,pos,af,g⟩::l)) S Ls F (m1.bind f) :=
 qK (bs0:=[]) (caps:=[]) .s [] [] c rfl hx (QB vs) hF h rfl rfl hd hg
theorem zO{fd:FuncId}{fn:Func}{c:Code}{vs:List Value}{L:List zG}{m1:Option σ}{post:σ->(Value->List zG->List PP->Prop)->Prop}(hc:∀ args w,(callFunc fd args).run P w=.ok (.enter fd args) w)(hf:P.funcs[fd]?=some fn)(hb:fn.body=some c)
  (h:∀ X:Hd qd,J P fn.ntmps X (zV8 P fn X post) (.code c) (zOx vs 0) L F m1) (hn:Nat.ble vs.length fn.ntmps=true:=by kernel_rfl):zP qd P fd vs L F m1 post :=
 ⟨hc,fun A w0 r hm hO hF=>ent hf hb hO hF (fun a hs=>(h ⟨A,L,w0⟩).go zV8.np r hm a w0 hs) hn⟩
theorem z1R{fd:FuncId}{vs:List Value}{L:List zG}{M:Nat->Option σ}{post:σ->(Value->List zG->List PP->Prop)->Prop}(h:∀ k,zP qd P fd vs L F (M k) post): zP qd P fd vs L F (z6b M) post :=
 ⟨(h 0).hf,fun A w0 r hm=>by obtain⟨k,hk⟩:=z5e hm;exact(h k).go A w0 r hk⟩
theorem con0{fd:FuncId}{vs:List Value}{L:List zG}{post:σ->(Value->List zG->List PP->Prop)->Prop}(hc:∀ args w,(callFunc fd args).run P w=.ok (.enter fd args) w): zP qd P fd vs L F none post:=⟨hc,fun _ _ _ hm=>nomatch hm⟩
theorem yY{fn:Func}{post:ρ->(Value->List zG->List PP->Prop)->Prop}{r:ρ}{v v1:Value}{L1:List zG}{F1:List PP}(hf:fn.results=#[.tmp t])(hv:wT S t=some v)(hk:∀ K,post r K->K v1 L1 F1)(js:List Nat)(hF:xG (wO Ls F) F1)
  (he:v=v1:=by first | rfl | (simp only[sv,UB] <;> rfl)) (hL:yZ Ls js=L1:=by rfl) (hn:js.Nodup:=by decide):J P n X (zV8 P fn X post) (.ex .ret) S Ls F (some r) :=
 ⟨fun _ r0 hm a w hs=>by
  cases hm
  subst hL he
  exact rt1 hs hf hv fun G hG=>hk _ hG ⟨rfl,z9l hs js (xG.all (fun _ hf=>hf _ _ hs.o hs.f) hF) hn⟩⟩
def RL (P:Program)(S:Sl)(Ls:List zG)(rs:List ResultVar)(vs:List Value): Prop:=∀ {qd A L0 w0 n F a w},SS qd A L0 w0 n S Ls F a w->z3s P S w rs vs
theorem lN:RL P S Ls [] []:=fun _=>resN
theorem lT{v:Value}{rs:List ResultVar}{vs:List Value}(h:wT S t=some v)(k:RL P S Ls rs vs): RL P S Ls (.tmp t::rs) (v::vs):=fun hs=>resT h (k hs)
theorem lC{b:Nat}{c:Array Value}{te:TypeId}{fr:Nat×Nat}{rs:List ResultVar}{vs:List Value}(i:Nat)(v:Value)(hl:wT S t=some (pt b 0))(hr:Ls[i]?=some [(b,.cells c te fr)])(k:RL P S Ls rs vs)(hv:zMl P ty c 0=some v:=by kernel_rfl): RL P S Ls (.cell t ty::rs) (v::vs) :=
 fun hs=>rtc i hs hl hr (k hs) hv
theorem uI{fn:Func}{rs:List ResultVar}{vs:List Value}{post:ρ->(Value->List zG->List PP->Prop)->Prop}{r:ρ}{v1:Value}{L1:List zG}{F1:List PP}(hf:fn.results=rs.toArray)(hr:RL P S Ls rs vs)(hk:∀ K,post r K->K v1 L1 F1)(js:List Nat)(hF:xG (wO Ls F) F1)
  (he:(if h:vs.length=1 then vs[0] else .tuple vs.toArray)=v1:=by first | rfl | (simp only[sv,UB] <;> rfl)) (hL:yZ Ls js=L1:=by rfl) (hn:js.Nodup:=by decide):J P n X (zV8 P fn X post) (.ex .ret) S Ls F (some r) :=
 ⟨fun _ r0 hm a w hs=>by
  cases hm
  subst hL he
  exact rtg hs hf (hr hs) fun G hG=>hk _ hG ⟨rfl,z9l hs js (xG.all (fun _ hf=>hf _ _ hs.o hs.f) hF) hn⟩⟩
theorem jrn{fn:Func}{post:ρ->(Value->List zG->List PP->Prop)->Prop}(h:J P n X (zV8 P fn X post) (.ex .ret) S Ls F m): J P n X (zV8 P fn X post) (.ex .normal) S Ls F m :=
 ⟨fun hq r hm a w hs=>h.go hq r hm a w hs⟩
end
end Go.GD
