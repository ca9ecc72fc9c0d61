/- A part. Conditions: none. -/
import Derived.Test.YtmpieaddiaihmaaGreatDoorDun
namespace Go.GD
open Go Go.RowKit
set_option autoImplicit false
variable {qd:Prop}
theorem SS.tos{A:List Nat}{L0 Ls:List zJ}{w0 w:World}{n:Nat}{S S2:List (Nat×Value)}{F F2:List PP}{a:Act}(h:SS qd A L0 w0 n S Ls F a w)(js:List Nat)(hF:uM F2 (bl Ls++A) w)(hS:zXi S (S2.map Prod.fst)=some S2:=by kernel_rfl)(hk:js.Nodup:=by decide): SS qd A L0 w0 n S2 (uL Ls js) F2 a w :=
 ⟨h.s.only _ hS,h.o.sel js hk,h.e.sel js,hF.mv (vN.sel js _ _ _)⟩
section
variable {P:Program}{ops:Array Oper}{Q:Exit->Act->World->Prop}{K:Act->World->Prop}{rest:List Oper}
variable {A:List Nat}{L0 Ls:List zJ}{w0 w:World}{n:Nat}{S:List (Nat×Value)}{F:List PP}{a:Act}
variable {d:Nat}{ty:TypeId}{pos:String}{af:Array Edge}{g:Option (Nat×Bool)}{B J:List Nat}{listed:Array Bool}{fuel:Nat}
theorem r_quoK{x y:Operand}{t u:TypeId}{k:IntKind}{p q r:Int}{d:Option Tmp}(hS:qF a n S)(hx:zL S x=some (.int k p))(hy:zL S y=some (.int k q))(hm:quoK k p q=some r)(w:World):
  (execOp a.eval ⟨d,.binOp .quo t x y u,ty,pos,af,g⟩).run P w=.ok (.value (.int k r)) w:=by
 unfold quoK at hm
 split at hm
 ·cases hm
 ·rename_i h0
  simp only[Qd] at hm
  subst hm
  simp[execOp,hS.eval hx,hS.eval hy,zGp,binOp,Op.intDiv,h0]
theorem r_remK{x y:Operand}{t u:TypeId}{k:IntKind}{p q r:Int}{d:Option Tmp}(hS:qF a n S)(hx:zL S x=some (.int k p))(hy:zL S y=some (.int k q))(hm:remK p q=some r)(w:World):
  (execOp a.eval ⟨d,.binOp .rem t x y u,ty,pos,af,g⟩).run P w=.ok (.value (.int k r)) w:=by
 unfold remK at hm
 split at hm
 ·cases hm
 ·rename_i h0
  simp only[Qd] at hm
  subst hm
  simp[execOp,hS.eval hx,hS.eval hy,zGp,binOp,Op.intDiv,h0]
theorem z17{x y:Operand}{t u:TypeId}{k k':IntKind}{p q r:Int}{d:Option Tmp}(hS:qF a n S)(hx:zL S x=some (.int k p))(hy:zL S y=some (.int k' q))(hm:z80 k p q=some r)(w:World):
  (execOp a.eval ⟨d,.binOp .shl t x y u,ty,pos,af,g⟩).run P w=.ok (.value (.int k r)) w:=by
 unfold z80 at hm
 split at hm
 ·cases hm
 ·rename_i h0
  simp only[Qd] at hm
  subst hm
  simp[execOp,hS.eval hx,hS.eval hy,zGp,zRe (op:=.shl) (k:=k) (a:=p) (b:=q) (v:=.int k (shl k p q)) (by simp[zZp];omega)]
theorem r_shrK{x y:Operand}{t u:TypeId}{k k':IntKind}{p q r:Int}{d:Option Tmp}(hS:qF a n S)(hx:zL S x=some (.int k p))(hy:zL S y=some (.int k' q))(hm:shrK k p q=some r)(w:World):
  (execOp a.eval ⟨d,.binOp .shr t x y u,ty,pos,af,g⟩).run P w=.ok (.value (.int k r)) w:=by
 unfold shrK at hm
 split at hm
 ·cases hm
 ·rename_i h0
  simp only[Qd] at hm
  subst hm
  simp[execOp,hS.eval hx,hS.eval hy,zGp,zRe (op:=.shr) (k:=k) (a:=p) (b:=q) (v:=.int k (yW k p q)) (by simp[zZp];omega)]
section
variable {τ:Type}{e:E τ}{te:TypeId}{r:zJ}{p:Option Addr}{c m:Nat}{l z:List τ}{i j:Int}{t:TypeId}{x hi':Operand}{lo hi:Option Operand}{vlo vhi:Option Value}{kd:IntKind}{k0:Int}
theorem z5Q (h:SS qd A L0 w0 n S Ls F a w)(hR:(R e p c m l).h (bl Ls++A) w)(hx:zL S x=some (.slice p m c))(hlo:uX S lo=some vlo)(hhi:uX S hi=some vhi)(b1:Bd vlo i 0)(b2:Bd vhi j l.length)(hm:sub l i j=some z)
  (k:∀ p' c' a,SS qd A L0 w0 n ((d,.slice p' (List.length z) c')::S) Ls (R e p' c' (List.length z) z::F) a w->K a w)
  (ht:wP P t=some e.n:=by kernel_rfl) (hd:Nat.blt d n=true:=by kernel_rfl) (hg:zR ops S g=some true:=by kernel_rfl):wU P ops Q ⟨some d,.slice t x lo hi none,ty,pos,af,g⟩ K a w:=by
 obtain⟨hR,rfl⟩:=hR
 obtain⟨p',c',hr,hf⟩:=z6a (P:=P) (d:=some d) (ty:=ty) (pos:=pos) (af:=af) (g:=g) h.s hR hx ht hlo hhi b1 b2 hm
 exact xS h.s hd hg (hr w) fun a hS=>k p' c' a ((h.slot hS).add (f:=R e p' c' (List.length z) z) ⟨hf,rfl⟩)
theorem z6l (q:Nat)(h:SS qd A L0 w0 n S Ls F a w)(hi0:ops[q]?=some ⟨some d,.slice t x lo hi none,ty,pos,af,g⟩)(hR:(R e p c m l).h (bl Ls++A) w)(hx:zL S x=some (.slice p m c))(hlo:uX S lo=some vlo)(hhi:uX S hi=some vhi)(b1:Bd vlo i 0)(b2:Bd vhi j l.length)(hm:sub l i j=some z)
  (k:∀ p' c' a,SS qd A L0 w0 n ((d,.slice p' (List.length z) c')::S) Ls (R e p' c' (List.length z) z::F) a w->qV P ops Q (SB B (CC qd A Ls w J)) fuel (listed.setIfInBounds q true) a w)
  (ht:wP P t=some e.n:=by kernel_rfl) (hQ:∀ c (v:Value) a w,Q (.panic c) (a.put (some d) v) w->Q (.panic c) a w:=by exact fun _ _ _ _ h=>h)
  (hk:vF ops B listed q=true:=by kernel_rfl) (hd:Nat.blt d n=true:=by kernel_rfl) (hg:zR ops S g=some true:=by kernel_rfl):qV P ops Q (SB B (CC qd A Ls w J)) (fuel+1) listed a w:=by
 obtain⟨hR,rfl⟩:=hR
 obtain⟨p',c',hr,hf⟩:=z6a (P:=P) (d:=some d) (ty:=ty) (pos:=pos) (af:=af) (g:=g) h.s hR hx ht hlo hhi b1 b2 hm
 exact z4M q h.o h.s hi0 hk hd (fun c=>hQ c _) hg hr fun a hS=>k p' c' a ((h.slot hS).add (f:=R e p' c' (List.length z) z) ⟨hf,rfl⟩)
theorem z3V (h:SS qd A L0 w0 n S Ls F a w)(hA:(Ar e te r p c m l).h (bl Ls++A) w)(hx:zL S x=some (.slice p m c))(hhi:zL S hi'=some (.int kd k0))(hm:sub l 0 k0=some z)
  (k:∀ a,SS qd A L0 w0 n ((d,.slice p (List.length z) c)::S) Ls (Ar e te r p c (List.length z) z::F) a w->K a w)
  (ht:wP P t=some e.n:=by kernel_rfl) (hd:Nat.blt d n=true:=by kernel_rfl) (hg:zR ops S g=some true:=by kernel_rfl):wU P ops Q ⟨some d,.slice t x none (some hi') none,ty,pos,af,g⟩ K a w:=by
 obtain⟨hA,rfl⟩:=hA
 obtain⟨hf,hr⟩:=zXb (P:=P) (d:=some d) (ty:=ty) (pos:=pos) (af:=af) (g:=g) h.s hA hx ht hhi hm
 exact xS h.s hd hg (hr w) fun a hS=>k a ((h.slot hS).add (f:=Ar e te r p c (List.length z) z) ⟨hf,rfl⟩)
theorem z3I{lo':Operand}(h:SS qd A L0 w0 n S Ls F a w)(hA:(Ar e te r p c m l).h (bl Ls++A) w)(hx:zL S x=some (.slice p m c))(hlo:zL S lo'=some (.int kd k0))(hm:sub l k0 (l.length:Int)=some z)
  (k:∀ p' c' a,SS qd A L0 w0 n ((d,.slice p' (List.length z) c')::S) Ls (Ar e te r p' c' (List.length z) z::F) a w->K a w)
  (ht:wP P t=some e.n:=by kernel_rfl) (hd:Nat.blt d n=true:=by kernel_rfl) (hg:zR ops S g=some true:=by kernel_rfl):wU P ops Q ⟨some d,.slice t x (some lo') none none,ty,pos,af,g⟩ K a w:=by
 obtain⟨hA,rfl⟩:=hA
 obtain⟨p',c',hf,hr⟩:=z3v (P:=P) (d:=some d) (ty:=ty) (pos:=pos) (af:=af) (g:=g) h.s hA hx ht hlo hm
 exact xS h.s hd hg (hr w) fun a hS=>k p' c' a ((h.slot hS).add (f:=Ar e te r p' c' (List.length z) z) ⟨hf,rfl⟩)
theorem z1L{lo':Operand}{q:Unit}(h:SS qd A L0 w0 n S Ls F a w)(hA:(Ar e te r p c m l).h (bl Ls++A) w)(hx:zL S x=some (.slice p m c))(hlo:zL S lo'=some (.int kd k0))
  (hm:vJ (decide (0≤k0)&&decide (k0≤(l.length:Int)))=some q)
  (k:∀ p' c',Vw e.n p c m k0 p' (Int.toNat ((m:Int)-k0))->∀ a,SS qd A L0 w0 n ((d,.slice p' (Int.toNat ((m:Int)-k0)) c')::S) Ls F a w->K a w)
  (ht:wP P t=some e.n:=by kernel_rfl) (hd:Nat.blt d n=true:=by kernel_rfl) (hg:zR ops S g=some true:=by kernel_rfl):wU P ops Q ⟨some d,.slice t x (some lo') none none,ty,pos,af,g⟩ K a w:=by
 obtain⟨hA,rfl⟩:=hA
 obtain⟨p',c',hv,hr⟩:=zVt (P:=P) (d:=some d) (ty:=ty) (pos:=pos) (af:=af) (g:=g) h.s hA hx ht hlo hm
 exact xS h.s hd hg (hr w) fun a hS=>k p' c' hv a (h.slot hS)
theorem z2k{p':Option Addr}{m' c':Nat}{k j:Int}{u:τ}{y:Operand}(h:SS qd A L0 w0 n S Ls F a w)(hA:(Ar e te r p c m l).h (bl Ls++A) w)(hV:Vw e.n p c m k p' m')(hx:zL S x=some (.slice p' m' c'))(hy:zL S y=some (.int kd j))(hm:zZQ l k j=some u)
  (kk:∀ b o,p=some ⟨b,o,none⟩->zB l (k+j)=some u->∀ a,SS qd A L0 w0 n ((d,.pointer (some ⟨b,o+(k+j).toNat*e.n,none⟩))::S) Ls F a w->K a w)
  (ht:wP P t=some e.n:=by kernel_rfl) (hd:Nat.blt d n=true:=by kernel_rfl) (hg:zR ops S g=some true:=by kernel_rfl):wU P ops Q ⟨some d,.indexAddr t x y,ty,pos,af,g⟩ K a w:=by
 obtain⟨hA,hm'⟩:=hA
 obtain⟨h2,b,o,hp,hr⟩:=zWH (P:=P) (d:=some d) (ty:=ty) (pos:=pos) (af:=af) (g:=g) h.s hA hV hm'.symm hx hy ht hm
 exact xS h.s hd hg (hr w) fun a hS=>kk b o hp h2 a (h.slot hS)
theorem z4A (q:Nat){p':Option Addr}{m' c':Nat}{k j:Int}{u:τ}{y:Operand}(h:SS qd A L0 w0 n S Ls F a w)(hi0:ops[q]?=some ⟨some d,.indexAddr t x y,ty,pos,af,g⟩)(hA:(Ar e te r p c m l).h (bl Ls++A) w)(hV:Vw e.n p c m k p' m')(hx:zL S x=some (.slice p' m' c'))(hy:zL S y=some (.int kd j))(hm:zZQ l k j=some u)
  (kk:∀ b o,p=some ⟨b,o,none⟩->zB l (k+j)=some u->∀ a,SS qd A L0 w0 n ((d,.pointer (some ⟨b,o+(k+j).toNat*e.n,none⟩))::S) Ls F a w->qV P ops Q (SB B (CC qd A Ls w J)) fuel (listed.setIfInBounds q true) a w)
  (ht:wP P t=some e.n:=by kernel_rfl) (hQ:∀ c (v:Value) a w,Q (.panic c) (a.put (some d) v) w->Q (.panic c) a w:=by exact fun _ _ _ _ h=>h)
  (hk:vF ops B listed q=true:=by kernel_rfl) (hd:Nat.blt d n=true:=by kernel_rfl) (hg:zR ops S g=some true:=by kernel_rfl):qV P ops Q (SB B (CC qd A Ls w J)) (fuel+1) listed a w:=by
 obtain⟨hA,hm'⟩:=hA
 obtain⟨h2,b,o,hp,hr⟩:=zWH (P:=P) (d:=some d) (ty:=ty) (pos:=pos) (af:=af) (g:=g) h.s hA hV hm'.symm hx hy ht hm
 exact z4M q h.o h.s hi0 hk hd (fun c=>hQ c _) hg hr fun a hS=>kk b o hp h2 a (h.slot hS)
theorem z2q (q:Nat){zd:τ}{zv:Value}{p':Option Addr}{m' c':Nat}{k:Int}(h:SS qd A L0 w0 n S Ls F a w)(hA:(Ar e te r p c m l).h (bl Ls++A) w)(hV:Vw e.n p c m k p' m')(hx:zL S x=some (.slice p' m' c'))(hz:tL P te=some zv)(hzr:e.rd (bl Ls++A) w zv.cells.toList zd)
  (kk:∀ r' a' w',SS qd A L0 w0 n S (Ls.set q r') (Ar e te r' p c m (zDV l k zd)::F) a' w'->zU qd Ls w (Ls.set q r') w'->K a' w') (hr:Ls[q]?=some r:=by rfl)
  (ht:yS P t te e.n=true:=by kernel_rfl) (hg:zR ops S g=some true:=by kernel_rfl):wU P ops Q ⟨none,.call { callee:=.builtin .clear,args:=[x].toArray,argTypes:=[t].toArray },ty,pos,af,g⟩ K a w:=by
 obtain⟨hA,hm'⟩:=hA
 exact z0K q h.s hg h.o hr hA hV hm'.symm hx ht hz hzr fun r' w' hO e hA' a hS=>kk r' a w' (h.next hO e hS [Ar _ _ _ _ _ m _] ⟨⟨hA',by rw[zMC];exact hm'⟩,trivial⟩) e
theorem z5s{u:TypeId}{d:Option Tmp}(hS:qF a n S)(hx:zL S x=some (.slice p m c))(hu:P.underlying t=some (.slice te))(w:World):
  (execOp a.eval ⟨d,.binOp .eql t x (.const (.slice none 0 0)) u,ty,pos,af,g⟩).run P w=.ok (.value (vb p.isNone)) w:=r_eqnil hS hx hu w
theorem R.ln{Z:List Nat}{w:World}(h:(R e p c m l).h Z w): m=l.length:=h.2
theorem Ar.ln{Z:List Nat}{w:World}(h:(Ar e te r p c m l).h Z w): m=l.length:=h.2
theorem R.re{Z:List Nat}{w:World}(h:(R e p c m l).h Z w): (R e p c (List.length l) l).h Z w:=⟨h.1,rfl⟩
theorem Ar.re{Z:List Nat}{w:World}(h:(Ar e te r p c m l).h Z w): (Ar e te r p c (List.length l) l).h Z w:=⟨h.1,rfl⟩
theorem R.isNil{Z:List Nat}{w:World}(h:(R e p c m l).h Z w)(hp:p.isNone=true): l=[]:=uY.isNil h.1 hp
end
end
end Go.GD
