/- A part. Conditions: none. -/
import Derived.Test.YtgdgcdmdogdmgaaGreatDoorDun
namespace Go.GD
open Go Go.RowKit
set_option autoImplicit false
variable {qd:Prop}
theorem SS.tos{A:List Nat}{L0 Ls:List zG}{w0 w:World}{n:Nat}{S S2:List (Nat×Value)}{F F2:List PP}{a:Act}(h:SS qd A L0 w0 n S Ls F a w)(js:List Nat)(hF:uD F2 (bl Ls++A) w)(hS:zWh S (S2.map Prod.fst)=some S2:=by kernel_rfl)(hk:js.Nodup:=by decide): SS qd A L0 w0 n S2 (yZ Ls js) F2 a w :=
 ⟨h.s.only _ hS,h.o.sel js hk,h.e.sel js,hF.mv (wU.sel js _ _ _)⟩
section
variable {P:Program}{ops:Array Oper}{Q:Exit->Act->World->Prop}{K:Act->World->Prop}{rest:List Oper}
variable {A:List Nat}{L0 Ls:List zG}{w0 w:World}{n:Nat}{S:List (Nat×Value)}{F:List PP}{a:Act}
variable {d:Nat}{ty:TypeId}{pos:String}{af:Array Edge}{g:Option (Nat×Bool)}{B J:List Nat}{listed:Array Bool}{fuel:Nat}
theorem z9q{x y:Operand}{t u:TypeId}{k:IntKind}{p q r:Int}{d:Option Tmp}(hS:zY a n S)(hx:zK S x=some (.int k p))(hy:zK S y=some (.int k q))(hm:quoK k p q=some r)(w:World):
  (execOp a.eval ⟨d,.binOp .quo t x y u,ty,pos,af,g⟩).run P w=.ok (.value (.int k r)) w:=by
 unfold quoK at hm
 split at hm
 ·cases hm
 ·rename_i h0
  simp only[Qf] at hm
  subst hm
  simp[execOp,hS.eval hx,hS.eval hy,zGk,binOp,Op.intDiv,h0]
theorem r_remK{x y:Operand}{t u:TypeId}{k:IntKind}{p q r:Int}{d:Option Tmp}(hS:zY a n S)(hx:zK S x=some (.int k p))(hy:zK S y=some (.int k q))(hm:remK p q=some r)(w:World):
  (execOp a.eval ⟨d,.binOp .rem t x y u,ty,pos,af,g⟩).run P w=.ok (.value (.int k r)) w:=by
 unfold remK at hm
 split at hm
 ·cases hm
 ·rename_i h0
  simp only[Qf] at hm
  subst hm
  simp[execOp,hS.eval hx,hS.eval hy,zGk,binOp,Op.intDiv,h0]
theorem z33{x y:Operand}{t u:TypeId}{k k':IntKind}{p q r:Int}{d:Option Tmp}(hS:zY a n S)(hx:zK S x=some (.int k p))(hy:zK S y=some (.int k' q))(hm:z6f k p q=some r)(w:World):
  (execOp a.eval ⟨d,.binOp .shl t x y u,ty,pos,af,g⟩).run P w=.ok (.value (.int k r)) w:=by
 unfold z6f at hm
 split at hm
 ·cases hm
 ·rename_i h0
  simp only[Qf] at hm
  subst hm
  simp[execOp,hS.eval hx,hS.eval hy,zGk,zQl (op:=.shl) (k:=k) (a:=p) (b:=q) (v:=.int k (shl k p q)) (by simp[zYw];omega)]
theorem r_shrK{x y:Operand}{t u:TypeId}{k k':IntKind}{p q r:Int}{d:Option Tmp}(hS:zY a n S)(hx:zK S x=some (.int k p))(hy:zK S y=some (.int k' q))(hm:shrK k p q=some r)(w:World):
  (execOp a.eval ⟨d,.binOp .shr t x y u,ty,pos,af,g⟩).run P w=.ok (.value (.int k r)) w:=by
 unfold shrK at hm
 split at hm
 ·cases hm
 ·rename_i h0
  simp only[Qf] at hm
  subst hm
  simp[execOp,hS.eval hx,hS.eval hy,zGk,zQl (op:=.shr) (k:=k) (a:=p) (b:=q) (v:=.int k (uT k p q)) (by simp[zYw];omega)]
section
variable {τ:Type}{e:E τ}{te:TypeId}{r:zG}{p:Option Addr}{c m:Nat}{l z:List τ}{i j:Int}{t:TypeId}{x hi':Operand}{lo hi:Option Operand}{vlo vhi:Option Value}{kd:IntKind}{k0:Int}
theorem z4X (h:SS qd A L0 w0 n S Ls F a w)(hR:(R e p c m l).h (bl Ls++A) w)(hx:zK S x=some (.slice p m c))(hlo:uR S lo=some vlo)(hhi:uR S hi=some vhi)(b1:Bd vlo i 0)(b2:Bd vhi j l.length)(hm:sub l i j=some z)
  (k:∀ p' c' a,SS qd A L0 w0 n ((d,.slice p' (List.length z) c')::S) Ls (R e p' c' (List.length z) z::F) a w->K a w)
  (ht:wY P t=some e.n:=by kernel_rfl) (hd:Nat.blt d n=true:=by kernel_rfl) (hg:zQ ops S g=some true:=by kernel_rfl):wH P ops Q ⟨some d,.slice t x lo hi none,ty,pos,af,g⟩ K a w:=by
 obtain⟨hR,rfl⟩:=hR
 obtain⟨p',c',hr,hf⟩:=r_slice (P:=P) (d:=some d) (ty:=ty) (pos:=pos) (af:=af) (g:=g) h.s hR hx ht hlo hhi b1 b2 hm
 exact uX h.s hd hg (hr w) fun a hS=>k p' c' a ((h.slot hS).add (f:=R e p' c' (List.length z) z) ⟨hf,rfl⟩)
theorem z2Y (h:SS qd A L0 w0 n S Ls F a w)(hA:(Ar e te r p c m l).h (bl Ls++A) w)(hx:zK S x=some (.slice p m c))(hhi:zK S hi'=some (.int kd k0))(hm:sub l 0 k0=some z)
  (k:∀ a,SS qd A L0 w0 n ((d,.slice p (List.length z) c)::S) Ls (Ar e te r p c (List.length z) z::F) a w->K a w)
  (ht:wY P t=some e.n:=by kernel_rfl) (hd:Nat.blt d n=true:=by kernel_rfl) (hg:zQ ops S g=some true:=by kernel_rfl):wH P ops Q ⟨some d,.slice t x none (some hi') none,ty,pos,af,g⟩ K a w:=by
 obtain⟨hA,rfl⟩:=hA
 obtain⟨hf,hr⟩:=zXI (P:=P) (d:=some d) (ty:=ty) (pos:=pos) (af:=af) (g:=g) h.s hA hx ht hhi hm
 exact uX h.s hd hg (hr w) fun a hS=>k a ((h.slot hS).add (f:=Ar e te r p c (List.length z) z) ⟨hf,rfl⟩)
theorem z0o{lo':Operand}{q:Unit}(h:SS qd A L0 w0 n S Ls F a w)(hA:(Ar e te r p c m l).h (bl Ls++A) w)(hx:zK S x=some (.slice p m c))(hlo:zK S lo'=some (.int kd k0))
  (hm:wV (decide (0≤k0)&&decide (k0≤(l.length:Int)))=some q)
  (k:∀ p' c',Vw e.n p c m k0 p' (Int.toNat ((m:Int)-k0))->∀ a,SS qd A L0 w0 n ((d,.slice p' (Int.toNat ((m:Int)-k0)) c')::S) Ls F a w->K a w)
  (ht:wY P t=some e.n:=by kernel_rfl) (hd:Nat.blt d n=true:=by kernel_rfl) (hg:zQ ops S g=some true:=by kernel_rfl):wH P ops Q ⟨some d,.slice t x (some lo') none none,ty,pos,af,g⟩ K a w:=by
 obtain⟨hA,rfl⟩:=hA
 obtain⟨p',c',hv,hr⟩:=zVG (P:=P) (d:=some d) (ty:=ty) (pos:=pos) (af:=af) (g:=g) h.s hA hx ht hlo hm
 exact uX h.s hd hg (hr w) fun a hS=>k p' c' hv a (h.slot hS)
theorem z0V{p':Option Addr}{m' c':Nat}{k j:Int}{u:τ}{y:Operand}(h:SS qd A L0 w0 n S Ls F a w)(hA:(Ar e te r p c m l).h (bl Ls++A) w)(hV:Vw e.n p c m k p' m')(hx:zK S x=some (.slice p' m' c'))(hy:zK S y=some (.int kd j))(hm:zYA l k j=some u)
  (kk:∀ b o,p=some ⟨b,o,none⟩->zB l (k+j)=some u->∀ a,SS qd A L0 w0 n ((d,.pointer (some ⟨b,o+(k+j).toNat*e.n,none⟩))::S) Ls F a w->K a w)
  (ht:wY P t=some e.n:=by kernel_rfl) (hd:Nat.blt d n=true:=by kernel_rfl) (hg:zQ ops S g=some true:=by kernel_rfl):wH P ops Q ⟨some d,.indexAddr t x y,ty,pos,af,g⟩ K a w:=by
 obtain⟨hA,hm'⟩:=hA
 obtain⟨h2,b,o,hp,hr⟩:=zUx (P:=P) (d:=some d) (ty:=ty) (pos:=pos) (af:=af) (g:=g) h.s hA hV hm'.symm hx hy ht hm
 exact uX h.s hd hg (hr w) fun a hS=>kk b o hp h2 a (h.slot hS)
theorem z2s (q:Nat){p':Option Addr}{m' c':Nat}{k j:Int}{u:τ}{y:Operand}(h:SS qd A L0 w0 n S Ls F a w)(hi0:ops[q]?=some ⟨some d,.indexAddr t x y,ty,pos,af,g⟩)(hA:(Ar e te r p c m l).h (bl Ls++A) w)(hV:Vw e.n p c m k p' m')(hx:zK S x=some (.slice p' m' c'))(hy:zK S y=some (.int kd j))(hm:zYA l k j=some u)
  (kk:∀ b o,p=some ⟨b,o,none⟩->zB l (k+j)=some u->∀ a,SS qd A L0 w0 n ((d,.pointer (some ⟨b,o+(k+j).toNat*e.n,none⟩))::S) Ls F a w->qT P ops Q (SB B (CC qd A Ls w J)) fuel (listed.setIfInBounds q true) a w)
  (ht:wY P t=some e.n:=by kernel_rfl) (hQ:∀ c (v:Value) a w,Q (.panic c) (a.put (some d) v) w->Q (.panic c) a w:=by exact fun _ _ _ _ h=>h)
  (hk:vE ops B listed q=true:=by kernel_rfl) (hd:Nat.blt d n=true:=by kernel_rfl) (hg:zQ ops S g=some true:=by kernel_rfl):qT P ops Q (SB B (CC qd A Ls w J)) (fuel+1) listed a w:=by
 obtain⟨hA,hm'⟩:=hA
 obtain⟨h2,b,o,hp,hr⟩:=zUx (P:=P) (d:=some d) (ty:=ty) (pos:=pos) (af:=af) (g:=g) h.s hA hV hm'.symm hx hy ht hm
 exact z60 q h.o h.s hi0 hk hd (fun c=>hQ c _) hg hr fun a hS=>kk b o hp h2 a (h.slot hS)
theorem z1Z (q:Nat){zd:τ}{zv:Value}{p':Option Addr}{m' c':Nat}{k:Int}(h:SS qd A L0 w0 n S Ls F a w)(hA:(Ar e te r p c m l).h (bl Ls++A) w)(hV:Vw e.n p c m k p' m')(hx:zK S x=some (.slice p' m' c'))(hz:tX P te=some zv)(hzr:e.rd (bl Ls++A) w zv.cells.toList zd)
  (kk:∀ r' a' w',SS qd A L0 w0 n S (Ls.set q r') (Ar e te r' p c m (zDI l k zd)::F) a' w'->zT qd Ls w (Ls.set q r') w'->K a' w') (hr:Ls[q]?=some r:=by rfl)
  (ht:yW P t te e.n=true:=by kernel_rfl) (hg:zQ ops S g=some true:=by kernel_rfl):wH P ops Q ⟨none,.call { callee:=.builtin .clear,args:=[x].toArray,argTypes:=[t].toArray },ty,pos,af,g⟩ K a w:=by
 obtain⟨hA,hm'⟩:=hA
 exact zZH q h.s hg h.o hr hA hV hm'.symm hx ht hz hzr fun r' w' hO e hA' a hS=>kk r' a w' (h.next hO e hS [Ar _ _ _ _ _ m _] ⟨⟨hA',by rw[zL1];exact hm'⟩,trivial⟩) e
theorem z7O{u:TypeId}{d:Option Tmp}(hS:zY a n S)(hx:zK S x=some (.slice p m c))(hu:P.underlying t=some (.slice te))(w:World):
  (execOp a.eval ⟨d,.binOp .eql t x (.const (.slice none 0 0)) u,ty,pos,af,g⟩).run P w=.ok (.value (vb p.isNone)) w:=r_eqnil hS hx hu w
theorem R.ln{Z:List Nat}{w:World}(h:(R e p c m l).h Z w): m=l.length:=h.2
theorem Ar.ln{Z:List Nat}{w:World}(h:(Ar e te r p c m l).h Z w): m=l.length:=h.2
theorem R.re{Z:List Nat}{w:World}(h:(R e p c m l).h Z w): (R e p c (List.length l) l).h Z w:=⟨h.1,rfl⟩
theorem Ar.re{Z:List Nat}{w:World}(h:(Ar e te r p c m l).h Z w): (Ar e te r p c (List.length l) l).h Z w:=⟨h.1,rfl⟩
theorem R.isNil{Z:List Nat}{w:World}(h:(R e p c m l).h Z w)(hp:p.isNone=true): l=[]:=xN.isNil h.1 hp
end
end
end Go.GD
