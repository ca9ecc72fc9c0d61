/- A part. Conditions: none. -/
import Derived.Test.YtcoildnkgkbjfaaGreatDoorDun
namespace Go.GD
open Go Go.RowKit
set_option autoImplicit false
variable {qd:Prop}
theorem SS.tos{A:List Nat}{L0 Ls:List zH}{w0 w:World}{n:Nat}{S S2:List (Nat×Value)}{F F2:List PP}{a:Act}(h:SS qd A L0 w0 n S Ls F a w)(js:List Nat)(hF:xA F2 (bl Ls++A) w)(hS:zQ8 S (S2.map Prod.fst)=some S2:=by kernel_rfl)(hk:js.Nodup:=by decide): SS qd A L0 w0 n S2 (uT Ls js) F2 a w :=
 ⟨h.s.only _ hS,h.o.sel js hk,h.e.sel js,hF.mv (vT.sel js _ _ _)⟩
section
variable {P:Program}{ops:Array Oper}{Q:Exit->Act->World->Prop}{K:Act->World->Prop}{rest:List Oper}
variable {A:List Nat}{L0 Ls:List zH}{w0 w:World}{n:Nat}{S:List (Nat×Value)}{F:List PP}{a:Act}
variable {d:Nat}{ty:TypeId}{pos:String}{af:Array Edge}{g:Option (Nat×Bool)}{B J:List Nat}{listed:Array Bool}{fuel:Nat}
theorem z1p{x y:Operand}{t u:TypeId}{k:IntKind}{p q r:Int}{d:Option Tmp}(hS:qO a n S)(hx:zP S x=some (.int k p))(hy:zP S y=some (.int k q))(hm:z3i k p q=some r)(w:World):
  (execOp a.eval ⟨d,.binOp .quo t x y u,ty,pos,af,g⟩).run P w=.ok (.value (.int k r)) w:=by
 unfold z3i at hm
 split at hm
 ·cases hm
 ·rename_i h0
  simp only[Qg] at hm
  subst hm
  simp[execOp,hS.eval hx,hS.eval hy,zD7,binOp,Op.intDiv,h0]
theorem z5b{x y:Operand}{t u:TypeId}{k:IntKind}{p q r:Int}{d:Option Tmp}(hS:qO a n S)(hx:zP S x=some (.int k p))(hy:zP S y=some (.int k q))(hm:z4q p q=some r)(w:World):
  (execOp a.eval ⟨d,.binOp .rem t x y u,ty,pos,af,g⟩).run P w=.ok (.value (.int k r)) w:=by
 unfold z4q at hm
 split at hm
 ·cases hm
 ·rename_i h0
  simp only[Qg] at hm
  subst hm
  simp[execOp,hS.eval hx,hS.eval hy,zD7,binOp,Op.intDiv,h0]
theorem z6G{x y:Operand}{t u:TypeId}{k k':IntKind}{p q r:Int}{d:Option Tmp}(hS:qO a n S)(hx:zP S x=some (.int k p))(hy:zP S y=some (.int k' q))(hm:shlK k p q=some r)(w:World):
  (execOp a.eval ⟨d,.binOp .shl t x y u,ty,pos,af,g⟩).run P w=.ok (.value (.int k r)) w:=by
 unfold shlK at hm
 split at hm
 ·cases hm
 ·rename_i h0
  simp only[Qg] at hm
  subst hm
  simp[execOp,hS.eval hx,hS.eval hy,zD7,zMP (op:=.shl) (k:=k) (a:=p) (b:=q) (v:=.int k (shl k p q)) (by simp[zUD];omega)]
theorem r_shrK{x y:Operand}{t u:TypeId}{k k':IntKind}{p q r:Int}{d:Option Tmp}(hS:qO a n S)(hx:zP S x=some (.int k p))(hy:zP S y=some (.int k' q))(hm:shrK k p q=some r)(w:World):
  (execOp a.eval ⟨d,.binOp .shr t x y u,ty,pos,af,g⟩).run P w=.ok (.value (.int k r)) w:=by
 unfold shrK at hm
 split at hm
 ·cases hm
 ·rename_i h0
  simp only[Qg] at hm
  subst hm
  simp[execOp,hS.eval hx,hS.eval hy,zD7,zMP (op:=.shr) (k:=k) (a:=p) (b:=q) (v:=.int k (shr k p q)) (by simp[zUD];omega)]
section
variable {τ:Type}{e:E τ}{te:TypeId}{r:zH}{p:Option Addr}{c m:Nat}{l z:List τ}{i j:Int}{t:TypeId}{x hi':Operand}{lo hi:Option Operand}{vlo vhi:Option Value}{kd:IntKind}{k0:Int}
theorem z08 (h:SS qd A L0 w0 n S Ls F a w)(hR:(R e p c m l).h (bl Ls++A) w)(hx:zP S x=some (.slice p m c))(hlo:zQv S lo=some vlo)(hhi:zQv S hi=some vhi)(b1:Bd vlo i 0)(b2:Bd vhi j l.length)(hm:sub l i j=some z)
  (k:∀ p' c' a,SS qd A L0 w0 n ((d,.slice p' (List.length z) c')::S) Ls (R e p' c' (List.length z) z::F) a w->K a w)
  (ht:uI P t=some e.n:=by kernel_rfl) (hd:Nat.blt d n=true:=by kernel_rfl) (hg:qC ops S g=some true:=by kernel_rfl):vC P ops Q ⟨some d,.slice t x lo hi none,ty,pos,af,g⟩ K a w:=by
 obtain⟨hR,rfl⟩:=hR
 obtain⟨p',c',hr,hf⟩:=z2j (P:=P) (d:=some d) (ty:=ty) (pos:=pos) (af:=af) (g:=g) h.s hR hx ht hlo hhi b1 b2 hm
 exact zF2 h.s hd hg (hr w) fun a hS=>k p' c' a ((h.slot hS).add (f:=R e p' c' (List.length z) z) ⟨hf,rfl⟩)
theorem z1K (q:Nat)(h:SS qd A L0 w0 n S Ls F a w)(hi0:ops[q]?=some ⟨some d,.slice t x lo hi none,ty,pos,af,g⟩)(hR:(R e p c m l).h (bl Ls++A) w)(hx:zP S x=some (.slice p m c))(hlo:zQv S lo=some vlo)(hhi:zQv S hi=some vhi)(b1:Bd vlo i 0)(b2:Bd vhi j l.length)(hm:sub l i j=some z)
  (k:∀ p' c' a,SS qd A L0 w0 n ((d,.slice p' (List.length z) c')::S) Ls (R e p' c' (List.length z) z::F) a w->wL P ops Q (SB B (CC qd A Ls w J)) fuel (listed.setIfInBounds q true) a w)
  (ht:uI P t=some e.n:=by kernel_rfl) (hQ:∀ c (v:Value) a w,Q (.panic c) (a.put (some d) v) w->Q (.panic c) a w:=by exact fun _ _ _ _ h=>h)
  (hk:yQ ops B listed q=true:=by kernel_rfl) (hd:Nat.blt d n=true:=by kernel_rfl) (hg:qC ops S g=some true:=by kernel_rfl):wL P ops Q (SB B (CC qd A Ls w J)) (fuel+1) listed a w:=by
 obtain⟨hR,rfl⟩:=hR
 obtain⟨p',c',hr,hf⟩:=z2j (P:=P) (d:=some d) (ty:=ty) (pos:=pos) (af:=af) (g:=g) h.s hR hx ht hlo hhi b1 b2 hm
 exact z3p q h.o h.s hi0 hk hd (fun c=>hQ c _) hg hr fun a hS=>k p' c' a ((h.slot hS).add (f:=R e p' c' (List.length z) z) ⟨hf,rfl⟩)
theorem zXr (h:SS qd A L0 w0 n S Ls F a w)(hA:(Ar e te r p c m l).h (bl Ls++A) w)(hx:zP S x=some (.slice p m c))(hhi:zP S hi'=some (.int kd k0))(hm:sub l 0 k0=some z)
  (k:∀ a,SS qd A L0 w0 n ((d,.slice p (List.length z) c)::S) Ls (Ar e te r p c (List.length z) z::F) a w->K a w)
  (ht:uI P t=some e.n:=by kernel_rfl) (hd:Nat.blt d n=true:=by kernel_rfl) (hg:qC ops S g=some true:=by kernel_rfl):vC P ops Q ⟨some d,.slice t x none (some hi') none,ty,pos,af,g⟩ K a w:=by
 obtain⟨hA,rfl⟩:=hA
 obtain⟨hf,hr⟩:=zY4 (P:=P) (d:=some d) (ty:=ty) (pos:=pos) (af:=af) (g:=g) h.s hA hx ht hhi hm
 exact zF2 h.s hd hg (hr w) fun a hS=>k a ((h.slot hS).add (f:=Ar e te r p c (List.length z) z) ⟨hf,rfl⟩)
theorem R.ln{Z:List Nat}{w:World}(h:(R e p c m l).h Z w): m=l.length:=h.2
theorem Ar.ln{Z:List Nat}{w:World}(h:(Ar e te r p c m l).h Z w): m=l.length:=h.2
theorem R.re{Z:List Nat}{w:World}(h:(R e p c m l).h Z w): (R e p c (List.length l) l).h Z w:=⟨h.1,rfl⟩
theorem Ar.re{Z:List Nat}{w:World}(h:(Ar e te r p c m l).h Z w): (Ar e te r p c (List.length l) l).h Z w:=⟨h.1,rfl⟩
end
end
end Go.GD
