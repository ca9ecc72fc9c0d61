/- A part. Conditions: none. -/
import Derived.Test.YtmpieaddiaihmaaGreatDoorView
namespace Go.GD
open Go Go.RowKit
set_option autoImplicit false
variable {qd:Prop}
structure PP where
 h:List Nat->World->Prop
 mv:∀ {Z w Z' w'},vN Z w Z' w'->h Z w->h Z' w'
def PP.tr:PP:=⟨fun _ _=>True,fun _ h=>h⟩
def R{τ:Type}(e:E τ)(p:Option Addr)(c m:Nat)(l:List τ): PP:=⟨fun Z w=>uY e Z w p c l∧m=l.length,fun s h=>⟨h.1.step e s,h.2⟩⟩
def Ar{τ:Type}(e:E τ)(te:TypeId)(r:zJ)(p:Option Addr)(c m:Nat)(l:List τ): PP:=⟨fun Z w=>wJ e te Z w r p c l∧m=l.length,fun s h=>⟨h.1.mv s,h.2⟩⟩
def Pt{τ:Type}(e:E τ)(b o:Nat)(x:τ): PP:=⟨fun Z w=>tJ e Z w ⟨b,o,none⟩ x,fun s h=>h.mv s⟩
def Pu (q:Prop): PP:=⟨fun _ _=>q,fun _ h=>h⟩
def uM:List PP->List Nat->World->Prop
 | [],_,_=>True
 | f::r,Z,w=>f.h Z w∧uM r Z w
theorem uM.mv{Z Z':List Nat}{w w':World}(s:vN Z w Z' w'): ∀ {F:List PP},uM F Z w->uM F Z' w'
 | [],_=>trivial
 | f::_,h=>⟨f.mv s h.1,uM.mv s h.2⟩
theorem uM.app{Z:List Nat}{w:World}: ∀ {F G:List PP},uM F Z w->uM G Z w->uM (F++G) Z w
 | [],_,_,k=>k
 | _::_,_,h,k=>⟨h.1,uM.app h.2 k⟩
def yE:List PP->Nat->PP
 | [],_=>PP.tr
 | f::_,0=>f
 | _::r,k+1=>yE r k
theorem uM.at{Z:List Nat}{w:World}: ∀ {F:List PP},uM F Z w->∀ k,(yE F k).h Z w
 | [],_,_=>trivial
 | _::_,h,0=>h.1
 | _::_,h,k+1=>uM.at h.2 k
structure SS (qd:Prop)(A:List Nat)(L0:List zJ)(w0:World)(n:Nat)(S:List (Nat×Value))(Ls:List zJ)(F:List PP)(a:Act)(w:World): Prop where
 s:qF a n S
 o:zZ A w Ls
 e:zU qd L0 w0 Ls w
 f:uM F (bl Ls++A) w
structure Bk (qd:Prop)(A:List Nat)(L0:List zJ)(w0:World)(L1:List zJ)(F:List PP)(w:World): Prop where
 o:zZ A w L1
 e:zU qd L0 w0 L1 w
 f:uM F (bl L1++A) w
abbrev bx (b t:Nat)(l:List Value): zJ:=[(b,.cells l.toArray t (0,0))]
section
variable {A:List Nat}{L0 Ls Ls':List zJ}{w0 w w':World}{n:Nat}{S S':List (Nat×Value)}{F F1:List PP}{a a':Act}
theorem SS.g (h:SS qd A L0 w0 n S Ls F a w)(k:Nat): (yE F k).h (bl Ls++A) w:=h.f.at k
theorem SS.next (h:SS qd A L0 w0 n S Ls F a w)(hO:zZ A w' Ls')(e:zU qd Ls w Ls' w')(hS:qF a' n S')(F1:List PP)(hF:uM F1 (bl Ls'++A) w'): SS qd A L0 w0 n S' Ls' (F1++F) a' w' :=
 ⟨hS,hO,h.e.trans e,hF.app (h.f.mv (e.step A))⟩
theorem SS.slot (h:SS qd A L0 w0 n S Ls F a w)(hS:qF a' n S'): SS qd A L0 w0 n S' Ls F a' w:=⟨hS,h.o,h.e,h.f⟩
theorem SS.add (h:SS qd A L0 w0 n S Ls F a w){f:PP}(hf:f.h (bl Ls++A) w): SS qd A L0 w0 n S Ls (f::F) a w:=⟨h.s,h.o,h.e,hf,h.f⟩
theorem SS.upd (h:SS qd A L0 w0 n S Ls F a w){t:Nat}{v:Value}(v':Value)(hl:vE S t=some v)(e:v=v'): SS qd A L0 w0 n ((t,v')::S) Ls F a w:=h.slot (h.s.upd hl e)
theorem bk_sel (h:SS qd A L0 w0 n S Ls F a w)(js:List Nat)(hF:uM F1 (bl Ls++A) w)(hk:js.Nodup:=by decide): Bk qd A L0 w0 (uL Ls js) F1 w :=
 ⟨h.o.sel js hk,h.e.sel js,hF.mv (vN.sel js _ _ _)⟩
theorem SS.share{τ:Type}{e:E τ}{te:TypeId}{r:zJ}{p:Option Addr}{c m:Nat}{l:List τ}(h:SS qd A L0 w0 n S Ls F a w)(i:Nat)(hA:(Ar e te r p c m l).h (bl Ls++A) w)(hr:Ls[i]?=some r:=by rfl):
  SS qd A L0 w0 n S (Ls.set i []) (R e p c m l::F) a w :=
 ⟨h.s,h.o.dropped i,h.e.dropped i,⟨hA.1.share h.o hr,hA.2⟩,h.f.mv (vN.dropped i _ _ _)⟩
theorem SS.drop (h:SS qd A L0 w0 n S Ls F a w)(i:Nat): SS qd A L0 w0 n S (Ls.set i []) F a w:=⟨h.s,h.o.dropped i,h.e.dropped i,h.f.mv (vN.dropped i _ _ _)⟩
theorem SS.room{τ:Type}(h:SS qd A L0 w0 n S Ls F a w)(e:E τ)(te:TypeId): SS qd A L0 w0 n S (Ls++[[]]) (Ar e te [] none 0 0 []::F) a w :=
 ⟨h.s,h.o.room,h.e.trans (zU.room Ls w),⟨wJ.nil,rfl⟩,h.f.mv ((zU.room (qd:=qd) Ls w).step A)⟩
theorem rnil{τ:Type}(e:E τ)(Z:List Nat)(w:World)(p:Option Addr)(c:Nat): (R e p c 0 []).h Z w:=⟨uY.nil e Z w p c,rfl⟩
theorem R.cell{τ:Type}{e:E τ}{Z:List Nat}{w:World}{p:Option Addr}{c m:Nat}{l:List τ}(h:(R e p c m l).h Z w): (qA e).rd Z w [.slice p m c] l:=by
 obtain⟨h1,rfl⟩:=h;exact⟨p,c,rfl,h1⟩
theorem R.of{τ:Type}{e:E τ}{Z:List Nat}{w:World}{p:Option Addr}{c:Nat}{l:List τ}(h:uY e Z w p c l): (R e p c (List.length l) l).h Z w:=⟨h,rfl⟩
theorem zZ.lessA{A A':List Nat}(h:zZ A w Ls)(hs:∀ b∈A',b∈A): zZ A' w Ls:=⟨fun b hb=>h.old b (hs b hb),h.has,h.nodup,fun b hb hA=>h.apart b hb (hs b hA)⟩
theorem zWA:∀(js ls:List Nat) (L:List zJ),xA (js++ls) L=xA ls (xA js L)
 | [],_,_=>rfl
 | j::js,ls,L=>by simp only[UH,xA];exact zWA js ls _
abbrev Ac (A:List Nat)(Ls:List zJ)(js ls:List Nat): List Nat:=bl (xA (js++ls) Ls)++A
theorem Ac_sub{js ls:List Nat}: ∀ b∈Ac A Ls js ls,b∈bl (xA js Ls)++A:=by
 intro b hb
 grind [zWA,zOW]
theorem SS.po (h:SS qd A L0 w0 n S Ls F a w)(js ls:List Nat)(hk:z4B (js++ls) Ls.length=true:=by kernel_rfl): zZ (Ac A Ls js ls) w (uL Ls js) :=
 (h.o.picks js (QT.1 (zOh hk).1).1).lessA Ac_sub
theorem SS.pstep (js ls:List Nat): vN (bl Ls++A) w (bl (uL Ls js)++Ac A Ls js ls) w:=vN.less w fun b hb=>by
 grind [z2M,Ac_sub]
theorem SS.pl{τ:Type}{e:E τ}{te:TypeId}{r:zJ}{p:Option Addr}{c m:Nat}{l:List τ}(h:SS qd A L0 w0 n S Ls F a w)(js ls:List Nat)(i:Nat)(hA:(Ar e te r p c m l).h (bl Ls++A) w)(hr:Ls[i]?=some r:=by rfl)
  (hk:z4B (js++ls) Ls.length=true:=by kernel_rfl) (hi:ls.contains i=true:=by kernel_rfl):(R e p c m l).h (bl (uL Ls js)++Ac A Ls js ls) w:=by
 refine⟨?_,hA.2⟩
 obtain⟨hn,_⟩:=zOh hk
 have hi':i∈ls:=by simpa using hi
 have hij:i∉js:=fun hj=>(QT.1 hn).2.2 i hj i hi' rfl
 rcases hA.1 with⟨_,_,_,rfl⟩ | ⟨b,o,cells,rfl,rfl,h3,h4,h5,h6⟩
 ·exact⟨Ur _,.inl rfl⟩
 ·have hb:=xN h.o hr (Qa.2 rfl)
  refine⟨h3,.inr ⟨b,o,_,rfl,fun hm=>?_,(Qq.1 hb).1,e.rdL_step (SS.pstep js ls) h6,fun j u hu=>?_⟩⟩
  ·rcases Qb.1 hm with hm | hm
   ·obtain⟨s,hs,q,hq,he⟩:=zM1.1 hm
    obtain⟨k,hk,hlk⟩:=zR8 hs hq
    exact zEV h.o.nodup hr hlk (fun e=>hij (e▸hk)) _ (Qa.2 rfl) q hq he.symm
   ·rcases Qb.1 hm with hm | hm
    ·obtain⟨k,s,hk,hs,q,hq,he⟩:=zRN hm
     exact zEV h.o.nodup hr hs (fun e=>hk (Qb.2 (.inr (e▸hi')))) _ (Qa.2 rfl) q hq he.symm
    ·exact h.o.apart b (zCS hr (Qa.2 rfl)) hm
  grind [cell_of_row]
structure AC (qd:Prop)(A:List Nat)(L0:List zJ)(w0:World)(n:Nat)(S:List (Nat×Value))(Ls:List zJ)(F:List PP)(js ls:List Nat)(w:World)(a':Act)(w':World): Prop where
 s:qF a' n S
 o:zZ A w Ls
 e:zU qd L0 w0 Ls w
 f:uM F (bl Ls++A) w
theorem zZ.widen{A':List Nat}{L1:List zJ}{js:List Nat}(h:zZ A w Ls)(hn:js.Nodup)(ho:zZ A' w' L1)(e:zU qd (uL Ls js) w L1 w'): zZ (bl (xA js Ls)++A) w' L1:=by
 have hp:=h.picks js hn
 refine⟨fun b hb=>Uv (hp.old b hb) e.size,ho.has,ho.nodup,fun b hb hA=>?_⟩
 rcases e.fresh b hb with h1 | h1
 ·exact hp.apart b h1 hA
 ·have:=hp.old b hA;omega
theorem AC.ext{js ls:List Nat}{L1:List zJ}(c:AC qd A L0 w0 n S Ls F js ls w a' w')(q:Bk qd (Ac A Ls js ls) (uL Ls js) w L1 F1 w')(Ls':List zJ)
  (hk:z4B (js++ls) Ls.length=true) (hl:Nat.ble js.length L1.length=true) (hLs:zYq js (L1.take js.length) Ls++L1.drop js.length=Ls'):zZ A w' Ls'∧zU qd Ls w Ls' w':=by
 subst hLs
 have hl:=QW hl
 obtain⟨hn,hlt⟩:=zOh hk
 have hn1:=(QT.1 hn).1
 have hlt1:∀ j∈js,j<Ls.length:=fun j hj=>hlt j (Qb.2 (.inl hj))
 have hlen:(L1.take js.length).length=js.length:=by simp;omega
 have hq:=c.o.widen hn1 q.o q.e
 have he:=q.e
 rw[←Qu js.length L1] at hq he
 exact⟨c.o.fills hn1 hlt1 hlen hq he,zU.fills hn1 hlt1 hlen he⟩
theorem AC.on{js ls:List Nat}{L1:List zJ}(c:AC qd A L0 w0 n S Ls F js ls w a' w')(q:Bk qd (Ac A Ls js ls) (uL Ls js) w L1 F1 w')(Ls':List zJ)
  (hk:z4B (js++ls) Ls.length=true:=by kernel_rfl) (hl:Nat.ble js.length L1.length=true:=by kernel_rfl) (hLs:zYq js (L1.take js.length) Ls++L1.drop js.length=Ls':=by rfl)
  (hf:ls=[]∨F1=[]:=by first | exact .inl rfl | exact .inr rfl):SS qd A L0 w0 n S Ls' (F1++F) a' w':=by
 obtain⟨hO,hE⟩:=c.ext q Ls' hk hl hLs
 have hl:=QW hl
 refine⟨c.s,hO,c.e.trans hE,uM.app ?_ (c.f.mv (hE.step A))⟩
 rcases hf with rfl | rfl
 ·obtain⟨hn,hlt⟩:=zOh hk
  rw[QA] at hn hlt
  have hlen:(L1.take js.length).length=js.length:=by simp;omega
  have hF:=q.f
  subst hLs
  refine hF.mv ?_
  have:=vN.fills (Ls:=Ls) (js:=js) (rs:=L1.take js.length) (new:=L1.drop js.length) hn hlt hlen A w'
  rw[Qu] at this
  grind
 ·trivial
theorem AC.st{js ls:List Nat}{L1:List zJ}(c:AC qd A L0 w0 n S Ls F js ls w a' w')(q:Bk qd (Ac A Ls js ls) (uL Ls js) w L1 F1 w')(Ls':List zJ)
  (hk:z4B (js++ls) Ls.length=true:=by kernel_rfl) (hl:Nat.ble js.length L1.length=true:=by kernel_rfl) (hLs:zYq js (L1.take js.length) Ls++L1.drop js.length=Ls':=by rfl):zU qd Ls w Ls' w':=(c.ext q Ls' hk hl hLs).2
end
section
variable {P:Program}{ops:Array Oper}{Q:Exit->Act->World->Prop}{K:Act->World->Prop}{rest:List Oper}
variable {A:List Nat}{L0 Ls:List zJ}{w0 w:World}{n:Nat}{S:List (Nat×Value)}{F:List PP}{a:Act}
variable {d:Nat}{ty:TypeId}{pos:String}{af:Array Edge}{g:Option (Nat×Bool)}
theorem ent{f:FuncId}{fn:Func}{c:Code}{vs:List Value}{R:Ending->World->Prop}(hf:P.funcs[f]?=some fn)(hb:fn.body=some c)(hO:zZ A w0 L0)(hF:uM F (bl L0++A) w0)
  (k:∀ a,SS qd A L0 w0 fn.ntmps (zPM vs 0) L0 F a w0->c.wp P (bodyPost P fn R) a w0) (hn:Nat.ble vs.length fn.ntmps=true:=by kernel_rfl):Calls P f vs.toArray w0 R :=
 enter hf hb hn fun a hS=>k a ⟨hS,hO,zU.refl _ _,hF⟩
theorem sr{id:Nat}{l:List Oper}{y:Code}(h:wpList P l.toArray (Exit.then (fun a w=>y.wp P Q a w) Q) l a w): (Code.seq (.region id l.toArray false) y).wp P Q a w:=wp_seq (reg h)
theorem ss{x y:Code}(h:y.wp P Q a w)(hx:x=.skip:=by rfl): (Code.seq x y).wp P Q a w:=by grind [wp_seq,wp_skip,then_n]
theorem pr (m:Nat)(S2:List (Nat×Value)){l:List Oper}(h:SS qd A L0 w0 n S Ls F a w)(k:∀ a,SS qd A L0 w0 n (S2++S) Ls F a w->wpList P ops Q (l.drop m) a w)
  (hr:(zNR P ops (l.take m) S).bind (fun s=>zXi s (S2.map Prod.fst))=some S2:=by kernel_rfl) (hd:z2G n S2 S (z1f (l.take m))=true:=by kernel_rfl):wpList P ops Q l a w :=
 z9u m S2 h.s hr hd fun a hS=>k a (h.slot hS)
theorem cb{c:Operand}{x y:Code}{t:Bool}(h:SS qd A L0 w0 n S Ls F a w)(hc:zL S c=some (.bool t))(ht:t=true->x.wp P Q a w)(hf:t=false->y.wp P Q a w): (Code.cond c x y).wp P Q a w:=z1k h.s hc ht hf
theorem rt1{fn:Func}{t:Nat}{R:Value->World->Prop}{v:Value}(h:SS qd A L0 w0 n S Ls F a w)(hf:fn.results=#[.tmp t])(hv:vE S t=some v)(hR:R v w): bodyPost P fn (Ret R) .ret a w:=ret1 h.s hf hv hR
theorem rtg{fn:Func}{rs:List ResultVar}{vs:List Value}{R:Value->World->Prop}(h:SS qd A L0 w0 n S Ls F a w)(hf:fn.results=rs.toArray)(hr:z4h P S w rs vs)
  (hR:R (if h:vs.length=1 then vs[0] else .tuple vs.toArray) w):bodyPost P fn (Ret R) .ret a w:=ret_g h.s hf hr hR
theorem rtc{t ty b:Nat}{v:Value}{c:Array Value}{te:TypeId}{fr:Nat×Nat}{r:List ResultVar}{vs:List Value}(i:Nat)(h:SS qd A L0 w0 n S Ls F a w)(hl:vE S t=some (.pointer (some ⟨b,0,none⟩)))(hr:Ls[i]?=some [(b,.cells c te fr)])
  (k:z4h P S w r vs) (hv:xP P ty c 0=some v:=by kernel_rfl):z4h P S w (.cell t ty::r) (v::vs):=resC h.o i hl hr hv k
theorem z62{op:Op}{v:Value}(h:SS qd A L0 w0 n S Ls F a w)(hr:∀ w',(execOp a.eval ⟨some d,op,ty,pos,af,g⟩).run P w'=.ok (.value v) w')(k:∀ a,SS qd A L0 w0 n ((d,v)::S) Ls F a w->K a w)
  (hd:Nat.blt d n=true:=by kernel_rfl) (hg:zR ops S g=some true:=by kernel_rfl):wU P ops Q ⟨some d,op,ty,pos,af,g⟩ K a w :=
 xS h.s hd hg (hr w) fun a hS=>k a (h.slot hS)
theorem zLH (i:Nat){x:Operand}{t b o:Nat}{c:Array Value}{te:TypeId}{fr:Nat×Nat}(v:Value)(h:SS qd A L0 w0 n S Ls F a w)(hx:zL S x=some (.pointer (some ⟨b,o,none⟩)))(hr:Ls[i]?=some [(b,.cells c te fr)])
  (k:∀ a,SS qd A L0 w0 n ((d,v)::S) Ls F a w->K a w) (hv:xP P t c o=some v:=by kernel_rfl) (hd:Nat.blt d n=true:=by kernel_rfl) (hg:zR ops S g=some true:=by kernel_rfl) :
  wU P ops Q ⟨some d,.load t x,ty,pos,af,g⟩ K a w:=z3f i h.s hd hg h.o hx hr hv fun a hS=>k a (h.slot hS)
theorem zP8 (i:Nat){x y:Operand}{t b o:Nat}{c:Array Value}{te:TypeId}{v:Value}(h:SS qd A L0 w0 n S Ls F a w)(hx:zL S x=some (.pointer (some ⟨b,o,none⟩)))(hy:zL S y=some v)(hr:Ls[i]?=some [(b,.cells c te (0,0))])
  (k:∀ a w',SS qd A L0 w0 n S (Ls.set i [(b,.cells (xR c o v.cells.toList) te (0,0))]) F a w'->zU qd Ls w (Ls.set i [(b,.cells (xR c o v.cells.toList) te (0,0))]) w'->K a w')
  (hv:zMT P t c o v=true:=by kernel_rfl) (hg:zR ops S g=some true:=by kernel_rfl):wU P ops Q ⟨none,.store t x y,ty,pos,af,g⟩ K a w :=
 z2Z i h.s hg h.o hx hy hr hv fun w' hO e a hS=>k a w' (h.next hO e hS [] trivial) e
theorem b_box{x:Operand}{t:TypeId}{v:Value}(h:SS qd A L0 w0 n S Ls F a w)(hx:zL S x=some v)
  (k:∀ b a w',SS qd A L0 w0 n ((d,.pointer (some ⟨b,0,none⟩))::S) (Ls++[[(b,.cells v.cells t (0,0))]]) F a w'->zU qd Ls w (Ls++[[(b,.cells v.cells t (0,0))]]) w'->K a w')
  (hd:Nat.blt d n=true:=by kernel_rfl) (hg:zR ops S g=some true:=by kernel_rfl):wU P ops Q ⟨some d,.box t x,ty,pos,af,g⟩ K a w :=
 op_box h.s hd hg h.o hx fun b w' hO e a hS=>k b a w' (h.next hO e hS [] trivial) e
theorem z6Y{t:TypeId}{z:Value}(h:SS qd A L0 w0 n S Ls F a w)(hz:tL P t=some z)
  (k:∀ b a w',SS qd A L0 w0 n ((d,.pointer (some ⟨b,0,none⟩))::S) (Ls++[[(b,.cells z.cells t (0,0))]]) F a w'->zU qd Ls w (Ls++[[(b,.cells z.cells t (0,0))]]) w'->K a w')
  (hd:Nat.blt d n=true:=by kernel_rfl) (hg:zR ops S g=some true:=by kernel_rfl):wU P ops Q ⟨some d,.alloc t,ty,pos,af,g⟩ K a w :=
 z8t h.s hd hg h.o hz fun b w' hO e a hS=>k b a w' (h.next hO e hS [] trivial) e
section
variable {τ σ:Type}{e:E τ}{f:E σ}{te:TypeId}{r:zJ}{p:Option Addr}{c m:Nat}{l:List τ}{ix:Int}{u:τ}{t:TypeId}{x y:Operand}{kd:IntKind}
theorem z6G (h:SS qd A L0 w0 n S Ls F a w)(hR:(R e p c m l).h (bl Ls++A) w)(hx:zL S x=some (.slice p m c))(hy:zL S y=some (.int kd ix))(hm:zB l ix=some u)
  (k:∀ b o a,SS qd A L0 w0 n ((d,.pointer (some ⟨b,o,none⟩))::S) Ls (Pt e b o u::F) a w->K a w)
  (ht:wP P t=some e.n:=by kernel_rfl) (hd:Nat.blt d n=true:=by kernel_rfl) (hg:zR ops S g=some true:=by kernel_rfl):wU P ops Q ⟨some d,.indexAddr t x y,ty,pos,af,g⟩ K a w:=by
 obtain⟨hR,rfl⟩:=hR
 exact z38 h.s hd hg hR hx hy ht hm fun b o hP a hS=>k b o a ((h.slot hS).add hP)
theorem z2t{b o:Nat}{y:τ}(ag:Bool)(h:SS qd A L0 w0 n S Ls F a w)(hP:(Pt e b o y).h (bl Ls++A) w)(hx:zL S x=some (.pointer (some ⟨b,o,none⟩)))
  (k:∀ ci,e.rd (bl Ls++A) w ci y->∀ v,xW ag ci=some v->∀ a',SS qd A L0 w0 n ((d,v)::S) Ls F a' w->K a' w) (ht:vC P t=some (ag,e.n):=by kernel_rfl) (hag:ag=true∨e.n=1:=by first | exact .inl rfl | exact .inr rfl)
  (hd:Nat.blt d n=true:=by kernel_rfl) (hg:zR ops S g=some true:=by kernel_rfl):wU P ops Q ⟨some d,.load t x,ty,pos,af,g⟩ K a w :=
 z6F ag h.s hd hg hP hx ht (fun ci hc v hv a hS=>k ci hc v hv a (h.slot hS)) hag
theorem z3R (h:SS qd A L0 w0 n S Ls F a w)(hA:(Ar e te r p c m l).h (bl Ls++A) w)(hx:zL S x=some (.slice p m c))(hy:zL S y=some (.int kd ix))(hm:zB l ix=some u)
  (k:∀ b o,p=some ⟨b,o,none⟩->∀ a,SS qd A L0 w0 n ((d,.pointer (some ⟨b,o+ix.toNat*e.n,none⟩))::S) Ls F a w->K a w)
  (ht:wP P t=some e.n:=by kernel_rfl) (hd:Nat.blt d n=true:=by kernel_rfl) (hg:zR ops S g=some true:=by kernel_rfl):wU P ops Q ⟨some d,.indexAddr t x y,ty,pos,af,g⟩ K a w:=by
 obtain⟨hA,rfl⟩:=hA
 exact z2E h.s hd hg hA hx hy ht hm fun b o hp a hS=>k b o hp a (h.slot hS)
theorem z5a (i:Nat)(s:xG e f){b o:Nat}(ag:Bool)(h:SS qd A L0 w0 n S Ls F a w)(hA:(Ar e te r p c m l).h (bl Ls++A) w)(hp:p=some ⟨b,o,none⟩)(hm:zB l ix=some u)
  (hx:zL S x=some (.pointer (some ⟨b,o+ix.toNat*e.n+s.off,none⟩)))
  (k:∀ ci,f.rd (bl Ls++A) w ci (s.get u)->∀ v,xW ag ci=some v->∀ a',SS qd A L0 w0 n ((d,v)::S) Ls F a' w->K a' w) (hr:Ls[i]?=some r:=by rfl) (ht:vC P t=some (ag,f.n):=by kernel_rfl) (hag:ag=true∨f.n=1:=by first | exact .inl rfl | exact .inr rfl)
  (hd:Nat.blt d n=true:=by kernel_rfl) (hg:zR ops S g=some true:=by kernel_rfl):wU P ops Q ⟨some d,.load t x,ty,pos,af,g⟩ K a w :=
 z3T i s ag h.s hd hg h.o hr hA.1 hp hm hx ht (fun ci hc v hv a hS=>k ci hc v hv a (h.slot hS)) hag
theorem z3U (i:Nat)(s:xG e f){b o:Nat}{v:Value}(z:σ)(ag:Bool)(h:SS qd A L0 w0 n S Ls F a w)(hA:(Ar e te r p c m l).h (bl Ls++A) w)(hp:p=some ⟨b,o,none⟩)(hm:zB l ix=some u)
  (hx:zL S x=some (.pointer (some ⟨b,o+ix.toNat*e.n+s.off,none⟩))) (hy:zL S y=some v) (hv:f.rd (bl Ls++A) w v.cells.toList z)
  (k:∀ r' a' w',SS qd A L0 w0 n S (Ls.set i r') (Ar e te r' p c m (l.set ix.toNat (s.put u z))::F) a' w'->zU qd Ls w (Ls.set i r') w'->K a' w') (hr:Ls[i]?=some r:=by rfl) (ht:vC P t=some (ag,f.n):=by kernel_rfl)
  (hg:zR ops S g=some true:=by kernel_rfl):wU P ops Q ⟨none,.store t x y,ty,pos,af,g⟩ K a w :=
 z2H i s ag h.s hg h.o hr hA.1 hp hm hx hy ht hv fun r' w' hO e hA' a hS=>k r' a w' (h.next hO e hS [_] ⟨⟨hA',by rw[UB];exact hA.2⟩,trivial⟩) e
theorem z5z (i:Nat){q:Option Addr}{c2 m2:Nat}{l2 z:List τ}(h:SS qd A L0 w0 n S Ls F a w)(hA:(Ar e te r p c m l).h (bl Ls++A) w)(hR:(R e q c2 m2 l2).h (bl Ls++A) w)(hx:zL S x=some (.slice p m c))(hy:zL S y=some (.slice q m2 c2))(hm:qD l l2=some z)
  (k:∀ r' p' c' a' w',SS qd A L0 w0 n ((d,.slice p' (List.length z) c')::S) (Ls.set i r') (Ar e te r' p' c' (List.length z) z::F) a' w'->zU qd Ls w (Ls.set i r') w'->K a' w') (hr:Ls[i]?=some r:=by rfl) (ht:yS P t te e.n=true:=by kernel_rfl)
  (hd:Nat.blt d n=true:=by kernel_rfl) (hg:zR ops S g=some true:=by kernel_rfl) :
  wU P ops Q ⟨some d,.call { callee:=.builtin .append,args:=[x,y].toArray,argTypes:=[t,t].toArray },ty,pos,af,g⟩ K a w:=by
 obtain⟨hA,rfl⟩:=hA
 obtain⟨hR,rfl⟩:=hR
 exact z2D i te h.s hd hg h.o hr hA hR.src hx hy ht hm fun r' p' c' w' hO e hA' a hS=>k r' p' c' a w' (h.next hO e hS [_] ⟨⟨hA',rfl⟩,trivial⟩) e
theorem z5U (i j:Nat){r2:zJ}{q:Option Addr}{c2 m2:Nat}{l2 z:List τ}(h:SS qd A L0 w0 n S Ls F a w)(hA:(Ar e te r p c m l).h (bl Ls++A) w)(hR:(Ar e te r2 q c2 m2 l2).h (bl Ls++A) w)(hx:zL S x=some (.slice p m c))(hy:zL S y=some (.slice q m2 c2))(hm:qD l l2=some z)
  (k:∀ r' p' c' a' w',SS qd A L0 w0 n ((d,.slice p' (List.length z) c')::S) (Ls.set i r') (Ar e te r' p' c' (List.length z) z::F) a' w'->zU qd Ls w (Ls.set i r') w'->K a' w') (hr:Ls[i]?=some r:=by rfl) (hr2:Ls[j]?=some r2:=by rfl) (ht:yS P t te e.n=true:=by kernel_rfl)
  (hd:Nat.blt d n=true:=by kernel_rfl) (hg:zR ops S g=some true:=by kernel_rfl) :
  wU P ops Q ⟨some d,.call { callee:=.builtin .append,args:=[x,y].toArray,argTypes:=[t,t].toArray },ty,pos,af,g⟩ K a w:=by
 obtain⟨hA,rfl⟩:=hA
 obtain⟨hR,rfl⟩:=hR
 exact z2D i te h.s hd hg h.o hr hA (hR.src h.o hr2) hx hy ht hm fun r' p' c' w' hO e hA' a hS=>k r' p' c' a w' (h.next hO e hS [_] ⟨⟨hA',rfl⟩,trivial⟩) e
theorem b_bs_rd{q:Nat}{parts:List (Nat×Operand)}(cs:List Value)(l:List τ)(h:SS qd A L0 w0 n S Ls F a w)(hrd:e.rdL (bl Ls++A) w cs l)
  (k:∀ p c a' w',SS qd A L0 w0 n ((d,.slice p (List.length l) c)::S) Ls (R e p c (List.length l) l::F) a' w'->zU qd Ls w Ls w'->K a' w') (te:TypeId) (ht:yS P t te e.n=true:=by kernel_rfl) (hc:zLU P S t q parts=some cs:=by kernel_rfl) (hl:l.length=q:=by rfl)
  (hd:Nat.blt d n=true:=by kernel_rfl) (hg:zR ops S g=some true:=by kernel_rfl):wU P ops Q ⟨some d,.buildSlice t q parts.toArray,ty,pos,af,g⟩ K a w :=
 z8x cs l h.s hd hg h.o ht hc hrd hl fun p c w' hO e hR a hS=>k p c a w' (h.next hO e hS [_] ⟨⟨hR,rfl⟩,trivial⟩) e
theorem z90{q:Nat}{parts:List (Nat×Operand)}(cs:List Value)(l:List τ)(h:SS qd A L0 w0 n S Ls F a w)(hrd:e.rdL (bl Ls++A) w cs l)
  (k:∀ r p c a' w',SS qd A L0 w0 n ((d,.slice p (List.length l) c)::S) (Ls++[r]) (Ar e te r p c (List.length l) l::F) a' w'->zU qd Ls w (Ls++[r]) w'->K a' w') (ht:yS P t te e.n=true:=by kernel_rfl) (hc:zLU P S t q parts=some cs:=by kernel_rfl) (hl:l.length=q:=by rfl)
  (hm:Nat.ble q 16777216=true:=by kernel_rfl) (hd:Nat.blt d n=true:=by kernel_rfl) (hg:zR ops S g=some true:=by kernel_rfl):wU P ops Q ⟨some d,.buildSlice t q parts.toArray,ty,pos,af,g⟩ K a w :=
 z7M te cs l h.s hd hg h.o ht hc hrd hl hm fun r p c w' hO e hA a hS=>k r p c a w' (h.next hO e hS [_] ⟨⟨hA,rfl⟩,trivial⟩) e
theorem r_strOf{Z:List Nat}{l:List Int}{s t te:TypeId}{w:World}{d:Option Tmp}(hS:qF a n S)(hR:(R (zC .u8) p c m l).h Z w)(hx:zL S x=some (.slice p m c))(hs:P.underlying s=some (.slice te))(he:P.underlying te=some (.int .u8))(ht:P.underlying t=some .string):
  (execOp a.eval ⟨d,.convert s t x,ty,pos,af,g⟩).run P w=.ok (.value (vs (zWJ l))) w:=by
 obtain⟨hR,rfl⟩:=hR
 have hrun:(Conv.bytesToString (.slice p l.length c)).run P w=.ok (vs (zWJ l)) w:=by
  cases p with
  | none =>
   rcases hR.2 with rfl | ⟨b,off,cs,h,_⟩
   ·rfl
   ·cases h
  | some ad =>
   rcases hR.2 with rfl | ⟨b,off,cs,h,hb,hlt,hl,hc⟩
   ·simp[Conv.bytesToString,loadCells,loadCellsFrom,zWJ]
    rfl
   ·cases h
    have hlen:cs.length=l.length:=by rw[(zC .u8).rdL_len hl];simp[zC]
    have hld:=run_loadCells_list (P:=P) w ⟨b,off,none⟩ cs (fun j u hu=>by grind [tV])
    rw[hlen] at hld
    simp only[Conv.bytesToString,Sem.run_bind,hld,Result.andThen_ok]
    rw[←Array.forIn_toList]
    rw[zZd _ (fun _ _=>rfl) l _ Z w w _ (by grind)]
    rfl
 simp[execOp,convert,hS.eval hx,run_underlying hs,run_underlying ht,run_underlying he,hrun]
theorem b_strOf{l:List Int}{s t te:TypeId}(h:SS qd A L0 w0 n S Ls F a w)(hR:(R (zC .u8) p c m l).h (bl Ls++A) w)(hx:zL S x=some (.slice p m c))(hs:P.underlying s=some (.slice te))(he:P.underlying te=some (.int .u8))(ht:P.underlying t=some .string)
  (k:∀ a,SS qd A L0 w0 n ((d,vs (zWJ l))::S) Ls F a w->K a w) (hd:Nat.blt d n=true:=by kernel_rfl) (hg:zR ops S g=some true:=by kernel_rfl):wU P ops Q ⟨some d,.convert s t x,ty,pos,af,g⟩ K a w :=
 xS h.s hd hg (r_strOf h.s hR hx hs he ht) fun a hS=>k a (h.slot hS)
end
theorem b_call{f:FuncId}{cal:Operand}{xs:List Operand}{bs0 caps:List Value}{ats:Array TypeId}{vs:List Value}{R:Value->World->Prop}(js ls:List Nat)(h:SS qd A L0 w0 n S Ls F a w)
  (hf:∀ args w,(callFunc f args).run P w=.ok (.enter f args) w) (hcal:zL S cal=some (.func (.func f) bs0.toArray caps.toArray)) (hx:z4b S xs=some vs)
  (hc:Calls P f (bs0++vs++caps).toArray w (Ret R)) (k:∀ v a' w',R v w'->AC qd A L0 w0 n ((d,v)::S) Ls F js ls w a' w'->K a' w')
  (hd:Nat.blt d n=true:=by kernel_rfl) (hg:zR ops S g=some true:=by kernel_rfl) :
  wU P ops Q ⟨some d,.call { callee:=.value cal,args:=xs.toArray,argTypes:=ats },ty,pos,af,g⟩ K a w:=by
 unfold wU
 rw[Qp (zFe (o:=⟨some d,.call { callee:=.value cal,args:=xs.toArray,argTypes:=ats },ty,pos,af,g⟩) h.s hg)]
 have hr:(execOp a.eval ⟨some d,.call { callee:=.value cal,args:=xs.toArray,argTypes:=ats },ty,pos,af,g⟩).run P w=.ok (.enter f (bs0++vs++caps).toArray) w:=by
  simp[execOp,resolve,Deferred.ofValue,invoke,h.s.eval hcal,hf,h.s.evals hx]
 unfold Oper.wp
 rw[hr]
 refine hc.mono fun e w' hh=>?_
 cases e with
 | returned v=>exact k v _ w' hh ⟨h.s.put hd v,h.o,h.e,h.f⟩
 | panicked ch=>exact hh.elim
 | outgrown=>exact hh.elim
end
end Go.GD
