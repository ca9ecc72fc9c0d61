/- A part. Conditions: none. -/
import Derived.Test.YtcoildnkgkbjfaaGreatDoorView
namespace Go.GD
open Go Go.RowKit
set_option autoImplicit false
variable {qd:Prop}
structure PP where
 h:List Nat->World->Prop
 mv:∀ {Z w Z' w'},vT Z w Z' w'->h Z w->h Z' w'
def PP.tr:PP:=⟨fun _ _=>True,fun _ h=>h⟩
def R{τ:Type}(e:E τ)(p:Option Addr)(c m:Nat)(l:List τ): PP:=⟨fun Z w=>xS e Z w p c l∧m=l.length,fun s h=>⟨h.1.step e s,h.2⟩⟩
def Ar{τ:Type}(e:E τ)(te:TypeId)(r:zH)(p:Option Addr)(c m:Nat)(l:List τ): PP:=⟨fun Z w=>yJ e te Z w r p c l∧m=l.length,fun s h=>⟨h.1.mv s,h.2⟩⟩
def Pt{τ:Type}(e:E τ)(b o:Nat)(x:τ): PP:=⟨fun Z w=>zRR e Z w ⟨b,o,none⟩ x,fun s h=>h.mv s⟩
def Pu (q:Prop): PP:=⟨fun _ _=>q,fun _ h=>h⟩
def xA:List PP->List Nat->World->Prop
 | [],_,_=>True
 | f::r,Z,w=>f.h Z w∧xA r Z w
theorem xA.mv{Z Z':List Nat}{w w':World}(s:vT Z w Z' w'): ∀ {F:List PP},xA F Z w->xA F Z' w'
 | [],_=>trivial
 | f::_,h=>⟨f.mv s h.1,xA.mv s h.2⟩
theorem xA.app{Z:List Nat}{w:World}: ∀ {F G:List PP},xA F Z w->xA G Z w->xA (F++G) Z w
 | [],_,_,k=>k
 | _::_,_,h,k=>⟨h.1,xA.app h.2 k⟩
def uL:List PP->Nat->PP
 | [],_=>PP.tr
 | f::_,0=>f
 | _::r,k+1=>uL r k
theorem xA.at{Z:List Nat}{w:World}: ∀ {F:List PP},xA F Z w->∀ k,(uL F k).h Z w
 | [],_,_=>trivial
 | _::_,h,0=>h.1
 | _::_,h,k+1=>xA.at h.2 k
structure SS (qd:Prop)(A:List Nat)(L0:List zH)(w0:World)(n:Nat)(S:List (Nat×Value))(Ls:List zH)(F:List PP)(a:Act)(w:World): Prop where
 s:qO a n S
 o:qF A w Ls
 e:zZ qd L0 w0 Ls w
 f:xA F (bl Ls++A) w
structure Bk (qd:Prop)(A:List Nat)(L0:List zH)(w0:World)(L1:List zH)(F:List PP)(w:World): Prop where
 o:qF A w L1
 e:zZ qd L0 w0 L1 w
 f:xA F (bl L1++A) w
abbrev bx (b t:Nat)(l:List Value): zH:=[(b,.cells l.toArray t (0,0))]
section
variable {A:List Nat}{L0 Ls Ls':List zH}{w0 w w':World}{n:Nat}{S S':List (Nat×Value)}{F F1:List PP}{a a':Act}
theorem SS.g (h:SS qd A L0 w0 n S Ls F a w)(k:Nat): (uL F k).h (bl Ls++A) w:=h.f.at k
theorem SS.next (h:SS qd A L0 w0 n S Ls F a w)(hO:qF A w' Ls')(e:zZ qd Ls w Ls' w')(hS:qO a' n S')(F1:List PP)(hF:xA F1 (bl Ls'++A) w'): SS qd A L0 w0 n S' Ls' (F1++F) a' w' :=
 ⟨hS,hO,h.e.trans e,hF.app (h.f.mv (e.step A))⟩
theorem SS.slot (h:SS qd A L0 w0 n S Ls F a w)(hS:qO a' n S'): SS qd A L0 w0 n S' Ls F a' w:=⟨hS,h.o,h.e,h.f⟩
theorem SS.add (h:SS qd A L0 w0 n S Ls F a w){f:PP}(hf:f.h (bl Ls++A) w): SS qd A L0 w0 n S Ls (f::F) a w:=⟨h.s,h.o,h.e,hf,h.f⟩
theorem SS.upd (h:SS qd A L0 w0 n S Ls F a w){t:Nat}{v:Value}(v':Value)(hl:vG S t=some v)(e:v=v'): SS qd A L0 w0 n ((t,v')::S) Ls F a w:=h.slot (h.s.upd hl e)
theorem z5l (h:SS qd A L0 w0 n S Ls F a w)(js:List Nat)(hF:xA F1 (bl Ls++A) w)(hk:js.Nodup:=by decide): Bk qd A L0 w0 (uT Ls js) F1 w :=
 ⟨h.o.sel js hk,h.e.sel js,hF.mv (vT.sel js _ _ _)⟩
theorem SS.share{τ:Type}{e:E τ}{te:TypeId}{r:zH}{p:Option Addr}{c m:Nat}{l:List τ}(h:SS qd A L0 w0 n S Ls F a w)(i:Nat)(hA:(Ar e te r p c m l).h (bl Ls++A) w)(hr:Ls[i]?=some r:=by rfl):
  SS qd A L0 w0 n S (Ls.set i []) (R e p c m l::F) a w :=
 ⟨h.s,h.o.dropped i,h.e.dropped i,⟨hA.1.share h.o hr,hA.2⟩,h.f.mv (vT.dropped i _ _ _)⟩
theorem SS.drop (h:SS qd A L0 w0 n S Ls F a w)(i:Nat): SS qd A L0 w0 n S (Ls.set i []) F a w:=⟨h.s,h.o.dropped i,h.e.dropped i,h.f.mv (vT.dropped i _ _ _)⟩
theorem SS.room{τ:Type}(h:SS qd A L0 w0 n S Ls F a w)(e:E τ)(te:TypeId): SS qd A L0 w0 n S (Ls++[[]]) (Ar e te [] none 0 0 []::F) a w :=
 ⟨h.s,h.o.room,h.e.trans (zZ.room Ls w),⟨yJ.nil,rfl⟩,h.f.mv ((zZ.room (qd:=qd) Ls w).step A)⟩
theorem rnil{τ:Type}(e:E τ)(Z:List Nat)(w:World)(p:Option Addr)(c:Nat): (R e p c 0 []).h Z w:=⟨xS.nil e Z w p c,rfl⟩
theorem R.cell{τ:Type}{e:E τ}{Z:List Nat}{w:World}{p:Option Addr}{c m:Nat}{l:List τ}(h:(R e p c m l).h Z w): (wJ e).rd Z w [.slice p m c] l:=by
 obtain⟨h1,rfl⟩:=h;exact⟨p,c,rfl,h1⟩
theorem R.of{τ:Type}{e:E τ}{Z:List Nat}{w:World}{p:Option Addr}{c:Nat}{l:List τ}(h:xS e Z w p c l): (R e p c (List.length l) l).h Z w:=⟨h,rfl⟩
theorem qF.lessA{A A':List Nat}(h:qF A w Ls)(hs:∀ b∈A',b∈A): qF A' w Ls:=⟨fun b hb=>h.old b (hs b hb),h.has,h.nodup,fun b hb hA=>h.apart b hb (hs b hA)⟩
theorem zQ0:∀(js ls:List Nat) (L:List zH),xG (js++ls) L=xG ls (xG js L)
 | [],_,_=>rfl
 | j::js,ls,L=>by simp only[Q5,xG];exact zQ0 js ls _
abbrev Ac (A:List Nat)(Ls:List zH)(js ls:List Nat): List Nat:=bl (xG (js++ls) Ls)++A
theorem z6C{js ls:List Nat}: ∀ b∈Ac A Ls js ls,b∈bl (xG js Ls)++A:=by
 intro b hb
 grind [zQ0,zJo]
theorem SS.po (h:SS qd A L0 w0 n S Ls F a w)(js ls:List Nat)(hk:zZe (js++ls) Ls.length=true:=by kernel_rfl): qF (Ac A Ls js ls) w (uT Ls js) :=
 (h.o.picks js (Q2.1 (zL5 hk).1).1).lessA z6C
theorem SS.pstep (js ls:List Nat): vT (bl Ls++A) w (bl (uT Ls js)++Ac A Ls js ls) w:=vT.less w fun b hb=>by
 grind [zW6,z6C]
theorem SS.pl{τ:Type}{e:E τ}{te:TypeId}{r:zH}{p:Option Addr}{c m:Nat}{l:List τ}(h:SS qd A L0 w0 n S Ls F a w)(js ls:List Nat)(i:Nat)(hA:(Ar e te r p c m l).h (bl Ls++A) w)(hr:Ls[i]?=some r:=by rfl)
  (hk:zZe (js++ls) Ls.length=true:=by kernel_rfl) (hi:ls.contains i=true:=by kernel_rfl):(R e p c m l).h (bl (uT Ls js)++Ac A Ls js ls) w:=by
 refine⟨?_,hA.2⟩
 obtain⟨hn,_⟩:=zL5 hk
 have hi':i∈ls:=by simpa using hi
 have hij:i∉js:=fun hj=>(Q2.1 hn).2.2 i hj i hi' rfl
 rcases hA.1 with⟨_,_,_,rfl⟩ | ⟨b,o,cells,rfl,rfl,h3,h4,h5,h6⟩
 ·exact⟨Q9 _,.inl rfl⟩
 ·have hb:=tJ h.o hr (Qf.2 rfl)
  refine⟨h3,.inr ⟨b,o,_,rfl,fun hm=>?_,(QD.1 hb).1,e.rdL_step (SS.pstep js ls) h6,fun j u hu=>?_⟩⟩
  ·rcases Qk.1 hm with hm | hm
   ·obtain⟨s,hs,q,hq,he⟩:=zHY.1 hm
    obtain⟨k,hk,hlk⟩:=zON hs hq
    exact zEt h.o.nodup hr hlk (fun e=>hij (e▸hk)) _ (Qf.2 rfl) q hq he.symm
   ·rcases Qk.1 hm with hm | hm
    ·obtain⟨k,s,hk,hs,q,hq,he⟩:=zOj hm
     exact zEt h.o.nodup hr hs (fun e=>hk (Qk.2 (.inr (e▸hi')))) _ (Qf.2 rfl) q hq he.symm
    ·exact h.o.apart b (zBg hr (Qf.2 rfl)) hm
  grind [cell_of_row]
structure AC (qd:Prop)(A:List Nat)(L0:List zH)(w0:World)(n:Nat)(S:List (Nat×Value))(Ls:List zH)(F:List PP)(js ls:List Nat)(w:World)(a':Act)(w':World): Prop where
 s:qO a' n S
 o:qF A w Ls
 e:zZ qd L0 w0 Ls w
 f:xA F (bl Ls++A) w
theorem qF.widen{A':List Nat}{L1:List zH}{js:List Nat}(h:qF A w Ls)(hn:js.Nodup)(ho:qF A' w' L1)(e:zZ qd (uT Ls js) w L1 w'): qF (bl (xG js Ls)++A) w' L1:=by
 have hp:=h.picks js hn
 refine⟨fun b hb=>Uh (hp.old b hb) e.size,ho.has,ho.nodup,fun b hb hA=>?_⟩
 rcases e.fresh b hb with h1 | h1
 ·exact hp.apart b h1 hA
 ·have:=hp.old b hA;omega
theorem AC.ext{js ls:List Nat}{L1:List zH}(c:AC qd A L0 w0 n S Ls F js ls w a' w')(q:Bk qd (Ac A Ls js ls) (uT Ls js) w L1 F1 w')(Ls':List zH)
  (hk:zZe (js++ls) Ls.length=true) (hl:Nat.ble js.length L1.length=true) (hLs:zR9 js (L1.take js.length) Ls++L1.drop js.length=Ls'):qF A w' Ls'∧zZ qd Ls w Ls' w':=by
 subst hLs
 have hl:=QV hl
 obtain⟨hn,hlt⟩:=zL5 hk
 have hn1:=(Q2.1 hn).1
 have hlt1:∀ j∈js,j<Ls.length:=fun j hj=>hlt j (Qk.2 (.inl hj))
 have hlen:(L1.take js.length).length=js.length:=by simp;omega
 have hq:=c.o.widen hn1 q.o q.e
 have he:=q.e
 rw[←QC js.length L1] at hq he
 exact⟨c.o.fills hn1 hlt1 hlen hq he,zZ.fills hn1 hlt1 hlen he⟩
theorem AC.on{js ls:List Nat}{L1:List zH}(c:AC qd A L0 w0 n S Ls F js ls w a' w')(q:Bk qd (Ac A Ls js ls) (uT Ls js) w L1 F1 w')(Ls':List zH)
  (hk:zZe (js++ls) Ls.length=true:=by kernel_rfl) (hl:Nat.ble js.length L1.length=true:=by kernel_rfl) (hLs:zR9 js (L1.take js.length) Ls++L1.drop js.length=Ls':=by rfl)
  (hf:ls=[]∨F1=[]:=by first | exact .inl rfl | exact .inr rfl):SS qd A L0 w0 n S Ls' (F1++F) a' w':=by
 obtain⟨hO,hE⟩:=c.ext q Ls' hk hl hLs
 have hl:=QV hl
 refine⟨c.s,hO,c.e.trans hE,xA.app ?_ (c.f.mv (hE.step A))⟩
 rcases hf with rfl | rfl
 ·obtain⟨hn,hlt⟩:=zL5 hk
  rw[QJ] at hn hlt
  have hlen:(L1.take js.length).length=js.length:=by simp;omega
  have hF:=q.f
  subst hLs
  refine hF.mv ?_
  have:=vT.fills (Ls:=Ls) (js:=js) (rs:=L1.take js.length) (new:=L1.drop js.length) hn hlt hlen A w'
  rw[QC] at this
  grind
 ·trivial
theorem AC.st{js ls:List Nat}{L1:List zH}(c:AC qd A L0 w0 n S Ls F js ls w a' w')(q:Bk qd (Ac A Ls js ls) (uT Ls js) w L1 F1 w')(Ls':List zH)
  (hk:zZe (js++ls) Ls.length=true:=by kernel_rfl) (hl:Nat.ble js.length L1.length=true:=by kernel_rfl) (hLs:zR9 js (L1.take js.length) Ls++L1.drop js.length=Ls':=by rfl):zZ qd Ls w Ls' w':=(c.ext q Ls' hk hl hLs).2
end
section
variable {P:Program}{ops:Array Oper}{Q:Exit->Act->World->Prop}{K:Act->World->Prop}{rest:List Oper}
variable {A:List Nat}{L0 Ls:List zH}{w0 w:World}{n:Nat}{S:List (Nat×Value)}{F:List PP}{a:Act}
variable {d:Nat}{ty:TypeId}{pos:String}{af:Array Edge}{g:Option (Nat×Bool)}
theorem ent{f:FuncId}{fn:Func}{c:Code}{vs:List Value}{R:Ending->World->Prop}(hf:P.funcs[f]?=some fn)(hb:fn.body=some c)(hO:qF A w0 L0)(hF:xA F (bl L0++A) w0)
  (k:∀ a,SS qd A L0 w0 fn.ntmps (zKQ vs 0) L0 F a w0->c.wp P (bodyPost P fn R) a w0) (hn:Nat.ble vs.length fn.ntmps=true:=by kernel_rfl):Calls P f vs.toArray w0 R :=
 enter hf hb hn fun a hS=>k a ⟨hS,hO,zZ.refl _ _,hF⟩
theorem sp{id:Nat}{l:List Oper}{y:Code}(S2:List (Nat×Value))(h:SS qd A L0 w0 n S Ls F a w)(k:∀ a,SS qd A L0 w0 n (S2++S) Ls F a w->y.wp P Q a w)
  (hr:(zHa P l.toArray l S).bind (fun s=>zQ8 s (S2.map Prod.fst))=some S2:=by kernel_rfl) (hd:zUC n S2 S (zVd l)=true:=by kernel_rfl) :
  (Code.seq (.region id l.toArray false) y).wp P Q a w:=by
 refine wp_seq (reg ?_)
 refine zZI l.length S2 h.s (by grind) (by grind) fun a hS=>?_
 rw[U7]
 exact zXt (z3W (k a (h.slot hS)))
theorem ss{x y:Code}(h:y.wp P Q a w)(hx:x=.skip:=by rfl): (Code.seq x y).wp P Q a w:=by grind [wp_seq,wp_skip,z3W]
theorem pr (m:Nat)(S2:List (Nat×Value)){l:List Oper}(h:SS qd A L0 w0 n S Ls F a w)(k:∀ a,SS qd A L0 w0 n (S2++S) Ls F a w->wpList P ops Q (l.drop m) a w)
  (hr:(zHa P ops (l.take m) S).bind (fun s=>zQ8 s (S2.map Prod.fst))=some S2:=by kernel_rfl) (hd:zUC n S2 S (zVd (l.take m))=true:=by kernel_rfl):wpList P ops Q l a w :=
 zZI m S2 h.s hr hd fun a hS=>k a (h.slot hS)
theorem rt1{fn:Func}{t:Nat}{R:Value->World->Prop}{v:Value}(h:SS qd A L0 w0 n S Ls F a w)(hf:fn.results=#[.tmp t])(hv:vG S t=some v)(hR:R v w): bodyPost P fn (Ret R) .ret a w:=ret1 h.s hf hv hR
theorem rtg{fn:Func}{rs:List ResultVar}{vs:List Value}{R:Value->World->Prop}(h:SS qd A L0 w0 n S Ls F a w)(hf:fn.results=rs.toArray)(hr:zZN P S w rs vs)
  (hR:R (if h:vs.length=1 then vs[0] else .tuple vs.toArray) w):bodyPost P fn (Ret R) .ret a w:=ret_g h.s hf hr hR
theorem rtc{t ty b:Nat}{v:Value}{c:Array Value}{te:TypeId}{fr:Nat×Nat}{r:List ResultVar}{vs:List Value}(i:Nat)(h:SS qd A L0 w0 n S Ls F a w)(hl:vG S t=some (.pointer (some ⟨b,0,none⟩)))(hr:Ls[i]?=some [(b,.cells c te fr)])
  (k:zZN P S w r vs) (hv:zI2 P ty c 0=some v:=by kernel_rfl):zZN P S w (.cell t ty::r) (v::vs):=resC h.o i hl hr hv k
theorem z2h{op:Op}{v:Value}(h:SS qd A L0 w0 n S Ls F a w)(hr:∀ w',(execOp a.eval ⟨some d,op,ty,pos,af,g⟩).run P w'=.ok (.value v) w')(k:∀ a,SS qd A L0 w0 n ((d,v)::S) Ls F a w->K a w)
  (hd:Nat.blt d n=true:=by kernel_rfl) (hg:qC ops S g=some true:=by kernel_rfl):vC P ops Q ⟨some d,op,ty,pos,af,g⟩ K a w :=
 zF2 h.s hd hg (hr w) fun a hS=>k a (h.slot hS)
theorem zJf (i:Nat){x:Operand}{t b o:Nat}{c:Array Value}{te:TypeId}{fr:Nat×Nat}(v:Value)(h:SS qd A L0 w0 n S Ls F a w)(hx:zP S x=some (.pointer (some ⟨b,o,none⟩)))(hr:Ls[i]?=some [(b,.cells c te fr)])
  (k:∀ a,SS qd A L0 w0 n ((d,v)::S) Ls F a w->K a w) (hv:zI2 P t c o=some v:=by kernel_rfl) (hd:Nat.blt d n=true:=by kernel_rfl) (hg:qC ops S g=some true:=by kernel_rfl) :
  vC P ops Q ⟨some d,.load t x,ty,pos,af,g⟩ K a w:=zYk i h.s hd hg h.o hx hr hv fun a hS=>k a (h.slot hS)
theorem zXf (i:Nat){x y:Operand}{t b o:Nat}{c:Array Value}{te:TypeId}{v:Value}(h:SS qd A L0 w0 n S Ls F a w)(hx:zP S x=some (.pointer (some ⟨b,o,none⟩)))(hy:zP S y=some v)(hr:Ls[i]?=some [(b,.cells c te (0,0))])
  (k:∀ a w',SS qd A L0 w0 n S (Ls.set i [(b,.cells (zZc c o v.cells.toList) te (0,0))]) F a w'->zZ qd Ls w (Ls.set i [(b,.cells (zZc c o v.cells.toList) te (0,0))]) w'->K a w')
  (hv:zKe P t c o v=true:=by kernel_rfl) (hg:qC ops S g=some true:=by kernel_rfl):vC P ops Q ⟨none,.store t x y,ty,pos,af,g⟩ K a w :=
 zXJ i h.s hg h.o hx hy hr hv fun w' hO e a hS=>k a w' (h.next hO e hS [] trivial) e
theorem b_box{x:Operand}{t:TypeId}{v:Value}(h:SS qd A L0 w0 n S Ls F a w)(hx:zP S x=some v)
  (k:∀ b a w',SS qd A L0 w0 n ((d,.pointer (some ⟨b,0,none⟩))::S) (Ls++[[(b,.cells v.cells t (0,0))]]) F a w'->zZ qd Ls w (Ls++[[(b,.cells v.cells t (0,0))]]) w'->K a w')
  (hd:Nat.blt d n=true:=by kernel_rfl) (hg:qC ops S g=some true:=by kernel_rfl):vC P ops Q ⟨some d,.box t x,ty,pos,af,g⟩ K a w :=
 op_box h.s hd hg h.o hx fun b w' hO e a hS=>k b a w' (h.next hO e hS [] trivial) e
theorem z7R{t:TypeId}{z:Value}(h:SS qd A L0 w0 n S Ls F a w)(hz:zI6 P t=some z)
  (k:∀ b a w',SS qd A L0 w0 n ((d,.pointer (some ⟨b,0,none⟩))::S) (Ls++[[(b,.cells z.cells t (0,0))]]) F a w'->zZ qd Ls w (Ls++[[(b,.cells z.cells t (0,0))]]) w'->K a w')
  (hd:Nat.blt d n=true:=by kernel_rfl) (hg:qC ops S g=some true:=by kernel_rfl):vC P ops Q ⟨some d,.alloc t,ty,pos,af,g⟩ K a w :=
 z5E h.s hd hg h.o hz fun b w' hO e a hS=>k b a w' (h.next hO e hS [] trivial) e
section
variable {τ σ:Type}{e:E τ}{f:E σ}{te:TypeId}{r:zH}{p:Option Addr}{c m:Nat}{l:List τ}{ix:Int}{u:τ}{t:TypeId}{x y:Operand}{kd:IntKind}
theorem z0L (h:SS qd A L0 w0 n S Ls F a w)(hR:(R e p c m l).h (bl Ls++A) w)(hx:zP S x=some (.slice p m c))(hy:zP S y=some (.int kd ix))(hm:zD l ix=some u)
  (k:∀ b o a,SS qd A L0 w0 n ((d,.pointer (some ⟨b,o,none⟩))::S) Ls (Pt e b o u::F) a w->K a w)
  (ht:uI P t=some e.n:=by kernel_rfl) (hd:Nat.blt d n=true:=by kernel_rfl) (hg:qC ops S g=some true:=by kernel_rfl):vC P ops Q ⟨some d,.indexAddr t x y,ty,pos,af,g⟩ K a w:=by
 obtain⟨hR,rfl⟩:=hR
 exact zYV h.s hd hg hR hx hy ht hm fun b o hP a hS=>k b o a ((h.slot hS).add hP)
theorem z2L{b o:Nat}{y:τ}(ag:Bool)(h:SS qd A L0 w0 n S Ls F a w)(hP:(Pt e b o y).h (bl Ls++A) w)(hx:zP S x=some (.pointer (some ⟨b,o,none⟩)))
  (k:∀ ci,e.rd (bl Ls++A) w ci y->∀ v,tX ag ci=some v->∀ a',SS qd A L0 w0 n ((d,v)::S) Ls F a' w->K a' w) (ht:uB P t=some (ag,e.n):=by kernel_rfl) (hag:ag=true∨e.n=1:=by first | exact .inl rfl | exact .inr rfl)
  (hd:Nat.blt d n=true:=by kernel_rfl) (hg:qC ops S g=some true:=by kernel_rfl):vC P ops Q ⟨some d,.load t x,ty,pos,af,g⟩ K a w :=
 z0V ag h.s hd hg hP hx ht (fun ci hc v hv a hS=>k ci hc v hv a (h.slot hS)) hag
theorem zXj (h:SS qd A L0 w0 n S Ls F a w)(hA:(Ar e te r p c m l).h (bl Ls++A) w)(hx:zP S x=some (.slice p m c))(hy:zP S y=some (.int kd ix))(hm:zD l ix=some u)
  (k:∀ b o,p=some ⟨b,o,none⟩->∀ a,SS qd A L0 w0 n ((d,.pointer (some ⟨b,o+ix.toNat*e.n,none⟩))::S) Ls F a w->K a w)
  (ht:uI P t=some e.n:=by kernel_rfl) (hd:Nat.blt d n=true:=by kernel_rfl) (hg:qC ops S g=some true:=by kernel_rfl):vC P ops Q ⟨some d,.indexAddr t x y,ty,pos,af,g⟩ K a w:=by
 obtain⟨hA,rfl⟩:=hA
 exact zXA h.s hd hg hA hx hy ht hm fun b o hp a hS=>k b o hp a (h.slot hS)
theorem z0a (i:Nat)(s:tW e f){b o:Nat}(ag:Bool)(h:SS qd A L0 w0 n S Ls F a w)(hA:(Ar e te r p c m l).h (bl Ls++A) w)(hp:p=some ⟨b,o,none⟩)(hm:zD l ix=some u)
  (hx:zP S x=some (.pointer (some ⟨b,o+ix.toNat*e.n+s.off,none⟩)))
  (k:∀ ci,f.rd (bl Ls++A) w ci (s.get u)->∀ v,tX ag ci=some v->∀ a',SS qd A L0 w0 n ((d,v)::S) Ls F a' w->K a' w) (hr:Ls[i]?=some r:=by rfl) (ht:uB P t=some (ag,f.n):=by kernel_rfl) (hag:ag=true∨f.n=1:=by first | exact .inl rfl | exact .inr rfl)
  (hd:Nat.blt d n=true:=by kernel_rfl) (hg:qC ops S g=some true:=by kernel_rfl):vC P ops Q ⟨some d,.load t x,ty,pos,af,g⟩ K a w :=
 zY5 i s ag h.s hd hg h.o hr hA.1 hp hm hx ht (fun ci hc v hv a hS=>k ci hc v hv a (h.slot hS)) hag
theorem zYl (i:Nat)(s:tW e f){b o:Nat}{v:Value}(z:σ)(ag:Bool)(h:SS qd A L0 w0 n S Ls F a w)(hA:(Ar e te r p c m l).h (bl Ls++A) w)(hp:p=some ⟨b,o,none⟩)(hm:zD l ix=some u)
  (hx:zP S x=some (.pointer (some ⟨b,o+ix.toNat*e.n+s.off,none⟩))) (hy:zP S y=some v) (hv:f.rd (bl Ls++A) w v.cells.toList z)
  (k:∀ r' a' w',SS qd A L0 w0 n S (Ls.set i r') (Ar e te r' p c m (l.set ix.toNat (s.put u z))::F) a' w'->zZ qd Ls w (Ls.set i r') w'->K a' w') (hr:Ls[i]?=some r:=by rfl) (ht:uB P t=some (ag,f.n):=by kernel_rfl)
  (hg:qC ops S g=some true:=by kernel_rfl):vC P ops Q ⟨none,.store t x y,ty,pos,af,g⟩ K a w :=
 zWv i s ag h.s hg h.o hr hA.1 hp hm hx hy ht hv fun r' w' hO e hA' a hS=>k r' a w' (h.next hO e hS [_] ⟨⟨hA',by rw[Uy];exact hA.2⟩,trivial⟩) e
theorem z00 (i:Nat){q:Option Addr}{c2 m2:Nat}{l2 z:List τ}(h:SS qd A L0 w0 n S Ls F a w)(hA:(Ar e te r p c m l).h (bl Ls++A) w)(hR:(R e q c2 m2 l2).h (bl Ls++A) w)(hx:zP S x=some (.slice p m c))(hy:zP S y=some (.slice q m2 c2))(hm:qT l l2=some z)
  (k:∀ r' p' c' a' w',SS qd A L0 w0 n ((d,.slice p' (List.length z) c')::S) (Ls.set i r') (Ar e te r' p' c' (List.length z) z::F) a' w'->zZ qd Ls w (Ls.set i r') w'->K a' w') (hr:Ls[i]?=some r:=by rfl) (ht:xL P t te e.n=true:=by kernel_rfl)
  (hd:Nat.blt d n=true:=by kernel_rfl) (hg:qC ops S g=some true:=by kernel_rfl) :
  vC P ops Q ⟨some d,.call { callee:=.builtin .append,args:=[x,y].toArray,argTypes:=[t,t].toArray },ty,pos,af,g⟩ K a w:=by
 obtain⟨hA,rfl⟩:=hA
 obtain⟨hR,rfl⟩:=hR
 exact zVi i te h.s hd hg h.o hr hA hR.src hx hy ht hm fun r' p' c' w' hO e hA' a hS=>k r' p' c' a w' (h.next hO e hS [_] ⟨⟨hA',rfl⟩,trivial⟩) e
theorem z0A (i j:Nat){r2:zH}{q:Option Addr}{c2 m2:Nat}{l2 z:List τ}(h:SS qd A L0 w0 n S Ls F a w)(hA:(Ar e te r p c m l).h (bl Ls++A) w)(hR:(Ar e te r2 q c2 m2 l2).h (bl Ls++A) w)(hx:zP S x=some (.slice p m c))(hy:zP S y=some (.slice q m2 c2))(hm:qT l l2=some z)
  (k:∀ r' p' c' a' w',SS qd A L0 w0 n ((d,.slice p' (List.length z) c')::S) (Ls.set i r') (Ar e te r' p' c' (List.length z) z::F) a' w'->zZ qd Ls w (Ls.set i r') w'->K a' w') (hr:Ls[i]?=some r:=by rfl) (hr2:Ls[j]?=some r2:=by rfl) (ht:xL P t te e.n=true:=by kernel_rfl)
  (hd:Nat.blt d n=true:=by kernel_rfl) (hg:qC ops S g=some true:=by kernel_rfl) :
  vC P ops Q ⟨some d,.call { callee:=.builtin .append,args:=[x,y].toArray,argTypes:=[t,t].toArray },ty,pos,af,g⟩ K a w:=by
 obtain⟨hA,rfl⟩:=hA
 obtain⟨hR,rfl⟩:=hR
 exact zVi i te h.s hd hg h.o hr hA (hR.src h.o hr2) hx hy ht hm fun r' p' c' w' hO e hA' a hS=>k r' p' c' a w' (h.next hO e hS [_] ⟨⟨hA',rfl⟩,trivial⟩) e
theorem z6N{q:Nat}{parts:List (Nat×Operand)}(cs:List Value)(l:List τ)(h:SS qd A L0 w0 n S Ls F a w)(hrd:e.rdL (bl Ls++A) w cs l)
  (k:∀ p c a' w',SS qd A L0 w0 n ((d,.slice p (List.length l) c)::S) Ls (R e p c (List.length l) l::F) a' w'->zZ qd Ls w Ls w'->K a' w') (te:TypeId) (ht:xL P t te e.n=true:=by kernel_rfl) (hc:zJ5 P S t q parts=some cs:=by kernel_rfl) (hl:l.length=q:=by rfl)
  (hd:Nat.blt d n=true:=by kernel_rfl) (hg:qC ops S g=some true:=by kernel_rfl):vC P ops Q ⟨some d,.buildSlice t q parts.toArray,ty,pos,af,g⟩ K a w :=
 z44 cs l h.s hd hg h.o ht hc hrd hl fun p c w' hO e hR a hS=>k p c a w' (h.next hO e hS [_] ⟨⟨hR,rfl⟩,trivial⟩) e
theorem z48{q:Nat}{parts:List (Nat×Operand)}(cs:List Value)(l:List τ)(h:SS qd A L0 w0 n S Ls F a w)(hrd:e.rdL (bl Ls++A) w cs l)
  (k:∀ r p c a' w',SS qd A L0 w0 n ((d,.slice p (List.length l) c)::S) (Ls++[r]) (Ar e te r p c (List.length l) l::F) a' w'->zZ qd Ls w (Ls++[r]) w'->K a' w') (ht:xL P t te e.n=true:=by kernel_rfl) (hc:zJ5 P S t q parts=some cs:=by kernel_rfl) (hl:l.length=q:=by rfl)
  (hm:Nat.ble q 16777216=true:=by kernel_rfl) (hd:Nat.blt d n=true:=by kernel_rfl) (hg:qC ops S g=some true:=by kernel_rfl):vC P ops Q ⟨some d,.buildSlice t q parts.toArray,ty,pos,af,g⟩ K a w :=
 z2e te cs l h.s hd hg h.o ht hc hrd hl hm fun r p c w' hO e hA a hS=>k r p c a w' (h.next hO e hS [_] ⟨⟨hA,rfl⟩,trivial⟩) e
theorem z68{Z:List Nat}{l:List Int}{s t te:TypeId}{w:World}{d:Option Tmp}(hS:qO a n S)(hR:(R (zR .u8) p c m l).h Z w)(hx:zP S x=some (.slice p m c))(hs:P.underlying s=some (.slice te))(he:P.underlying te=some (.int .u8))(ht:P.underlying t=some .string):
  (execOp a.eval ⟨d,.convert s t x,ty,pos,af,g⟩).run P w=.ok (.value (vs (zKH l))) w:=by
 obtain⟨hR,rfl⟩:=hR
 have hrun:(Conv.bytesToString (.slice p l.length c)).run P w=.ok (vs (zKH l)) w:=by
  cases p with
  | none =>
   rcases hR.2 with rfl | ⟨b,off,cs,h,_⟩
   ·rfl
   ·cases h
  | some ad =>
   rcases hR.2 with rfl | ⟨b,off,cs,h,hb,hlt,hl,hc⟩
   ·simp[Conv.bytesToString,loadCells,loadCellsFrom,zKH]
    rfl
   ·cases h
    have hlen:cs.length=l.length:=by rw[(zR .u8).rdL_len hl];simp[zR]
    have hld:=run_loadCells_list (P:=P) w ⟨b,off,none⟩ cs (fun j u hu=>by grind [zBX])
    rw[hlen] at hld
    simp only[Conv.bytesToString,Sem.run_bind,hld,Result.andThen_ok]
    rw[←Array.forIn_toList]
    rw[zUB _ (fun _ _=>rfl) l _ Z w w _ (by grind)]
    rfl
 simp[execOp,convert,hS.eval hx,run_underlying hs,run_underlying ht,run_underlying he,hrun]
theorem z6c{l:List Int}{s t te:TypeId}(h:SS qd A L0 w0 n S Ls F a w)(hR:(R (zR .u8) p c m l).h (bl Ls++A) w)(hx:zP S x=some (.slice p m c))(hs:P.underlying s=some (.slice te))(he:P.underlying te=some (.int .u8))(ht:P.underlying t=some .string)
  (k:∀ a,SS qd A L0 w0 n ((d,vs (zKH l))::S) Ls F a w->K a w) (hd:Nat.blt d n=true:=by kernel_rfl) (hg:qC ops S g=some true:=by kernel_rfl):vC P ops Q ⟨some d,.convert s t x,ty,pos,af,g⟩ K a w :=
 zF2 h.s hd hg (z68 h.s hR hx hs he ht) fun a hS=>k a (h.slot hS)
end
theorem b_call{f:FuncId}{cal:Operand}{xs:List Operand}{bs0 caps:List Value}{ats:Array TypeId}{vs:List Value}{R:Value->World->Prop}(js ls:List Nat)(h:SS qd A L0 w0 n S Ls F a w)
  (hf:∀ args w,(callFunc f args).run P w=.ok (.enter f args) w) (hcal:zP S cal=some (.func (.func f) bs0.toArray caps.toArray)) (hx:zZR S xs=some vs)
  (hc:Calls P f (bs0++vs++caps).toArray w (Ret R)) (k:∀ v a' w',R v w'->AC qd A L0 w0 n ((d,v)::S) Ls F js ls w a' w'->K a' w')
  (hd:Nat.blt d n=true:=by kernel_rfl) (hg:qC ops S g=some true:=by kernel_rfl) :
  vC P ops Q ⟨some d,.call { callee:=.value cal,args:=xs.toArray,argTypes:=ats },ty,pos,af,g⟩ K a w:=by
 unfold vC
 rw[Qm (zEH (o:=⟨some d,.call { callee:=.value cal,args:=xs.toArray,argTypes:=ats },ty,pos,af,g⟩) h.s hg)]
 have hr:(execOp a.eval ⟨some d,.call { callee:=.value cal,args:=xs.toArray,argTypes:=ats },ty,pos,af,g⟩).run P w=.ok (.enter f (bs0++vs++caps).toArray) w:=by
  simp[execOp,resolve,Deferred.ofValue,invoke,h.s.eval hcal,hf,h.s.evals hx]
 unfold Oper.wp
 rw[hr]
 refine hc.mono fun e w' hh=>?_
 cases e with
 | returned v=>exact k v _ w' hh ⟨h.s.put hd v,h.o,h.e,h.f⟩
 | panicked ch=>exact hh.elim
 | outgrown=>exact hh.elim
end
end Go.GD
