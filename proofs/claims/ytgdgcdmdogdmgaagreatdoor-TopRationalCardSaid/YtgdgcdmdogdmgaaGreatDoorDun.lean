/- A part. Conditions: none. -/
import Derived.Test.YtgdgcdmdogdmgaaGreatDoorBun
namespace Go.GD
open Go Go.RowKit
set_option autoImplicit false
variable {qd:Prop}
section
variable {P:Program}{ops:Array Oper}{Q:Exit->Act->World->Prop}
variable {A:List Nat}{L0 Ls:List zG}{w0 w:World}{n:Nat}{S:List (Nat×Value)}{F:List PP}{a:Act}
variable {d:Nat}{ty:TypeId}{pos:String}{af:Array Edge}{g:Option (Nat×Bool)}{B J:List Nat}{listed:Array Bool}{fuel:Nat}
theorem ds{id:Nat}{l:List Oper}{y:Code}(B J:List Nat)(h:SS qd A L0 w0 n S Ls F a w)
  (k:∀ w',SS qd A L0 w0 n S Ls F a w'->qT P l.toArray (Exit.then (fun a w=>y.wp P Q a w) Q) (SB B (CC qd A Ls w' J)) l.length (Array.replicate l.length false) a w') (hm:P.follows .mixedOrders=true:=by kernel_rfl) :
  (Code.seq (.region id l.toArray true) y).wp P Q a w :=
 wp_seq (z7q hm B J h.o fun w' hO e=>k w' (h.next hO e h.s [] trivial))
theorem ds'{id:Nat}{l:List Oper}(B J:List Nat)(h:SS qd A L0 w0 n S Ls F a w)
  (k:∀ w',SS qd A L0 w0 n S Ls F a w'->qT P l.toArray Q (SB B (CC qd A Ls w' J)) l.length (Array.replicate l.length false) a w') (hm:P.follows .mixedOrders=true:=by kernel_rfl) :
  (Code.region id l.toArray true).wp P Q a w :=
 z7q hm B J h.o fun w' hO e=>k w' (h.next hO e h.s [] trivial)
theorem de (h:Q .normal a w)(hr:Region.ready .any ops listed=[]:=by kernel_rfl): qT P ops Q (SB B (CC qd A Ls w J)) fuel listed a w:=d_end hr h fuel
theorem dp (i:Nat){op:Op}(v:Value)(h:SS qd A L0 w0 n S Ls F a w)(hi:ops[i]?=some ⟨some d,op,ty,pos,af,g⟩)
  (k:∀ a,SS qd A L0 w0 n ((d,v)::S) Ls F a w->qT P ops Q (SB B (CC qd A Ls w J)) fuel (listed.setIfInBounds i true) a w)
  (hQ:∀ c (v:Value) a w,Q (.panic c) (a.put (some d) v) w->Q (.panic c) a w:=by exact fun _ _ _ _ h=>h)
  (hk:vE ops B listed i=true:=by kernel_rfl) (hd:Nat.blt d n=true:=by kernel_rfl) (hg:zQ ops S g=some true:=by kernel_rfl) (hv:pv P S op=some v:=by kernel_rfl) :
  qT P ops Q (SB B (CC qd A Ls w J)) (fuel+1) listed a w:=d_pure i v h.o h.s hi hk hd (fun c=>hQ c v) hg hv fun a hS=>k a (h.slot hS)
theorem dv (i:Nat){op:Op}{v:Value}(h:SS qd A L0 w0 n S Ls F a w)(hi:ops[i]?=some ⟨some d,op,ty,pos,af,g⟩)(hv:∀ w',(execOp a.eval ⟨some d,op,ty,pos,af,g⟩).run P w'=.ok (.value v) w')
  (k:∀ a,SS qd A L0 w0 n ((d,v)::S) Ls F a w->qT P ops Q (SB B (CC qd A Ls w J)) fuel (listed.setIfInBounds i true) a w)
  (hQ:∀ c (v:Value) a w,Q (.panic c) (a.put (some d) v) w->Q (.panic c) a w:=by exact fun _ _ _ _ h=>h)
  (hk:vE ops B listed i=true:=by kernel_rfl) (hd:Nat.blt d n=true:=by kernel_rfl) (hg:zQ ops S g=some true:=by kernel_rfl) :
  qT P ops Q (SB B (CC qd A Ls w J)) (fuel+1) listed a w:=z60 i h.o h.s hi hk hd (fun c=>hQ c v) hg hv fun a hS=>k a (h.slot hS)
theorem dk (i:Nat){op:Op}(h:SS qd A L0 w0 n S Ls F a w)(hi:ops[i]?=some ⟨some d,op,ty,pos,af,g⟩)
  (k:∀ a,SS qd A L0 w0 n ((d,undef)::S) Ls F a w->qT P ops Q (SB B (CC qd A Ls w J)) fuel (listed.setIfInBounds i true) a w)
  (hQ:∀ c (v:Value) a w,Q (.panic c) (a.put (some d) v) w->Q (.panic c) a w:=by exact fun _ _ _ _ h=>h)
  (hk:vE ops B listed i=true:=by kernel_rfl) (hd:Nat.blt d n=true:=by kernel_rfl) (hg:zQ ops S g=some false:=by kernel_rfl) :
  qT P ops Q (SB B (CC qd A Ls w J)) (fuel+1) listed a w:=d_skip i h.o h.s hi hk hd (fun c=>hQ c undef) hg fun a hS=>k a (h.slot hS)
theorem dlo (i r:Nat){x:Operand}{t b o:Nat}{c:Array Value}{te:TypeId}{fr:Nat×Nat}(v:Value)(h:SS qd A L0 w0 n S Ls F a w)(hi:ops[i]?=some ⟨some d,.load t x,ty,pos,af,g⟩)
  (hx:zK S x=some (.pointer (some ⟨b,o,none⟩))) (hr:Ls[r]?=some [(b,.cells c te fr)])
  (k:∀ a,SS qd A L0 w0 n ((d,v)::S) Ls F a w->qT P ops Q (SB B (CC qd A Ls w J)) fuel (listed.setIfInBounds i true) a w)
  (hv:zMl P t c o=some v:=by kernel_rfl) (hb:B.all (fun j=>behind ops i ops.size j)=true:=by kernel_rfl) (hJ:J.contains r=true:=by kernel_rfl)
  (hQ:∀ c (v:Value) a w,Q (.panic c) (a.put (some d) v) w->Q (.panic c) a w:=by exact fun _ _ _ _ h=>h)
  (hk:vE ops B listed i=true:=by kernel_rfl) (hd:Nat.blt d n=true:=by kernel_rfl) (hg:zQ ops S g=some true:=by kernel_rfl) :
  qT P ops Q (SB B (CC qd A Ls w J)) (fuel+1) listed a w:=z4R i r h.o h.s hi hk hd (fun c=>hQ c v) hg hb hJ hx hr hv fun a hS=>k a (h.slot hS)
section
variable {τ σ:Type}{e:E τ}{f:E σ}{te:TypeId}{r:zG}{p:Option Addr}{c m:Nat}{l:List τ}{ix:Int}{u:τ}{t:TypeId}{x y:Operand}{kd:IntKind}
theorem dir (i:Nat)(h:SS qd A L0 w0 n S Ls F a w)(hi:ops[i]?=some ⟨some d,.indexAddr t x y,ty,pos,af,g⟩)(hR:(R e p c m l).h (bl Ls++A) w)(hx:zK S x=some (.slice p m c))(hy:zK S y=some (.int kd ix))(hm:zB l ix=some u)
  (k:∀ b o a,SS qd A L0 w0 n ((d,.pointer (some ⟨b,o,none⟩))::S) Ls (Pt e b o u::F) a w->qT P ops Q (SB B (CC qd A Ls w J)) fuel (listed.setIfInBounds i true) a w)
  (ht:wY P t=some e.n:=by kernel_rfl) (hQ:∀ c (v:Value) a w,Q (.panic c) (a.put (some d) v) w->Q (.panic c) a w:=by exact fun _ _ _ _ h=>h)
  (hk:vE ops B listed i=true:=by kernel_rfl) (hd:Nat.blt d n=true:=by kernel_rfl) (hg:zQ ops S g=some true:=by kernel_rfl) :
  qT P ops Q (SB B (CC qd A Ls w J)) (fuel+1) listed a w:=by
 obtain⟨hR,rfl⟩:=hR
 exact z4y i h.o h.s hi hk hd hQ hg hR hx hy ht hm fun b o hP a hS=>k b o a ((h.slot hS).add hP)
theorem dlp (i:Nat){b o:Nat}{y:τ}(ag:Bool)(h:SS qd A L0 w0 n S Ls F a w)(hi:ops[i]?=some ⟨some d,.load t x,ty,pos,af,g⟩)(hP:(Pt e b o y).h (bl Ls++A) w)(hx:zK S x=some (.pointer (some ⟨b,o,none⟩)))
  (k:∀ ci,e.rd (bl Ls++A) w ci y->∀ v,tZ ag ci=some v->∀ a',SS qd A L0 w0 n ((d,v)::S) Ls F a' w->qT P ops Q (SB B (CC qd A Ls w J)) fuel (listed.setIfInBounds i true) a' w)
  (ht:wX P t=some (ag,e.n):=by kernel_rfl) (hag:ag=true∨e.n=1:=by first | exact .inl rfl | exact .inr rfl) (hb:B.all (fun j=>behind ops i ops.size j)=true:=by kernel_rfl)
  (hQ:∀ c (v:Value) a w,Q (.panic c) (a.put (some d) v) w->Q (.panic c) a w:=by exact fun _ _ _ _ h=>h)
  (hk:vE ops B listed i=true:=by kernel_rfl) (hd:Nat.blt d n=true:=by kernel_rfl) (hg:zQ ops S g=some true:=by kernel_rfl) :
  qT P ops Q (SB B (CC qd A Ls w J)) (fuel+1) listed a w :=
 z6t i ag h.o h.s hi hk hd hQ hg hb hP hx ht (fun ci hc v hv a hS=>k ci hc v hv a (h.slot hS)) hag
theorem dia (i:Nat)(h:SS qd A L0 w0 n S Ls F a w)(hi:ops[i]?=some ⟨some d,.indexAddr t x y,ty,pos,af,g⟩)(hA:(Ar e te r p c m l).h (bl Ls++A) w)(hx:zK S x=some (.slice p m c))(hy:zK S y=some (.int kd ix))(hm:zB l ix=some u)
  (k:∀ b o,p=some ⟨b,o,none⟩->∀ a,SS qd A L0 w0 n ((d,.pointer (some ⟨b,o+ix.toNat*e.n,none⟩))::S) Ls F a w->qT P ops Q (SB B (CC qd A Ls w J)) fuel (listed.setIfInBounds i true) a w)
  (ht:wY P t=some e.n:=by kernel_rfl) (hQ:∀ c (v:Value) a w,Q (.panic c) (a.put (some d) v) w->Q (.panic c) a w:=by exact fun _ _ _ _ h=>h)
  (hk:vE ops B listed i=true:=by kernel_rfl) (hd:Nat.blt d n=true:=by kernel_rfl) (hg:zQ ops S g=some true:=by kernel_rfl) :
  qT P ops Q (SB B (CC qd A Ls w J)) (fuel+1) listed a w:=by
 obtain⟨hA,rfl⟩:=hA
 exact z2n i h.o h.s hi hk hd hQ hg hA hx hy ht hm fun b o hp a hS=>k b o hp a (h.slot hS)
theorem dla (i ri:Nat)(s:xM e f){b o:Nat}(ag:Bool)(h:SS qd A L0 w0 n S Ls F a w)(hi:ops[i]?=some ⟨some d,.load t x,ty,pos,af,g⟩)(hA:(Ar e te r p c m l).h (bl Ls++A) w)(hp:p=some ⟨b,o,none⟩)(hm:zB l ix=some u)
  (hx:zK S x=some (.pointer (some ⟨b,o+ix.toNat*e.n+s.off,none⟩)))
  (k:∀ ci,f.rd (bl Ls++A) w ci (s.get u)->∀ v,tZ ag ci=some v->∀ a',SS qd A L0 w0 n ((d,v)::S) Ls F a' w->qT P ops Q (SB B (CC qd A Ls w J)) fuel (listed.setIfInBounds i true) a' w)
  (hr:Ls[ri]?=some r:=by rfl) (ht:wX P t=some (ag,f.n):=by kernel_rfl) (hag:ag=true∨f.n=1:=by first | exact .inl rfl | exact .inr rfl)
  (hb:B.all (fun j=>behind ops i ops.size j)=true:=by kernel_rfl) (hJ:J.contains ri=true:=by kernel_rfl)
  (hQ:∀ c (v:Value) a w,Q (.panic c) (a.put (some d) v) w->Q (.panic c) a w:=by exact fun _ _ _ _ h=>h)
  (hk:vE ops B listed i=true:=by kernel_rfl) (hd:Nat.blt d n=true:=by kernel_rfl) (hg:zQ ops S g=some true:=by kernel_rfl) :
  qT P ops Q (SB B (CC qd A Ls w J)) (fuel+1) listed a w :=
 z5O i ri s ag h.o h.s hi hk hd hQ hg hb hJ hr hA.1 hp hm hx ht (fun ci hc v hv a hS=>k ci hc v hv a (h.slot hS)) hag
end
theorem d1 (i:Nat){oi:Oper}(hi:ops[i]?=some oi)
  (h:wH P ops Q oi (fun a' w'=>SB B (CC qd A Ls w J) (listed.setIfInBounds i true) w'∧qT P ops Q (SB B (CC qd A Ls w J)) fuel (listed.setIfInBounds i true) a' w') a w) (hr:Region.ready .any ops listed=[i]:=by kernel_rfl) :
  qT P ops Q (SB B (CC qd A Ls w J)) (fuel+1) listed a w:=d_one i hr hi h
theorem z1w{i:Nat}{oi:Oper}(hi:ops[i]?=some oi){K:Act->World->Prop}(h:wH P ops Q oi K a w): wpOp P ops Q i K a w:=by
 unfold wpOp
 simp only[hi]
 unfold wH at h
 grind
theorem d2 (i j:Nat){oi oj:Oper}(hi:ops[i]?=some oi)(hj:ops[j]?=some oj)
  (h:wH P ops Q oi (fun a' w'=>SB B (CC qd A Ls w J) (listed.setIfInBounds i true) w'∧qT P ops Q (SB B (CC qd A Ls w J)) fuel (listed.setIfInBounds i true) a' w') a w)
  (h':wH P ops Q oj (fun a' w'=>SB B (CC qd A Ls w J) (listed.setIfInBounds j true) w'∧qT P ops Q (SB B (CC qd A Ls w J)) fuel (listed.setIfInBounds j true) a' w') a w) (hr:Region.ready .any ops listed=[i,j]:=by kernel_rfl) :
  qT P ops Q (SB B (CC qd A Ls w J)) (fuel+1) listed a w:=by
 refine⟨fun h0=>(by grind),fun q hq=>?_⟩
 rw[hr] at hq
 simp only[Qv,U6,or_false] at hq
 rcases hq with rfl | rfl
 ·exact z1w hi h
 ·exact z1w hj h'
theorem d3 (i j k:Nat){oi oj ok:Oper}(hi:ops[i]?=some oi)(hj:ops[j]?=some oj)(hk:ops[k]?=some ok)
  (h:wH P ops Q oi (fun a' w'=>SB B (CC qd A Ls w J) (listed.setIfInBounds i true) w'∧qT P ops Q (SB B (CC qd A Ls w J)) fuel (listed.setIfInBounds i true) a' w') a w)
  (h':wH P ops Q oj (fun a' w'=>SB B (CC qd A Ls w J) (listed.setIfInBounds j true) w'∧qT P ops Q (SB B (CC qd A Ls w J)) fuel (listed.setIfInBounds j true) a' w') a w)
  (h'':wH P ops Q ok (fun a' w'=>SB B (CC qd A Ls w J) (listed.setIfInBounds k true) w'∧qT P ops Q (SB B (CC qd A Ls w J)) fuel (listed.setIfInBounds k true) a' w') a w) (hr:Region.ready .any ops listed=[i,j,k]:=by kernel_rfl) :
  qT P ops Q (SB B (CC qd A Ls w J)) (fuel+1) listed a w:=by
 refine⟨fun h0=>(by grind),fun q hq=>?_⟩
 rw[hr] at hq
 simp only[Qv,U6,or_false] at hq
 rcases hq with rfl | rfl | rfl
 ·exact z1w hi h
 ·exact z1w hj h'
 ·exact z1w hk h''
theorem dn{Ls':List zG}{w':World}{S':List (Nat×Value)}{F':List PP}{l:Array Bool}{a':Act}(h:SS qd A L0 w0 n S' Ls' F' a' w')(hE:zT qd Ls w Ls' w')
  (k:qT P ops Q (SB B (CC qd A Ls' w' J)) fuel l a' w') (hJ:J.map (Ls'[·]?)=J.map (Ls[·]?):=by rfl):SB B (CC qd A Ls w J) l w'∧qT P ops Q (SB B (CC qd A Ls w J)) fuel l a' w':=d_next h.o hE hJ k
theorem db{Ls':List zG}{w':World}{S':List (Nat×Value)}{F':List PP}{l:Array Bool}{a':Act}(B' J':List Nat)(_h:SS qd A L0 w0 n S' Ls' F' a' w')(h:qT P ops Q (SB B' (CC qd A Ls' w' J')) fuel l a' w')(hb:B.all (fun j=>!l.getD j false)=false:=by kernel_rfl):
  SB B (CC qd A Ls w J) l w'∧qT P ops Q (SB B (CC qd A Ls w J)) fuel l a' w':=d_broke B' J' hb h
theorem dless{Ls':List zG}{S':List (Nat×Value)}{F':List PP}(_h:SS qd A L0 w0 n S' Ls' F' a w)(k:qT P ops Q (SB B (CC qd A Ls' w J)) fuel listed a w)(hs:∀ b∈bl Ls',b∈bl Ls)(hJ:J.map (Ls'[·]?)=J.map (Ls[·]?):=by rfl):
  qT P ops Q (SB B (CC qd A Ls w J)) fuel listed a w:=by
 refine zWC fuel listed a w (fun l2 w2 _ hs2 hb=>?_) k
 obtain⟨L2,h1,h2,h3⟩:=hs2 hb
 exact⟨L2,h1,⟨h2.os,h2.tape,h2.output,h2.drawn,h2.size,fun k hk hn=>h2.keep k hk (fun hm=>hn (hs k hm)),fun b hb=>(h2.fresh b hb).imp (hs b) id⟩,h3.trans hJ⟩
theorem z9C{i:Nat}: ∀ b∈bl (Ls.set i []),b∈bl Ls:=fun b hb=>by
 rcases zGA hb with⟨p,hp,_⟩ | ⟨j,s,_,hs,p,hp,rfl⟩
 ·cases hp
 ·exact zCk hs hp
theorem z5q:∀ b∈bl (Ls++[[]]),b∈bl Ls:=fun b hb=>by grind [zDD,bl]
end
end Go.GD
