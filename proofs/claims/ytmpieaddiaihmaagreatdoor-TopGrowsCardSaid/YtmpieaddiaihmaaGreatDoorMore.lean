/- A part. Conditions: none. -/
import Derived.Test.YtmpieaddiaihmaaGreatDoorArr
namespace Go.GD
open Go Go.RowKit
set_option autoImplicit false
variable {qd:Prop}
def uL (Ls:List zJ)(js:List Nat): List zJ:=js.map fun j=>Ls.getD j []
section
variable {A:List Nat}{w w':World}{Ls L:List zJ}
theorem zR8{js:List Nat}{r:zJ}(h:r∈uL Ls js){p:Nat×Obj}(hp:p∈r): ∃ j∈js,Ls[j]?=some r:=by
 obtain⟨j,hj,rfl⟩:=Qm.1 h
 grind
theorem zRA{js:List Nat}{b:Nat}(h:b∈bl (uL Ls js)): b∈bl Ls:=by
 obtain⟨r,hr,p,hp,rfl⟩:=zM1.1 h
 grind [zR8,zCS]
theorem z65{Ls:List zJ}(h:(bl Ls).Nodup){r:zJ}(hr:r∈Ls): (r.map Prod.fst).Nodup:=by
 induction Ls with
 | nil=>cases hr
 | cons t ts ih =>
  simp only[bl] at h
  grind
theorem zVO (h:(bl Ls).Nodup): ∀ {js:List Nat},js.Nodup->(bl (uL Ls js)).Nodup
 | [],_=>by simp[uL,bl]
 | j::js,hn=>by
  obtain⟨h1,h2⟩:=U5.1 hn
  show((Ls.getD j []).map Prod.fst++bl (uL Ls js)).Nodup
  refine QT.2 ⟨?_,zVO h h2,fun x hx y hy e=>?_⟩
  ·grind [z65]
  ·obtain⟨p,hp,rfl⟩:=Qm.1 hx
   obtain⟨r,hr,q,hq,rfl⟩:=zM1.1 hy
   grind [zR8,zEV]
theorem zZ.sel (h:zZ A w Ls)(js:List Nat)(hn:js.Nodup): zZ A w (uL Ls js) :=
 ⟨h.old,fun r hr p hp=>(by grind [zR8,xN]),zVO h.nodup hn,fun b hb=>h.apart b (zRA hb)⟩
theorem zU.sel{w0:World}(h:zU qd L w0 Ls w)(js:List Nat): zU qd L w0 (uL Ls js) w:=h.drop fun _ hb=>zRA hb
theorem vN.sel (js:List Nat)(Ls:List zJ)(A:List Nat)(w:World): vN (bl Ls++A) w (bl (uL Ls js)++A) w:=vN.less w fun b hb=>by
 grind [zRA]
def xA:List Nat->List zJ->List zJ
 | [],L=>L
 | j::js,L=>xA js (L.set j [])
def zYq:List Nat->List zJ->List zJ->List zJ
 | j::js,r::rs,L=>zYq js rs (L.set j r)
 | _,_,L=>L
theorem zRN{js:List Nat}: ∀ {L:List zJ} {b:Nat},b∈bl (xA js L)->∃ j r,j∉js∧L[j]?=some r∧∃ p∈r,p.1=b:=by
 induction js with
 | nil =>
  intro L b h
  obtain⟨r,hr,p,hp,rfl⟩:=zM1.1 h
  obtain⟨j,hj⟩:=Qj.1 hr
  exact⟨j,r,by simp,hj,p,hp,rfl⟩
 | cons k js ih =>
  intro L b h
  obtain⟨j,r,hj,hr,p,hp,rfl⟩:=ih (L:=L.set k []) h
  grind
theorem zOW{js:List Nat}{b:Nat}(h:b∈bl (xA js Ls)): b∈bl Ls:=by
 obtain⟨j,r,_,hr,p,hp,rfl⟩:=zRN h
 exact zCS hr hp
theorem z2M (js:List Nat)(A:List Nat): ∀ b∈bl (uL Ls js)++(bl (xA js Ls)++A),b∈bl Ls++A:=by
 grind [zRA,zOW]
theorem zZ.picks (h:zZ A w Ls)(js:List Nat)(hn:js.Nodup): zZ (bl (xA js Ls)++A) w (uL Ls js):=by
 refine⟨fun b hb=>?_,(h.sel js hn).has,zVO h.nodup hn,fun b hb hA=>?_⟩
 ·rcases Qb.1 hb with h1 | h1
  ·exact h.lt (zOW h1)
  ·exact h.old b h1
 ·rcases Qb.1 hA with h1 | h1
  ·obtain⟨j,r,hj,hr,p,hp,rfl⟩:=zRN h1
   obtain⟨s,hs,q,hq,he⟩:=zM1.1 hb
   obtain⟨k,hk,hlk⟩:=zR8 hs hq
   exact zEV h.nodup hr hlk (fun e=>hj (e▸hk)) p hp q hq he.symm
  ·exact h.apart b (zRA hb) h1
theorem vN.picks (js:List Nat)(Ls:List zJ)(A:List Nat)(w:World): vN (bl Ls++A) w (bl (uL Ls js)++(bl (xA js Ls)++A)) w:=vN.less w (z2M js A)
theorem zXq:∀ {L:List zJ} {j:Nat} {r:zJ},j<L.length->(bl (L.set j r)).Perm (r.map Prod.fst++bl (L.set j []))
 | [],_,_,h=>by simp at h
 | t::ts,0,r,_=>by simp[bl]
 | t::ts,j+1,r,h=>by
  simp only[List.set_cons_succ,bl]
  refine(List.Perm.append_left _ (zXq (L:=ts) (by grind))).trans ?_
  grind
theorem zYL{js:List Nat}: ∀ {L:List zJ} {k:Nat} {r:zJ},k∉js->xA js (L.set k r)=(xA js L).set k r:=by
 induction js with
 | nil=>intros;rfl
 | cons j js ih =>
  intro L k r hk
  simp only[QB,not_or] at hk
  simp only[xA]
  rw[List.set_comm _ _ hk.1,ih hk.2]
theorem z1t{js:List Nat}: ∀ {L:List zJ},(xA js L).length=L.length:=by
 induction js with
 | nil=>intros;rfl
 | cons j js ih=>grind [xA]
theorem zUN:∀ {js:List Nat} {rs L:List zJ},js.Nodup->(∀ j∈js,j<L.length)->rs.length=js.length->(bl (zYq js rs L)).Perm (bl rs++bl (xA js L))
 | [],[],L,_,_,_=>by simp[zYq,xA,bl]
 | [],_::_,_,_,_,h=>by simp at h
 | _::_,[],_,_,_,h=>by simp at h
 | j::js,r::rs,L,hn,hl,hlen=>by
  obtain⟨h1,h2⟩:=U5.1 hn
  have ih:=zUN (js:=js) (rs:=rs) (L:=L.set j r) h2 (fun k hk=>by grind) (by grind)
  simp only[zYq,xA]
  grind [zYL,zXq,z1t,bl]
theorem z9K{js:List Nat}: ∀ {rs L:List zJ} {r:zJ},r∈zYq js rs L->r∈rs∨r∈L:=by
 induction js with
 | nil=>intro rs L r h;cases rs <;> exact .inr h
 | cons j js ih =>
  intro rs L r h
  cases rs with
  | nil=>exact .inr h
  | cons s rs =>
   rcases ih h with h1 | h1
   ·grind
   grind
theorem z5j{js:List Nat}: ∀ {rs L:List zJ},js.Nodup->rs.length=js.length->zYq js rs (xA js L)=zYq js rs L:=by
 induction js with
 | nil=>intros;rfl
 | cons j js ih =>
  intro rs L hn h
  cases rs with
  | nil=>simp at h
  | cons r rs =>
   obtain⟨hj,h2⟩:=U5.1 hn
   simp only[zYq,xA]
   rw[zYL hj,List.set_set,←zYL hj]
   grind
theorem zZ.fills (h:zZ A w Ls){js:List Nat}{rs new:List zJ}(hn:js.Nodup)(hl:∀ j∈js,j<Ls.length)(hlen:rs.length=js.length)
  (ho:zZ (bl (xA js Ls)++A) w' (rs++new)) (e:zU qd (uL Ls js) w (rs++new) w'):zZ A w' (zYq js rs Ls++new):=by
 have hperm:(bl (zYq js rs Ls++new)).Perm (bl (rs++new)++bl (xA js Ls)):=by
  rw[zCi,zCi]
  refine(List.Perm.append_right _ (zUN hn hl hlen)).trans ?_
  rw[QE,QE]
  exact List.Perm.append_left _ List.perm_append_comm
 have hb:∀ b∈bl (xA js Ls),b∉bl (uL Ls js):=fun b h1 h2=>(h.picks js hn).apart b h2 (Qb.2 (.inl h1))
 refine⟨fun b hb=>ho.old b (Qb.2 (.inr hb)),fun r hr p hp=>?_,hperm.nodup_iff.2 (QT.2 ⟨ho.nodup,?_,fun x hx y hy exy=>?_⟩),fun b hb=>?_⟩
 ·rcases Qb.1 hr with h1 | h1
  ·rw[←z5j hn hlen] at h1
   rcases z9K h1 with h2 | h2
   ·exact ho.has r (Qb.2 (.inl h2)) p hp
   ·have hbl:p.1∈bl (xA js Ls):=zM1.2 ⟨r,h2,p,hp,rfl⟩
    obtain⟨j,s,hj,hs,q,hq,he⟩:=zRN hbl
    have hlt:=h.lt (zOW hbl)
    rw[e.keep p.1 hlt (hb _ hbl)]
    have:∀ {js:List Nat} {L:List zJ} {r:zJ},r∈xA js L->p∈r->r∈L:=by
     intro js
     induction js with
     | nil=>intro L r h _;exact h
     | cons k ks ih =>
      intro L r h hp
      rcases z3t (ih h hp) with rfl | ⟨m,_,hm⟩
      ·cases hp
      grind
    exact h.has r (this h2 hp) p hp
  ·exact ho.has r (Qb.2 (.inr h1)) p hp
 ·have h1:∀ {js:List Nat} {L:List zJ},(bl L).Nodup->(bl (xA js L)).Nodup:=by
   intro js
   induction js with
   | nil=>intro L h;exact h
   | cons k ks ih=>intro L h;exact ih (zYQ h (by simp) (by simp))
  exact h1 h.nodup
 ·subst exy
  exact ho.apart x hx (Qb.2 (.inl hy))
 ·rcases Qb.1 (hperm.mem_iff.1 hb) with h1 | h1
  ·exact fun hA=>ho.apart b h1 (Qb.2 (.inr hA))
  ·exact h.apart b (zOW h1)
theorem zU.fills{js:List Nat}{rs new:List zJ}(hn:js.Nodup)(hl:∀ j∈js,j<Ls.length)(hlen:rs.length=js.length)(e:zU qd (uL Ls js) w (rs++new) w'):
  zU qd Ls w (zYq js rs Ls++new) w':=by
 refine⟨e.os,e.tape,e.output,e.drawn,e.size,fun k hk hnb=>e.keep k hk (fun hm=>hnb (zRA hm)),fun b hb=>?_⟩
 rw[zCi] at hb
 rcases Qb.1 hb with h1 | h1
 ·rcases Qb.1 ((zUN hn hl hlen).mem_iff.1 h1) with h2 | h2
  ·exact(e.fresh b (by grind [zCi])).imp zRA id
  grind [zOW]
 ·exact(e.fresh b (by grind [zCi])).imp zRA id
theorem vN.fills{js:List Nat}{rs new:List zJ}(hn:js.Nodup)(hl:∀ j∈js,j<Ls.length)(hlen:rs.length=js.length)(A:List Nat)(w:World):
  vN (bl (rs++new)++(bl (xA js Ls)++A)) w (bl (zYq js rs Ls++new)++A) w:=vN.less w fun b hb=>by
 grind [zCi,zUN]
theorem zZ.news (h:zZ A w Ls){new:List zJ}(ho:zZ (bl Ls++A) w' new)(e:zU qd [] w new w'): zZ A w' (Ls++new):=by
 have:=h.fills (js:=[]) (rs:=[]) (new:=new) (by simp) (by simp) rfl (by simpa [xA] using ho) (by simpa [uL] using e)
 grind [zYq]
theorem zU.news{new:List zJ}(Ls:List zJ)(e:zU qd [] w new w'): zU qd Ls w (Ls++new) w' :=
 ⟨e.os,e.tape,e.output,e.drawn,e.size,fun k hk _=>e.keep k hk (by simp[bl]),fun b hb=>by
  rw[zCi] at hb
  rcases Qb.1 hb with h1 | h1
  ·grind
  ·exact(e.fresh b h1).imp (fun h=>by simp[bl] at h) id⟩
end
structure xG{τ σ:Type}(e:E τ)(f:E σ) where
 off:Nat
 get:τ->σ
 put:τ->σ->τ
 le:off+f.n≤e.n
 rdg:∀ {Z w cs x},e.rd Z w cs x->f.rd Z w ((cs.drop off).take f.n) (get x)
 rdp:∀ {Z w cs x ds y},e.rd Z w cs x->f.rd Z w ds y->e.rd Z w (cs.take off++ds++cs.drop (off+f.n)) (put x y)
def xG.id{τ:Type}(e:E τ): xG e e :=
 ⟨0,fun x=>x,fun _ y=>y,by simp,fun h=>by rw[List.drop_zero,Qk (by rw[e.len h];grind)];exact h,
  fun h k=>by rw[List.take_zero,QI,US,QQ (by rw[e.len h];grind),QA];exact k⟩
theorem zRb{α β:Type}{f:E α}{g:E β}{Z:List Nat}{w:World}{cs:List Value}{x:α×β}(h:(wH f g).rd Z w cs x):
  f.rd Z w (cs.take f.n) x.1∧g.rd Z w (cs.drop f.n) x.2:=by
 obtain⟨c1,c2,rfl,h1,h2⟩:=h
 have:=f.len h1
 grind
def xG.fst{τ α β:Type}{e:E τ}{f:E α}{g:E β}(s:xG e (wH f g)): xG e f :=
 ⟨s.off,fun x=>(s.get x).1,fun x y=>s.put x (y,(s.get x).2),by have:=s.le;simp only[wH] at this;omega,
  fun {Z w cs x} h=>by
  have h1:=(zRb (s.rdg h)).1
  rw[Ua,QP (by grind [wH])] at h1
  exact h1,
  fun {Z w cs x ds y} h k=>by
  have h2:=(zRb (s.rdg h)).2
  have h3:=s.rdp h (show(wH f g).rd Z w _ (y,(s.get x).2) from⟨ds,_,rfl,k,h2⟩)
  have he:cs.take s.off++(ds++((cs.drop s.off).take (wH f g).n).drop f.n)++cs.drop (s.off+(wH f g).n)=cs.take s.off++ds++cs.drop (s.off+f.n):=by
   rw[←QE,QE]
   congr 1
   rw[Uw,UM]
   have:cs.drop (s.off+(wH f g).n)=(cs.drop (s.off+f.n)).drop ((wH f g).n-f.n):=by
    rw[UM];congr 1;simp only[wH];omega
   rw[this,Qu]
  grind⟩
def xG.snd{τ α β:Type}{e:E τ}{f:E α}{g:E β}(s:xG e (wH f g)): xG e g :=
 ⟨s.off+f.n,fun x=>(s.get x).2,fun x y=>s.put x ((s.get x).1,y),by have:=s.le;simp only[wH] at this;omega,
  fun {Z w cs x} h=>by
  have h1:=(zRb (s.rdg h)).2
  rw[Uw,UM] at h1
  have:(wH f g).n-f.n=g.n:=by simp only[wH];omega
  grind,
  fun {Z w cs x ds y} h k=>by
  have h2:=(zRb (s.rdg h)).1
  have h3:=s.rdp h (show(wH f g).rd Z w _ ((s.get x).1,y) from⟨_,ds,rfl,h2,k⟩)
  have he:cs.take s.off++(((cs.drop s.off).take (wH f g).n).take f.n++ds)++cs.drop (s.off+(wH f g).n)=cs.take (s.off+f.n)++ds++cs.drop (s.off+f.n+g.n):=by
   rw[Ua,QP (by grind [wH]),←QE,←List.take_add]
   congr 2
   simp only[wH];omega
  grind⟩
section
variable {τ:Type}(e:E τ){Z:List Nat}{w:World}
theorem E.rdL_at:∀ {l:List τ} {cs:List Value} {k:Nat} {x:τ},e.rdL Z w cs l->l[k]?=some x->e.rd Z w ((cs.drop (k*e.n)).take e.n) x
 | [],cs,k,x,h,hx=>by simp at hx
 | y::l,cs,0,x,h,hx=>by
  obtain⟨c1,c2,rfl,h1,h2⟩:=h
  simp only[Uj,Qd] at hx
  subst hx
  rw[Nat.zero_mul,List.drop_zero,←e.len h1,U9];exact h1
 | y::l,cs,k+1,x,h,hx=>by
  obtain⟨c1,c2,rfl,h1,h2⟩:=h
  simp only[Q4] at hx
  have:=E.rdL_at h2 hx
  have hl:=e.len h1
  rw[show(k+1)*e.n=c1.length+k*e.n by grind,UI,QQ (by omega),QI,Ui]
  exact this
theorem E.rdL_set:∀ {l:List τ} {cs:List Value} {k:Nat} {x y:τ} {ds:List Value} {off:Nat},e.rdL Z w cs l->l[k]?=some x->off+ds.length≤e.n->
  (∀ ci,e.rd Z w ci x->e.rd Z w (ci.take off++ds++ci.drop (off+ds.length)) y)->e.rdL Z w (cs.take (k*e.n+off)++ds++cs.drop (k*e.n+off+ds.length)) (l.set k y)
 | [],cs,k,x,y,ds,off,h,hx,_,_=>by simp at hx
 | z::l,cs,0,x,y,ds,off,h,hx,hle,hp=>by
  obtain⟨c1,c2,rfl,h1,h2⟩:=h
  simp only[Uj,Qd] at hx
  subst hx
  have hl:=e.len h1
  refine⟨_,c2,?_,hp c1 h1,h2⟩
  grind
 | z::l,cs,k+1,x,y,ds,off,h,hx,hle,hp=>by
  obtain⟨c1,c2,rfl,h1,h2⟩:=h
  simp only[Q4] at hx
  have ih:=E.rdL_set h2 hx hle hp
  have hl:=e.len h1
  refine⟨c1,_,?_,h1,ih⟩
  rw[show(k+1)*e.n+off=c1.length+(k*e.n+off) by grind]
  rw[Wc,Qk (by omega),Ui,UV c1.length,UI,QQ (by omega),Ui]
  simp
end
theorem zMk{α:Type}{l:List α}{i:Int}{u:α}(h:zB l i=some u): 0≤i∧l[i.toNat]?=some u∧i<(l.length:Int):=by grind [zB]
section
variable {P:Program}{ops:Array Oper}{Q:Exit->Act->World->Prop}{a:Act}{n:Nat}{S:List (Nat×Value)}{w:World}{K:Act->World->Prop}
variable {A:List Nat}{Ls:List zJ}{d:Nat}{ty:TypeId}{pos:String}{af:Array Edge}{g:Option (Nat×Bool)}
variable {τ σ:Type}{e:E τ}{f:E σ}{te:TypeId}{Z:List Nat}{r:zJ}{p:Option Addr}{c:Nat}{l:List τ}{ix:Int}{u:τ}{t:TypeId}{x y:Operand}{kd:IntKind}
theorem wJ.at (hA:wJ e te Z w r p c l)(hm:zB l ix=some u): ∃ b o cells,r=[(b,.cells cells te (0,0))]∧p=some ⟨b,o,none⟩∧l.length≤c∧c≤maxLen∧o+c*e.n≤cells.size∧e.rdL Z w ((cells.toList.drop o).take (l.length*e.n)) l:=by
 rcases hA with⟨_,_,_,rfl⟩ | h
 ·have:=(zMk hm).2.1;grind
 ·exact h
theorem zYM (hS:qF a n S)(hA:wJ e te Z w r p c l)(hx:zL S x=some (.slice p l.length c))(hy:zL S y=some (.int kd ix))(ht:wP P t=some e.n)(hm:zB l ix=some u){d:Option Tmp}:
  ∃ b o,p=some ⟨b,o,none⟩∧∀ w',(execOp a.eval ⟨d,.indexAddr t x y,ty,pos,af,g⟩).run P w'=.ok (.value (.pointer (some ⟨b,o+ix.toNat*e.n,none⟩))) w':=by
 obtain⟨b,o,cells,rfl,rfl,_⟩:=hA.at hm
 obtain⟨h0,h1,h2⟩:=zMk hm
 refine⟨b,o,rfl,fun w'=>?_⟩
 simp[execOp,hS.eval hx,hS.eval hy,zLR (m:=l.length) ht h0 h2]
theorem z2E (hS:qF a n S)(hd:Nat.blt d n=true)(hg:zR ops S g=some true)(hA:wJ e te Z w r p c l)(hx:zL S x=some (.slice p l.length c))(hy:zL S y=some (.int kd ix))(ht:wP P t=some e.n)(hm:zB l ix=some u)
  (k:∀ b o,p=some ⟨b,o,none⟩->∀ a',qF a' n ((d,.pointer (some ⟨b,o+ix.toNat*e.n,none⟩))::S)->K a' w):wU P ops Q ⟨some d,.indexAddr t x y,ty,pos,af,g⟩ K a w:=by
 obtain⟨b,o,hp,hrun⟩:=zYM (P:=P) (ty:=ty) (pos:=pos) (af:=af) (g:=g) (d:=some d) hS hA hx hy ht hm
 exact xS hS hd hg (hrun w) (k b o hp)
theorem z24 (s:xG e f){b o:Nat}(hO:zZ A w Ls){i:Nat}(hr:Ls[i]?=some r)(hA:wJ e te (bl Ls++A) w r p c l)(hp:p=some ⟨b,o,none⟩)(hm:zB l ix=some u):
  ∃ ci,f.rd (bl Ls++A) w ci (s.get u)∧∀ w':World,w'.heap[b]?=w.heap[b]?->∀ j v,ci[j]?=some v->w'.cell? ⟨b,o+ix.toNat*e.n+s.off+j,none⟩=some v:=by
 obtain⟨b',o',cells,rfl,hp',h3,_,h5,h6⟩:=hA.at hm
 rw[hp] at hp'
 cases hp'
 obtain⟨h0,h1,h2⟩:=zMk hm
 have hb:=xN hO hr (Qa.2 rfl)
 refine⟨_,s.rdg (e.rdL_at h6 h1),fun w' hw j v hv=>?_⟩
 rw[cell_of_row w' b _ cells te (0,0) (hw.trans hb)]
 grind
theorem z9y{ag:Bool}{ci:List Value}{k:Nat}(hl:ci.length=k)(hag:ag=true∨k=1): ∃ v,xW ag ci=some v:=by
 rcases hag with rfl | hn
 ·exact⟨_,rfl⟩
 ·cases ag with
  | true=>exact⟨_,rfl⟩
  | false=>match ci,hl.trans hn with | [u],_=>exact⟨u,rfl⟩
theorem z3T (i:Nat)(s:xG e f){b o:Nat}(ag:Bool)(hS:qF a n S)(hd:Nat.blt d n=true)(hg:zR ops S g=some true)(hO:zZ A w Ls)(hr:Ls[i]?=some r)(hA:wJ e te (bl Ls++A) w r p c l)
  (hp:p=some ⟨b,o,none⟩) (hm:zB l ix=some u) (hx:zL S x=some (.pointer (some ⟨b,o+ix.toNat*e.n+s.off,none⟩))) (ht:vC P t=some (ag,f.n))
  (k:∀ ci,f.rd (bl Ls++A) w ci (s.get u)->∀ v,xW ag ci=some v->∀ a',qF a' n ((d,v)::S)->K a' w) (hag:ag=true∨f.n=1):wU P ops Q ⟨some d,.load t x,ty,pos,af,g⟩ K a w:=by
 obtain⟨ci,h1,h2⟩:=z24 s hO hr hA hp hm
 obtain⟨v,hv⟩:=z9y (f.len h1) hag
 refine xS hS hd hg (v:=v) (w':=w) ?_ (k ci h1 v hv)
 simp[execOp,hS.eval hx,Instr.loadAt,Instr.sureAddr,zGA (cs:=ci) (by rw[f.len h1];exact ht) (h2 w rfl) hv]
theorem z0F{c:List Value}(o m k:Nat)(v:List Value)(h:o+m+k≤c.length): (c.take (o+m+k)++v++c.drop (o+m+k+v.length)).drop o=(c.drop o).take (m+k)++v++(c.drop o).drop (m+k+v.length):=by
 rw[QE,U3 (by grind),Uw,UV o,Ui,UM,←QE,UV o]
theorem z8i (c:List Value)(o m:Nat)(v:List Value)(h:o+v.length≤m): (c.take o++v++c.drop (o+v.length)).take m=if o≤c.length then(c.take m).take o++v++(c.take m).drop (o+v.length) else(c.take o++v++c.drop (o+v.length)).take m:=by
 split
 ·rename_i hle
  rw[QE,Wc,Wc,Ua,Ua,Nat.min_eq_right (by omega),QP (by omega),Qt,QP hle,
   Qk (l:=v) (by omega),←QE,Uw]
  grind
 ·rfl
theorem z2H (i:Nat)(s:xG e f){b o:Nat}{v:Value}{z:σ}(ag:Bool)(hS:qF a n S)(hg:zR ops S g=some true)(hO:zZ A w Ls)(hr:Ls[i]?=some r)(hA:wJ e te (bl Ls++A) w r p c l)
  (hp:p=some ⟨b,o,none⟩) (hm:zB l ix=some u) (hx:zL S x=some (.pointer (some ⟨b,o+ix.toNat*e.n+s.off,none⟩))) (hy:zL S y=some v) (ht:vC P t=some (ag,f.n)) (hv:f.rd (bl Ls++A) w v.cells.toList z)
  (k:∀ r' w',zZ A w' (Ls.set i r')->zU qd Ls w (Ls.set i r') w'->wJ e te (bl (Ls.set i r')++A) w' r' p c (l.set ix.toNat (s.put u z))->∀ a',qF a' n S->K a' w') :
  wU P ops Q ⟨none,.store t x y,ty,pos,af,g⟩ K a w:=by
 obtain⟨b',o',cells,rfl,hp',h3,h4,h5,h6⟩:=hA.at hm
 rw[hp] at hp'
 cases hp'
 obtain⟨h0,h1,h2⟩:=zMk hm
 have hb:=xN hO hr (Qa.2 rfl)
 have hlen:=f.len hv
 have hsle:=s.le
 have hlt:ix.toNat+1≤l.length:=(Qf.1 h1).1
 have hmul:ix.toNat*e.n+e.n≤l.length*e.n:=by
  have:=QD e.n hlt
  rw[QL,Nat.one_mul] at this;exact this
 have hmul2:o+l.length*e.n≤cells.size:=Qv (UX (QD _ h3) _) h5
 have hst:zMT P t cells (o+ix.toNat*e.n+s.off) v=true:=by
  unfold zMT
  simp only[ht,Qw,Q9,Uf]
  exact⟨⟨by grind,Nat.ble_eq_true_of_le (by omega)⟩,f.one hv⟩
 have hother:∀ k,k<w.heap.size->k∉[(b,Obj.cells cells te (0,0))].map Prod.fst->(w.setRow b (xR cells (o+ix.toNat*e.n+s.off) v.cells.toList)).heap[k]?=w.heap[k]? :=
  fun k _ hk=>setRow_other w b k _ (fun e=>hk (by simp[e]))
 have hE:zU qd Ls w (Ls.set i [(b,.cells (xR cells (o+ix.toNat*e.n+s.off) v.cells.toList) te (0,0))]) (w.setRow b (xR cells (o+ix.toNat*e.n+s.off) v.cells.toList)) :=
  zU.set hr rfl rfl rfl (by simp) hother (fun q hq=>.inl (by grind))
 refine z3w hS hg (w':=w.setRow b (xR cells (o+ix.toNat*e.n+s.off) v.cells.toList)) (by simp[execOp,hS.eval hx,hS.eval hy,Instr.storeAt,Instr.sureAddr,zTe hb hst])
  (k [(b,.cells (xR cells (o+ix.toNat*e.n+s.off) v.cells.toList) te (0,0))] _ ?_ hE (.inr ⟨b,o,_,rfl,hp,by grind,h4,?_,?_⟩))
 ·exact hO.set hr (by simp) hother (fun q hq=>by simp only[Qa] at hq;subst hq;exact setRow_heap w b cells _ te (0,0) hb) (by simp) (fun q hq=>.inl (by grind))
 ·grind [xR]
 ·have:=e.rdL_set (e.rdL_step (hE.step A) h6) h1 (by grind) (ds:=v.cells.toList) (off:=s.off) (y:=s.put u z) (fun ci hci=>by rw[hlen];exact s.rdp hci (f.step (hE.step A) hv))
  rw[UB]
  show e.rdL _ _ (List.take _ (List.drop o (cells.toList.take (o+ix.toNat*e.n+s.off)++v.cells.toList++cells.toList.drop (o+ix.toNat*e.n+s.off+v.cells.toList.length)))) _
  rw[z0F o (ix.toNat*e.n) s.off v.cells.toList (by grind),z8i _ _ _ _ (by omega),Qp (by simp;omega)]
  exact this
variable {listed:Array Bool}{fuel:Nat}{B J:List Nat}
theorem z3u (i:Nat)(hO:zZ A w Ls)(hS:qF a n S)(hi:ops[i]?=some ⟨some d,.indexAddr t x y,ty,pos,af,g⟩)(hk:vF ops B listed i=true)(hd:Nat.blt d n=true)(hQ:∀ c (v:Value) a w,Q (.panic c) (a.put (some d) v) w->Q (.panic c) a w)
  (hg:zR ops S g=some true) (hA:wJ e te Z w r p c l) (hx:zL S x=some (.slice p l.length c)) (hy:zL S y=some (.int kd ix)) (ht:wP P t=some e.n) (hm:zB l ix=some u)
  (k:∀ b o,p=some ⟨b,o,none⟩->∀ a',qF a' n ((d,.pointer (some ⟨b,o+ix.toNat*e.n,none⟩))::S)->qV P ops Q (SB B (CC qd A Ls w J)) fuel (listed.setIfInBounds i true) a' w):qV P ops Q (SB B (CC qd A Ls w J)) (fuel+1) listed a w:=by
 obtain⟨b,o,hp,hrun⟩:=zYM (P:=P) (ty:=ty) (pos:=pos) (af:=af) (g:=g) (d:=some d) hS hA hx hy ht hm
 exact z4M i hO hS hi hk hd (fun c=>hQ c _) hg hrun (k b o hp)
theorem z5K (i ri:Nat)(s:xG e f){b o:Nat}(ag:Bool)(hO:zZ A w Ls)(hS:qF a n S)(hi:ops[i]?=some ⟨some d,.load t x,ty,pos,af,g⟩)(hk:vF ops B listed i=true)(hd:Nat.blt d n=true)(hQ:∀ c (v:Value) a w,Q (.panic c) (a.put (some d) v) w->Q (.panic c) a w)
  (hg:zR ops S g=some true) (hb:B.all (fun j=>behind ops i ops.size j)=true) (hJ:J.contains ri=true) (hr:Ls[ri]?=some r) (hA:wJ e te (bl Ls++A) w r p c l)
  (hp:p=some ⟨b,o,none⟩) (hm:zB l ix=some u) (hx:zL S x=some (.pointer (some ⟨b,o+ix.toNat*e.n+s.off,none⟩))) (ht:vC P t=some (ag,f.n))
  (k:∀ ci,f.rd (bl Ls++A) w ci (s.get u)->∀ v,xW ag ci=some v->∀ a',qF a' n ((d,v)::S)->qV P ops Q (SB B (CC qd A Ls w J)) fuel (listed.setIfInBounds i true) a' w) (hag:ag=true∨f.n=1) :
  qV P ops Q (SB B (CC qd A Ls w J)) (fuel+1) listed a w:=by
 obtain⟨ci,h1,h2⟩:=z24 s hO hr hA hp hm
 obtain⟨b',o',cells,hrr,hp',_⟩:=hA.at hm
 rw[hp] at hp'
 cases hp'
 subst hrr
 obtain⟨v,hv⟩:=z9y (f.len h1) hag
 refine zXl hO hS hi hk hd (fun c=>hQ c _) (.inl ⟨zFe (o:=⟨some d,.load t x,ty,pos,af,g⟩) hS hg,fun l' w' hc hun hSw=>?_⟩) (k ci h1 v hv)
 obtain⟨Ls',hO',_,hJ'⟩:=hSw (z0R hb hc hun)
 have hr':=hr
 rw[←z7i hJ' hJ] at hr'
 have hh:w'.heap[b]?=w.heap[b]?:=(xN hO' hr' (Qa.2 rfl)).trans (xN hO hr (Qa.2 rfl)).symm
 simp[execOp,hS.eval hx,Instr.loadAt,Instr.sureAddr,zGA (cs:=ci) (by rw[f.len h1];exact ht) (h2 w' hh) hv]
end
def z4B (js:List Nat)(n:Nat): Bool:=match js with
 | []=>true
 | j::r=>Nat.blt j n&&!r.contains j&&z4B r n
theorem zOh:∀ {js:List Nat} {n:Nat},z4B js n=true->js.Nodup∧∀ j∈js,j<n
 | [],_,_=>by simp
 | j::r,n,h=>by
  simp only[z4B,Qw,Nat.blt_eq,Bool.not_eq_true'] at h
  obtain⟨⟨h1,h2⟩,h3⟩:=h
  obtain⟨k1,k2⟩:=zOh h3
  grind
section
variable {A:List Nat}{w w':World}{Ls:List zJ}
theorem vN.news{new:List zJ}(Ls:List zJ)(A:List Nat)(w:World): vN (bl new++(bl Ls++A)) w (bl (Ls++new)++A) w:=vN.less w fun b hb=>by
 grind [zCi]
theorem vN.sub (Ls:List zJ)(A:List Nat)(w:World): vN (bl Ls++A) w (bl []++(bl Ls++A)) w:=vN.less w fun _ h=>h
end
section
variable {P:Program}{a:Act}{n:Nat}{S:List (Nat×Value)}{ty:TypeId}{pos:String}{af:Array Edge}{g:Option (Nat×Bool)}
theorem z6w (d:Nat){t te:TypeId}{p:Option Addr}{m c:Nat}(hu:P.underlying t=some (.slice te))(w:World): (Op.equalIn (d+1) t (.slice p m c) (.slice none 0 0)).run P w=.ok p.isNone w:=by
 cases p <;> simp[Op.equalIn,run_underlying hu]
theorem r_eqnil{t u te:TypeId}{x:Operand}{p:Option Addr}{m c:Nat}{d:Option Tmp}(hS:qF a n S)(hx:zL S x=some (.slice p m c))(hu:P.underlying t=some (.slice te))(w:World):
  (execOp a.eval ⟨d,.binOp .eql t x (.const (.slice none 0 0)) u,ty,pos,af,g⟩).run P w=.ok (.value (vb p.isNone)) w:=by
 have hy:zL S (.const (.slice none 0 0))=some (.slice none 0 0):=rfl
 have h1:(eqGuard .eql t x (.const (.slice none 0 0)) (.slice p m c) (.slice none 0 0)).run P w=.ok () w:=by
  unfold eqGuard
  simp
 have h2:(binOp .eql t (.slice p m c) (.slice none 0 0)).run P w=.ok (vb p.isNone) w:=by
  have h3:(Op.equal t (.slice p m c) (.slice none 0 0)).run P w=.ok p.isNone w:=z6w 9999 hu w
  show(do pure (.bool (←Op.equal t (.slice p m c) (.slice none 0 0))):Sem Value).run P w=_
  simp[h3]
 simp[execOp,hS.eval hx,hS.eval hy,h1,h2]
end
theorem uY.isNil{τ:Type}{e:E τ}{Z:List Nat}{w:World}{p:Option Addr}{c:Nat}{l:List τ}(h:uY e Z w p c l)(hp:p.isNone=true): l=[]:=by
 rcases h.2 with h | ⟨b,off,cs,rfl,_⟩
 ·exact h
 ·cases hp
end Go.GD
