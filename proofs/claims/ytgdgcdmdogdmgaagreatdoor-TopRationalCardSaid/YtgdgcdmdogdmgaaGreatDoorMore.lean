/- A part. Conditions: none. -/
import Derived.Test.YtgdgcdmdogdmgaaGreatDoorArr
namespace Go.GD
open Go Go.RowKit
set_option autoImplicit false
variable {qd:Prop}
def yZ (Ls:List zG)(js:List Nat): List zG:=js.map fun j=>Ls.getD j []
section
variable {A:List Nat}{w w':World}{Ls L:List zG}
theorem zQt{js:List Nat}{r:zG}(h:r∈yZ Ls js){p:Nat×Obj}(hp:p∈r): ∃ j∈js,Ls[j]?=some r:=by
 obtain⟨j,hj,rfl⟩:=Qj.1 h
 grind
theorem zPy{js:List Nat}{b:Nat}(h:b∈bl (yZ Ls js)): b∈bl Ls:=by
 obtain⟨r,hr,p,hp,rfl⟩:=zKc.1 h
 grind [zQt,zCk]
theorem z7l{Ls:List zG}(h:(bl Ls).Nodup){r:zG}(hr:r∈Ls): (r.map Prod.fst).Nodup:=by
 induction Ls with
 | nil=>cases hr
 | cons t ts ih =>
  simp only[bl] at h
  grind
theorem zUB (h:(bl Ls).Nodup): ∀ {js:List Nat},js.Nodup->(bl (yZ Ls js)).Nodup
 | [],_=>by simp[yZ,bl]
 | j::js,hn=>by
  obtain⟨h1,h2⟩:=UC.1 hn
  show((Ls.getD j []).map Prod.fst++bl (yZ Ls js)).Nodup
  refine QK.2 ⟨?_,zUB h h2,fun x hx y hy e=>?_⟩
  ·grind [z7l]
  ·obtain⟨p,hp,rfl⟩:=Qj.1 hx
   obtain⟨r,hr,q,hq,rfl⟩:=zKc.1 hy
   grind [zQt,zF5]
theorem zU.sel (h:zU A w Ls)(js:List Nat)(hn:js.Nodup): zU A w (yZ Ls js) :=
 ⟨h.old,fun r hr p hp=>(by grind [zQt,yP]),zUB h.nodup hn,fun b hb=>h.apart b (zPy hb)⟩
theorem zT.sel{w0:World}(h:zT qd L w0 Ls w)(js:List Nat): zT qd L w0 (yZ Ls js) w:=h.drop fun _ hb=>zPy hb
theorem wU.sel (js:List Nat)(Ls:List zG)(A:List Nat)(w:World): wU (bl Ls++A) w (bl (yZ Ls js)++A) w:=wU.less w fun b hb=>by
 grind [zPy]
def xB:List Nat->List zG->List zG
 | [],L=>L
 | j::js,L=>xB js (L.set j [])
def zXf:List Nat->List zG->List zG->List zG
 | j::js,r::rs,L=>zXf js rs (L.set j r)
 | _,_,L=>L
theorem zQW{js:List Nat}: ∀ {L:List zG} {b:Nat},b∈bl (xB js L)->∃ j r,j∉js∧L[j]?=some r∧∃ p∈r,p.1=b:=by
 induction js with
 | nil =>
  intro L b h
  obtain⟨r,hr,p,hp,rfl⟩:=zKc.1 h
  obtain⟨j,hj⟩:=Qn.1 hr
  exact⟨j,r,by simp,hj,p,hp,rfl⟩
 | cons k js ih =>
  intro L b h
  obtain⟨j,r,hj,hr,p,hp,rfl⟩:=ih (L:=L.set k []) h
  grind
theorem zNu{js:List Nat}{b:Nat}(h:b∈bl (xB js Ls)): b∈bl Ls:=by
 obtain⟨j,r,_,hr,p,hp,rfl⟩:=zQW h
 exact zCk hr hp
theorem z1g (js:List Nat)(A:List Nat): ∀ b∈bl (yZ Ls js)++(bl (xB js Ls)++A),b∈bl Ls++A:=by
 grind [zPy,zNu]
theorem zU.picks (h:zU A w Ls)(js:List Nat)(hn:js.Nodup): zU (bl (xB js Ls)++A) w (yZ Ls js):=by
 refine⟨fun b hb=>?_,(h.sel js hn).has,zUB h.nodup hn,fun b hb hA=>?_⟩
 ·rcases Qd.1 hb with h1 | h1
  ·exact h.lt (zNu h1)
  ·exact h.old b h1
 ·rcases Qd.1 hA with h1 | h1
  ·obtain⟨j,r,hj,hr,p,hp,rfl⟩:=zQW h1
   obtain⟨s,hs,q,hq,he⟩:=zKc.1 hb
   obtain⟨k,hk,hlk⟩:=zQt hs hq
   exact zF5 h.nodup hr hlk (fun e=>hj (e▸hk)) p hp q hq he.symm
  ·exact h.apart b (zPy hb) h1
theorem wU.picks (js:List Nat)(Ls:List zG)(A:List Nat)(w:World): wU (bl Ls++A) w (bl (yZ Ls js)++(bl (xB js Ls)++A)) w:=wU.less w (z1g js A)
theorem zXD:∀ {L:List zG} {j:Nat} {r:zG},j<L.length->(bl (L.set j r)).Perm (r.map Prod.fst++bl (L.set j []))
 | [],_,_,h=>by simp at h
 | t::ts,0,r,_=>by simp[bl]
 | t::ts,j+1,r,h=>by
  simp only[List.set_cons_succ,bl]
  refine(List.Perm.append_left _ (zXD (L:=ts) (by grind))).trans ?_
  grind
theorem zX5{js:List Nat}: ∀ {L:List zG} {k:Nat} {r:zG},k∉js->xB js (L.set k r)=(xB js L).set k r:=by
 induction js with
 | nil=>intros;rfl
 | cons j js ih =>
  intro L k r hk
  simp only[Qv,not_or] at hk
  simp only[xB]
  rw[List.set_comm _ _ hk.1,ih hk.2]
theorem z1B{js:List Nat}: ∀ {L:List zG},(xB js L).length=L.length:=by
 induction js with
 | nil=>intros;rfl
 | cons j js ih=>grind [xB]
theorem zS5:∀ {js:List Nat} {rs L:List zG},js.Nodup->(∀ j∈js,j<L.length)->rs.length=js.length->(bl (zXf js rs L)).Perm (bl rs++bl (xB js L))
 | [],[],L,_,_,_=>by simp[zXf,xB,bl]
 | [],_::_,_,_,_,h=>by simp at h
 | _::_,[],_,_,_,h=>by simp at h
 | j::js,r::rs,L,hn,hl,hlen=>by
  obtain⟨h1,h2⟩:=UC.1 hn
  have ih:=zS5 (js:=js) (rs:=rs) (L:=L.set j r) h2 (fun k hk=>by grind) (by grind)
  simp only[zXf,xB]
  grind [zX5,zXD,z1B,bl]
theorem z8E{js:List Nat}: ∀ {rs L:List zG} {r:zG},r∈zXf js rs L->r∈rs∨r∈L:=by
 induction js with
 | nil=>intro rs L r h;cases rs <;> exact .inr h
 | cons j js ih =>
  intro rs L r h
  cases rs with
  | nil=>exact .inr h
  | cons s rs =>
   rcases ih h with h1 | h1
   ·grind
   grind
theorem z4e{js:List Nat}: ∀ {rs L:List zG},js.Nodup->rs.length=js.length->zXf js rs (xB js L)=zXf js rs L:=by
 induction js with
 | nil=>intros;rfl
 | cons j js ih =>
  intro rs L hn h
  cases rs with
  | nil=>simp at h
  | cons r rs =>
   obtain⟨hj,h2⟩:=UC.1 hn
   simp only[zXf,xB]
   rw[zX5 hj,List.set_set,←zX5 hj]
   grind
theorem zU.fills (h:zU A w Ls){js:List Nat}{rs new:List zG}(hn:js.Nodup)(hl:∀ j∈js,j<Ls.length)(hlen:rs.length=js.length)
  (ho:zU (bl (xB js Ls)++A) w' (rs++new)) (e:zT qd (yZ Ls js) w (rs++new) w'):zU A w' (zXf js rs Ls++new):=by
 have hperm:(bl (zXf js rs Ls++new)).Perm (bl (rs++new)++bl (xB js Ls)):=by
  rw[zDD,zDD]
  refine(List.Perm.append_right _ (zS5 hn hl hlen)).trans ?_
  rw[QA,QA]
  exact List.Perm.append_left _ List.perm_append_comm
 have hb:∀ b∈bl (xB js Ls),b∉bl (yZ Ls js):=fun b h1 h2=>(h.picks js hn).apart b h2 (Qd.2 (.inl h1))
 refine⟨fun b hb=>ho.old b (Qd.2 (.inr hb)),fun r hr p hp=>?_,hperm.nodup_iff.2 (QK.2 ⟨ho.nodup,?_,fun x hx y hy exy=>?_⟩),fun b hb=>?_⟩
 ·rcases Qd.1 hr with h1 | h1
  ·rw[←z4e hn hlen] at h1
   rcases z8E h1 with h2 | h2
   ·exact ho.has r (Qd.2 (.inl h2)) p hp
   ·have hbl:p.1∈bl (xB js Ls):=zKc.2 ⟨r,h2,p,hp,rfl⟩
    obtain⟨j,s,hj,hs,q,hq,he⟩:=zQW hbl
    have hlt:=h.lt (zNu hbl)
    rw[e.keep p.1 hlt (hb _ hbl)]
    have:∀ {js:List Nat} {L:List zG} {r:zG},r∈xB js L->p∈r->r∈L:=by
     intro js
     induction js with
     | nil=>intro L r h _;exact h
     | cons k ks ih =>
      intro L r h hp
      rcases z2j (ih h hp) with rfl | ⟨m,_,hm⟩
      ·cases hp
      grind
    exact h.has r (this h2 hp) p hp
  ·exact ho.has r (Qd.2 (.inr h1)) p hp
 ·have h1:∀ {js:List Nat} {L:List zG},(bl L).Nodup->(bl (xB js L)).Nodup:=by
   intro js
   induction js with
   | nil=>intro L h;exact h
   | cons k ks ih=>intro L h;exact ih (zXV h (by simp) (by simp))
  exact h1 h.nodup
 ·subst exy
  exact ho.apart x hx (Qd.2 (.inl hy))
 ·rcases Qd.1 (hperm.mem_iff.1 hb) with h1 | h1
  ·exact fun hA=>ho.apart b h1 (Qd.2 (.inr hA))
  ·exact h.apart b (zNu h1)
theorem zT.fills{js:List Nat}{rs new:List zG}(hn:js.Nodup)(hl:∀ j∈js,j<Ls.length)(hlen:rs.length=js.length)(e:zT qd (yZ Ls js) w (rs++new) w'):
  zT qd Ls w (zXf js rs Ls++new) w':=by
 refine⟨e.os,e.tape,e.output,e.drawn,e.size,fun k hk hnb=>e.keep k hk (fun hm=>hnb (zPy hm)),fun b hb=>?_⟩
 rw[zDD] at hb
 rcases Qd.1 hb with h1 | h1
 ·rcases Qd.1 ((zS5 hn hl hlen).mem_iff.1 h1) with h2 | h2
  ·exact(e.fresh b (by grind [zDD])).imp zPy id
  grind [zNu]
 ·exact(e.fresh b (by grind [zDD])).imp zPy id
theorem wU.fills{js:List Nat}{rs new:List zG}(hn:js.Nodup)(hl:∀ j∈js,j<Ls.length)(hlen:rs.length=js.length)(A:List Nat)(w:World):
  wU (bl (rs++new)++(bl (xB js Ls)++A)) w (bl (zXf js rs Ls++new)++A) w:=wU.less w fun b hb=>by
 grind [zDD,zS5]
theorem zU.news (h:zU A w Ls){new:List zG}(ho:zU (bl Ls++A) w' new)(e:zT qd [] w new w'): zU A w' (Ls++new):=by
 have:=h.fills (js:=[]) (rs:=[]) (new:=new) (by simp) (by simp) rfl (by simpa [xB] using ho) (by simpa [yZ] using e)
 grind [zXf]
theorem zT.news{new:List zG}(Ls:List zG)(e:zT qd [] w new w'): zT qd Ls w (Ls++new) w' :=
 ⟨e.os,e.tape,e.output,e.drawn,e.size,fun k hk _=>e.keep k hk (by simp[bl]),fun b hb=>by
  rw[zDD] at hb
  rcases Qd.1 hb with h1 | h1
  ·grind
  ·exact(e.fresh b h1).imp (fun h=>by simp[bl] at h) id⟩
end
structure xM{τ σ:Type}(e:E τ)(f:E σ) where
 off:Nat
 get:τ->σ
 put:τ->σ->τ
 le:off+f.n≤e.n
 rdg:∀ {Z w cs x},e.rd Z w cs x->f.rd Z w ((cs.drop off).take f.n) (get x)
 rdp:∀ {Z w cs x ds y},e.rd Z w cs x->f.rd Z w ds y->e.rd Z w (cs.take off++ds++cs.drop (off+f.n)) (put x y)
def xM.id{τ:Type}(e:E τ): xM e e :=
 ⟨0,fun x=>x,fun _ y=>y,by simp,fun h=>by rw[List.drop_zero,Qs (by rw[e.len h];grind)];exact h,
  fun h k=>by rw[List.take_zero,QM,UF,QZ (by rw[e.len h];grind),QB];exact k⟩
theorem zQr{α β:Type}{f:E α}{g:E β}{Z:List Nat}{w:World}{cs:List Value}{x:α×β}(h:(wJ f g).rd Z w cs x):
  f.rd Z w (cs.take f.n) x.1∧g.rd Z w (cs.drop f.n) x.2:=by
 obtain⟨c1,c2,rfl,h1,h2⟩:=h
 have:=f.len h1
 grind
def xM.fst{τ α β:Type}{e:E τ}{f:E α}{g:E β}(s:xM e (wJ f g)): xM e f :=
 ⟨s.off,fun x=>(s.get x).1,fun x y=>s.put x (y,(s.get x).2),by have:=s.le;simp only[wJ] at this;omega,
  fun {Z w cs x} h=>by
  have h1:=(zQr (s.rdg h)).1
  rw[Uy,Uc (by grind [wJ])] at h1
  exact h1,
  fun {Z w cs x ds y} h k=>by
  have h2:=(zQr (s.rdg h)).2
  have h3:=s.rdp h (show(wJ f g).rd Z w _ (y,(s.get x).2) from⟨ds,_,rfl,k,h2⟩)
  have he:cs.take s.off++(ds++((cs.drop s.off).take (wJ f g).n).drop f.n)++cs.drop (s.off+(wJ f g).n)=cs.take s.off++ds++cs.drop (s.off+f.n):=by
   rw[←QA,QA]
   congr 1
   rw[US,Wh]
   have:cs.drop (s.off+(wJ f g).n)=(cs.drop (s.off+f.n)).drop ((wJ f g).n-f.n):=by
    rw[Wh];congr 1;simp only[wJ];omega
   rw[this,QT]
  grind⟩
def xM.snd{τ α β:Type}{e:E τ}{f:E α}{g:E β}(s:xM e (wJ f g)): xM e g :=
 ⟨s.off+f.n,fun x=>(s.get x).2,fun x y=>s.put x ((s.get x).1,y),by have:=s.le;simp only[wJ] at this;omega,
  fun {Z w cs x} h=>by
  have h1:=(zQr (s.rdg h)).2
  rw[US,Wh] at h1
  have:(wJ f g).n-f.n=g.n:=by simp only[wJ];omega
  grind,
  fun {Z w cs x ds y} h k=>by
  have h2:=(zQr (s.rdg h)).1
  have h3:=s.rdp h (show(wJ f g).rd Z w _ ((s.get x).1,y) from⟨_,ds,rfl,h2,k⟩)
  have he:cs.take s.off++(((cs.drop s.off).take (wJ f g).n).take f.n++ds)++cs.drop (s.off+(wJ f g).n)=cs.take (s.off+f.n)++ds++cs.drop (s.off+f.n+g.n):=by
   rw[Uy,Uc (by grind [wJ]),←QA,←List.take_add]
   congr 2
   simp only[wJ];omega
  grind⟩
section
variable {τ:Type}(e:E τ){Z:List Nat}{w:World}
theorem E.rdL_at:∀ {l:List τ} {cs:List Value} {k:Nat} {x:τ},e.rdL Z w cs l->l[k]?=some x->e.rd Z w ((cs.drop (k*e.n)).take e.n) x
 | [],cs,k,x,h,hx=>by simp at hx
 | y::l,cs,0,x,h,hx=>by
  obtain⟨c1,c2,rfl,h1,h2⟩:=h
  simp only[UI,Qf] at hx
  subst hx
  rw[Nat.zero_mul,List.drop_zero,←e.len h1,U4];exact h1
 | y::l,cs,k+1,x,h,hx=>by
  obtain⟨c1,c2,rfl,h1,h2⟩:=h
  simp only[Uh] at hx
  have:=E.rdL_at h2 hx
  have hl:=e.len h1
  rw[show(k+1)*e.n=c1.length+k*e.n by grind,U5,QZ (by omega),QM,Uu]
  exact this
theorem E.rdL_set:∀ {l:List τ} {cs:List Value} {k:Nat} {x y:τ} {ds:List Value} {off:Nat},e.rdL Z w cs l->l[k]?=some x->off+ds.length≤e.n->
  (∀ ci,e.rd Z w ci x->e.rd Z w (ci.take off++ds++ci.drop (off+ds.length)) y)->e.rdL Z w (cs.take (k*e.n+off)++ds++cs.drop (k*e.n+off+ds.length)) (l.set k y)
 | [],cs,k,x,y,ds,off,h,hx,_,_=>by simp at hx
 | z::l,cs,0,x,y,ds,off,h,hx,hle,hp=>by
  obtain⟨c1,c2,rfl,h1,h2⟩:=h
  simp only[UI,Qf] at hx
  subst hx
  have hl:=e.len h1
  refine⟨_,c2,?_,hp c1 h1,h2⟩
  grind
 | z::l,cs,k+1,x,y,ds,off,h,hx,hle,hp=>by
  obtain⟨c1,c2,rfl,h1,h2⟩:=h
  simp only[Uh] at hx
  have ih:=E.rdL_set h2 hx hle hp
  have hl:=e.len h1
  refine⟨c1,_,?_,h1,ih⟩
  rw[show(k+1)*e.n+off=c1.length+(k*e.n+off) by grind]
  rw[Wj,Qs (by omega),Uu,UZ c1.length,U5,QZ (by omega),Uu]
  simp
end
theorem zQu{α:Type}{l:List α}{i:Int}{u:α}(h:zB l i=some u): 0≤i∧l[i.toNat]?=some u∧i<(l.length:Int):=by grind [zB]
section
variable {P:Program}{ops:Array Oper}{Q:Exit->Act->World->Prop}{a:Act}{n:Nat}{S:List (Nat×Value)}{w:World}{K:Act->World->Prop}
variable {A:List Nat}{Ls:List zG}{d:Nat}{ty:TypeId}{pos:String}{af:Array Edge}{g:Option (Nat×Bool)}
variable {τ σ:Type}{e:E τ}{f:E σ}{te:TypeId}{Z:List Nat}{r:zG}{p:Option Addr}{c:Nat}{l:List τ}{ix:Int}{u:τ}{t:TypeId}{x y:Operand}{kd:IntKind}
theorem wG.at (hA:wG e te Z w r p c l)(hm:zB l ix=some u): ∃ b o cells,r=[(b,.cells cells te (0,0))]∧p=some ⟨b,o,none⟩∧l.length≤c∧c≤maxLen∧o+c*e.n≤cells.size∧e.rdL Z w ((cells.toList.drop o).take (l.length*e.n)) l:=by
 rcases hA with⟨_,_,_,rfl⟩ | h
 ·have:=(zQu hm).2.1;grind
 ·exact h
theorem zXR (hS:zY a n S)(hA:wG e te Z w r p c l)(hx:zK S x=some (.slice p l.length c))(hy:zK S y=some (.int kd ix))(ht:wY P t=some e.n)(hm:zB l ix=some u){d:Option Tmp}:
  ∃ b o,p=some ⟨b,o,none⟩∧∀ w',(execOp a.eval ⟨d,.indexAddr t x y,ty,pos,af,g⟩).run P w'=.ok (.value (.pointer (some ⟨b,o+ix.toNat*e.n,none⟩))) w':=by
 obtain⟨b,o,cells,rfl,rfl,_⟩:=hA.at hm
 obtain⟨h0,h1,h2⟩:=zQu hm
 refine⟨b,o,rfl,fun w'=>?_⟩
 simp[execOp,hS.eval hx,hS.eval hy,zKj (m:=l.length) ht h0 h2]
theorem z0m (hS:zY a n S)(hd:Nat.blt d n=true)(hg:zQ ops S g=some true)(hA:wG e te Z w r p c l)(hx:zK S x=some (.slice p l.length c))(hy:zK S y=some (.int kd ix))(ht:wY P t=some e.n)(hm:zB l ix=some u)
  (k:∀ b o,p=some ⟨b,o,none⟩->∀ a',zY a' n ((d,.pointer (some ⟨b,o+ix.toNat*e.n,none⟩))::S)->K a' w):wH P ops Q ⟨some d,.indexAddr t x y,ty,pos,af,g⟩ K a w:=by
 obtain⟨b,o,hp,hrun⟩:=zXR (P:=P) (ty:=ty) (pos:=pos) (af:=af) (g:=g) (d:=some d) hS hA hx hy ht hm
 exact uX hS hd hg (hrun w) (k b o hp)
theorem z1s (s:xM e f){b o:Nat}(hO:zU A w Ls){i:Nat}(hr:Ls[i]?=some r)(hA:wG e te (bl Ls++A) w r p c l)(hp:p=some ⟨b,o,none⟩)(hm:zB l ix=some u):
  ∃ ci,f.rd (bl Ls++A) w ci (s.get u)∧∀ w':World,w'.heap[b]?=w.heap[b]?->∀ j v,ci[j]?=some v->w'.cell? ⟨b,o+ix.toNat*e.n+s.off+j,none⟩=some v:=by
 obtain⟨b',o',cells,rfl,hp',h3,_,h5,h6⟩:=hA.at hm
 rw[hp] at hp'
 cases hp'
 obtain⟨h0,h1,h2⟩:=zQu hm
 have hb:=yP hO hr (Qa.2 rfl)
 refine⟨_,s.rdg (e.rdL_at h6 h1),fun w' hw j v hv=>?_⟩
 rw[cell_of_row w' b _ cells te (0,0) (hw.trans hb)]
 grind
theorem mkV_of{ag:Bool}{ci:List Value}{k:Nat}(hl:ci.length=k)(hag:ag=true∨k=1): ∃ v,tZ ag ci=some v:=by
 rcases hag with rfl | hn
 ·exact⟨_,rfl⟩
 ·cases ag with
  | true=>exact⟨_,rfl⟩
  | false=>match ci,hl.trans hn with | [u],_=>exact⟨u,rfl⟩
theorem z2P (i:Nat)(s:xM e f){b o:Nat}(ag:Bool)(hS:zY a n S)(hd:Nat.blt d n=true)(hg:zQ ops S g=some true)(hO:zU A w Ls)(hr:Ls[i]?=some r)(hA:wG e te (bl Ls++A) w r p c l)
  (hp:p=some ⟨b,o,none⟩) (hm:zB l ix=some u) (hx:zK S x=some (.pointer (some ⟨b,o+ix.toNat*e.n+s.off,none⟩))) (ht:wX P t=some (ag,f.n))
  (k:∀ ci,f.rd (bl Ls++A) w ci (s.get u)->∀ v,tZ ag ci=some v->∀ a',zY a' n ((d,v)::S)->K a' w) (hag:ag=true∨f.n=1):wH P ops Q ⟨some d,.load t x,ty,pos,af,g⟩ K a w:=by
 obtain⟨ci,h1,h2⟩:=z1s s hO hr hA hp hm
 obtain⟨v,hv⟩:=mkV_of (f.len h1) hag
 refine uX hS hd hg (v:=v) (w':=w) ?_ (k ci h1 v hv)
 simp[execOp,hS.eval hx,Instr.loadAt,Instr.sureAddr,zGZ (cs:=ci) (by rw[f.len h1];exact ht) (h2 w rfl) hv]
theorem zZx{c:List Value}(o m k:Nat)(v:List Value)(h:o+m+k≤c.length): (c.take (o+m+k)++v++c.drop (o+m+k+v.length)).drop o=(c.drop o).take (m+k)++v++(c.drop o).drop (m+k+v.length):=by
 rw[QA,Wb (by grind),US,UZ o,Uu,Wh,←QA,UZ o]
theorem z9U (c:List Value)(o m:Nat)(v:List Value)(h:o+v.length≤m): (c.take o++v++c.drop (o+v.length)).take m=if o≤c.length then(c.take m).take o++v++(c.take m).drop (o+v.length) else(c.take o++v++c.drop (o+v.length)).take m:=by
 split
 ·rename_i hle
  rw[QA,Wj,Wj,Uy,Uy,Nat.min_eq_right (by omega),Uc (by omega),QL,Uc hle,
   Qs (l:=v) (by omega),←QA,US]
  grind
 ·rfl
theorem z0s (i:Nat)(s:xM e f){b o:Nat}{v:Value}{z:σ}(ag:Bool)(hS:zY a n S)(hg:zQ ops S g=some true)(hO:zU A w Ls)(hr:Ls[i]?=some r)(hA:wG e te (bl Ls++A) w r p c l)
  (hp:p=some ⟨b,o,none⟩) (hm:zB l ix=some u) (hx:zK S x=some (.pointer (some ⟨b,o+ix.toNat*e.n+s.off,none⟩))) (hy:zK S y=some v) (ht:wX P t=some (ag,f.n)) (hv:f.rd (bl Ls++A) w v.cells.toList z)
  (k:∀ r' w',zU A w' (Ls.set i r')->zT qd Ls w (Ls.set i r') w'->wG e te (bl (Ls.set i r')++A) w' r' p c (l.set ix.toNat (s.put u z))->∀ a',zY a' n S->K a' w') :
  wH P ops Q ⟨none,.store t x y,ty,pos,af,g⟩ K a w:=by
 obtain⟨b',o',cells,rfl,hp',h3,h4,h5,h6⟩:=hA.at hm
 rw[hp] at hp'
 cases hp'
 obtain⟨h0,h1,h2⟩:=zQu hm
 have hb:=yP hO hr (Qa.2 rfl)
 have hlen:=f.len hv
 have hsle:=s.le
 have hlt:ix.toNat+1≤l.length:=(Qg.1 h1).1
 have hmul:ix.toNat*e.n+e.n≤l.length*e.n:=by
  have:=QF e.n hlt
  rw[QP,Nat.one_mul] at this;exact this
 have hmul2:o+l.length*e.n≤cells.size:=QD (U2 (QF _ h3) _) h5
 have hst:zM1 P t cells (o+ix.toNat*e.n+s.off) v=true:=by
  unfold zM1
  simp only[ht,Qo,Ue,QE]
  exact⟨⟨by grind,Nat.ble_eq_true_of_le (by omega)⟩,f.one hv⟩
 have hother:∀ k,k<w.heap.size->k∉[(b,Obj.cells cells te (0,0))].map Prod.fst->(w.setRow b (tI cells (o+ix.toNat*e.n+s.off) v.cells.toList)).heap[k]?=w.heap[k]? :=
  fun k _ hk=>setRow_other w b k _ (fun e=>hk (by simp[e]))
 have hE:zT qd Ls w (Ls.set i [(b,.cells (tI cells (o+ix.toNat*e.n+s.off) v.cells.toList) te (0,0))]) (w.setRow b (tI cells (o+ix.toNat*e.n+s.off) v.cells.toList)) :=
  zT.set hr rfl rfl rfl (by simp) hother (fun q hq=>.inl (by grind))
 refine zZN hS hg (w':=w.setRow b (tI cells (o+ix.toNat*e.n+s.off) v.cells.toList)) (by simp[execOp,hS.eval hx,hS.eval hy,Instr.storeAt,Instr.sureAddr,zT0 hb hst])
  (k [(b,.cells (tI cells (o+ix.toNat*e.n+s.off) v.cells.toList) te (0,0))] _ ?_ hE (.inr ⟨b,o,_,rfl,hp,by grind,h4,?_,?_⟩))
 ·exact hO.set hr (by simp) hother (fun q hq=>by simp only[Qa] at hq;subst hq;exact setRow_heap w b cells _ te (0,0) hb) (by simp) (fun q hq=>.inl (by grind))
 ·grind [tI]
 ·have:=e.rdL_set (e.rdL_step (hE.step A) h6) h1 (by grind) (ds:=v.cells.toList) (off:=s.off) (y:=s.put u z) (fun ci hci=>by rw[hlen];exact s.rdp hci (f.step (hE.step A) hv))
  rw[UB]
  show e.rdL _ _ (List.take _ (List.drop o (cells.toList.take (o+ix.toNat*e.n+s.off)++v.cells.toList++cells.toList.drop (o+ix.toNat*e.n+s.off+v.cells.toList.length)))) _
  rw[zZx o (ix.toNat*e.n) s.off v.cells.toList (by grind),z9U _ _ _ _ (by omega),Qu (by simp;omega)]
  exact this
variable {listed:Array Bool}{fuel:Nat}{B J:List Nat}
theorem z2n (i:Nat)(hO:zU A w Ls)(hS:zY a n S)(hi:ops[i]?=some ⟨some d,.indexAddr t x y,ty,pos,af,g⟩)(hk:vE ops B listed i=true)(hd:Nat.blt d n=true)(hQ:∀ c (v:Value) a w,Q (.panic c) (a.put (some d) v) w->Q (.panic c) a w)
  (hg:zQ ops S g=some true) (hA:wG e te Z w r p c l) (hx:zK S x=some (.slice p l.length c)) (hy:zK S y=some (.int kd ix)) (ht:wY P t=some e.n) (hm:zB l ix=some u)
  (k:∀ b o,p=some ⟨b,o,none⟩->∀ a',zY a' n ((d,.pointer (some ⟨b,o+ix.toNat*e.n,none⟩))::S)->qT P ops Q (SB B (CC qd A Ls w J)) fuel (listed.setIfInBounds i true) a' w):qT P ops Q (SB B (CC qd A Ls w J)) (fuel+1) listed a w:=by
 obtain⟨b,o,hp,hrun⟩:=zXR (P:=P) (ty:=ty) (pos:=pos) (af:=af) (g:=g) (d:=some d) hS hA hx hy ht hm
 exact z60 i hO hS hi hk hd (fun c=>hQ c _) hg hrun (k b o hp)
theorem z5O (i ri:Nat)(s:xM e f){b o:Nat}(ag:Bool)(hO:zU A w Ls)(hS:zY a n S)(hi:ops[i]?=some ⟨some d,.load t x,ty,pos,af,g⟩)(hk:vE ops B listed i=true)(hd:Nat.blt d n=true)(hQ:∀ c (v:Value) a w,Q (.panic c) (a.put (some d) v) w->Q (.panic c) a w)
  (hg:zQ ops S g=some true) (hb:B.all (fun j=>behind ops i ops.size j)=true) (hJ:J.contains ri=true) (hr:Ls[ri]?=some r) (hA:wG e te (bl Ls++A) w r p c l)
  (hp:p=some ⟨b,o,none⟩) (hm:zB l ix=some u) (hx:zK S x=some (.pointer (some ⟨b,o+ix.toNat*e.n+s.off,none⟩))) (ht:wX P t=some (ag,f.n))
  (k:∀ ci,f.rd (bl Ls++A) w ci (s.get u)->∀ v,tZ ag ci=some v->∀ a',zY a' n ((d,v)::S)->qT P ops Q (SB B (CC qd A Ls w J)) fuel (listed.setIfInBounds i true) a' w) (hag:ag=true∨f.n=1) :
  qT P ops Q (SB B (CC qd A Ls w J)) (fuel+1) listed a w:=by
 obtain⟨ci,h1,h2⟩:=z1s s hO hr hA hp hm
 obtain⟨b',o',cells,hrr,hp',_⟩:=hA.at hm
 rw[hp] at hp'
 cases hp'
 subst hrr
 obtain⟨v,hv⟩:=mkV_of (f.len h1) hag
 refine zXW hO hS hi hk hd (fun c=>hQ c _) (.inl ⟨zGM (o:=⟨some d,.load t x,ty,pos,af,g⟩) hS hg,fun l' w' hc hun hSw=>?_⟩) (k ci h1 v hv)
 obtain⟨Ls',hO',_,hJ'⟩:=hSw (zZV hb hc hun)
 have hr':=hr
 rw[←z7f hJ' hJ] at hr'
 have hh:w'.heap[b]?=w.heap[b]?:=(yP hO' hr' (Qa.2 rfl)).trans (yP hO hr (Qa.2 rfl)).symm
 simp[execOp,hS.eval hx,Instr.loadAt,Instr.sureAddr,zGZ (cs:=ci) (by rw[f.len h1];exact ht) (h2 w' hh) hv]
end
def z2Q (js:List Nat)(n:Nat): Bool:=match js with
 | []=>true
 | j::r=>Nat.blt j n&&!r.contains j&&z2Q r n
theorem zNy:∀ {js:List Nat} {n:Nat},z2Q js n=true->js.Nodup∧∀ j∈js,j<n
 | [],_,_=>by simp
 | j::r,n,h=>by
  simp only[z2Q,Qo,Nat.blt_eq,Bool.not_eq_true'] at h
  obtain⟨⟨h1,h2⟩,h3⟩:=h
  obtain⟨k1,k2⟩:=zNy h3
  grind
section
variable {A:List Nat}{w w':World}{Ls:List zG}
theorem wU.news{new:List zG}(Ls:List zG)(A:List Nat)(w:World): wU (bl new++(bl Ls++A)) w (bl (Ls++new)++A) w:=wU.less w fun b hb=>by
 grind [zDD]
theorem wU.sub (Ls:List zG)(A:List Nat)(w:World): wU (bl Ls++A) w (bl []++(bl Ls++A)) w:=wU.less w fun _ h=>h
end
section
variable {P:Program}{a:Act}{n:Nat}{S:List (Nat×Value)}{ty:TypeId}{pos:String}{af:Array Edge}{g:Option (Nat×Bool)}
theorem z7a (d:Nat){t te:TypeId}{p:Option Addr}{m c:Nat}(hu:P.underlying t=some (.slice te))(w:World): (Op.equalIn (d+1) t (.slice p m c) (.slice none 0 0)).run P w=.ok p.isNone w:=by
 cases p <;> simp[Op.equalIn,run_underlying hu]
theorem r_eqnil{t u te:TypeId}{x:Operand}{p:Option Addr}{m c:Nat}{d:Option Tmp}(hS:zY a n S)(hx:zK S x=some (.slice p m c))(hu:P.underlying t=some (.slice te))(w:World):
  (execOp a.eval ⟨d,.binOp .eql t x (.const (.slice none 0 0)) u,ty,pos,af,g⟩).run P w=.ok (.value (vb p.isNone)) w:=by
 have hy:zK S (.const (.slice none 0 0))=some (.slice none 0 0):=rfl
 have h1:(eqGuard .eql t x (.const (.slice none 0 0)) (.slice p m c) (.slice none 0 0)).run P w=.ok () w:=by
  unfold eqGuard
  simp
 have h2:(binOp .eql t (.slice p m c) (.slice none 0 0)).run P w=.ok (vb p.isNone) w:=by
  have h3:(Op.equal t (.slice p m c) (.slice none 0 0)).run P w=.ok p.isNone w:=z7a 9999 hu w
  show(do pure (.bool (←Op.equal t (.slice p m c) (.slice none 0 0))):Sem Value).run P w=_
  simp[h3]
 simp[execOp,hS.eval hx,hS.eval hy,h1,h2]
end
theorem xN.isNil{τ:Type}{e:E τ}{Z:List Nat}{w:World}{p:Option Addr}{c:Nat}{l:List τ}(h:xN e Z w p c l)(hp:p.isNone=true): l=[]:=by
 rcases h.2 with h | ⟨b,off,cs,rfl,_⟩
 ·exact h
 ·cases hp
end Go.GD
