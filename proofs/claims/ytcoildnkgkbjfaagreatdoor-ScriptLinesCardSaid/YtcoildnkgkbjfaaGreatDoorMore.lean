/- A part. Conditions: none. -/
import Derived.Test.YtcoildnkgkbjfaaGreatDoorArr
namespace Go.GD
open Go Go.RowKit
set_option autoImplicit false
variable {qd:Prop}
def uT (Ls:List zH)(js:List Nat): List zH:=js.map fun j=>Ls.getD j []
section
variable {A:List Nat}{w w':World}{Ls L:List zH}
theorem zON{js:List Nat}{r:zH}(h:r∈uT Ls js){p:Nat×Obj}(hp:p∈r): ∃ j∈js,Ls[j]?=some r:=by
 obtain⟨j,hj,rfl⟩:=QB.1 h
 grind
theorem zLr{js:List Nat}{b:Nat}(h:b∈bl (uT Ls js)): b∈bl Ls:=by
 obtain⟨r,hr,p,hp,rfl⟩:=zHY.1 h
 grind [zON,zBg]
theorem z2A{Ls:List zH}(h:(bl Ls).Nodup){r:zH}(hr:r∈Ls): (r.map Prod.fst).Nodup:=by
 induction Ls with
 | nil=>cases hr
 | cons t ts ih =>
  simp only[bl] at h
  grind
theorem zPk (h:(bl Ls).Nodup): ∀ {js:List Nat},js.Nodup->(bl (uT Ls js)).Nodup
 | [],_=>by simp[uT,bl]
 | j::js,hn=>by
  obtain⟨h1,h2⟩:=UU.1 hn
  show((Ls.getD j []).map Prod.fst++bl (uT Ls js)).Nodup
  refine Q2.2 ⟨?_,zPk h h2,fun x hx y hy e=>?_⟩
  ·grind [z2A]
  ·obtain⟨p,hp,rfl⟩:=QB.1 hx
   obtain⟨r,hr,q,hq,rfl⟩:=zHY.1 hy
   grind [zON,zEt]
theorem qF.sel (h:qF A w Ls)(js:List Nat)(hn:js.Nodup): qF A w (uT Ls js) :=
 ⟨h.old,fun r hr p hp=>(by grind [zON,tJ]),zPk h.nodup hn,fun b hb=>h.apart b (zLr hb)⟩
theorem zZ.sel{w0:World}(h:zZ qd L w0 Ls w)(js:List Nat): zZ qd L w0 (uT Ls js) w:=h.drop fun _ hb=>zLr hb
theorem vT.sel (js:List Nat)(Ls:List zH)(A:List Nat)(w:World): vT (bl Ls++A) w (bl (uT Ls js)++A) w:=vT.less w fun b hb=>by
 grind [zLr]
def xG:List Nat->List zH->List zH
 | [],L=>L
 | j::js,L=>xG js (L.set j [])
def zR9:List Nat->List zH->List zH->List zH
 | j::js,r::rs,L=>zR9 js rs (L.set j r)
 | _,_,L=>L
theorem zOj{js:List Nat}: ∀ {L:List zH} {b:Nat},b∈bl (xG js L)->∃ j r,j∉js∧L[j]?=some r∧∃ p∈r,p.1=b:=by
 induction js with
 | nil =>
  intro L b h
  obtain⟨r,hr,p,hp,rfl⟩:=zHY.1 h
  obtain⟨j,hj⟩:=Qv.1 hr
  exact⟨j,r,by simp,hj,p,hp,rfl⟩
 | cons k js ih =>
  intro L b h
  obtain⟨j,r,hj,hr,p,hp,rfl⟩:=ih (L:=L.set k []) h
  grind
theorem zJo{js:List Nat}{b:Nat}(h:b∈bl (xG js Ls)): b∈bl Ls:=by
 obtain⟨j,r,_,hr,p,hp,rfl⟩:=zOj h
 exact zBg hr hp
theorem zW6 (js:List Nat)(A:List Nat): ∀ b∈bl (uT Ls js)++(bl (xG js Ls)++A),b∈bl Ls++A:=by
 grind [zLr,zJo]
theorem qF.picks (h:qF A w Ls)(js:List Nat)(hn:js.Nodup): qF (bl (xG js Ls)++A) w (uT Ls js):=by
 refine⟨fun b hb=>?_,(h.sel js hn).has,zPk h.nodup hn,fun b hb hA=>?_⟩
 ·rcases Qk.1 hb with h1 | h1
  ·exact h.lt (zJo h1)
  ·exact h.old b h1
 ·rcases Qk.1 hA with h1 | h1
  ·obtain⟨j,r,hj,hr,p,hp,rfl⟩:=zOj h1
   obtain⟨s,hs,q,hq,he⟩:=zHY.1 hb
   obtain⟨k,hk,hlk⟩:=zON hs hq
   exact zEt h.nodup hr hlk (fun e=>hj (e▸hk)) p hp q hq he.symm
  ·exact h.apart b (zLr hb) h1
theorem vT.picks (js:List Nat)(Ls:List zH)(A:List Nat)(w:World): vT (bl Ls++A) w (bl (uT Ls js)++(bl (xG js Ls)++A)) w:=vT.less w (zW6 js A)
theorem zRi:∀ {L:List zH} {j:Nat} {r:zH},j<L.length->(bl (L.set j r)).Perm (r.map Prod.fst++bl (L.set j []))
 | [],_,_,h=>by simp at h
 | t::ts,0,r,_=>by simp[bl]
 | t::ts,j+1,r,h=>by
  simp only[UW,bl]
  refine(List.Perm.append_left _ (zRi (L:=ts) (by grind))).trans ?_
  grind
theorem zS8{js:List Nat}: ∀ {L:List zH} {k:Nat} {r:zH},k∉js->xG js (L.set k r)=(xG js L).set k r:=by
 induction js with
 | nil=>intros;rfl
 | cons j js ih =>
  intro L k r hk
  simp only[QG,not_or] at hk
  simp only[xG]
  rw[List.set_comm _ _ hk.1,ih hk.2]
theorem zXG{js:List Nat}: ∀ {L:List zH},(xG js L).length=L.length:=by
 induction js with
 | nil=>intros;rfl
 | cons j js ih=>grind [xG]
theorem zOw:∀ {js:List Nat} {rs L:List zH},js.Nodup->(∀ j∈js,j<L.length)->rs.length=js.length->(bl (zR9 js rs L)).Perm (bl rs++bl (xG js L))
 | [],[],L,_,_,_=>by simp[zR9,xG,bl]
 | [],_::_,_,_,_,h=>by simp at h
 | _::_,[],_,_,_,h=>by simp at h
 | j::js,r::rs,L,hn,hl,hlen=>by
  obtain⟨h1,h2⟩:=UU.1 hn
  have ih:=zOw (js:=js) (rs:=rs) (L:=L.set j r) h2 (fun k hk=>by grind) (by grind)
  simp only[zR9,xG]
  grind [zS8,zRi,zXG,bl]
theorem z5M{js:List Nat}: ∀ {rs L:List zH} {r:zH},r∈zR9 js rs L->r∈rs∨r∈L:=by
 induction js with
 | nil=>intro rs L r h;cases rs <;> exact .inr h
 | cons j js ih =>
  intro rs L r h
  cases rs with
  | nil=>exact .inr h
  | cons s rs =>
   rcases ih h with h1 | h1
   ·grind
   grind
theorem z0K{js:List Nat}: ∀ {rs L:List zH},js.Nodup->rs.length=js.length->zR9 js rs (xG js L)=zR9 js rs L:=by
 induction js with
 | nil=>intros;rfl
 | cons j js ih =>
  intro rs L hn h
  cases rs with
  | nil=>simp at h
  | cons r rs =>
   obtain⟨hj,h2⟩:=UU.1 hn
   simp only[zR9,xG]
   rw[zS8 hj,List.set_set,←zS8 hj]
   grind
theorem qF.fills (h:qF A w Ls){js:List Nat}{rs new:List zH}(hn:js.Nodup)(hl:∀ j∈js,j<Ls.length)(hlen:rs.length=js.length)
  (ho:qF (bl (xG js Ls)++A) w' (rs++new)) (e:zZ qd (uT Ls js) w (rs++new) w'):qF A w' (zR9 js rs Ls++new):=by
 have hperm:(bl (zR9 js rs Ls++new)).Perm (bl (rs++new)++bl (xG js Ls)):=by
  rw[zBp,zBp]
  refine(List.Perm.append_right _ (zOw hn hl hlen)).trans ?_
  rw[Qo,Qo]
  exact List.Perm.append_left _ Uv
 have hb:∀ b∈bl (xG js Ls),b∉bl (uT Ls js):=fun b h1 h2=>(h.picks js hn).apart b h2 (Qk.2 (.inl h1))
 refine⟨fun b hb=>ho.old b (Qk.2 (.inr hb)),fun r hr p hp=>?_,hperm.nodup_iff.2 (Q2.2 ⟨ho.nodup,?_,fun x hx y hy exy=>?_⟩),fun b hb=>?_⟩
 ·rcases Qk.1 hr with h1 | h1
  ·rw[←z0K hn hlen] at h1
   rcases z5M h1 with h2 | h2
   ·exact ho.has r (Qk.2 (.inl h2)) p hp
   ·have hbl:p.1∈bl (xG js Ls):=zHY.2 ⟨r,h2,p,hp,rfl⟩
    obtain⟨j,s,hj,hs,q,hq,he⟩:=zOj hbl
    have hlt:=h.lt (zJo hbl)
    rw[e.keep p.1 hlt (hb _ hbl)]
    have:∀ {js:List Nat} {L:List zH} {r:zH},r∈xG js L->p∈r->r∈L:=by
     intro js
     induction js with
     | nil=>intro L r h _;exact h
     | cons k ks ih =>
      intro L r h hp
      rcases zYU (ih h hp) with rfl | ⟨m,_,hm⟩
      ·cases hp
      grind
    exact h.has r (this h2 hp) p hp
  ·exact ho.has r (Qk.2 (.inr h1)) p hp
 ·have h1:∀ {js:List Nat} {L:List zH},(bl L).Nodup->(bl (xG js L)).Nodup:=by
   intro js
   induction js with
   | nil=>intro L h;exact h
   | cons k ks ih=>intro L h;exact ih (zRz h (by simp) (by simp))
  exact h1 h.nodup
 ·subst exy
  exact ho.apart x hx (Qk.2 (.inl hy))
 ·rcases Qk.1 (hperm.mem_iff.1 hb) with h1 | h1
  ·exact fun hA=>ho.apart b h1 (Qk.2 (.inr hA))
  ·exact h.apart b (zJo h1)
theorem zZ.fills{js:List Nat}{rs new:List zH}(hn:js.Nodup)(hl:∀ j∈js,j<Ls.length)(hlen:rs.length=js.length)(e:zZ qd (uT Ls js) w (rs++new) w'):
  zZ qd Ls w (zR9 js rs Ls++new) w':=by
 refine⟨e.os,e.tape,e.output,e.drawn,e.size,fun k hk hnb=>e.keep k hk (fun hm=>hnb (zLr hm)),fun b hb=>?_⟩
 rw[zBp] at hb
 rcases Qk.1 hb with h1 | h1
 ·rcases Qk.1 ((zOw hn hl hlen).mem_iff.1 h1) with h2 | h2
  ·exact(e.fresh b (by grind [zBp])).imp zLr id
  grind [zJo]
 ·exact(e.fresh b (by grind [zBp])).imp zLr id
theorem vT.fills{js:List Nat}{rs new:List zH}(hn:js.Nodup)(hl:∀ j∈js,j<Ls.length)(hlen:rs.length=js.length)(A:List Nat)(w:World):
  vT (bl (rs++new)++(bl (xG js Ls)++A)) w (bl (zR9 js rs Ls++new)++A) w:=vT.less w fun b hb=>by
 grind [zBp,zOw]
theorem qF.news (h:qF A w Ls){new:List zH}(ho:qF (bl Ls++A) w' new)(e:zZ qd [] w new w'): qF A w' (Ls++new):=by
 have:=h.fills (js:=[]) (rs:=[]) (new:=new) (by simp) (by simp) rfl (by simpa [xG] using ho) (by simpa [uT] using e)
 grind [zR9]
theorem zZ.news{new:List zH}(Ls:List zH)(e:zZ qd [] w new w'): zZ qd Ls w (Ls++new) w' :=
 ⟨e.os,e.tape,e.output,e.drawn,e.size,fun k hk _=>e.keep k hk (by simp[bl]),fun b hb=>by
  rw[zBp] at hb
  rcases Qk.1 hb with h1 | h1
  ·grind
  ·exact(e.fresh b h1).imp (fun h=>by simp[bl] at h) id⟩
end
structure tW{τ σ:Type}(e:E τ)(f:E σ) where
 off:Nat
 get:τ->σ
 put:τ->σ->τ
 le:off+f.n≤e.n
 rdg:∀ {Z w cs x},e.rd Z w cs x->f.rd Z w ((cs.drop off).take f.n) (get x)
 rdp:∀ {Z w cs x ds y},e.rd Z w cs x->f.rd Z w ds y->e.rd Z w (cs.take off++ds++cs.drop (off+f.n)) (put x y)
def tW.id{τ:Type}(e:E τ): tW e e :=
 ⟨0,fun x=>x,fun _ y=>y,by simp,fun h=>by rw[Ug,QX (by rw[e.len h];grind)];exact h,
  fun h k=>by rw[List.take_zero,QA,Ud,Q8 (by rw[e.len h];grind),QJ];exact k⟩
theorem zMC{α β:Type}{f:E α}{g:E β}{Z:List Nat}{w:World}{cs:List Value}{x:α×β}(h:(qM f g).rd Z w cs x):
  f.rd Z w (cs.take f.n) x.1∧g.rd Z w (cs.drop f.n) x.2:=by
 obtain⟨c1,c2,rfl,h1,h2⟩:=h
 have:=f.len h1
 grind
def tW.fst{τ α β:Type}{e:E τ}{f:E α}{g:E β}(s:tW e (qM f g)): tW e f :=
 ⟨s.off,fun x=>(s.get x).1,fun x y=>s.put x (y,(s.get x).2),by have:=s.le;simp only[qM] at this;omega,
  fun {Z w cs x} h=>by
  have h1:=(zMC (s.rdg h)).1
  rw[UP,Un (by grind [qM])] at h1
  exact h1,
  fun {Z w cs x ds y} h k=>by
  have h2:=(zMC (s.rdg h)).2
  have h3:=s.rdp h (show(qM f g).rd Z w _ (y,(s.get x).2) from⟨ds,_,rfl,k,h2⟩)
  have he:cs.take s.off++(ds++((cs.drop s.off).take (qM f g).n).drop f.n)++cs.drop (s.off+(qM f g).n)=cs.take s.off++ds++cs.drop (s.off+f.n):=by
   rw[←Qo,Qo]
   congr 1
   rw[Uf,Us]
   have:cs.drop (s.off+(qM f g).n)=(cs.drop (s.off+f.n)).drop ((qM f g).n-f.n):=by
    rw[Us];congr 1;simp only[qM];omega
   rw[this,QC]
  grind⟩
def tW.snd{τ α β:Type}{e:E τ}{f:E α}{g:E β}(s:tW e (qM f g)): tW e g :=
 ⟨s.off+f.n,fun x=>(s.get x).2,fun x y=>s.put x ((s.get x).1,y),by have:=s.le;simp only[qM] at this;omega,
  fun {Z w cs x} h=>by
  have h1:=(zMC (s.rdg h)).2
  rw[Uf,Us] at h1
  have:(qM f g).n-f.n=g.n:=by simp only[qM];omega
  grind,
  fun {Z w cs x ds y} h k=>by
  have h2:=(zMC (s.rdg h)).1
  have h3:=s.rdp h (show(qM f g).rd Z w _ ((s.get x).1,y) from⟨_,ds,rfl,h2,k⟩)
  have he:cs.take s.off++(((cs.drop s.off).take (qM f g).n).take f.n++ds)++cs.drop (s.off+(qM f g).n)=cs.take (s.off+f.n)++ds++cs.drop (s.off+f.n+g.n):=by
   rw[UP,Un (by grind [qM]),←Qo,←List.take_add]
   congr 2
   simp only[qM];omega
  grind⟩
section
variable {τ:Type}(e:E τ){Z:List Nat}{w:World}
theorem E.rdL_at:∀ {l:List τ} {cs:List Value} {k:Nat} {x:τ},e.rdL Z w cs l->l[k]?=some x->e.rd Z w ((cs.drop (k*e.n)).take e.n) x
 | [],cs,k,x,h,hx=>by simp at hx
 | y::l,cs,0,x,h,hx=>by
  obtain⟨c1,c2,rfl,h1,h2⟩:=h
  simp only[Ub,Qg] at hx
  subst hx
  rw[Nat.zero_mul,Ug,←e.len h1,UO];exact h1
 | y::l,cs,k+1,x,h,hx=>by
  obtain⟨c1,c2,rfl,h1,h2⟩:=h
  simp only[Q6] at hx
  have:=E.rdL_at h2 hx
  have hl:=e.len h1
  rw[show(k+1)*e.n=c1.length+k*e.n by grind,U9,Q8 (by omega),QA,QZ]
  exact this
theorem E.rdL_set:∀ {l:List τ} {cs:List Value} {k:Nat} {x y:τ} {ds:List Value} {off:Nat},e.rdL Z w cs l->l[k]?=some x->off+ds.length≤e.n->
  (∀ ci,e.rd Z w ci x->e.rd Z w (ci.take off++ds++ci.drop (off+ds.length)) y)->e.rdL Z w (cs.take (k*e.n+off)++ds++cs.drop (k*e.n+off+ds.length)) (l.set k y)
 | [],cs,k,x,y,ds,off,h,hx,_,_=>by simp at hx
 | z::l,cs,0,x,y,ds,off,h,hx,hle,hp=>by
  obtain⟨c1,c2,rfl,h1,h2⟩:=h
  simp only[Ub,Qg] at hx
  subst hx
  have hl:=e.len h1
  refine⟨_,c2,?_,hp c1 h1,h2⟩
  grind
 | z::l,cs,k+1,x,y,ds,off,h,hx,hle,hp=>by
  obtain⟨c1,c2,rfl,h1,h2⟩:=h
  simp only[Q6] at hx
  have ih:=E.rdL_set h2 hx hle hp
  have hl:=e.len h1
  refine⟨c1,_,?_,h1,ih⟩
  rw[show(k+1)*e.n+off=c1.length+(k*e.n+off) by grind]
  rw[U8,QX (by omega),QZ,Wa c1.length,U9,Q8 (by omega),QZ]
  simp
end
theorem zMM{α:Type}{l:List α}{i:Int}{u:α}(h:zD l i=some u): 0≤i∧l[i.toNat]?=some u∧i<(l.length:Int):=by grind [zD]
section
variable {P:Program}{ops:Array Oper}{Q:Exit->Act->World->Prop}{a:Act}{n:Nat}{S:List (Nat×Value)}{w:World}{K:Act->World->Prop}
variable {A:List Nat}{Ls:List zH}{d:Nat}{ty:TypeId}{pos:String}{af:Array Edge}{g:Option (Nat×Bool)}
variable {τ σ:Type}{e:E τ}{f:E σ}{te:TypeId}{Z:List Nat}{r:zH}{p:Option Addr}{c:Nat}{l:List τ}{ix:Int}{u:τ}{t:TypeId}{x y:Operand}{kd:IntKind}
theorem yJ.at (hA:yJ e te Z w r p c l)(hm:zD l ix=some u): ∃ b o cells,r=[(b,.cells cells te (0,0))]∧p=some ⟨b,o,none⟩∧l.length≤c∧c≤maxLen∧o+c*e.n≤cells.size∧e.rdL Z w ((cells.toList.drop o).take (l.length*e.n)) l:=by
 rcases hA with⟨_,_,_,rfl⟩ | h
 ·have:=(zMM hm).2.1;grind
 ·exact h
theorem zRf (hS:qO a n S)(hA:yJ e te Z w r p c l)(hx:zP S x=some (.slice p l.length c))(hy:zP S y=some (.int kd ix))(ht:uI P t=some e.n)(hm:zD l ix=some u){d:Option Tmp}:
  ∃ b o,p=some ⟨b,o,none⟩∧∀ w',(execOp a.eval ⟨d,.indexAddr t x y,ty,pos,af,g⟩).run P w'=.ok (.value (.pointer (some ⟨b,o+ix.toNat*e.n,none⟩))) w':=by
 obtain⟨b,o,cells,rfl,rfl,_⟩:=hA.at hm
 obtain⟨h0,h1,h2⟩:=zMM hm
 refine⟨b,o,rfl,fun w'=>?_⟩
 simp[execOp,hS.eval hx,hS.eval hy,zK0 (m:=l.length) ht h0 h2]
theorem zXA (hS:qO a n S)(hd:Nat.blt d n=true)(hg:qC ops S g=some true)(hA:yJ e te Z w r p c l)(hx:zP S x=some (.slice p l.length c))(hy:zP S y=some (.int kd ix))(ht:uI P t=some e.n)(hm:zD l ix=some u)
  (k:∀ b o,p=some ⟨b,o,none⟩->∀ a',qO a' n ((d,.pointer (some ⟨b,o+ix.toNat*e.n,none⟩))::S)->K a' w):vC P ops Q ⟨some d,.indexAddr t x y,ty,pos,af,g⟩ K a w:=by
 obtain⟨b,o,hp,hrun⟩:=zRf (P:=P) (ty:=ty) (pos:=pos) (af:=af) (g:=g) (d:=some d) hS hA hx hy ht hm
 exact zF2 hS hd hg (hrun w) (k b o hp)
theorem zW7 (s:tW e f){b o:Nat}(hO:qF A w Ls){i:Nat}(hr:Ls[i]?=some r)(hA:yJ e te (bl Ls++A) w r p c l)(hp:p=some ⟨b,o,none⟩)(hm:zD l ix=some u):
  ∃ ci,f.rd (bl Ls++A) w ci (s.get u)∧∀ w':World,w'.heap[b]?=w.heap[b]?->∀ j v,ci[j]?=some v->w'.cell? ⟨b,o+ix.toNat*e.n+s.off+j,none⟩=some v:=by
 obtain⟨b',o',cells,rfl,hp',h3,_,h5,h6⟩:=hA.at hm
 rw[hp] at hp'
 cases hp'
 obtain⟨h0,h1,h2⟩:=zMM hm
 have hb:=tJ hO hr (Qf.2 rfl)
 refine⟨_,s.rdg (e.rdL_at h6 h1),fun w' hw j v hv=>?_⟩
 rw[cell_of_row w' b _ cells te (0,0) (hw.trans hb)]
 grind
theorem z5c{ag:Bool}{ci:List Value}{k:Nat}(hl:ci.length=k)(hag:ag=true∨k=1): ∃ v,tX ag ci=some v:=by
 rcases hag with rfl | hn
 ·exact⟨_,rfl⟩
 ·cases ag with
  | true=>exact⟨_,rfl⟩
  | false=>match ci,hl.trans hn with | [u],_=>exact⟨u,rfl⟩
theorem zY5 (i:Nat)(s:tW e f){b o:Nat}(ag:Bool)(hS:qO a n S)(hd:Nat.blt d n=true)(hg:qC ops S g=some true)(hO:qF A w Ls)(hr:Ls[i]?=some r)(hA:yJ e te (bl Ls++A) w r p c l)
  (hp:p=some ⟨b,o,none⟩) (hm:zD l ix=some u) (hx:zP S x=some (.pointer (some ⟨b,o+ix.toNat*e.n+s.off,none⟩))) (ht:uB P t=some (ag,f.n))
  (k:∀ ci,f.rd (bl Ls++A) w ci (s.get u)->∀ v,tX ag ci=some v->∀ a',qO a' n ((d,v)::S)->K a' w) (hag:ag=true∨f.n=1):vC P ops Q ⟨some d,.load t x,ty,pos,af,g⟩ K a w:=by
 obtain⟨ci,h1,h2⟩:=zW7 s hO hr hA hp hm
 obtain⟨v,hv⟩:=z5c (f.len h1) hag
 refine zF2 hS hd hg (v:=v) (w':=w) ?_ (k ci h1 v hv)
 simp[execOp,hS.eval hx,Instr.loadAt,Instr.sureAddr,zDN (cs:=ci) (by rw[f.len h1];exact ht) (h2 w rfl) hv]
theorem zZ9{c:List Value}(o m k:Nat)(v:List Value)(h:o+m+k≤c.length): (c.take (o+m+k)++v++c.drop (o+m+k+v.length)).drop o=(c.drop o).take (m+k)++v++(c.drop o).drop (m+k+v.length):=by
 rw[Qo,Up (by grind),Uf,Wa o,QZ,Us,←Qo,Wa o]
theorem z4K (c:List Value)(o m:Nat)(v:List Value)(h:o+v.length≤m): (c.take o++v++c.drop (o+v.length)).take m=if o≤c.length then(c.take m).take o++v++(c.take m).drop (o+v.length) else(c.take o++v++c.drop (o+v.length)).take m:=by
 split
 ·rename_i hle
  rw[Qo,U8,U8,UP,UP,Nat.min_eq_right (by omega),Un (by omega),Uo,Un hle,
   QX (l:=v) (by omega),←Qo,Uf]
  grind
 ·rfl
theorem zWv (i:Nat)(s:tW e f){b o:Nat}{v:Value}{z:σ}(ag:Bool)(hS:qO a n S)(hg:qC ops S g=some true)(hO:qF A w Ls)(hr:Ls[i]?=some r)(hA:yJ e te (bl Ls++A) w r p c l)
  (hp:p=some ⟨b,o,none⟩) (hm:zD l ix=some u) (hx:zP S x=some (.pointer (some ⟨b,o+ix.toNat*e.n+s.off,none⟩))) (hy:zP S y=some v) (ht:uB P t=some (ag,f.n)) (hv:f.rd (bl Ls++A) w v.cells.toList z)
  (k:∀ r' w',qF A w' (Ls.set i r')->zZ qd Ls w (Ls.set i r') w'->yJ e te (bl (Ls.set i r')++A) w' r' p c (l.set ix.toNat (s.put u z))->∀ a',qO a' n S->K a' w') :
  vC P ops Q ⟨none,.store t x y,ty,pos,af,g⟩ K a w:=by
 obtain⟨b',o',cells,rfl,hp',h3,h4,h5,h6⟩:=hA.at hm
 rw[hp] at hp'
 cases hp'
 obtain⟨h0,h1,h2⟩:=zMM hm
 have hb:=tJ hO hr (Qf.2 rfl)
 have hlen:=f.len hv
 have hsle:=s.le
 have hlt:ix.toNat+1≤l.length:=(Qj.1 h1).1
 have hmul:ix.toNat*e.n+e.n≤l.length*e.n:=by
  have:=QS e.n hlt
  rw[Q0,UM] at this;exact this
 have hmul2:o+l.length*e.n≤cells.size:=Qy (Nat.add_le_add_left (QS _ h3) _) h5
 have hst:zKe P t cells (o+ix.toNat*e.n+s.off) v=true:=by
  unfold zKe
  simp only[ht,Qb,QH,QK]
  exact⟨⟨by grind,Nat.ble_eq_true_of_le (by omega)⟩,f.one hv⟩
 have hother:∀ k,k<w.heap.size->k∉[(b,Obj.cells cells te (0,0))].map Prod.fst->(w.setRow b (zZc cells (o+ix.toNat*e.n+s.off) v.cells.toList)).heap[k]?=w.heap[k]? :=
  fun k _ hk=>setRow_other w b k _ (fun e=>hk (by simp[e]))
 have hE:zZ qd Ls w (Ls.set i [(b,.cells (zZc cells (o+ix.toNat*e.n+s.off) v.cells.toList) te (0,0))]) (w.setRow b (zZc cells (o+ix.toNat*e.n+s.off) v.cells.toList)) :=
  zZ.set hr rfl rfl rfl (by simp) hother (fun q hq=>.inl (by grind))
 refine zUy hS hg (w':=w.setRow b (zZc cells (o+ix.toNat*e.n+s.off) v.cells.toList)) (by simp[execOp,hS.eval hx,hS.eval hy,Instr.storeAt,Instr.sureAddr,zOo hb hst])
  (k [(b,.cells (zZc cells (o+ix.toNat*e.n+s.off) v.cells.toList) te (0,0))] _ ?_ hE (.inr ⟨b,o,_,rfl,hp,by grind,h4,?_,?_⟩))
 ·exact hO.set hr (by simp) hother (fun q hq=>by simp only[Qf] at hq;subst hq;exact setRow_heap w b cells _ te (0,0) hb) (by simp) (fun q hq=>.inl (by grind))
 ·grind [zZc]
 ·have:=e.rdL_set (e.rdL_step (hE.step A) h6) h1 (by grind) (ds:=v.cells.toList) (off:=s.off) (y:=s.put u z) (fun ci hci=>by rw[hlen];exact s.rdp hci (f.step (hE.step A) hv))
  rw[Uy]
  show e.rdL _ _ (List.take _ (List.drop o (cells.toList.take (o+ix.toNat*e.n+s.off)++v.cells.toList++cells.toList.drop (o+ix.toNat*e.n+s.off+v.cells.toList.length)))) _
  rw[zZ9 o (ix.toNat*e.n) s.off v.cells.toList (by grind),z4K _ _ _ _ (by omega),Qm (by simp;omega)]
  exact this
variable {listed:Array Bool}{fuel:Nat}{B J:List Nat}
theorem zX7 (i:Nat)(hO:qF A w Ls)(hS:qO a n S)(hi:ops[i]?=some ⟨some d,.indexAddr t x y,ty,pos,af,g⟩)(hk:yQ ops B listed i=true)(hd:Nat.blt d n=true)(hQ:∀ c (v:Value) a w,Q (.panic c) (a.put (some d) v) w->Q (.panic c) a w)
  (hg:qC ops S g=some true) (hA:yJ e te Z w r p c l) (hx:zP S x=some (.slice p l.length c)) (hy:zP S y=some (.int kd ix)) (ht:uI P t=some e.n) (hm:zD l ix=some u)
  (k:∀ b o,p=some ⟨b,o,none⟩->∀ a',qO a' n ((d,.pointer (some ⟨b,o+ix.toNat*e.n,none⟩))::S)->wL P ops Q (SB B (CC qd A Ls w J)) fuel (listed.setIfInBounds i true) a' w):wL P ops Q (SB B (CC qd A Ls w J)) (fuel+1) listed a w:=by
 obtain⟨b,o,hp,hrun⟩:=zRf (P:=P) (ty:=ty) (pos:=pos) (af:=af) (g:=g) (d:=some d) hS hA hx hy ht hm
 exact z3p i hO hS hi hk hd (fun c=>hQ c _) hg hrun (k b o hp)
theorem z0J (i ri:Nat)(s:tW e f){b o:Nat}(ag:Bool)(hO:qF A w Ls)(hS:qO a n S)(hi:ops[i]?=some ⟨some d,.load t x,ty,pos,af,g⟩)(hk:yQ ops B listed i=true)(hd:Nat.blt d n=true)(hQ:∀ c (v:Value) a w,Q (.panic c) (a.put (some d) v) w->Q (.panic c) a w)
  (hg:qC ops S g=some true) (hb:B.all (fun j=>behind ops i ops.size j)=true) (hJ:J.contains ri=true) (hr:Ls[ri]?=some r) (hA:yJ e te (bl Ls++A) w r p c l)
  (hp:p=some ⟨b,o,none⟩) (hm:zD l ix=some u) (hx:zP S x=some (.pointer (some ⟨b,o+ix.toNat*e.n+s.off,none⟩))) (ht:uB P t=some (ag,f.n))
  (k:∀ ci,f.rd (bl Ls++A) w ci (s.get u)->∀ v,tX ag ci=some v->∀ a',qO a' n ((d,v)::S)->wL P ops Q (SB B (CC qd A Ls w J)) fuel (listed.setIfInBounds i true) a' w) (hag:ag=true∨f.n=1) :
  wL P ops Q (SB B (CC qd A Ls w J)) (fuel+1) listed a w:=by
 obtain⟨ci,h1,h2⟩:=zW7 s hO hr hA hp hm
 obtain⟨b',o',cells,hrr,hp',_⟩:=hA.at hm
 rw[hp] at hp'
 cases hp'
 subst hrr
 obtain⟨v,hv⟩:=z5c (f.len h1) hag
 refine zSA hO hS hi hk hd (fun c=>hQ c _) (.inl ⟨zEH (o:=⟨some d,.load t x,ty,pos,af,g⟩) hS hg,fun l' w' hc hun hSw=>?_⟩) (k ci h1 v hv)
 obtain⟨Ls',hO',_,hJ'⟩:=hSw (zUb hb hc hun)
 have hr':=hr
 rw[←z3T hJ' hJ] at hr'
 have hh:w'.heap[b]?=w.heap[b]?:=(tJ hO' hr' (Qf.2 rfl)).trans (tJ hO hr (Qf.2 rfl)).symm
 simp[execOp,hS.eval hx,Instr.loadAt,Instr.sureAddr,zDN (cs:=ci) (by rw[f.len h1];exact ht) (h2 w' hh) hv]
end
def zZe (js:List Nat)(n:Nat): Bool:=match js with
 | []=>true
 | j::r=>Nat.blt j n&&!r.contains j&&zZe r n
theorem zL5:∀ {js:List Nat} {n:Nat},zZe js n=true->js.Nodup∧∀ j∈js,j<n
 | [],_,_=>by simp
 | j::r,n,h=>by
  simp only[zZe,Qb,Nat.blt_eq,Bool.not_eq_true'] at h
  obtain⟨⟨h1,h2⟩,h3⟩:=h
  obtain⟨k1,k2⟩:=zL5 h3
  grind
section
variable {A:List Nat}{w w':World}{Ls:List zH}
theorem vT.news{new:List zH}(Ls:List zH)(A:List Nat)(w:World): vT (bl new++(bl Ls++A)) w (bl (Ls++new)++A) w:=vT.less w fun b hb=>by
 grind [zBp]
theorem vT.sub (Ls:List zH)(A:List Nat)(w:World): vT (bl Ls++A) w (bl []++(bl Ls++A)) w:=vT.less w fun _ h=>h
end
section
variable {P:Program}{a:Act}{n:Nat}{S:List (Nat×Value)}{ty:TypeId}{pos:String}{af:Array Edge}{g:Option (Nat×Bool)}
end
end Go.GD
