/- A part. Conditions: none. -/
import Derived.Test.YtmpieaddiaihmaaGreatDoorOps
import Derived.OrdersHeld
namespace Go.GD
open Go Go.RowKit
set_option autoImplicit false
variable {qd:Prop}
section
variable {P:Program}{ops:Array Oper}{Q:Exit->Act->World->Prop}
def z8W (ops:Array Oper)(listed:Array Bool): Bool :=
 (List.range ops.size).all fun j=>!listed.getD j false||match ops[j]? with
  | some oj=>oj.after.all fun e=>!Region.binds .any e||listed.getD e.on false
  | none=>true
structure zUW (ops:Array Oper)(listed:Array Bool): Prop where
 size:listed.size=ops.size
 deps:∀ j oj,ops[j]?=some oj->listed.getD j false=true->∀ e∈oj.after,Region.binds .any e=true->listed.getD e.on false=true
theorem z8K{listed:Array Bool}(hs:listed.size=ops.size)(h:z8W ops listed=true): zUW ops listed:=by
 refine⟨hs,fun j oj hj hl e he hb=>?_⟩
 have hlt:j<ops.size:=(Qq.1 hj).1
 have h1:=Uf.1 h j (U1.2 hlt)
 simp only[hl,QV,U6,hj] at h1
 grind [Array.all_eq_true']
theorem zUW.set{listed:Array Bool}{i:Nat}(h:zUW ops listed)(hr:i∈Region.ready .any ops listed): zUW ops (listed.setIfInBounds i true):=by
 obtain⟨_,oi,hoi,hall⟩:=mem_ready.1 hr
 refine⟨by simp[h.size],fun j oj hj hl e he hb=>?_⟩
 by_cases hij:i=j
 ·grind [getD_set_true]
 ·rw[getD_set_ne false hij] at hl
  exact getD_set_true (h.deps j oj hj hl e he hb)
def behind (ops:Array Oper)(i:Nat): Nat->Nat->Bool
 | 0,_=>false
 | f+1,j=>match ops[j]? with
  | some oj=>oj.after.any fun e=>Region.binds .any e&&(e.on==i||behind ops i f e.on)
  | none=>false
theorem zTm{listed:Array Bool}(hc:zUW ops listed){i:Nat}: ∀(f j:Nat),behind ops i f j=true->listed.getD j false=true->listed.getD i false=true
 | 0,j,h,_=>by simp[behind] at h
 | f+1,j,h,hl=>by
  simp only[behind] at h
  split at h
  ·rename_i oj hj
   obtain⟨e,he,hb⟩:=Array.any_eq_true'.1 h
   simp only[Qw,Ue,Q9] at hb
   have h1:=hc.deps j oj hj hl e he hb.1
   rcases hb.2 with h2 | h2
   ·grind
   ·exact zTm hc f e.on h2 h1
  ·cases h
variable {S:Array Bool->World->Prop}
def qV (P:Program)(ops:Array Oper)(Q:Exit->Act->World->Prop)(S:Array Bool->World->Prop): Nat->Array Bool->Act->World->Prop
 | 0,listed,a,w=>Region.ready .any ops listed=[]∧Q .normal a w
 | fuel+1,listed,a,w =>
  (Region.ready .any ops listed=[]->Q .normal a w) ∧
  ∀ i∈Region.ready .any ops listed,wpOp P ops Q i (fun a' w'=>S (listed.setIfInBounds i true) w'∧qV P ops Q S fuel (listed.setIfInBounds i true) a' w') a w
theorem zZa:∀(fuel:Nat) (listed:Array Bool) (a:Act) (w:World),qV P ops Q S fuel listed a w->wpAny P .any ops Q fuel listed a w
 | 0,_,_,_,h=>h
 | fuel+1,_,_,_,h=>⟨h.1,fun i hi=>wpOp_mono (fun a' w' h'=>zZa fuel _ a' w' h'.2) (h.2 i hi)⟩
theorem zXD{S':Array Bool->World->Prop}: ∀(fuel:Nat) (listed:Array Bool) (a:Act) (w:World),
  (∀ l w,(∀ k,listed.getD k false=true->l.getD k false=true)->S' l w->S l w)->qV P ops Q S' fuel listed a w->qV P ops Q S fuel listed a w
 | 0,_,_,_,_,h=>h
 | fuel+1,_,_,_,hs,h=>⟨h.1,fun i hi=>wpOp_mono (fun a' w' h'=>⟨hs _ _ (fun _ hk=>getD_set_true hk) h'.1,
   zXD fuel _ a' w' (fun l w hl=>hs l w fun k hk=>hl k (getD_set_true hk)) h'.2⟩) (h.2 i hi)⟩
def zLJ (P:Program)(ops:Array Oper)(S:Array Bool->World->Prop)(i:Nat)(o:Oper)(v:Value)(a:Act): Prop :=
 (Region.wanted o (yielded ops a.tmps)=true∧∀ listed w,zUW ops listed->listed.getD i true=false->S listed w->(execOp a.eval o).run P w=.ok (.value v) w) ∨
 (Region.wanted o (yielded ops a.tmps)=false∧v=undef)
theorem zLJ.wpOp{i:Nat}{o:Oper}{v:Value}{a:Act}(hi:ops[i]?=some o)(hy:zLJ P ops S i o v a){listed:Array Bool}(hc:zUW ops listed)(hun:listed.getD i true=false)
  {K:Act->World->Prop} {w:World} (hS:S listed w) (h:K (a.put o.dst v) w):wpOp P ops Q i K a w:=by
 unfold Go.wpOp
 simp only[hi]
 rcases hy with⟨hw,hv⟩ | ⟨hw,rfl⟩
 ·simp only[hw,Qe,Oper.wp,hv listed w hc hun hS,Oper.upon];grind
 grind
theorem zLJ.of_same{i:Nat}{o:Oper}{v:Value}{a a':Act}(hy:zLJ P ops S i o v a)(he:execOp a'.eval o=execOp a.eval o)
  (hw:Region.wanted o (yielded ops a'.tmps)=Region.wanted o (yielded ops a.tmps)):zLJ P ops S i o v a':=by grind [zLJ]
theorem z7V{i j:Nat}{oi oj:Oper}{v:Value}(hj:ops[j]?=some oj)(hap:oi.apart ops oj=true)
  (hsi:∀ cs b,oi.op≠.select cs b) (hsj:∀ cs b,oj.op≠.select cs b)
  (hQ:∀ c a w,Q (.panic c) (a.put oi.dst v) w->Q (.panic c) a w) {K:Act->World->Prop} {a:Act} {w:World}
  (hy:zLJ P ops S i oi v a) (h:wpOp P ops Q j K (a.put oi.dst v) w) :
  wpOp P ops Q j (fun a' w'=>zLJ P ops S i oi v a'∧K (a'.put oi.dst v) w') a w:=by
 obtain⟨h1,h2,h3⟩:=Oper.apart_spec hap
 have keep:∀(a:Act),zLJ P ops S i oi v a->∀ u,zLJ P ops S i oi v (a.put oj.dst u):=fun a hy u =>
  hy.of_same (execOp_put oi hsi a oj.dst u h3) (wanted_put oi a oj.dst u h3)
 have keepD:∀ d,zLJ P ops S i oi v { a with defers:=d::a.defers }:=fun d=>hy.of_same rfl rfl
 unfold wpOp at *
 simp only[hj] at *
 rw[wanted_put oj a oi.dst v h1] at h
 split
 ·rename_i hw
  simp only[hw,Qe] at h
  rcases h with h | ⟨hasks,hlets⟩
  case inr=>exact .inr ⟨by unfold Oper.asks at *;rw[execOp_put oj hsj a oi.dst v h1] at hasks;exact hasks,hlets⟩
  refine .inl ?_
  unfold Oper.wp at *
  rw[execOp_put oj hsj a oi.dst v h1] at h
  generalize (execOp a.eval oj).run P w=r at *
  cases r with
  | ok n w' =>
   cases n <;> simp only[Oper.upon] at h ⊢
   case value u=>grind [Act.put_comm]
   case skip=>grind [Act.put_comm]
   case defer d =>
    grind [Act.put_comm,Act.put_defers]
   case enter f args =>
    refine Calls.mono h fun e w'' he=>?_
    grind [Act.put_comm]
   grind [Act.put_comm]
  | halt x w' =>
   cases x <;> simp only[Oper.upon] at h ⊢
   grind
 grind [Act.put_comm]
theorem z6v{i:Nat}{oi:Oper}{v:Value}(hi:ops[i]?=some oi)(hsel:∀(j:Nat) (o:Oper) cs b,ops[j]?=some o->o.op≠.select cs b)
  (hQ:∀ c a w,Q (.panic c) (a.put oi.dst v) w->Q (.panic c) a w) (hSi:∀ l w,S (l.setIfInBounds i true) w↔S l w) :
  ∀(fuel:Nat) (listed:Array Bool) (a:Act) (w:World),
   (∀ j oj,ops[j]?=some oj->j≠i->listed.getD j true=false->(∀ e∈oj.after,Region.binds .any e=true->e.on≠i)->oi.apart ops oj=true)->
   zUW ops listed->i∈Region.ready .any ops listed->zLJ P ops S i oi v a->S listed w->
   qV P ops Q S fuel (listed.setIfInBounds i true) (a.put oi.dst v) w->qV P ops Q S (fuel+1) listed a w:=by
 intro fuel
 induction fuel with
 | zero =>
  intro listed a w _ hc hr hy hS H
  have hun:=(mem_ready.1 hr).1
  refine⟨fun h=>(by grind),fun j hj=>?_⟩
  by_cases hji:j=i
  ·subst hji;exact hy.wpOp hi hc hun hS ⟨(hSi _ _).2 hS,H⟩
  ·have:=ready_mono hj hji
   grind [qV]
 | succ fuel ih =>
  intro listed a w hfree hc hr hy hS H
  have hun:=(mem_ready.1 hr).1
  refine⟨fun h=>(by grind),fun j hj=>?_⟩
  by_cases hji:j=i
  ·subst hji;exact hy.wpOp hi hc hun hS ⟨(hSi _ _).2 hS,H⟩
  ·have h1:=H.2 j (ready_mono hj hji)
   obtain⟨hjun,oj,hoj,hall⟩:=mem_ready.1 hj
   have hnot:∀ e∈oj.after,Region.binds .any e=true->e.on≠i:=fun e he hb heq=>by
    have h1:=hall e he hb
    grind
   have h2:=z7V hoj (hfree j oj hoj hji hjun hnot) (fun cs b=>hsel i oi cs b hi) (fun cs b=>hsel j oj cs b hoj) hQ hy h1
   have hfree':∀ k ok,ops[k]?=some ok->k≠i->(listed.setIfInBounds j true).getD k true=false->
     (∀ e∈ok.after,Region.binds .any e=true->e.on≠i)->oi.apart ops ok=true:=fun k ok hk hki hun hno=>by
    refine hfree k ok hk hki ?_ hno
    by_cases hjk:j=k
    ·grind
    ·rw[getD_set_ne true hjk] at hun;exact hun
   have hcomm:(listed.setIfInBounds i true).setIfInBounds j true=(listed.setIfInBounds j true).setIfInBounds i true:=Array.setIfInBounds_comm _ _ (Ne.symm hji)
   refine wpOp_mono (fun a' w' h3=>?_) h2
   have hSj:S (listed.setIfInBounds j true) w':=(hSi _ _).1 (hcomm▸h3.2.1)
   exact⟨hSj,ih (listed.setIfInBounds j true) a' w' hfree' (hc.set hj) (ready_mono hr (Ne.symm hji)) h3.1 hSj (hcomm▸h3.2.2)⟩
def SB (B:List Nat)(C:World->Prop)(listed:Array Bool)(w:World): Prop:=B.all (fun j=>!listed.getD j false)=true->C w
def CC (qd:Prop)(A:List Nat)(Ls:List zJ)(w0:World)(J:List Nat): World->Prop:=fun w=>∃ Ls',zZ A w Ls'∧zU qd Ls w0 Ls' w∧J.map (Ls'[·]?)=J.map (Ls[·]?)
theorem CC.here{A:List Nat}{Ls:List zJ}{w:World}(hO:zZ A w Ls)(J:List Nat): CC qd A Ls w J w:=⟨Ls,hO,zU.refl _ _,rfl⟩
theorem z7U{B:List Nat}{C:World->Prop}{i:Nat}(hi:B.contains i=false)(l:Array Bool)(w:World): SB B C (l.setIfInBounds i true) w↔SB B C l w:=by
 have:B.all (fun j=>!(l.setIfInBounds i true).getD j false)=B.all (fun j=>!l.getD j false):=by
  rw[QU,Uf,Uf]
  refine⟨fun h j hj=>?_,fun h j hj=>?_⟩
  ·have hne:i≠j:=fun e=>by grind
   have:=h j hj;simp_all
  ·have hne:i≠j:=fun e=>by grind
   simp_all
 grind [SB]
def vF (ops:Array Oper)(B:List Nat)(listed:Array Bool)(i:Nat): Bool :=
 Region.noSelect ops&&Region.free .any ops listed i&&(Region.ready .any ops listed).contains i&&z8W ops listed&&listed.size==ops.size&&!B.contains i
variable {a:Act}{n:Nat}{St:List (Nat×Value)}{w:World}{A:List Nat}{Ls:List zJ}{B J:List Nat}{listed:Array Bool}{fuel:Nat}
theorem z7E{id:Nat}{l:List Oper}(hm:P.follows .mixedOrders=true)(B J:List Nat)(hO:zZ A w Ls)
  (h:∀ w',zZ A w' Ls->zU qd Ls w Ls w'->qV P l.toArray Q (SB B (CC qd A Ls w' J)) l.length (Array.replicate l.length false) a w'):(Code.region id l.toArray true).wp P Q a w:=by
 refine wp_region_any hm (zZa (S:=SB B (CC qd A Ls { w with drawn:=w.drawn+1 } J)) _ _ _ _ ?_)
 have hh:=h { w with drawn:=w.drawn+1 } ⟨hO.old,hO.has,hO.nodup,hO.apart⟩ ⟨rfl,rfl,rfl,fun _=>UR _,Qs _,fun _ _ _=>rfl,fun _ hb=>.inl hb⟩
 grind
theorem d_end (hr:Region.ready .any ops listed=[])(h:Q .normal a w): ∀ fuel,qV P ops Q (SB B (CC qd A Ls w J)) fuel listed a w
 | 0=>⟨hr,h⟩
 | _+1=>⟨fun _=>h,by grind⟩
theorem zXl{i d:Nat}{op:Op}{ty:TypeId}{pos:String}{af:Array Edge}{g:Option (Nat×Bool)}{v:Value}(hO:zZ A w Ls)(hS:qF a n St)
  (hi:ops[i]?=some ⟨some d,op,ty,pos,af,g⟩) (hk:vF ops B listed i=true) (hd:Nat.blt d n=true) (hQ:∀ c a w,Q (.panic c) (a.put (some d) v) w->Q (.panic c) a w)
  (hy:zLJ P ops (SB B (CC qd A Ls w J)) i ⟨some d,op,ty,pos,af,g⟩ v a)
  (k:∀ a',qF a' n ((d,v)::St)->qV P ops Q (SB B (CC qd A Ls w J)) fuel (listed.setIfInBounds i true) a' w):qV P ops Q (SB B (CC qd A Ls w J)) (fuel+1) listed a w:=by
 simp only[vF,Qw,Q9,Bool.not_eq_true'] at hk
 obtain⟨⟨⟨⟨⟨h1,h2⟩,h3⟩,h4⟩,h5⟩,h6⟩:=hk
 exact z6v hi (Region.noSelect_spec h1) hQ (z7U h6) fuel listed a w (Region.free_spec hi h2) (z8K h5 h4) (by grind) hy
  (fun _=>CC.here hO J) (k _ (hS.put hd v))
theorem d_pure (i:Nat){d:Nat}{op:Op}{ty:TypeId}{pos:String}{af:Array Edge}{g:Option (Nat×Bool)}(v:Value)(hO:zZ A w Ls)(hS:qF a n St)
  (hi:ops[i]?=some ⟨some d,op,ty,pos,af,g⟩) (hk:vF ops B listed i=true) (hd:Nat.blt d n=true) (hQ:∀ c a w,Q (.panic c) (a.put (some d) v) w->Q (.panic c) a w)
  (hg:zR ops St g=some true) (hv:pv P St op=some v)
  (k:∀ a',qF a' n ((d,v)::St)->qV P ops Q (SB B (CC qd A Ls w J)) fuel (listed.setIfInBounds i true) a' w):qV P ops Q (SB B (CC qd A Ls w J)) (fuel+1) listed a w :=
 zXl hO hS hi hk hd hQ (.inl ⟨zFe (o:=⟨some d,op,ty,pos,af,g⟩) hS hg,fun _ w' _ _ _=>zZi hS hv _ _ _ _ _ w'⟩) k
theorem z4M (i:Nat){d:Nat}{op:Op}{ty:TypeId}{pos:String}{af:Array Edge}{g:Option (Nat×Bool)}{v:Value}(hO:zZ A w Ls)(hS:qF a n St)
  (hi:ops[i]?=some ⟨some d,op,ty,pos,af,g⟩) (hk:vF ops B listed i=true) (hd:Nat.blt d n=true) (hQ:∀ c a w,Q (.panic c) (a.put (some d) v) w->Q (.panic c) a w)
  (hg:zR ops St g=some true) (hv:∀ w',(execOp a.eval ⟨some d,op,ty,pos,af,g⟩).run P w'=.ok (.value v) w')
  (k:∀ a',qF a' n ((d,v)::St)->qV P ops Q (SB B (CC qd A Ls w J)) fuel (listed.setIfInBounds i true) a' w):qV P ops Q (SB B (CC qd A Ls w J)) (fuel+1) listed a w :=
 zXl hO hS hi hk hd hQ (.inl ⟨zFe (o:=⟨some d,op,ty,pos,af,g⟩) hS hg,fun _ w' _ _ _=>hv w'⟩) k
theorem d_skip (i:Nat){d:Nat}{op:Op}{ty:TypeId}{pos:String}{af:Array Edge}{g:Option (Nat×Bool)}(hO:zZ A w Ls)(hS:qF a n St)
  (hi:ops[i]?=some ⟨some d,op,ty,pos,af,g⟩) (hk:vF ops B listed i=true) (hd:Nat.blt d n=true) (hQ:∀ c a w,Q (.panic c) (a.put (some d) undef) w->Q (.panic c) a w)
  (hg:zR ops St g=some false)
  (k:∀ a',qF a' n ((d,undef)::St)->qV P ops Q (SB B (CC qd A Ls w J)) fuel (listed.setIfInBounds i true) a' w):qV P ops Q (SB B (CC qd A Ls w J)) (fuel+1) listed a w :=
 zXl hO hS hi hk hd hQ (.inr ⟨zFe (o:=⟨some d,op,ty,pos,af,g⟩) hS hg,rfl⟩) k
theorem z0R{B:List Nat}{i:Nat}(hb:B.all (fun j=>behind ops i ops.size j)=true){l:Array Bool}(hc:zUW ops l)(hun:l.getD i true=false): B.all (fun j=>!l.getD j false)=true:=by grind [zTm]
theorem z7i{J:List Nat}{L L':List zJ}(h:J.map (L'[·]?)=J.map (L[·]?)){j:Nat}(hj:J.contains j=true): L'[j]?=L[j]?:=by simp_all
theorem z58 (i r:Nat){d:Nat}{x:Operand}{t b o:Nat}{c:Array Value}{te:TypeId}{fr:Nat×Nat}{v:Value}{ty:TypeId}{pos:String}{af:Array Edge}{g:Option (Nat×Bool)}(hO:zZ A w Ls)(hS:qF a n St)
  (hi:ops[i]?=some ⟨some d,.load t x,ty,pos,af,g⟩) (hk:vF ops B listed i=true) (hd:Nat.blt d n=true) (hQ:∀ c a w,Q (.panic c) (a.put (some d) v) w->Q (.panic c) a w)
  (hg:zR ops St g=some true) (hb:B.all (fun j=>behind ops i ops.size j)=true) (hJ:J.contains r=true)
  (hx:zL St x=some (.pointer (some ⟨b,o,none⟩))) (hr:Ls[r]?=some [(b,.cells c te fr)]) (hv:xP P t c o=some v)
  (k:∀ a',qF a' n ((d,v)::St)->qV P ops Q (SB B (CC qd A Ls w J)) fuel (listed.setIfInBounds i true) a' w):qV P ops Q (SB B (CC qd A Ls w J)) (fuel+1) listed a w:=by
 refine zXl hO hS hi hk hd hQ (.inl ⟨zFe (o:=⟨some d,.load t x,ty,pos,af,g⟩) hS hg,fun l w' hc hun hSw=>?_⟩) k
 obtain⟨Ls',hO',_,hJ'⟩:=hSw (z0R hb hc hun)
 have hr':Ls'[r]?=some [(b,.cells c te fr)]:=by rw[z7i hJ' hJ];exact hr
 simp[execOp,hS.eval hx,Instr.loadAt,Instr.sureAddr,zQj (xN hO' hr' (Qa.2 rfl)) hv]
theorem z5X (i:Nat){τ:Type}{e:E τ}{Z:List Nat}{p:Option Addr}{c:Nat}{l:List τ}{ix:Int}{u:τ}{t:TypeId}{x y:Operand}{kd:IntKind}{d:Nat}{ty:TypeId}{pos:String}{af:Array Edge}{g:Option (Nat×Bool)}
  (hO:zZ A w Ls) (hS:qF a n St) (hi:ops[i]?=some ⟨some d,.indexAddr t x y,ty,pos,af,g⟩) (hk:vF ops B listed i=true) (hd:Nat.blt d n=true) (hQ:∀ c (v:Value) a w,Q (.panic c) (a.put (some d) v) w->Q (.panic c) a w)
  (hg:zR ops St g=some true) (hR:uY e Z w p c l) (hx:zL St x=some (.slice p l.length c)) (hy:zL St y=some (.int kd ix)) (ht:wP P t=some e.n) (hm:zB l ix=some u)
  (k:∀ b o,tJ e Z w ⟨b,o,none⟩ u->∀ a',qF a' n ((d,.pointer (some ⟨b,o,none⟩))::St)->qV P ops Q (SB B (CC qd A Ls w J)) fuel (listed.setIfInBounds i true) a' w):qV P ops Q (SB B (CC qd A Ls w J)) (fuel+1) listed a w:=by
 unfold zB at hm
 split at hm
 ·rename_i h0
  obtain⟨hlt,hv⟩:=Qf.1 hm
  rcases hR.2 with rfl | ⟨b,off,cs,rfl,hb,hbl,hl,hc⟩
  ·simp at hlt
  ·obtain⟨ci,h1,h2⟩:=e.rdL_get hl hm
   refine zXl hO hS hi hk hd (fun c=>hQ c _) (.inl ⟨zFe (o:=⟨some d,.indexAddr t x y,ty,pos,af,g⟩) hS hg,fun l' w' _ _ _=>?_⟩) (k b (off+ix.toNat*e.n) ⟨b,_,ci,rfl,hb,hbl,h1,fun j u hu=>?_⟩)
   ·simp[execOp,hS.eval hx,hS.eval hy,zLR (m:=l.length) ht h0 (by omega)]
   grind
 ·cases hm
theorem z60 (i:Nat){τ:Type}{e:E τ}{b o:Nat}{y:τ}{t:TypeId}{x:Operand}(ag:Bool){d:Nat}{ty:TypeId}{pos:String}{af:Array Edge}{g:Option (Nat×Bool)}
  (hO:zZ A w Ls) (hS:qF a n St) (hi:ops[i]?=some ⟨some d,.load t x,ty,pos,af,g⟩) (hk:vF ops B listed i=true) (hd:Nat.blt d n=true) (hQ:∀ c (v:Value) a w,Q (.panic c) (a.put (some d) v) w->Q (.panic c) a w)
  (hg:zR ops St g=some true) (hb:B.all (fun j=>behind ops i ops.size j)=true) (hP:tJ e (bl Ls++A) w ⟨b,o,none⟩ y) (hx:zL St x=some (.pointer (some ⟨b,o,none⟩))) (ht:vC P t=some (ag,e.n))
  (k:∀ ci,e.rd (bl Ls++A) w ci y->∀ v,xW ag ci=some v->∀ a',qF a' n ((d,v)::St)->qV P ops Q (SB B (CC qd A Ls w J)) fuel (listed.setIfInBounds i true) a' w) (hag:ag=true∨e.n=1) :
  qV P ops Q (SB B (CC qd A Ls w J)) (fuel+1) listed a w:=by
 obtain⟨b',o',ci,he,hbn,hbl,h1,h2⟩:=hP
 cases he
 have hl:=e.len h1
 have hv:∃ v,xW ag ci=some v:=by
  rcases hag with rfl | hn
  ·exact⟨_,rfl⟩
  ·cases ag with
   | true=>exact⟨_,rfl⟩
   | false=>match ci,hl.trans hn with | [u],_=>exact⟨u,rfl⟩
 obtain⟨v,hv⟩:=hv
 refine zXl hO hS hi hk hd (fun c=>hQ c _) (.inl ⟨zFe (o:=⟨some d,.load t x,ty,pos,af,g⟩) hS hg,fun l w' hc hun hSw=>?_⟩) (k ci h1 v hv)
 obtain⟨Ls',_,hE',_⟩:=hSw (z0R hb hc hun)
 have hkeep:=hE'.keep b hbl (fun hm=>hbn (Qb.2 (.inl hm)))
 simp[execOp,hS.eval hx,Instr.loadAt,Instr.sureAddr,zGA (cs:=ci) (by rw[hl];exact ht) (fun j u hu=>by rw[World.cell?_of_block (w:=w) hkeep];exact h2 j u hu) hv]
theorem d_one (i:Nat){oi:Oper}(hr:Region.ready .any ops listed=[i])(hi:ops[i]?=some oi)
  (h:wU P ops Q oi (fun a' w'=>SB B (CC qd A Ls w J) (listed.setIfInBounds i true) w'∧qV P ops Q (SB B (CC qd A Ls w J)) fuel (listed.setIfInBounds i true) a' w') a w):qV P ops Q (SB B (CC qd A Ls w J)) (fuel+1) listed a w:=by
 refine⟨fun h0=>(by grind),fun j hj=>?_⟩
 rw[hr] at hj
 simp only[Qa] at hj
 subst hj
 unfold wpOp
 simp only[hi]
 unfold wU at h
 grind
theorem d_next{Ls':List zJ}{w':World}{l:Array Bool}(hO:zZ A w' Ls')(hE:zU qd Ls w Ls' w')(hJ:J.map (Ls'[·]?)=J.map (Ls[·]?))
  (h:qV P ops Q (SB B (CC qd A Ls' w' J)) fuel l a w'):SB B (CC qd A Ls w J) l w'∧qV P ops Q (SB B (CC qd A Ls w J)) fuel l a w':=by
 refine And.intro (fun _=>⟨Ls',hO,hE,hJ⟩) (zXD fuel l a w' ?_ h)
 intro l2 w2 _ hs hb
 obtain⟨L2,h1,h2,h3⟩:=hs hb
 exact⟨L2,h1,hE.trans h2,h3.trans hJ⟩
theorem d_broke{Ls':List zJ}{w':World}{l:Array Bool}(B' J':List Nat)(hb:B.all (fun j=>!l.getD j false)=false)
  (h:qV P ops Q (SB B' (CC qd A Ls' w' J')) fuel l a w'):SB B (CC qd A Ls w J) l w'∧qV P ops Q (SB B (CC qd A Ls w J)) fuel l a w':=by
 grind [zXD,SB]
end
end Go.GD
