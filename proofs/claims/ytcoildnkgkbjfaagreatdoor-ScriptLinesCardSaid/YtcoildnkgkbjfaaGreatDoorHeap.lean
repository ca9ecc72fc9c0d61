/- A part. Conditions: none. -/
import Derived.Test.YtcoildnkgkbjfaaGreatDoorCore
import Derived.Laws.AppendOwn
import Derived.Laws.MakeOwn
import Derived.Below
namespace Go.GD
open Go Go.RowKit
set_option autoImplicit false
variable {qd:Prop}
abbrev zH:=List (Nat×Obj)
def bl:List zH->List Nat
 | []=>[]
 | r::rs=>r.map Prod.fst++bl rs
theorem zHY{Ls:List zH}{b:Nat}: b∈bl Ls↔∃ r∈Ls,∃ p∈r,p.1=b:=by
 induction Ls with
 | nil=>simp[bl]
 | cons r rs ih=>simp[bl,ih]
theorem zBp (L M:List zH): bl (L++M)=bl L++bl M:=by
 induction L with
 | nil=>rfl
 | cons r rs ih=>simp[bl,ih]
structure qF (A:List Nat)(w:World)(Ls:List zH): Prop where
 old:∀ b∈A,b<w.heap.size
 has:∀ r∈Ls,∀ p∈r,w.heap[p.1]?=some p.2
 nodup:(bl Ls).Nodup
 apart:∀ b∈bl Ls,b∉A
structure zZ (qd:Prop)(Ls:List zH)(w:World)(Ls':List zH)(w':World): Prop where
 os:w'.os=w.os
 tape:w'.tape=w.tape
 output:w'.output=w.output
 drawn:qd->w.drawn≤w'.drawn
 size:w.heap.size≤w'.heap.size
 keep:∀ k,k<w.heap.size->k∉bl Ls->w'.heap[k]?=w.heap[k]?
 fresh:∀ b∈bl Ls',b∈bl Ls∨w.heap.size≤b
theorem zZ.refl (Ls:List zH)(w:World): zZ qd Ls w Ls w:=⟨rfl,rfl,rfl,fun _=>Qt _,Qt _,fun _ _ _=>rfl,fun _ h=>.inl h⟩
theorem zZ.trans{L L' L'':List zH}{w w' w'':World}(h:zZ qd L w L' w')(k:zZ qd L' w' L'' w''): zZ qd L w L'' w'':=by
 refine⟨k.os.trans h.os,k.tape.trans h.tape,k.output.trans h.output,fun hq=>Qy (h.drawn hq) (k.drawn hq),Qy h.size k.size,fun i hi hn=>?_,fun b hb=>?_⟩
 ·rw[k.keep i (Uh hi h.size) (fun hm=>by rcases h.fresh i hm with h1 | h1;exact hn h1;omega),h.keep i hi hn]
 ·rcases k.fresh b hb with h1 | h1
  ·exact h.fresh b h1
  ·exact .inr (Qy h.size h1)
theorem zZ.drop{L L' L'':List zH}{w w':World}(h:zZ qd L w L' w')(hs:∀ b∈bl L'',b∈bl L'): zZ qd L w L'' w' :=
 ⟨h.os,h.tape,h.output,h.drawn,h.size,h.keep,fun b hb=>h.fresh b (hs b hb)⟩
theorem zZ.done{L L':List zH}{w w':World}(h:zZ qd L w L' w'): zZ qd L w [] w':=h.drop (by simp[bl])
theorem zZ.frame{w w':World}(h:zZ qd [] w [] w')(Ls:List zH): zZ qd Ls w Ls w' :=
 ⟨h.os,h.tape,h.output,h.drawn,h.size,fun k hk _=>h.keep k hk (by simp[bl]),fun _ hb=>.inl hb⟩
theorem zZ.on{L Ls:List zH}{w0 w w':World}(_h:zZ qd L w0 Ls w)(e:zZ qd [] w [] w'): zZ qd Ls w Ls w':=e.frame Ls
theorem qF.lt{A:List Nat}{w:World}{Ls:List zH}(h:qF A w Ls){b:Nat}(hb:b∈bl Ls): b<w.heap.size:=by
 obtain⟨r,hr,p,hp,rfl⟩:=zHY.1 hb
 exact(QD.1 (h.has r hr p hp)).1
theorem qF.frame{A:List Nat}{w w':World}{Ls:List zH}(h:qF A w Ls)(e:zZ qd [] w [] w'): qF A w' Ls :=
 ⟨fun b hb=>Uh (h.old b hb) e.size,fun r hr p hp=>by
  rw[e.keep p.1 (QD.1 (h.has r hr p hp)).1 (by simp[bl])];exact h.has r hr p hp,h.nodup,h.apart⟩
theorem qF.sub{A:List Nat}{w:World}{Ls:List zH}(h:qF A w Ls): qF (bl Ls++A) w [] :=
 ⟨fun b hb=>by rcases Qk.1 hb with h1 | h1;exact h.lt h1;exact h.old b h1,by simp,by simp[bl],by simp[bl]⟩
theorem qF.start{A:List Nat}{w:World}(h:∀ b∈A,b<w.heap.size): qF A w []:=⟨h,by simp,by simp[bl],by simp[bl]⟩
theorem qF.alloc{A:List Nat}{w w':World}{Ls:List zH}(h:qF A w Ls)(o:Obj)(hw:w'.heap=(w.alloc o).heap): qF A w' (Ls++[[(w.heap.size,o)]]):=by
 have hn:w.heap.size∉bl Ls:=fun hm=>UC _ (h.lt hm)
 refine⟨fun b hb=>?_,fun r hr p hp=>?_,?_,fun b hb=>?_⟩
 ·rw[hw];have:=h.old b hb;simp;omega
 ·rcases Qk.1 hr with h1 | h1
  ·rw[hw,Below.heap_alloc w o p.1 (QD.1 (h.has r h1 p hp)).1];exact h.has r h1 p hp
  ·simp only[Qf] at h1
   subst h1
   simp only[Qf] at hp
   subst hp
   rw[hw];show(w.heap.push o)[w.heap.size]?=some o;simp
 ·rw[zBp]
  refine Q2.2 ⟨h.nodup,by simp[bl],fun x hx y hy=>?_⟩
  grind [bl]
 ·rw[zBp] at hb
  rcases Qk.1 hb with h1 | h1
  ·exact h.apart b h1
  ·simp[bl] at h1
   subst h1
   exact fun hA=>UC _ (h.old _ hA)
theorem zZ.alloc{w w':World}(Ls:List zH)(o:Obj)(hw:w'.heap=(w.alloc o).heap)(ho:w'.os=w.os)(ht:w'.tape=w.tape)(hp:w'.output=w.output)(hd:qd->w.drawn≤w'.drawn:=by first | exact fun _=>Qt _ | exact fun _=>UR _): zZ qd Ls w (Ls++[[(w.heap.size,o)]]) w' :=
 ⟨ho,ht,hp,hd,by rw[hw];simp,fun k hk _=>by grind [Below.heap_alloc],fun b hb=>by
  grind [zBp,bl]⟩
theorem zYU{α:Type}{l:List α}{i:Nat}{x y:α}(h:y∈l.set i x): y=x∨∃ j,j≠i∧l[j]?=some y:=by grind [List.mem_iff_getElem?]
theorem zBg{Ls:List zH}{i:Nat}{r:zH}(hr:Ls[i]?=some r){p:Nat×Obj}(hp:p∈r): p.1∈bl Ls :=
 zHY.2 ⟨r,Qv.2 ⟨i,hr⟩,p,hp,rfl⟩
theorem zEt{Ls:List zH}(h:(bl Ls).Nodup): ∀ {i j:Nat} {r s:zH},Ls[i]?=some r->Ls[j]?=some s->i≠j->∀ p∈r,∀ q∈s,p.1≠q.1:=by
 induction Ls with
 | nil=>grind
 | cons t ts ih =>
  simp only[bl] at h
  obtain⟨h1,h2,h3⟩:=Q2.1 h
  intro i j r s hi hj hij p hp q hq e
  cases i with
  | zero =>
   cases j with
   | zero=>grind
   | succ j =>
    simp only[Ub,Qg] at hi
    simp only[Q6] at hj
    subst hi
    exact h3 p.1 (QB.2 ⟨p,hp,rfl⟩) q.1 (zBg hj hq) e
  | succ i =>
   simp only[Q6] at hi
   cases j with
   | zero =>
    simp only[Ub,Qg] at hj
    subst hj
    exact h3 q.1 (QB.2 ⟨q,hq,rfl⟩) p.1 (zBg hi hp) e.symm
   | succ j =>
    grind
theorem zDR{Ls:List zH}{i:Nat}{r':zH}{b:Nat}(h:b∈bl (Ls.set i r')): (∃ p∈r',p.1=b)∨∃ j s,j≠i∧Ls[j]?=some s∧∃ p∈s,p.1=b:=by
 obtain⟨s,hs,p,hp,rfl⟩:=zHY.1 h
 rcases zYU hs with rfl | ⟨j,hj,hl⟩
 ·grind
 grind
theorem zRz:∀ {Ls:List zH} {i:Nat} {r':zH},(bl Ls).Nodup->(r'.map Prod.fst).Nodup->(∀ j s,j≠i->Ls[j]?=some s->∀ p∈r',∀ q∈s,p.1≠q.1)->(bl (Ls.set i r')).Nodup
 | [],i,r',h,_,_=>by grind
 | t::ts,0,r',h,hr,ha=>by
  simp only[bl] at h
  obtain⟨h1,h2,h3⟩:=Q2.1 h
  simp only[List.set_cons_zero,bl]
  refine Q2.2 ⟨hr,h2,fun x hx y hy e=>?_⟩
  obtain⟨p,hp,rfl⟩:=QB.1 hx
  obtain⟨s,hs,q,hq,rfl⟩:=zHY.1 hy
  grind [List.mem_iff_getElem?]
 | t::ts,i+1,r',h,hr,ha=>by
  simp only[bl] at h
  obtain⟨h1,h2,h3⟩:=Q2.1 h
  simp only[UW,bl]
  refine Q2.2 ⟨h1,zRz h2 hr (fun j s hj hs=>ha (j+1) s (by omega) (by grind)),fun x hx y hy e=>?_⟩
  obtain⟨p,hp,rfl⟩:=QB.1 hx
  rcases zDR hy with⟨q,hq,rfl⟩ | ⟨j,s,hj,hs,q,hq,rfl⟩
  ·exact ha 0 t (by omega) rfl q hq p hp e.symm
  ·exact h3 p.1 (QB.2 ⟨p,hp,rfl⟩) q.1 (zBg hs hq) e
theorem qF.set{A:List Nat}{w w':World}{Ls:List zH}(h:qF A w Ls){i:Nat}{r r':zH}(hr:Ls[i]?=some r)
  (hsz:w.heap.size≤w'.heap.size) (hk:∀ k,k<w.heap.size->k∉r.map Prod.fst->w'.heap[k]?=w.heap[k]?)
  (hh:∀ p∈r',w'.heap[p.1]?=some p.2) (hn:(r'.map Prod.fst).Nodup) (hf:∀ p∈r',p.1∈r.map Prod.fst∨w.heap.size≤p.1):qF A w' (Ls.set i r'):=by
 refine⟨fun b hb=>Uh (h.old b hb) hsz,fun s hs p hp=>?_,zRz h.nodup hn fun j s hj hs p hp q hq e=>?_,fun b hb=>?_⟩
 ·rcases zYU hs with rfl | ⟨j,hj,hl⟩
  ·grind
  ·have hmem:=Qv.2 ⟨j,hl⟩
   have h1:=h.has s hmem p hp
   rw[hk p.1 (QD.1 h1).1 (fun hm=>by
    obtain⟨q,hq,he⟩:=QB.1 hm
    exact zEt h.nodup hr hl (fun e=>hj e.symm) q hq p hp he)]
   exact h1
 ·have h1:=h.has s (Qv.2 ⟨j,hs⟩) q hq
  have hlt:=(QD.1 h1).1
  rcases hf p hp with h2 | h2
  ·obtain⟨u,hu,he⟩:=QB.1 h2
   exact zEt h.nodup hr hs (fun e=>hj e.symm) u hu q hq (he.trans e)
  ·omega
 ·rcases zDR hb with⟨p,hp,rfl⟩ | ⟨j,s,hj,hs,p,hp,rfl⟩
  ·rcases hf p hp with h2 | h2
   ·obtain⟨u,hu,he⟩:=QB.1 h2
    rw[←he];exact h.apart _ (zBg hr hu)
   ·intro hA;have:=h.old _ hA;omega
  ·exact h.apart _ (zBg hs hp)
theorem zZ.set{w w':World}{Ls:List zH}{i:Nat}{r r':zH}(hr:Ls[i]?=some r)(ho:w'.os=w.os)(ht:w'.tape=w.tape)(hp:w'.output=w.output)
  (hsz:w.heap.size≤w'.heap.size) (hk:∀ k,k<w.heap.size->k∉r.map Prod.fst->w'.heap[k]?=w.heap[k]?)
  (hf:∀ p∈r',p.1∈r.map Prod.fst∨w.heap.size≤p.1) (hd:qd->w.drawn≤w'.drawn:=by first | exact fun _=>Qt _ | exact fun _=>UR _):zZ qd Ls w (Ls.set i r') w':=by
 refine⟨ho,ht,hp,hd,hsz,fun k hk1 hk2=>hk k hk1 (fun hm=>hk2 ?_),fun b hb=>?_⟩
 ·obtain⟨p,hp,rfl⟩:=QB.1 hm
  exact zBg hr hp
 ·rcases zDR hb with⟨p,hp,rfl⟩ | ⟨j,s,hj,hs,p,hp,rfl⟩
  ·rcases hf p hp with h2 | h2
   ·obtain⟨u,hu,he⟩:=QB.1 h2
    grind [zBg]
   grind
  grind [zBg]
structure vT (Z:List Nat)(w:World)(Z':List Nat)(w':World): Prop where
 size:w.heap.size≤w'.heap.size
 same:∀ k,k<w.heap.size->k∉Z->k∉Z'∧w'.heap[k]?=w.heap[k]?
theorem zZ.step{Ls Ls':List zH}{w w':World}(h:zZ qd Ls w Ls' w')(A:List Nat): vT (bl Ls++A) w (bl Ls'++A) w' :=
 ⟨h.size,fun k hk hn=>by
  have h1:k∉A:=fun hm=>hn (Qk.2 (.inr hm))
  have h2:k∉bl Ls:=fun hm=>hn (Qk.2 (.inl hm))
  refine⟨fun hm=>?_,h.keep k hk h2⟩
  rcases Qk.1 hm with h3 | h3
  ·rcases h.fresh k h3 with h4 | h4
   ·exact h2 h4
   ·omega
  grind⟩
theorem vT.less{Z Z':List Nat}(w:World)(h:∀ b∈Z',b∈Z): vT Z w Z' w:=⟨Qt _,fun k _ hn=>⟨fun hm=>hn (h k hm),rfl⟩⟩
structure E (τ:Type) where
 n:Nat
 rd:List Nat->World->List Value->τ->Prop
 len:∀ {Z w cs x},rd Z w cs x->cs.length=n
 step:∀ {Z w Z' w' cs x},vT Z w Z' w'->rd Z w cs x->rd Z' w' cs x
 one:∀ {Z w cs x},rd Z w cs x->∀ c∈cs,c.oneCell'=true
def zR (k:IntKind): E Int:=⟨1,fun _ _ cs x=>cs=[.int k x],by grind,by grind,by rintro _ _ _ _ rfl c hc;simp at hc;subst hc;rfl⟩
def zH8:E Bool:=⟨1,fun _ _ cs x=>cs=[.bool x],by grind,by grind,by rintro _ _ _ _ rfl c hc;simp at hc;subst hc;rfl⟩
def wD:E zA:=⟨1,fun _ _ cs x=>cs=[vs x],by grind,by grind,by rintro _ _ _ _ rfl c hc;simp at hc;subst hc;rfl⟩
def z6e:E Unit:=⟨0,fun _ _ cs _=>cs=[],by grind,by grind,by grind⟩
def qM{α β:Type}(e:E α)(f:E β): E (α×β) :=
 ⟨e.n+f.n,fun Z w cs x=>∃ c1 c2,cs=c1++c2∧e.rd Z w c1 x.1∧f.rd Z w c2 x.2,
  by rintro _ _ _ _ ⟨c1,c2,rfl,h1,h2⟩;simp[e.len h1,f.len h2],
  by rintro _ _ _ _ _ _ s ⟨c1,c2,rfl,h1,h2⟩;exact⟨c1,c2,rfl,e.step s h1,f.step s h2⟩,
  by
  rintro _ _ _ _ ⟨c1,c2,rfl,h1,h2⟩ c hc
  rcases Qk.1 hc with h | h
  ·exact e.one h1 c h
  ·exact f.one h2 c h⟩
section
variable {τ:Type}(e:E τ)
def E.rdL (Z:List Nat)(w:World): List Value->List τ->Prop
 | cs,[]=>cs=[]
 | cs,x::l=>∃ c1 c2,cs=c1++c2∧e.rd Z w c1 x∧E.rdL Z w c2 l
theorem E.rdL_len{Z:List Nat}{w:World}: ∀ {l:List τ} {cs:List Value},e.rdL Z w cs l->cs.length=l.length*e.n
 | [],cs,h=>by simp only[E.rdL] at h;simp[h]
 | x::l,cs,h=>by
  obtain⟨c1,c2,rfl,h1,h2⟩:=h
  simp only[Qc,e.len h1,E.rdL_len h2,Qn,Q0,UM]
  omega
theorem E.rdL_step{Z Z':List Nat}{w w':World}(s:vT Z w Z' w'): ∀ {l:List τ} {cs:List Value},e.rdL Z w cs l->e.rdL Z' w' cs l
 | [],cs,h=>h
 | x::l,cs,h=>by obtain⟨c1,c2,rfl,h1,h2⟩:=h;exact⟨c1,c2,rfl,e.step s h1,E.rdL_step s h2⟩
theorem E.rdL_one{Z:List Nat}{w:World}: ∀ {l:List τ} {cs:List Value},e.rdL Z w cs l->∀ c∈cs,c.oneCell'=true
 | [],cs,h=>by grind [E.rdL]
 | x::l,cs,h=>by
  obtain⟨c1,c2,rfl,h1,h2⟩:=h
  intro c hc
  rcases Qk.1 hc with h | h
  ·exact e.one h1 c h
  ·exact E.rdL_one h2 c h
theorem E.rdL_append{Z:List Nat}{w:World}: ∀ {l m:List τ} {cs ds:List Value},e.rdL Z w cs l->e.rdL Z w ds m->e.rdL Z w (cs++ds) (l++m)
 | [],m,cs,ds,h,k=>by simp only[E.rdL] at h;subst h;simpa using k
 | x::l,m,cs,ds,h,k=>by
  obtain⟨c1,c2,rfl,h1,h2⟩:=h
  exact⟨c1,c2++ds,by simp,h1,E.rdL_append h2 k⟩
theorem E.rdL_one_elem{Z:List Nat}{w:World}{x:τ}{cs:List Value}(h:e.rd Z w cs x): e.rdL Z w cs [x]:=⟨cs,[],by simp,h,rfl⟩
theorem E.rdL_get{Z:List Nat}{w:World}: ∀ {l:List τ} {cs:List Value} {i:Nat} {x:τ},e.rdL Z w cs l->l[i]?=some x->∃ ci,e.rd Z w ci x∧∀ j u,ci[j]?=some u->cs[i*e.n+j]?=some u
 | [],cs,i,x,h,hx=>by simp at hx
 | y::l,cs,0,x,h,hx=>by
  obtain⟨c1,c2,rfl,h1,h2⟩:=h
  grind
 | y::l,cs,i+1,x,h,hx=>by
  obtain⟨c1,c2,rfl,h1,h2⟩:=h
  simp only[Q6] at hx
  obtain⟨ci,k1,k2⟩:=E.rdL_get h2 hx
  refine⟨ci,k1,fun j u hu=>?_⟩
  have:=k2 j u hu
  have hl:=e.len h1
  grind
theorem E.rdL_take{Z:List Nat}{w:World}: ∀ {l:List τ} {cs:List Value} (k:Nat),e.rdL Z w cs l->e.rdL Z w (cs.take (k*e.n)) (l.take k)
 | [],cs,k,h=>by simp only[E.rdL] at h;simp[h,E.rdL]
 | y::l,cs,0,h=>by simp[E.rdL]
 | y::l,cs,k+1,h=>by
  obtain⟨c1,c2,rfl,h1,h2⟩:=h
  have hl:=e.len h1
  refine⟨c1,c2.take (k*e.n),?_,h1,E.rdL_take k h2⟩
  grind [Nat.add_mul]
theorem E.rdL_drop{Z:List Nat}{w:World}: ∀ {l:List τ} {cs:List Value} (k:Nat),e.rdL Z w cs l->e.rdL Z w (cs.drop (k*e.n)) (l.drop k)
 | [],cs,k,h=>by simp only[E.rdL] at h;simp[h,E.rdL]
 | y::l,cs,0,h=>by grind
 | y::l,cs,k+1,h=>by
  obtain⟨c1,c2,rfl,h1,h2⟩:=h
  have hl:=e.len h1
  have:=E.rdL_drop k h2
  rw[show(k+1)*e.n=c1.length+k*e.n by grind]
  rw[U9,Q8 (by omega)];grind
def xS (Z:List Nat)(w:World)(p:Option Addr)(c:Nat)(l:List τ): Prop :=
 l.length≤c∧(l=[]∨∃ b off cs,p=some ⟨b,off,none⟩∧b∉Z∧b<w.heap.size∧e.rdL Z w cs l∧∀ j u,cs[j]?=some u->w.cell? ⟨b,off+j,none⟩=some u)
theorem xS.step{Z Z':List Nat}{w w':World}{p:Option Addr}{c:Nat}{l:List τ}(s:vT Z w Z' w')(h:xS e Z w p c l): xS e Z' w' p c l:=by
 refine⟨h.1,h.2.imp id ?_⟩
 rintro ⟨b,off,cs,rfl,hb,hlt,hl,hc⟩
 obtain⟨h1,h2⟩:=s.same b hlt hb
 exact⟨b,off,cs,rfl,h1,Uh hlt s.size,e.rdL_step s hl,fun j u hu=>by grind [World.cell?_of_block]⟩
theorem xS.nil (Z:List Nat)(w:World)(p:Option Addr)(c:Nat): xS e Z w p c []:=⟨Q9 _,.inl rfl⟩
def zRR (Z:List Nat)(w:World)(ad:Addr)(x:τ): Prop :=
 ∃ b o ci,ad=⟨b,o,none⟩∧b∉Z∧b<w.heap.size∧e.rd Z w ci x∧∀ j u,ci[j]?=some u->w.cell? ⟨b,o+j,none⟩=some u
theorem zRR.step{Z Z':List Nat}{w w':World}{ad:Addr}{x:τ}(s:vT Z w Z' w')(h:zRR e Z w ad x): zRR e Z' w' ad x:=by
 obtain⟨b,o,ci,rfl,hb,hlt,hx,hc⟩:=h
 obtain⟨h1,h2⟩:=s.same b hlt hb
 exact⟨b,o,ci,rfl,h1,Uh hlt s.size,e.step s hx,fun j u hu=>by grind [World.cell?_of_block]⟩
end
def wJ{τ:Type}(e:E τ): E (List τ) :=
 ⟨1,fun Z w cs l=>∃ p c,cs=[.slice p l.length c]∧xS e Z w p c l,
  by grind,
  by rintro _ _ _ _ _ _ s ⟨p,c,rfl,h⟩;exact⟨p,c,rfl,h.step e s⟩,
  by rintro _ _ _ _ ⟨p,c,rfl,h⟩ d hd;simp at hd;subst hd;rfl⟩
theorem zR.mk{k:IntKind}{Z:List Nat}{w:World}{x:Int}: (zR k).rd Z w [.int k x] x:=rfl
theorem zH8.mk{Z:List Nat}{w:World}{x:Bool}: zH8.rd Z w [vb x] x:=rfl
theorem wD.mk{Z:List Nat}{w:World}{x:zA}: wD.rd Z w [vs x] x:=rfl
theorem z6e.mk{Z:List Nat}{w:World}{x:Unit}: z6e.rd Z w [] x:=rfl
theorem qM.mk{α β:Type}{e:E α}{f:E β}{Z:List Nat}{w:World}{c1 c2:List Value}{x:α}{y:β}(h1:e.rd Z w c1 x)(h2:f.rd Z w c2 y): (qM e f).rd Z w (c1++c2) (x,y):=⟨c1,c2,rfl,h1,h2⟩
theorem wJ.mk{τ:Type}{e:E τ}{Z:List Nat}{w:World}{p:Option Addr}{c:Nat}{l:List τ}(h:xS e Z w p c l): (wJ e).rd Z w [.slice p l.length c] l:=⟨p,c,rfl,h⟩
theorem zRR.fst{α β:Type}{e:E α}{f:E β}{Z:List Nat}{w:World}{b o:Nat}{x:α×β}(h:zRR (qM e f) Z w ⟨b,o,none⟩ x): zRR e Z w ⟨b,o,none⟩ x.1:=by
 obtain⟨b',o',ci,he,hb,hlt,⟨c1,c2,rfl,h1,h2⟩,hc⟩:=h
 cases he
 exact⟨b,o,c1,rfl,hb,hlt,h1,fun j u hu=>hc j u (by grind)⟩
theorem zRR.snd{α β:Type}{e:E α}{f:E β}{Z:List Nat}{w:World}{b o:Nat}{x:α×β}(h:zRR (qM e f) Z w ⟨b,o,none⟩ x): zRR f Z w ⟨b,o+e.n,none⟩ x.2:=by
 obtain⟨b',o',ci,he,hb,hlt,⟨c1,c2,rfl,h1,h2⟩,hc⟩:=h
 cases he
 refine⟨b,o+e.n,c2,rfl,hb,hlt,h2,fun j u hu=>?_⟩
 have hl:=e.len h1
 rw[Wa]
 refine hc (e.n+j) u ?_
 grind
theorem xS.mv{τ:Type}{e:E τ}{Z Z':List Nat}{w w':World}{p:Option Addr}{c:Nat}{l:List τ}(h:xS e Z w p c l)(s:vT Z w Z' w'): xS e Z' w' p c l:=h.step e s
theorem zRR.mv{τ:Type}{e:E τ}{Z Z':List Nat}{w w':World}{ad:Addr}{x:τ}(h:zRR e Z w ad x)(s:vT Z w Z' w'): zRR e Z' w' ad x:=h.step e s
theorem zYA{Ls:List zH}{k b:Nat}(h:b∈bl (Ls.take k)): b∈bl Ls:=by
 obtain⟨r,hr,p,hp,rfl⟩:=zHY.1 h
 exact zHY.2 ⟨r,Ur hr,p,hp,rfl⟩
theorem qF.take{A:List Nat}{w:World}{Ls:List zH}(h:qF A w Ls)(k:Nat): qF A w (Ls.take k):=by
 refine⟨h.old,fun r hr=>h.has r (Ur hr),?_,fun b hb=>h.apart b (zYA hb)⟩
 have:bl Ls=bl (Ls.take k)++bl (Ls.drop k):=by rw[←zBp,QC]
 have hn:=h.nodup
 grind
theorem zZ.take{L:List zH}{w w':World}{Ls:List zH}(h:zZ qd L w Ls w')(k:Nat): zZ qd L w (Ls.take k) w':=h.drop fun _ hb=>zYA hb
theorem vT.take (Ls:List zH)(k:Nat)(A:List Nat)(w:World): vT (bl Ls++A) w (bl (Ls.take k)++A) w:=vT.less w fun b hb=>by
 grind [zYA]
theorem z5Y{Ls:List zH}{i:Nat}{r:zH}(hr:Ls[i]?=some r)(A:List Nat): ∀ b∈bl [r]++(bl (Ls.set i [])++A),b∈bl Ls++A:=by
 intro b hb
 rcases Qk.1 hb with h | h
 ·obtain⟨s,hs,p,hp,rfl⟩:=zHY.1 h
  grind [zBg]
 ·rcases Qk.1 h with h | h
  ·rcases zDR h with⟨p,hp,_⟩ | ⟨j,s,_,hs,p,hp,rfl⟩
   ·cases hp
   grind [zBg]
  grind
theorem qF.pick{A:List Nat}{w:World}{Ls:List zH}(h:qF A w Ls)(i:Nat){r:zH}(hr:Ls[i]?=some r): qF (bl (Ls.set i [])++A) w [r]:=by
 have hmem:=Qv.2 ⟨i,hr⟩
 refine⟨fun b hb=>?_,fun s hs p hp=>?_,?_,fun b hb hA=>?_⟩
 ·rcases Qk.1 hb with h1 | h1
  ·rcases zDR h1 with⟨p,hp,_⟩ | ⟨j,s,_,hs,p,hp,rfl⟩
   ·cases hp
   ·exact h.lt (zBg hs hp)
  ·exact h.old b h1
 ·simp only[Qf] at hs
  subst hs
  exact h.has _ hmem p hp
 ·have key:∀ {Ls:List zH} {i:Nat},(bl Ls).Nodup->Ls[i]?=some r->(r.map Prod.fst).Nodup:=by
   intro Ls
   induction Ls with
   | nil=>grind
   | cons t ts ih =>
    grind [bl]
  simpa [bl] using key h.nodup hr
 ·obtain⟨s,hs,p,hp,rfl⟩:=zHY.1 hb
  simp only[Qf] at hs
  subst hs
  rcases Qk.1 hA with h1 | h1
  ·rcases zDR h1 with⟨q,hq,_⟩ | ⟨j,t,hj,ht,q,hq,he⟩
   ·cases hq
   ·exact zEt h.nodup hr ht (fun e=>hj e.symm) p hp q hq he.symm
  ·exact h.apart _ (zBg hr hp) h1
theorem vT.pick{Ls:List zH}{i:Nat}{r:zH}(hr:Ls[i]?=some r)(A:List Nat)(w:World): vT (bl Ls++A) w (bl [r]++(bl (Ls.set i [])++A)) w:=vT.less w (z5Y hr A)
theorem zSX{r:zH}: bl [r]=r.map Prod.fst:=by simp[bl]
theorem qF.put{A:List Nat}{w w':World}{Ls:List zH}(h:qF A w Ls){i:Nat}{r r':zH}(hr:Ls[i]?=some r)(ho:qF (bl (Ls.set i [])++A) w' [r'])(e:zZ qd [r] w [r'] w'): qF A w' (Ls.set i r'):=by
 refine h.set hr e.size (fun k hk hn=>e.keep k hk (by rw[zSX];exact hn)) (ho.has r' (Qf.2 rfl)) (by simpa [bl] using ho.nodup) (fun p hp=>?_)
 have:=e.fresh p.1 (by rw[zSX];grind)
 rwa [zSX] at this
theorem zZ.put{w w':World}{Ls:List zH}{i:Nat}{r r':zH}(hr:Ls[i]?=some r)(e:zZ qd [r] w [r'] w'): zZ qd Ls w (Ls.set i r') w' :=
 zZ.set hr e.os e.tape e.output e.size (fun k hk hn=>e.keep k hk (by rw[zSX];exact hn)) (fun p hp=>by
  have:=e.fresh p.1 (by rw[zSX];grind)
  rwa [zSX] at this) e.drawn
theorem vT.put{Ls:List zH}{i:Nat}{r':zH}(A:List Nat)(w:World): vT (bl [r']++(bl (Ls.set i [])++A)) w (bl (Ls.set i r')++A) w:=vT.less w fun b hb=>by
 rcases Qk.1 hb with h | h
 ·rcases zDR h with⟨p,hp,rfl⟩ | ⟨j,s,hj,hs,p,hp,rfl⟩
  ·exact Qk.2 (.inl (by rw[zSX];grind))
  ·refine Qk.2 (.inr (Qk.2 (.inl (zBg (i:=j) ?_ hp))))
   grind
 grind
theorem bnd{α β:Type}{m:Option α}{f:α->Option β}{o:β}(h:m.bind f=some o): ∃ x,m=some x∧f x=some o:=by
 cases m with
 | none=>cases h
 | some x=>grind
theorem ifT{α:Type}{b:Bool}{x y o:α}(hb:b=true)(h:(if b=true then x else y)=o): x=o:=by grind
theorem ifF{α:Type}{b:Bool}{x y o:α}(hb:b=false)(h:(if b=true then x else y)=o): y=o:=by grind
end Go.GD
