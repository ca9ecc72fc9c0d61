/- A part. Conditions: none. -/
import Derived.Test.YtgdgcdmdogdmgaaGreatDoorCore
import Derived.Laws.AppendOwn
import Derived.Laws.MakeOwn
import Derived.Below
namespace Go.GD
open Go Go.RowKit
set_option autoImplicit false
variable {qd:Prop}
abbrev zG:=List (Nat×Obj)
def bl:List zG->List Nat
 | []=>[]
 | r::rs=>r.map Prod.fst++bl rs
theorem zKc{Ls:List zG}{b:Nat}: b∈bl Ls↔∃ r∈Ls,∃ p∈r,p.1=b:=by
 induction Ls with
 | nil=>simp[bl]
 | cons r rs ih=>simp[bl,ih]
theorem zDD (L M:List zG): bl (L++M)=bl L++bl M:=by
 induction L with
 | nil=>rfl
 | cons r rs ih=>simp[bl,ih]
structure zU (A:List Nat)(w:World)(Ls:List zG): Prop where
 old:∀ b∈A,b<w.heap.size
 has:∀ r∈Ls,∀ p∈r,w.heap[p.1]?=some p.2
 nodup:(bl Ls).Nodup
 apart:∀ b∈bl Ls,b∉A
structure zT (qd:Prop)(Ls:List zG)(w:World)(Ls':List zG)(w':World): Prop where
 os:w'.os=w.os
 tape:w'.tape=w.tape
 output:w'.output=w.output
 drawn:qd->w.drawn≤w'.drawn
 size:w.heap.size≤w'.heap.size
 keep:∀ k,k<w.heap.size->k∉bl Ls->w'.heap[k]?=w.heap[k]?
 fresh:∀ b∈bl Ls',b∈bl Ls∨w.heap.size≤b
theorem zT.refl (Ls:List zG)(w:World): zT qd Ls w Ls w:=⟨rfl,rfl,rfl,fun _=>Qr _,Qr _,fun _ _ _=>rfl,fun _ h=>.inl h⟩
theorem zT.trans{L L' L'':List zG}{w w' w'':World}(h:zT qd L w L' w')(k:zT qd L' w' L'' w''): zT qd L w L'' w'':=by
 refine⟨k.os.trans h.os,k.tape.trans h.tape,k.output.trans h.output,fun hq=>QD (h.drawn hq) (k.drawn hq),QD h.size k.size,fun i hi hn=>?_,fun b hb=>?_⟩
 ·rw[k.keep i (Uk hi h.size) (fun hm=>by rcases h.fresh i hm with h1 | h1;exact hn h1;omega),h.keep i hi hn]
 ·rcases k.fresh b hb with h1 | h1
  ·exact h.fresh b h1
  ·exact .inr (QD h.size h1)
theorem zT.drop{L L' L'':List zG}{w w':World}(h:zT qd L w L' w')(hs:∀ b∈bl L'',b∈bl L'): zT qd L w L'' w' :=
 ⟨h.os,h.tape,h.output,h.drawn,h.size,h.keep,fun b hb=>h.fresh b (hs b hb)⟩
theorem zT.done{L L':List zG}{w w':World}(h:zT qd L w L' w'): zT qd L w [] w':=h.drop (by simp[bl])
theorem zT.frame{w w':World}(h:zT qd [] w [] w')(Ls:List zG): zT qd Ls w Ls w' :=
 ⟨h.os,h.tape,h.output,h.drawn,h.size,fun k hk _=>h.keep k hk (by simp[bl]),fun _ hb=>.inl hb⟩
theorem zT.on{L Ls:List zG}{w0 w w':World}(_h:zT qd L w0 Ls w)(e:zT qd [] w [] w'): zT qd Ls w Ls w':=e.frame Ls
theorem zU.lt{A:List Nat}{w:World}{Ls:List zG}(h:zU A w Ls){b:Nat}(hb:b∈bl Ls): b<w.heap.size:=by
 obtain⟨r,hr,p,hp,rfl⟩:=zKc.1 hb
 exact(Qt.1 (h.has r hr p hp)).1
theorem zU.frame{A:List Nat}{w w':World}{Ls:List zG}(h:zU A w Ls)(e:zT qd [] w [] w'): zU A w' Ls :=
 ⟨fun b hb=>Uk (h.old b hb) e.size,fun r hr p hp=>by
  rw[e.keep p.1 (Qt.1 (h.has r hr p hp)).1 (by simp[bl])];exact h.has r hr p hp,h.nodup,h.apart⟩
theorem zU.sub{A:List Nat}{w:World}{Ls:List zG}(h:zU A w Ls): zU (bl Ls++A) w [] :=
 ⟨fun b hb=>by rcases Qd.1 hb with h1 | h1;exact h.lt h1;exact h.old b h1,by simp,by simp[bl],by simp[bl]⟩
theorem zU.start{A:List Nat}{w:World}(h:∀ b∈A,b<w.heap.size): zU A w []:=⟨h,by simp,by simp[bl],by simp[bl]⟩
theorem zU.alloc{A:List Nat}{w w':World}{Ls:List zG}(h:zU A w Ls)(o:Obj)(hw:w'.heap=(w.alloc o).heap): zU A w' (Ls++[[(w.heap.size,o)]]):=by
 have hn:w.heap.size∉bl Ls:=fun hm=>Wp _ (h.lt hm)
 refine⟨fun b hb=>?_,fun r hr p hp=>?_,?_,fun b hb=>?_⟩
 ·rw[hw];have:=h.old b hb;simp;omega
 ·rcases Qd.1 hr with h1 | h1
  ·rw[hw,Below.heap_alloc w o p.1 (Qt.1 (h.has r h1 p hp)).1];exact h.has r h1 p hp
  ·simp only[Qa] at h1
   subst h1
   simp only[Qa] at hp
   subst hp
   rw[hw];show(w.heap.push o)[w.heap.size]?=some o;simp
 ·rw[zDD]
  refine QK.2 ⟨h.nodup,by simp[bl],fun x hx y hy=>?_⟩
  grind [bl]
 ·rw[zDD] at hb
  rcases Qd.1 hb with h1 | h1
  ·exact h.apart b h1
  ·simp[bl] at h1
   subst h1
   exact fun hA=>Wp _ (h.old _ hA)
theorem zT.alloc{w w':World}(Ls:List zG)(o:Obj)(hw:w'.heap=(w.alloc o).heap)(ho:w'.os=w.os)(ht:w'.tape=w.tape)(hp:w'.output=w.output)(hd:qd->w.drawn≤w'.drawn:=by first | exact fun _=>Qr _ | exact fun _=>Nat.le_succ _): zT qd Ls w (Ls++[[(w.heap.size,o)]]) w' :=
 ⟨ho,ht,hp,hd,by rw[hw];simp,fun k hk _=>by grind [Below.heap_alloc],fun b hb=>by
  grind [zDD,bl]⟩
theorem z2j{α:Type}{l:List α}{i:Nat}{x y:α}(h:y∈l.set i x): y=x∨∃ j,j≠i∧l[j]?=some y:=by grind [List.mem_iff_getElem?]
theorem zCk{Ls:List zG}{i:Nat}{r:zG}(hr:Ls[i]?=some r){p:Nat×Obj}(hp:p∈r): p.1∈bl Ls :=
 zKc.2 ⟨r,Qn.2 ⟨i,hr⟩,p,hp,rfl⟩
theorem zF5{Ls:List zG}(h:(bl Ls).Nodup): ∀ {i j:Nat} {r s:zG},Ls[i]?=some r->Ls[j]?=some s->i≠j->∀ p∈r,∀ q∈s,p.1≠q.1:=by
 induction Ls with
 | nil=>grind
 | cons t ts ih =>
  simp only[bl] at h
  obtain⟨h1,h2,h3⟩:=QK.1 h
  intro i j r s hi hj hij p hp q hq e
  cases i with
  | zero =>
   cases j with
   | zero=>grind
   | succ j =>
    simp only[UI,Qf] at hi
    simp only[Uh] at hj
    subst hi
    exact h3 p.1 (Qj.2 ⟨p,hp,rfl⟩) q.1 (zCk hj hq) e
  | succ i =>
   simp only[Uh] at hi
   cases j with
   | zero =>
    simp only[UI,Qf] at hj
    subst hj
    exact h3 q.1 (Qj.2 ⟨q,hq,rfl⟩) p.1 (zCk hi hp) e.symm
   | succ j =>
    grind
theorem zGA{Ls:List zG}{i:Nat}{r':zG}{b:Nat}(h:b∈bl (Ls.set i r')): (∃ p∈r',p.1=b)∨∃ j s,j≠i∧Ls[j]?=some s∧∃ p∈s,p.1=b:=by
 obtain⟨s,hs,p,hp,rfl⟩:=zKc.1 h
 rcases z2j hs with rfl | ⟨j,hj,hl⟩
 ·grind
 grind
theorem zXV:∀ {Ls:List zG} {i:Nat} {r':zG},(bl Ls).Nodup->(r'.map Prod.fst).Nodup->(∀ j s,j≠i->Ls[j]?=some s->∀ p∈r',∀ q∈s,p.1≠q.1)->(bl (Ls.set i r')).Nodup
 | [],i,r',h,_,_=>by grind
 | t::ts,0,r',h,hr,ha=>by
  simp only[bl] at h
  obtain⟨h1,h2,h3⟩:=QK.1 h
  simp only[List.set_cons_zero,bl]
  refine QK.2 ⟨hr,h2,fun x hx y hy e=>?_⟩
  obtain⟨p,hp,rfl⟩:=Qj.1 hx
  obtain⟨s,hs,q,hq,rfl⟩:=zKc.1 hy
  grind [List.mem_iff_getElem?]
 | t::ts,i+1,r',h,hr,ha=>by
  simp only[bl] at h
  obtain⟨h1,h2,h3⟩:=QK.1 h
  simp only[List.set_cons_succ,bl]
  refine QK.2 ⟨h1,zXV h2 hr (fun j s hj hs=>ha (j+1) s (by omega) (by grind)),fun x hx y hy e=>?_⟩
  obtain⟨p,hp,rfl⟩:=Qj.1 hx
  rcases zGA hy with⟨q,hq,rfl⟩ | ⟨j,s,hj,hs,q,hq,rfl⟩
  ·exact ha 0 t (by omega) rfl q hq p hp e.symm
  ·exact h3 p.1 (Qj.2 ⟨p,hp,rfl⟩) q.1 (zCk hs hq) e
theorem zU.set{A:List Nat}{w w':World}{Ls:List zG}(h:zU A w Ls){i:Nat}{r r':zG}(hr:Ls[i]?=some r)
  (hsz:w.heap.size≤w'.heap.size) (hk:∀ k,k<w.heap.size->k∉r.map Prod.fst->w'.heap[k]?=w.heap[k]?)
  (hh:∀ p∈r',w'.heap[p.1]?=some p.2) (hn:(r'.map Prod.fst).Nodup) (hf:∀ p∈r',p.1∈r.map Prod.fst∨w.heap.size≤p.1):zU A w' (Ls.set i r'):=by
 refine⟨fun b hb=>Uk (h.old b hb) hsz,fun s hs p hp=>?_,zXV h.nodup hn fun j s hj hs p hp q hq e=>?_,fun b hb=>?_⟩
 ·rcases z2j hs with rfl | ⟨j,hj,hl⟩
  ·grind
  ·have hmem:=Qn.2 ⟨j,hl⟩
   have h1:=h.has s hmem p hp
   rw[hk p.1 (Qt.1 h1).1 (fun hm=>by
    obtain⟨q,hq,he⟩:=Qj.1 hm
    exact zF5 h.nodup hr hl (fun e=>hj e.symm) q hq p hp he)]
   exact h1
 ·have h1:=h.has s (Qn.2 ⟨j,hs⟩) q hq
  have hlt:=(Qt.1 h1).1
  rcases hf p hp with h2 | h2
  ·obtain⟨u,hu,he⟩:=Qj.1 h2
   exact zF5 h.nodup hr hs (fun e=>hj e.symm) u hu q hq (he.trans e)
  ·omega
 ·rcases zGA hb with⟨p,hp,rfl⟩ | ⟨j,s,hj,hs,p,hp,rfl⟩
  ·rcases hf p hp with h2 | h2
   ·obtain⟨u,hu,he⟩:=Qj.1 h2
    rw[←he];exact h.apart _ (zCk hr hu)
   ·intro hA;have:=h.old _ hA;omega
  ·exact h.apart _ (zCk hs hp)
theorem zT.set{w w':World}{Ls:List zG}{i:Nat}{r r':zG}(hr:Ls[i]?=some r)(ho:w'.os=w.os)(ht:w'.tape=w.tape)(hp:w'.output=w.output)
  (hsz:w.heap.size≤w'.heap.size) (hk:∀ k,k<w.heap.size->k∉r.map Prod.fst->w'.heap[k]?=w.heap[k]?)
  (hf:∀ p∈r',p.1∈r.map Prod.fst∨w.heap.size≤p.1) (hd:qd->w.drawn≤w'.drawn:=by first | exact fun _=>Qr _ | exact fun _=>Nat.le_succ _):zT qd Ls w (Ls.set i r') w':=by
 refine⟨ho,ht,hp,hd,hsz,fun k hk1 hk2=>hk k hk1 (fun hm=>hk2 ?_),fun b hb=>?_⟩
 ·obtain⟨p,hp,rfl⟩:=Qj.1 hm
  exact zCk hr hp
 ·rcases zGA hb with⟨p,hp,rfl⟩ | ⟨j,s,hj,hs,p,hp,rfl⟩
  ·rcases hf p hp with h2 | h2
   ·obtain⟨u,hu,he⟩:=Qj.1 h2
    grind [zCk]
   grind
  grind [zCk]
structure wU (Z:List Nat)(w:World)(Z':List Nat)(w':World): Prop where
 size:w.heap.size≤w'.heap.size
 same:∀ k,k<w.heap.size->k∉Z->k∉Z'∧w'.heap[k]?=w.heap[k]?
theorem zT.step{Ls Ls':List zG}{w w':World}(h:zT qd Ls w Ls' w')(A:List Nat): wU (bl Ls++A) w (bl Ls'++A) w' :=
 ⟨h.size,fun k hk hn=>by
  have h1:k∉A:=fun hm=>hn (Qd.2 (.inr hm))
  have h2:k∉bl Ls:=fun hm=>hn (Qd.2 (.inl hm))
  refine⟨fun hm=>?_,h.keep k hk h2⟩
  rcases Qd.1 hm with h3 | h3
  ·rcases h.fresh k h3 with h4 | h4
   ·exact h2 h4
   ·omega
  grind⟩
theorem wU.less{Z Z':List Nat}(w:World)(h:∀ b∈Z',b∈Z): wU Z w Z' w:=⟨Qr _,fun k _ hn=>⟨fun hm=>hn (h k hm),rfl⟩⟩
structure E (τ:Type) where
 n:Nat
 rd:List Nat->World->List Value->τ->Prop
 len:∀ {Z w cs x},rd Z w cs x->cs.length=n
 step:∀ {Z w Z' w' cs x},wU Z w Z' w'->rd Z w cs x->rd Z' w' cs x
 one:∀ {Z w cs x},rd Z w cs x->∀ c∈cs,c.oneCell'=true
def zH (k:IntKind): E Int:=⟨1,fun _ _ cs x=>cs=[.int k x],by grind,by grind,by rintro _ _ _ _ rfl c hc;simp at hc;subst hc;rfl⟩
def zYO:E Bool:=⟨1,fun _ _ cs x=>cs=[.bool x],by grind,by grind,by rintro _ _ _ _ rfl c hc;simp at hc;subst hc;rfl⟩
def qX:E zD:=⟨1,fun _ _ cs x=>cs=[vs x],by grind,by grind,by rintro _ _ _ _ rfl c hc;simp at hc;subst hc;rfl⟩
def z5a:E Unit:=⟨0,fun _ _ cs _=>cs=[],by grind,by grind,by grind⟩
def wJ{α β:Type}(e:E α)(f:E β): E (α×β) :=
 ⟨e.n+f.n,fun Z w cs x=>∃ c1 c2,cs=c1++c2∧e.rd Z w c1 x.1∧f.rd Z w c2 x.2,
  by rintro _ _ _ _ ⟨c1,c2,rfl,h1,h2⟩;simp[e.len h1,f.len h2],
  by rintro _ _ _ _ _ _ s ⟨c1,c2,rfl,h1,h2⟩;exact⟨c1,c2,rfl,e.step s h1,f.step s h2⟩,
  by
  rintro _ _ _ _ ⟨c1,c2,rfl,h1,h2⟩ c hc
  rcases Qd.1 hc with h | h
  ·exact e.one h1 c h
  ·exact f.one h2 c h⟩
section
variable {τ:Type}(e:E τ)
def E.rdL (Z:List Nat)(w:World): List Value->List τ->Prop
 | cs,[]=>cs=[]
 | cs,x::l=>∃ c1 c2,cs=c1++c2∧e.rd Z w c1 x∧E.rdL Z w c2 l
theorem E.rdL_len{Z:List Nat}{w:World}: ∀ {l:List τ} {cs:List Value},e.rdL Z w cs l->cs.length=l.length*e.n
 | [],cs,h=>by simp only[E.rdL] at h;simp[h]
 | x::l,cs,h=>by
  obtain⟨c1,c2,rfl,h1,h2⟩:=h
  simp only[Qh,e.len h1,E.rdL_len h2,QI,QP,Nat.one_mul]
  omega
theorem E.rdL_step{Z Z':List Nat}{w w':World}(s:wU Z w Z' w'): ∀ {l:List τ} {cs:List Value},e.rdL Z w cs l->e.rdL Z' w' cs l
 | [],cs,h=>h
 | x::l,cs,h=>by obtain⟨c1,c2,rfl,h1,h2⟩:=h;exact⟨c1,c2,rfl,e.step s h1,E.rdL_step s h2⟩
theorem E.rdL_one{Z:List Nat}{w:World}: ∀ {l:List τ} {cs:List Value},e.rdL Z w cs l->∀ c∈cs,c.oneCell'=true
 | [],cs,h=>by grind [E.rdL]
 | x::l,cs,h=>by
  obtain⟨c1,c2,rfl,h1,h2⟩:=h
  intro c hc
  rcases Qd.1 hc with h | h
  ·exact e.one h1 c h
  ·exact E.rdL_one h2 c h
theorem E.rdL_append{Z:List Nat}{w:World}: ∀ {l m:List τ} {cs ds:List Value},e.rdL Z w cs l->e.rdL Z w ds m->e.rdL Z w (cs++ds) (l++m)
 | [],m,cs,ds,h,k=>by simp only[E.rdL] at h;subst h;simpa using k
 | x::l,m,cs,ds,h,k=>by
  obtain⟨c1,c2,rfl,h1,h2⟩:=h
  exact⟨c1,c2++ds,by simp,h1,E.rdL_append h2 k⟩
theorem E.rdL_one_elem{Z:List Nat}{w:World}{x:τ}{cs:List Value}(h:e.rd Z w cs x): e.rdL Z w cs [x]:=⟨cs,[],by simp,h,rfl⟩
theorem E.rdL_get{Z:List Nat}{w:World}: ∀ {l:List τ} {cs:List Value} {i:Nat} {x:τ},e.rdL Z w cs l->l[i]?=some x->∃ ci,e.rd Z w ci x∧∀ j u,ci[j]?=some u->cs[i*e.n+j]?=some u
 | [],cs,i,x,h,hx=>by simp at hx
 | y::l,cs,0,x,h,hx=>by
  obtain⟨c1,c2,rfl,h1,h2⟩:=h
  grind
 | y::l,cs,i+1,x,h,hx=>by
  obtain⟨c1,c2,rfl,h1,h2⟩:=h
  simp only[Uh] at hx
  obtain⟨ci,k1,k2⟩:=E.rdL_get h2 hx
  refine⟨ci,k1,fun j u hu=>?_⟩
  have:=k2 j u hu
  have hl:=e.len h1
  grind
theorem E.rdL_take{Z:List Nat}{w:World}: ∀ {l:List τ} {cs:List Value} (k:Nat),e.rdL Z w cs l->e.rdL Z w (cs.take (k*e.n)) (l.take k)
 | [],cs,k,h=>by simp only[E.rdL] at h;simp[h,E.rdL]
 | y::l,cs,0,h=>by simp[E.rdL]
 | y::l,cs,k+1,h=>by
  obtain⟨c1,c2,rfl,h1,h2⟩:=h
  have hl:=e.len h1
  refine⟨c1,c2.take (k*e.n),?_,h1,E.rdL_take k h2⟩
  grind [Nat.add_mul]
theorem E.rdL_drop{Z:List Nat}{w:World}: ∀ {l:List τ} {cs:List Value} (k:Nat),e.rdL Z w cs l->e.rdL Z w (cs.drop (k*e.n)) (l.drop k)
 | [],cs,k,h=>by simp only[E.rdL] at h;simp[h,E.rdL]
 | y::l,cs,0,h=>by grind
 | y::l,cs,k+1,h=>by
  obtain⟨c1,c2,rfl,h1,h2⟩:=h
  have hl:=e.len h1
  have:=E.rdL_drop k h2
  rw[show(k+1)*e.n=c1.length+k*e.n by grind]
  rw[U5,QZ (by omega)];grind
def xN (Z:List Nat)(w:World)(p:Option Addr)(c:Nat)(l:List τ): Prop :=
 l.length≤c∧(l=[]∨∃ b off cs,p=some ⟨b,off,none⟩∧b∉Z∧b<w.heap.size∧e.rdL Z w cs l∧∀ j u,cs[j]?=some u->w.cell? ⟨b,off+j,none⟩=some u)
theorem xN.step{Z Z':List Nat}{w w':World}{p:Option Addr}{c:Nat}{l:List τ}(s:wU Z w Z' w')(h:xN e Z w p c l): xN e Z' w' p c l:=by
 refine⟨h.1,h.2.imp id ?_⟩
 rintro ⟨b,off,cs,rfl,hb,hlt,hl,hc⟩
 obtain⟨h1,h2⟩:=s.same b hlt hb
 exact⟨b,off,cs,rfl,h1,Uk hlt s.size,e.rdL_step s hl,fun j u hu=>by grind [World.cell?_of_block]⟩
theorem xN.nil (Z:List Nat)(w:World)(p:Option Addr)(c:Nat): xN e Z w p c []:=⟨Ut _,.inl rfl⟩
def tT (Z:List Nat)(w:World)(ad:Addr)(x:τ): Prop :=
 ∃ b o ci,ad=⟨b,o,none⟩∧b∉Z∧b<w.heap.size∧e.rd Z w ci x∧∀ j u,ci[j]?=some u->w.cell? ⟨b,o+j,none⟩=some u
theorem tT.step{Z Z':List Nat}{w w':World}{ad:Addr}{x:τ}(s:wU Z w Z' w')(h:tT e Z w ad x): tT e Z' w' ad x:=by
 obtain⟨b,o,ci,rfl,hb,hlt,hx,hc⟩:=h
 obtain⟨h1,h2⟩:=s.same b hlt hb
 exact⟨b,o,ci,rfl,h1,Uk hlt s.size,e.step s hx,fun j u hu=>by grind [World.cell?_of_block]⟩
end
def zX{τ:Type}(e:E τ): E (List τ) :=
 ⟨1,fun Z w cs l=>∃ p c,cs=[.slice p l.length c]∧xN e Z w p c l,
  by grind,
  by rintro _ _ _ _ _ _ s ⟨p,c,rfl,h⟩;exact⟨p,c,rfl,h.step e s⟩,
  by rintro _ _ _ _ ⟨p,c,rfl,h⟩ d hd;simp at hd;subst hd;rfl⟩
theorem zH.mk{k:IntKind}{Z:List Nat}{w:World}{x:Int}: (zH k).rd Z w [.int k x] x:=rfl
theorem zYO.mk{Z:List Nat}{w:World}{x:Bool}: zYO.rd Z w [vb x] x:=rfl
theorem qX.mk{Z:List Nat}{w:World}{x:zD}: qX.rd Z w [vs x] x:=rfl
theorem z5a.mk{Z:List Nat}{w:World}{x:Unit}: z5a.rd Z w [] x:=rfl
theorem wJ.mk{α β:Type}{e:E α}{f:E β}{Z:List Nat}{w:World}{c1 c2:List Value}{x:α}{y:β}(h1:e.rd Z w c1 x)(h2:f.rd Z w c2 y): (wJ e f).rd Z w (c1++c2) (x,y):=⟨c1,c2,rfl,h1,h2⟩
theorem zX.mk{τ:Type}{e:E τ}{Z:List Nat}{w:World}{p:Option Addr}{c:Nat}{l:List τ}(h:xN e Z w p c l): (zX e).rd Z w [.slice p l.length c] l:=⟨p,c,rfl,h⟩
theorem tT.fst{α β:Type}{e:E α}{f:E β}{Z:List Nat}{w:World}{b o:Nat}{x:α×β}(h:tT (wJ e f) Z w ⟨b,o,none⟩ x): tT e Z w ⟨b,o,none⟩ x.1:=by
 obtain⟨b',o',ci,he,hb,hlt,⟨c1,c2,rfl,h1,h2⟩,hc⟩:=h
 cases he
 exact⟨b,o,c1,rfl,hb,hlt,h1,fun j u hu=>hc j u (by grind)⟩
theorem tT.snd{α β:Type}{e:E α}{f:E β}{Z:List Nat}{w:World}{b o:Nat}{x:α×β}(h:tT (wJ e f) Z w ⟨b,o,none⟩ x): tT f Z w ⟨b,o+e.n,none⟩ x.2:=by
 obtain⟨b',o',ci,he,hb,hlt,⟨c1,c2,rfl,h1,h2⟩,hc⟩:=h
 cases he
 refine⟨b,o+e.n,c2,rfl,hb,hlt,h2,fun j u hu=>?_⟩
 have hl:=e.len h1
 rw[UZ]
 refine hc (e.n+j) u ?_
 grind
theorem xN.mv{τ:Type}{e:E τ}{Z Z':List Nat}{w w':World}{p:Option Addr}{c:Nat}{l:List τ}(h:xN e Z w p c l)(s:wU Z w Z' w'): xN e Z' w' p c l:=h.step e s
theorem tT.mv{τ:Type}{e:E τ}{Z Z':List Nat}{w w':World}{ad:Addr}{x:τ}(h:tT e Z w ad x)(s:wU Z w Z' w'): tT e Z' w' ad x:=h.step e s
theorem wU.right (B A:List Nat)(w:World): wU (B++A) w A w:=by grind [wU.less]
theorem z2i{Ls:List zG}{k b:Nat}(h:b∈bl (Ls.take k)): b∈bl Ls:=by
 obtain⟨r,hr,p,hp,rfl⟩:=zKc.1 h
 exact zKc.2 ⟨r,UH hr,p,hp,rfl⟩
theorem zU.take{A:List Nat}{w:World}{Ls:List zG}(h:zU A w Ls)(k:Nat): zU A w (Ls.take k):=by
 refine⟨h.old,fun r hr=>h.has r (UH hr),?_,fun b hb=>h.apart b (z2i hb)⟩
 have:bl Ls=bl (Ls.take k)++bl (Ls.drop k):=by rw[←zDD,QT]
 have hn:=h.nodup
 grind
theorem zT.take{L:List zG}{w w':World}{Ls:List zG}(h:zT qd L w Ls w')(k:Nat): zT qd L w (Ls.take k) w':=h.drop fun _ hb=>z2i hb
theorem wU.take (Ls:List zG)(k:Nat)(A:List Nat)(w:World): wU (bl Ls++A) w (bl (Ls.take k)++A) w:=wU.less w fun b hb=>by
 grind [z2i]
theorem z87{Ls:List zG}{i:Nat}{r:zG}(hr:Ls[i]?=some r)(A:List Nat): ∀ b∈bl [r]++(bl (Ls.set i [])++A),b∈bl Ls++A:=by
 intro b hb
 rcases Qd.1 hb with h | h
 ·obtain⟨s,hs,p,hp,rfl⟩:=zKc.1 h
  grind [zCk]
 ·rcases Qd.1 h with h | h
  ·rcases zGA h with⟨p,hp,_⟩ | ⟨j,s,_,hs,p,hp,rfl⟩
   ·cases hp
   grind [zCk]
  grind
theorem zU.pick{A:List Nat}{w:World}{Ls:List zG}(h:zU A w Ls)(i:Nat){r:zG}(hr:Ls[i]?=some r): zU (bl (Ls.set i [])++A) w [r]:=by
 have hmem:=Qn.2 ⟨i,hr⟩
 refine⟨fun b hb=>?_,fun s hs p hp=>?_,?_,fun b hb hA=>?_⟩
 ·rcases Qd.1 hb with h1 | h1
  ·rcases zGA h1 with⟨p,hp,_⟩ | ⟨j,s,_,hs,p,hp,rfl⟩
   ·cases hp
   ·exact h.lt (zCk hs hp)
  ·exact h.old b h1
 ·simp only[Qa] at hs
  subst hs
  exact h.has _ hmem p hp
 ·have key:∀ {Ls:List zG} {i:Nat},(bl Ls).Nodup->Ls[i]?=some r->(r.map Prod.fst).Nodup:=by
   intro Ls
   induction Ls with
   | nil=>grind
   | cons t ts ih =>
    grind [bl]
  simpa [bl] using key h.nodup hr
 ·obtain⟨s,hs,p,hp,rfl⟩:=zKc.1 hb
  simp only[Qa] at hs
  subst hs
  rcases Qd.1 hA with h1 | h1
  ·rcases zGA h1 with⟨q,hq,_⟩ | ⟨j,t,hj,ht,q,hq,he⟩
   ·cases hq
   ·exact zF5 h.nodup hr ht (fun e=>hj e.symm) p hp q hq he.symm
  ·exact h.apart _ (zCk hr hp) h1
theorem wU.pick{Ls:List zG}{i:Nat}{r:zG}(hr:Ls[i]?=some r)(A:List Nat)(w:World): wU (bl Ls++A) w (bl [r]++(bl (Ls.set i [])++A)) w:=wU.less w (z87 hr A)
theorem zXP{r:zG}: bl [r]=r.map Prod.fst:=by simp[bl]
theorem zU.put{A:List Nat}{w w':World}{Ls:List zG}(h:zU A w Ls){i:Nat}{r r':zG}(hr:Ls[i]?=some r)(ho:zU (bl (Ls.set i [])++A) w' [r'])(e:zT qd [r] w [r'] w'): zU A w' (Ls.set i r'):=by
 refine h.set hr e.size (fun k hk hn=>e.keep k hk (by rw[zXP];exact hn)) (ho.has r' (Qa.2 rfl)) (by simpa [bl] using ho.nodup) (fun p hp=>?_)
 have:=e.fresh p.1 (by rw[zXP];grind)
 rwa [zXP] at this
theorem zT.put{w w':World}{Ls:List zG}{i:Nat}{r r':zG}(hr:Ls[i]?=some r)(e:zT qd [r] w [r'] w'): zT qd Ls w (Ls.set i r') w' :=
 zT.set hr e.os e.tape e.output e.size (fun k hk hn=>e.keep k hk (by rw[zXP];exact hn)) (fun p hp=>by
  have:=e.fresh p.1 (by rw[zXP];grind)
  rwa [zXP] at this) e.drawn
theorem wU.put{Ls:List zG}{i:Nat}{r':zG}(A:List Nat)(w:World): wU (bl [r']++(bl (Ls.set i [])++A)) w (bl (Ls.set i r')++A) w:=wU.less w fun b hb=>by
 rcases Qd.1 hb with h | h
 ·rcases zGA h with⟨p,hp,rfl⟩ | ⟨j,s,hj,hs,p,hp,rfl⟩
  ·exact Qd.2 (.inl (by rw[zXP];grind))
  ·refine Qd.2 (.inr (Qd.2 (.inl (zCk (i:=j) ?_ hp))))
   grind
 grind
theorem xQ{α β:Type}{m:Option α}{f:α->Option β}{o:β}(h:m.bind f=some o): ∃ x,m=some x∧f x=some o:=by
 cases m with
 | none=>cases h
 | some x=>grind
theorem ifT{α:Type}{b:Bool}{x y o:α}(hb:b=true)(h:(if b=true then x else y)=o): x=o:=by grind
theorem ifF{α:Type}{b:Bool}{x y o:α}(hb:b=false)(h:(if b=true then x else y)=o): y=o:=by grind
end Go.GD
