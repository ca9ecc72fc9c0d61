/- A part. Conditions: none. -/
import Derived.Test.YtmpieaddiaihmaaGreatDoorDraw
namespace Go.GD
open Go Go.RowKit
set_option autoImplicit false
variable {qd:Prop}
def wJ{τ:Type}(e:E τ)(t:TypeId)(Z:List Nat)(w:World)(r:zJ)(p:Option Addr)(c:Nat)(l:List τ): Prop :=
 (r=[]∧p=none∧c=0∧l=[]) ∨
 ∃ b o cells,r=[(b,.cells cells t (0,0))]∧p=some ⟨b,o,none⟩∧l.length≤c∧c≤maxLen∧o+c*e.n≤cells.size∧e.rdL Z w ((cells.toList.drop o).take (l.length*e.n)) l
def Src{τ:Type}(e:E τ)(Z:List Nat)(w:World)(p:Option Addr)(l:List τ): Prop :=
 l=[]∨∃ b off cs,p=some ⟨b,off,none⟩∧e.rdL Z w cs l∧∀ j u,cs[j]?=some u->w.cell? ⟨b,off+j,none⟩=some u
section
variable {τ:Type}{e:E τ}{t:TypeId}{Z Z':List Nat}{w w':World}{r:zJ}{p:Option Addr}{c:Nat}{l:List τ}{A:List Nat}{Ls:List zJ}
theorem wJ.mv (h:wJ e t Z w r p c l)(s:vN Z w Z' w'): wJ e t Z' w' r p c l:=by
 rcases h with h | ⟨b,o,cells,h1,h2,h3,h4,h5,h6⟩
 ·exact .inl h
 ·exact .inr ⟨b,o,cells,h1,h2,h3,h4,h5,e.rdL_step s h6⟩
theorem wJ.mk0 (b:Nat)(cells:Array Value)(h1:r=[(b,.cells cells t (0,0))])(h2:p=some ⟨b,0,none⟩)(h3:l.length≤c)(h4:c≤maxLen)(h5:cells.size=c*e.n)(h6:e.rdL Z w (cells.toList.take (l.length*e.n)) l): wJ e t Z w r p c l :=
 .inr ⟨b,0,cells,h1,h2,h3,h4,by grind,h6⟩
theorem wJ.nil:wJ e t Z w [] none 0 []:=.inl ⟨rfl,rfl,rfl,rfl⟩
theorem uY.src (h:uY e Z w p c l): Src e Z w p l:=by grind [uY,Src]
theorem wJ.src (h:wJ e t Z w r p c l)(hO:zZ A w Ls){i:Nat}(hr:Ls[i]?=some r): Src e Z w p l:=by
 rcases h with⟨_,_,_,h⟩ | ⟨b,o,cells,rfl,rfl,h3,h4,h5,h6⟩
 ·exact .inl h
 ·refine .inr ⟨b,o,_,rfl,h6,fun j u hu=>?_⟩
  have hb:=xN hO hr (Qa.2 rfl)
  grind [cell_of_row]
theorem z9m{i:Nat}: ∀ b∈bl (Ls.set i [])++A,b∈bl Ls++A:=by
 intro b hb
 rcases Qb.1 hb with h | h
 ·rcases zFo h with⟨p,hp,_⟩ | ⟨j,s,_,hs,p,hp,rfl⟩
  ·cases hp
  grind [zCS]
 grind
theorem vN.dropped (i:Nat)(Ls:List zJ)(A:List Nat)(w:World): vN (bl Ls++A) w (bl (Ls.set i [])++A) w:=vN.less w z9m
theorem zZ.dropped (hO:zZ A w Ls)(i:Nat): zZ A w (Ls.set i []):=by
 cases hr:Ls[i]? with
 | none =>
  grind [List.set_eq_of_length_le]
 | some r=>exact hO.set hr (Qs _) (fun _ _ _=>rfl) (by simp) (by simp) (by simp)
theorem zU.dropped{L:List zJ}{w0:World}(h:zU qd L w0 Ls w)(i:Nat): zU qd L w0 (Ls.set i []) w:=h.drop fun b hb=>by
 rcases zFo hb with⟨p,hp,_⟩ | ⟨j,s,_,hs,p,hp,rfl⟩
 ·cases hp
 ·exact zCS hs hp
theorem wJ.share (h:wJ e t (bl Ls++A) w r p c l)(hO:zZ A w Ls){i:Nat}(hr:Ls[i]?=some r): uY e (bl (Ls.set i [])++A) w p c l:=by
 rcases h with⟨_,_,_,rfl⟩ | ⟨b,o,cells,rfl,rfl,h3,h4,h5,h6⟩
 ·exact⟨Ur _,.inl rfl⟩
 ·have hb:=xN hO hr (Qa.2 rfl)
  refine⟨h3,.inr ⟨b,o,_,rfl,fun hm=>?_,(Qq.1 hb).1,e.rdL_step (vN.dropped i Ls A w) h6,fun j u hu=>?_⟩⟩
  ·rcases Qb.1 hm with hm | hm
   ·rcases zFo hm with⟨q,hq,_⟩ | ⟨j,s,hj,hs,q,hq,he⟩
    ·cases hq
    ·exact zEV hO.nodup hr hs (fun e=>hj e.symm) _ (Qa.2 rfl) q hq he.symm
   ·exact hO.apart b (zCS hr (Qa.2 rfl)) hm
  grind [cell_of_row]
theorem zZ.room (hO:zZ A w Ls): zZ A w (Ls++[[]]) :=
 ⟨hO.old,fun s hs p hp=>(by rcases Qb.1 hs with h | h;exact hO.has s h p hp;grind),(by rw[zCi];simpa [bl] using hO.nodup),fun b hb=>(by
  rw[zCi] at hb;simp[bl] at hb;exact hO.apart b hb)⟩
theorem zU.room (Ls:List zJ)(w:World): zU qd Ls w (Ls++[[]]) w :=
 ⟨rfl,rfl,rfl,fun _=>Qs _,Qs _,fun _ _ _=>rfl,fun b hb=>by grind [zCi,bl]⟩
end
def yS (P:Program)(t te n:Nat): Bool :=
 match P.underlying t with
 | some (.slice e')=>e'==te&&match P.info? te with
  | some i=>i.size==n&&Nat.ble i.bytes 32768&&Nat.ble 1 n&&match i.zero with
   | some z=>z.cells.size==n
   | none=>false
  | none=>false
 | _=>false
theorem zJT{P:Program}{t te n:Nat}(h:yS P t te n=true):
  P.underlying t=some (.slice te)∧∃ i z,P.info? te=some i∧i.zero=some z∧i.size=n∧i.bytes≤32768∧0<n∧z.cells.size=n:=by
 unfold yS at h
 split at h
 ·rename_i e' hu
  simp only[Qw,Q9] at h
  obtain⟨rfl,h⟩:=h
  split at h
  ·rename_i i hi
   simp only[Qw,Q9] at h
   obtain⟨⟨⟨h1,h2⟩,h3⟩,h4⟩:=h
   split at h4
   ·rename_i z hz
    exact⟨hu,i,z,hi,hz,h1,QW h2,QW h3,by grind⟩
   ·cases h4
  ·cases h
 ·cases h
section
variable {P:Program}{ops:Array Oper}{Q:Exit->Act->World->Prop}{a:Act}{n:Nat}{S:List (Nat×Value)}{w:World}{K:Act->World->Prop}
variable {A:List Nat}{Ls:List zJ}{d:Nat}{ty:TypeId}{pos:String}{af:Array Edge}{g:Option (Nat×Bool)}
theorem zQe{t te:Nat}{s:Option Addr}{m c k:Nat}{q:Option Addr}{rty:TypeId}(hu:P.underlying t=some (.slice te)){i:TypeInfo}(hi:P.info? te=some i)(hm:m≤c):
  (Builtin.append_ #[t,t] rty #[.slice s m c,.slice q 0 k]).run P w=.ok (.slice s m c) w:=by
 have hf:(Builtin.firstCells i.size 0 (.slice q 0 k)).run P w=.ok #[] w:=by
  cases q with
  | none=>rfl
  | some b=>simp[Builtin.firstCells,loadCells,loadCellsFrom]
 cases s <;> simp[Builtin.append_,run_underlying hu,sizeOf,typeInfo,hi,Builtin.lenOf,hm,hf,storeCells]
theorem zUT (w:World)(t ty e:TypeId)(i:TypeInfo)(ht:P.underlying t=some (.slice e))(hi:P.info? e=some i)
  (g o sLen sCap:Nat) (cur:Array Value) (hg:w.heap[g]?=some (.cells cur e (0,0)))
  (a:Addr) (m c:Nat) (news:List Value) (hl:news.length=m*i.size) (hnews:∀ j u,news[j]?=some u->w.cell? (a.add j)=some u) (h1:∀ u∈news,u.oneCell'=true)
  (hroom:sLen+m≤sCap) (hfit:o+sLen*i.size+news.length≤cur.size) :
  (Builtin.append_ #[t,t] ty #[.slice (some ⟨g,o,none⟩) sLen sCap,.slice (some a) m c]).run P w =
   .ok (.slice (some ⟨g,o,none⟩) (sLen+m) sCap) (w.setRow g (cur.toList.take (o+sLen*i.size)++news++cur.toList.drop (o+sLen*i.size+news.length)).toArray):=by
 have hf:=run_firstCells_some (P:=P) w i.size m a m c news hl hnews
 have hst:=run_storeCells_at P g (o+sLen*i.size) e news 0 cur w hg (by grind) h1
 simp only[QM] at hst
 simp[Builtin.append_,run_underlying ht,sizeOf,typeInfo,hi,Builtin.lenOf,hroom,hf,Addr.add_lit,hst]
theorem zU4{α:Type}(c:List α)(o m:Nat)(v:List α)(h:o+m≤c.length): ((c.take (o+m)++v++c.drop (o+m+v.length)).drop o).take (m+v.length)=(c.drop o).take m++v:=by
 rw[QE,U3 (by grind),Uw,Ui,←QE]
 grind
theorem app_lt{α:Type}{l m z:List α}(h:qD l m=some z): l.length+m.length<4294967296∧z=l++m:=by grind [qD]
theorem zZI{τ:Type}{e:E τ}{t te:Nat}{r:zJ}{p q:Option Addr}{c k i:Nat}{l m z:List τ}(hO:zZ A w Ls)(hr:Ls[i]?=some r)(hA:wJ e te (bl Ls++A) w r p c l)
  (hR:Src e (bl Ls++A) w q m) (ht:yS P t te e.n=true) (hm:qD l m=some z) (rty:TypeId) :
  ∃ r' p' c' w',(Builtin.append_ #[t,t] rty #[.slice p l.length c,.slice q m.length k]).run P w=.ok (.slice p' z.length c') w' ∧
   zZ A w' (Ls.set i r')∧zU qd Ls w (Ls.set i r') w'∧wJ e te (bl (Ls.set i r')++A) w' r' p' c' z:=by
 obtain⟨hsm,rfl⟩:=app_lt hm
 obtain⟨hu,info,zv,hi,hz,hsize,hby,hpos,hzs⟩:=zJT ht
 have hlc:l.length≤c:=by
  rcases hA with⟨_,_,_,rfl⟩ | ⟨b,o,cells,_,_,h3,_⟩
  ·grind
  ·exact h3
 by_cases hm0:m=[]
 ·subst hm0
  refine⟨r,p,c,w,by grind [zQe],?_,?_,?_⟩
  ·exact hO.set hr (Qs _) (fun _ _ _=>rfl) (fun x hx=>xN hO hr hx) (by simpa [bl] using (hO.pick i hr).nodup) (fun x hx=>.inl (Qm.2 ⟨x,hx,rfl⟩))
  ·exact zU.set hr rfl rfl rfl (Qs _) (fun _ _ _=>rfl) (fun x hx=>.inl (Qm.2 ⟨x,hx,rfl⟩))
  ·have hself:Ls.set i r=Ls:=by
    apply QN;intro j
    by_cases hj:i=j
    ·grind
    ·grind
   grind
 ·have hmpos:0<m.length:=Q2.2 hm0
  rcases hR with hR | ⟨b2,off,cs2,rfl,hcs2,hcell⟩
  ·grind
  ·have hl2:cs2.length=m.length*info.size:=by rw[e.rdL_len hcs2,hsize]
   have hnews:∀ j u,cs2[j]?=some u->w.cell? ((⟨b2,off,none⟩:Addr).add j)=some u:=fun j u hu=>by grind [tV]
   have hone:=e.rdL_one hcs2
   have hbytes:(l.length+m.length)*info.bytes≤140737488355328:=by
    have:=U0 (Nat.le_of_lt hsm) hby
    omega
   have h63:((l.length+m.length:Nat):Int)≤9223372036854775807:=by omega
   rcases hA with⟨rfl,rfl,rfl,rfl⟩ | ⟨b,o,cells,rfl,rfl,h3,h4,h5,h6⟩
   ·
    have hrun:=run_append_nil (P:=P) w t rty te info zv hu hi hz ⟨b2,off,none⟩ m.length k cs2 hl2 hnews hmpos (by omega) (by grind)
    have hge:=grownCap_ge w m.length 0 te
    have hcm:=grownCap_le_maxLen w m.length 0 te (by grind [maxLen])
    refine⟨[(w.heap.size,.cells (cs2.toArray++Builtin.zeroCells zv.cells (grownCap w m.length 0 te-m.length)) te (0,0))],_,_,_,by rw[QI];exact hrun,?_,?_,?_⟩
    ·exact hO.set hr (by simp) (fun k hk _=>Below.heap_alloc w.drew _ k hk) (fun x hx=>by simp only[Qa] at hx;subst hx;exact heap_alloc_new w.drew _) (by simp) (fun x hx=>by grind)
    ·exact zU.set hr rfl rfl rfl (by simp) (fun k hk _=>Below.heap_alloc w.drew _ k hk) (fun x hx=>by grind)
    ·have hE:zU qd Ls w (Ls.set i [(w.heap.size,.cells (cs2.toArray++Builtin.zeroCells zv.cells (grownCap w m.length 0 te-m.length)) te (0,0))]) (w.drew.alloc (.cells (cs2.toArray++Builtin.zeroCells zv.cells (grownCap w m.length 0 te-m.length)) te)) :=
      zU.set hr rfl rfl rfl (by simp) (fun k hk _=>Below.heap_alloc w.drew _ k hk) (fun x hx=>by grind)
     refine wJ.mk0 w.heap.size _ rfl rfl (by grind) hcm ?_ ?_
     ·simp only[Wj,QS,size_zeroCells,hzs,hl2,hsize,←QL]
      grind
     ·have:(cs2.toArray++Builtin.zeroCells zv.cells (grownCap w m.length 0 te-m.length)).toList.take (([]++m).length*e.n)=cs2:=by
       simp only[Array.toList_append,QI]
       rw[←hsize,←hl2];simp
      rw[this]
      exact e.rdL_step (hE.step A) (by grind)
   ·have hb:=xN hO hr (Qa.2 rfl)
    have hlo:((cells.toList.drop o).take (l.length*e.n)).length=l.length*info.size:=by rw[e.rdL_len h6,hsize]
    by_cases hroom:l.length+m.length≤c
    ·
     have hfit0:l.length*info.size+cs2.length≤c*e.n:=by rw[hl2,←QL,hsize];exact QD _ hroom
     have hfit:o+l.length*info.size+cs2.length≤cells.size:=by omega
     have hfit1:o+l.length*info.size≤cells.toList.length:=by have:=UC (xs:=cells);omega
     have hrun:=zUT (P:=P) w t rty te info hu hi b o l.length c cells hb ⟨b2,off,none⟩ m.length k cs2 hl2 hnews hone hroom hfit
     have hk:∀(cs:Array Value) (k:Nat),k<w.heap.size->k∉[(b,Obj.cells cells te (0,0))].map Prod.fst->(w.setRow b cs).heap[k]?=w.heap[k]?:=fun cs k _ hk=>setRow_other w b k _ (fun e=>hk (by simp[e]))
     refine⟨[(b,.cells (cells.toList.take (o+l.length*info.size)++cs2++cells.toList.drop (o+l.length*info.size+cs2.length)).toArray te (0,0))],_,c,_,by rw[Qh];exact hrun,?_,?_,?_⟩
     ·exact hO.set hr (by simp) (hk _) (fun x hx=>by grind [setRow_heap]) (by simp) (fun x hx=>by grind)
     ·exact zU.set hr rfl rfl rfl (by simp) (hk _) (fun x hx=>by grind)
     ·have hE:zU qd Ls w (Ls.set i [(b,.cells (cells.toList.take (o+l.length*info.size)++cs2++cells.toList.drop (o+l.length*info.size+cs2.length)).toArray te (0,0))]) (w.setRow b (cells.toList.take (o+l.length*info.size)++cs2++cells.toList.drop (o+l.length*info.size+cs2.length)).toArray) :=
       zU.set hr rfl rfl rfl (by simp) (hk _) (fun x hx=>by grind)
      refine .inr ⟨b,o,_,rfl,rfl,by grind,h4,?_,?_⟩
      ·grind
      ·have hsz:(l++m).length*e.n=l.length*info.size+cs2.length:=by
        rw[Qh,hl2,hsize,QL]
       have:((cells.toList.take (o+l.length*info.size)++cs2++cells.toList.drop (o+l.length*info.size+cs2.length)).toArray.toList.drop o).take ((l++m).length*e.n)=(cells.toList.drop o).take (l.length*e.n)++cs2:=by
        rw[hsz,zU4 _ _ _ _ hfit1,hsize]
       rw[this]
       exact e.rdL_append (e.rdL_step (hE.step A) h6) (e.rdL_step (hE.step A) hcs2)
    ·
     have holds:∀ j u,((cells.toList.drop o).take (l.length*e.n))[j]?=some u->w.cell? ((⟨b,o,none⟩:Addr).add j)=some u:=fun j u hu=>by
      grind [tV,cell_of_row]
     have hrun:=run_append_grow (P:=P) w t rty te info zv hu hi hz ⟨b,o,none⟩ l.length c _ hlo holds ⟨b2,off,none⟩ m.length k cs2 hl2 hnews (by omega) h63 (growslice_fits (by omega) hbytes)
     have hge:=grownCap_ge w (l.length+m.length) c te
     have hcm:=grownCap_le_maxLen w (l.length+m.length) c te (by grind [maxLen])
     refine⟨[(w.heap.size,.cells (((cells.toList.drop o).take (l.length*e.n)).toArray++cs2.toArray++Builtin.zeroCells zv.cells (grownCap w (l.length+m.length) c te-(l.length+m.length))) te (0,0))],_,_,_,by rw[Qh];exact hrun,?_,?_,?_⟩
     ·exact hO.set hr (by simp) (fun k hk _=>Below.heap_alloc w.drew _ k hk) (fun x hx=>by simp only[Qa] at hx;subst hx;exact heap_alloc_new w.drew _) (by simp) (fun x hx=>by grind)
     ·exact zU.set hr rfl rfl rfl (by simp) (fun k hk _=>Below.heap_alloc w.drew _ k hk) (fun x hx=>by grind)
     ·have hE:zU qd Ls w (Ls.set i [(w.heap.size,.cells (((cells.toList.drop o).take (l.length*e.n)).toArray++cs2.toArray++Builtin.zeroCells zv.cells (grownCap w (l.length+m.length) c te-(l.length+m.length))) te (0,0))]) (w.drew.alloc (.cells (((cells.toList.drop o).take (l.length*e.n)).toArray++cs2.toArray++Builtin.zeroCells zv.cells (grownCap w (l.length+m.length) c te-(l.length+m.length))) te)) :=
       zU.set hr rfl rfl rfl (by simp) (fun k hk _=>Below.heap_alloc w.drew _ k hk) (fun x hx=>by grind)
      refine wJ.mk0 w.heap.size _ rfl rfl (by grind) hcm ?_ ?_
      ·simp only[Wj,QS,size_zeroCells,hzs,hlo,hl2,hsize,←QL]
       grind
      ·have hsz:(l++m).length*e.n=((cells.toList.drop o).take (l.length*e.n)++cs2).length:=by
        rw[Qh,Qh,hlo,hl2,hsize,QL]
       have:(((cells.toList.drop o).take (l.length*e.n)).toArray++cs2.toArray++Builtin.zeroCells zv.cells (grownCap w (l.length+m.length) c te-(l.length+m.length))).toList.take ((l++m).length*e.n)=(cells.toList.drop o).take (l.length*e.n)++cs2:=by
        rw[hsz];simp only[Array.toList_append];exact U9
       rw[this]
       exact e.rdL_append (e.rdL_step (hE.step A) h6) (e.rdL_step (hE.step A) hcs2)
theorem z2D (i:Nat){τ:Type}{e:E τ}{t:TypeId}(te:TypeId){r:zJ}{p q:Option Addr}{c k:Nat}{l m z:List τ}{x y:Operand}(hS:qF a n S)(hd:Nat.blt d n=true)(hg:zR ops S g=some true)(hO:zZ A w Ls)(hr:Ls[i]?=some r)
  (hA:wJ e te (bl Ls++A) w r p c l) (hR:Src e (bl Ls++A) w q m) (hx:zL S x=some (.slice p l.length c)) (hy:zL S y=some (.slice q m.length k)) (ht:yS P t te e.n=true) (hm:qD l m=some z)
  (kk:∀ r' p' c' w',zZ A w' (Ls.set i r')->zU qd Ls w (Ls.set i r') w'->wJ e te (bl (Ls.set i r')++A) w' r' p' c' z->∀ a',qF a' n ((d,.slice p' z.length c')::S)->K a' w') :
  wU P ops Q ⟨some d,.call { callee:=.builtin .append,args:=[x,y].toArray,argTypes:=[t,t].toArray },ty,pos,af,g⟩ K a w:=by
 obtain⟨r',p',c',w',hrun,h1,h2,h3⟩:=zZI (P:=P) (k:=k) hO hr hA hR ht hm ty
 refine xS hS hd hg (v:=.slice p' z.length c') (w':=w') ?_ (kk r' p' c' w' h1 h2 h3)
 simp[execOp,resolve,invoke,builtin,hS.eval hx,hS.eval hy,hrun]
def zLU (P:Program)(S:List (Nat×Value))(t m:Nat)(parts:List (Nat×Operand)): Option (List Value) :=
 match P.underlying t with
 | some (.slice e)=>match P.info? e with
  | some i=>match i.zero,zVc S parts with
   | some z,some vs=>if Nat.ble (m*i.size) 16777216 then(Instr.fill (fun j=>some (j*i.size,i.size)) (if m*i.size=0 then #[] else(Array.range (m*i.size)).map (z.cells[· % z.cells.size]!)) vs).map Array.toList else none
   | _,_=>none
  | none=>none
 | _=>none
theorem zOG{t m te nn:Nat}{parts:Array (Nat×Operand)}{cs:List Value}{w:World}(hS:qF a n S)(ht:yS P t te nn=true)(h:zLU P S t m parts.toList=some cs){d:Option Tmp}:
  (execOp a.eval ⟨d,.buildSlice t m parts,ty,pos,af,g⟩).run P w=.ok (.value (.slice (some ⟨w.heap.size,0,none⟩) m m)) (w.alloc (.cells cs.toArray te)):=by
 obtain⟨hu,info,zv,hi,hz,hsize,hby,hpos,hzs⟩:=zJT ht
 unfold zLU at h
 simp only[hu,hi,hz] at h
 split at h
 ·rename_i z' vs hz' hvs
  simp only[Qd] at hz'
  subst hz'
  split at h
  ·rename_i hle
   have hle':m*info.size≤16777216:=QW hle
   simp only[UE] at h
   obtain⟨cells,hf,rfl⟩:=h
   have h2:=hS.parts hvs
   have hnle:¬ (m*info.size > 2 ^ 24):=by omega
   have hzr:(zeroValue te).run P w=.ok zv w:=zRa (by simp[tL,hi,hz]) w
   have hsr:(sizeOf te).run P w=.ok info.size w:=by simp[sizeOf,typeInfo,hi]
   have hr0:Array.range 0=#[]:=rfl
   simp only[execOp,Instr.buildSlice,Array.toList_map,h2]
   by_cases h0:m*info.size=0
   ·simp only[h0,Qe] at hf
    simp[run_underlying hu,hsr,h0,hr0,hf,newRow]
   ·rw[Qo h0] at hf
    have h0':¬ (m=0∨info.size=0):=fun h=>h0 (by grind)
    simp only[Sem.run_bind,run_underlying hu,Result.andThen_ok,hsr,Qo hnle,Qo h0,Sem.run_pure,hzr]
    rw[hf]
    simp[newRow]
  ·cases h
 ·cases h
theorem rd_new{τ:Type}{e:E τ}{cs:List Value}{l:List τ}{te:TypeId}(hO:zZ A w Ls)(hrd:e.rdL (bl Ls++A) w cs l): uY e (bl Ls++A) (w.alloc (.cells cs.toArray te)) (some ⟨w.heap.size,0,none⟩) l.length l:=by
 refine⟨Qs _,.inr ⟨w.heap.size,0,cs,rfl,fun hm=>?_,by simp,?_,fun j u hu=>?_⟩⟩
 ·rcases Qb.1 hm with h | h
  ·exact UU _ (hO.lt h)
  ·exact UU _ (hO.old _ h)
 ·exact e.rdL_step ⟨by simp,fun k hk hn=>⟨hn,Below.heap_alloc w _ k hk⟩⟩ hrd
 simp_all
theorem z8x{τ:Type}{e:E τ}{t m te:Nat}{parts:List (Nat×Operand)}(cs:List Value)(l:List τ)(hS:qF a n S)(hd:Nat.blt d n=true)(hg:zR ops S g=some true)(hO:zZ A w Ls)
  (ht:yS P t te e.n=true) (hc:zLU P S t m parts=some cs) (hrd:e.rdL (bl Ls++A) w cs l) (hl:l.length=m)
  (k:∀ p c w',zZ A w' Ls->zU qd Ls w Ls w'->uY e (bl Ls++A) w' p c l->∀ a',qF a' n ((d,.slice p l.length c)::S)->K a' w') :
  wU P ops Q ⟨some d,.buildSlice t m parts.toArray,ty,pos,af,g⟩ K a w:=by
 subst hl
 refine xS hS hd hg (zOG hS ht (by grind)) (k _ _ _ ?_ ?_ (rd_new hO hrd))
 ·exact⟨fun b hb=>by have:=hO.old b hb;simp;omega,fun r hr p hp=>by rw[Below.heap_alloc w _ p.1 (Qq.1 (hO.has r hr p hp)).1];exact hO.has r hr p hp,hO.nodup,hO.apart⟩
 ·exact⟨rfl,rfl,rfl,fun _=>Qs _,by simp,fun k hk _=>Below.heap_alloc w _ k hk,fun b hb=>.inl hb⟩
theorem z7M{τ:Type}{e:E τ}{t m:Nat}(te:Nat){parts:List (Nat×Operand)}(cs:List Value)(l:List τ)(hS:qF a n S)(hd:Nat.blt d n=true)(hg:zR ops S g=some true)(hO:zZ A w Ls)
  (ht:yS P t te e.n=true) (hc:zLU P S t m parts=some cs) (hrd:e.rdL (bl Ls++A) w cs l) (hl:l.length=m) (hm:Nat.ble m 16777216=true)
  (k:∀ r p c w',zZ A w' (Ls++[r])->zU qd Ls w (Ls++[r]) w'->wJ e te (bl (Ls++[r])++A) w' r p c l->∀ a',qF a' n ((d,.slice p l.length c)::S)->K a' w') :
  wU P ops Q ⟨some d,.buildSlice t m parts.toArray,ty,pos,af,g⟩ K a w:=by
 subst hl
 have hle:l.length≤16777216:=QW hm
 have hE:=zU.alloc (qd:=qd) (w:=w) (w':=w.alloc (.cells cs.toArray te)) Ls (.cells cs.toArray te) rfl rfl rfl rfl
 refine xS hS hd hg (zOG hS ht (by grind)) (k _ _ _ _ (hO.alloc _ rfl) hE (wJ.mk0 w.heap.size cs.toArray rfl rfl (Qs _) (by grind [maxLen]) (by simp[e.rdL_len hrd]) ?_))
 have:cs.toArray.toList.take (l.length*e.n)=cs:=by rw[←e.rdL_len hrd];simp
 rw[this]
 exact e.rdL_step (hE.step A) hrd
theorem z6a{τ:Type}{e:E τ}{Z:List Nat}{p:Option Addr}{c:Nat}{l z:List τ}{i j:Int}{x:Operand}{lo hi:Option Operand}{vlo vhi:Option Value}{t:TypeId}{d:Option Tmp}(hS:qF a n S)(hR:uY e Z w p c l)
  (hx:zL S x=some (.slice p l.length c)) (ht:wP P t=some e.n) (hlo:uX S lo=some vlo) (hhi:uX S hi=some vhi) (b1:Bd vlo i 0) (b2:Bd vhi j l.length) (hm:sub l i j=some z) :
  ∃ p' c',(∀ w',(execOp a.eval ⟨d,.slice t x lo hi none,ty,pos,af,g⟩).run P w'=.ok (.value (.slice p' z.length c')) w')∧uY e Z w p' c' z:=by
 unfold sub at hm
 split at hm
 ·rename_i h0
  simp only[Qd] at hm
  obtain⟨h1,h2,h3⟩:=h0
  subst hm
  have hzl:((l.take j.toNat).drop i.toNat).length=j.toNat-i.toNat:=by simp;omega
  unfold wP at ht
  split at ht
  ·rename_i te hu
   cases hq:P.info? te with
   | none=>grind
   | some info =>
    have hs:info.size=e.n:=by simpa [hq] using ht
    refine⟨if c=i.toNat then p else p.map (·.add (i.toNat*e.n)),c-i.toNat,fun w'=>?_,?_⟩
    ·have hb:=zJs (P:=P) (w:=w') (b:=true) (m:=l.length) (c:=c) b1 b2 h1 h2 (by have:=hR.1;omega)
     simp[execOp,hS.eval hx,hS.evalO hlo,hS.evalO hhi,Instr.sliceAt,Instr.slice,run_underlying hu,hb,sizeOf,typeInfo,hq,hs,hzl]
    ·refine⟨by rw[hzl];have:=hR.1;omega,?_⟩
     by_cases he:(l.take j.toNat).drop i.toNat=[]
     ·grind
     ·rcases hR.2 with rfl | ⟨b,off,cs,rfl,hb,hlt,hl,hcell⟩
      ·grind
      ·have hne:¬ c=i.toNat:=fun hci=>he (QK (by rw[hzl];have:=hR.1;omega))
       refine .inr ⟨b,off+i.toNat*e.n,(cs.take (j.toNat*e.n)).drop (i.toNat*e.n),by simp[hne,tV],hb,hlt,e.rdL_drop _ (e.rdL_take _ hl),fun k u hu=>?_⟩
       grind
  ·cases ht
 ·cases hm
theorem zZd (F:Value->ByteArray->Sem (ForInStep ByteArray))(hF:∀ n s,F (.int .u8 n) s=pure (.yield (s.push (UInt8.ofNat n.toNat)))): ∀(l:List Int) (cs:List Value) (Z:List Nat) (w w':World) (s:ByteArray),(zC .u8).rdL Z w cs l->
  (forIn cs s F:Sem ByteArray).run P w'=.ok ⟨(s.data.toList++zWJ l).toArray⟩ w'
 | [],cs,Z,w,w',s,h=>by
  simp only[E.rdL] at h
  subst h
  simp[zWJ]
 | x::l,cs,Z,w,w',s,h=>by
  obtain⟨c1,c2,rfl,h1,h2⟩:=h
  simp only[zC] at h1
  subst h1
  have ih:=zZd F hF l c2 Z w w' (s.push (UInt8.ofNat x.toNat)) h2
  simp only[UH,QI,List.forIn_cons,hF,Sem.run_bind,Sem.run_pure,Result.andThen_ok]
  rw[ih]
  simp[zWJ,ByteArray.push]
end
end Go.GD
