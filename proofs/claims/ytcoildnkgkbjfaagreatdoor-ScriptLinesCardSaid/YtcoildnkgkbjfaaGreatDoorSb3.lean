/- A part. Conditions: none. -/
import Derived.Test.YtcoildnkgkbjfaaGreatDoorNest
namespace Go.GD
open Go Go.RowKit Go.Shelf Go.Proofs
set_option autoImplicit false
set_option linter.unusedVariables false
variable {qd:Prop}
theorem z6Q{P:Program}{ρ:Ren}(L:Lays.n240 P ρ)(X:Builder.X72 P ρ){T:TypeId}(hT:liesAt P P.depth T (2 / P.cellsOf T) 0 (ρ.t 72) 1=true)(hc:∀ args w,(callFunc (ρ.f 240) args).run P w=.ok (.enter (ρ.f 240) args) w){te b:Nat}{r:zH}{l:zA}:
  zN qd P (ρ.f 240) [pt b 0] [r] [tM T te r b l] (some ()) fun _ K=>∀ r2,K (.tuple #[]) [r2] [tM T te r2 b l]:=by
 refine⟨hc,fun A w x hm hO hF=>?_⟩
 obtain⟨p,ad,c,r2,hp,hb,hA,rfl,hO2,hbA2⟩:=BdR.at hF.1 hO
 refine(zW4 L X hT hp hb).mono fun e w1 ⟨he,k1,k2,k3,k4,k5,k6,k7⟩=>?_
 subst he
 have hn:=hO.nodup
 have hnb:b∉r2.map Prod.fst:=by simp[bl] at hn ⊢;exact fun x hx=>hn.1 x hx
 refine fun G k=>k ((b,.cells #[pt b 0,.slice ad l.length c] T (0,0))::r2) ⟨rfl,⟨fun q hq=>by rw[k5];exact hO.old q hq,fun s hs q hq=>?_,by simpa [bl] using hn,fun q hq=>hO.apart q (by simpa [bl] using hq)⟩,
  ⟨k1,k2,k3,fun _=>by grind,by omega,fun k hk hn=>k7 k (fun e=>hn (by simp[bl,e])),fun q hq=>.inl (by simpa [bl] using hq)⟩,⟨_,_,_,_,.inr rfl,rfl,hA⟩,trivial⟩
 simp only[Qf] at hs
 subst hs
 rcases QG.1 hq with rfl | hq
 ·exact k6
 ·have h1:=hO.has _ (Qf.2 rfl) q (Qq _ hq)
  grind
def BA (te:TypeId)(r:zH)(p:Option Addr)(c:Nat)(l:zA): PP:=Pu (zY7 te r p c l)
theorem zZO{Z:List Nat}{w:World}: ∀ {l:zA},(zR .u8).rdL Z w (Lib.strCells ⟨⟨l⟩⟩) (l.map fun x=>(x.toNat:Int))
 | []=>rfl
 | x::l=>⟨[.int .u8 x.toNat],Lib.strCells ⟨⟨l⟩⟩,by simp[Lib.strCells],rfl,zZO⟩
theorem zRL{Z:List Nat}{w:World}: ∀ {l:List Int} {cs:List Value},(zR .u8).rdL Z w cs l->(∀ x∈l,0≤x∧x<256)->cs=Lib.strCells ⟨⟨l.map fun x=>UInt8.ofNat x.toNat⟩⟩
 | [],cs,h,_=>by simp only[E.rdL] at h;subst h;rfl
 | x::l,cs,h,hx=>by
  obtain⟨c1,c2,rfl,h1,h2⟩:=h
  have h1:c1=[.int .u8 x]:=h1
  subst h1
  have h3:=zRL h2 fun y hy=>hx y (Qq _ hy)
  have h4:=hx x Qz
  grind [UInt8.toNat_ofNat',Lib.strCells]
def z5g{τ:Type}(e:E τ)(t:TypeId)(Z:List Nat)(w:World)(r:zH)(p:Option Addr)(c:Nat)(l:List τ): Prop :=
 (r=[]∧p=none∧c=0∧l=[]) ∨
 ∃ b cells,r=[(b,.cells cells t (0,0))]∧p=some ⟨b,0,none⟩∧l.length≤c∧c≤maxLen∧cells.size=c*e.n∧e.rdL Z w (cells.toList.take (l.length*e.n)) l
section
variable {P:Program}{ops:Array Oper}{Q:Exit->Act->World->Prop}{a:Act}{n:Nat}{S:List (Nat×Value)}{w:World}{K:Act->World->Prop}
variable {A:List Nat}{Ls:List zH}{d:Nat}{ty:TypeId}{pos:String}{af:Array Edge}{g:Option (Nat×Bool)}
theorem zSb{τ:Type}{e:E τ}{t te:Nat}{r:zH}{p q:Option Addr}{c k i:Nat}{l m z:List τ}(hO:qF A w Ls)(hr:Ls[i]?=some r)(hA:z5g e te (bl Ls++A) w r p c l)
  (hR:Src e (bl Ls++A) w q m) (ht:xL P t te e.n=true) (hm:qT l m=some z) (rty:TypeId) :
  ∃ r' p' c' w',(Builtin.append_ #[t,t] rty #[.slice p l.length c,.slice q m.length k]).run P w=.ok (.slice p' z.length c') w' ∧
   qF A w' (Ls.set i r')∧zZ qd Ls w (Ls.set i r') w'∧z5g e te (bl (Ls.set i r')++A) w' r' p' c' z:=by
 obtain⟨hsm,rfl⟩:=z16 hm
 obtain⟨hu,info,zv,hi,hz,hsize,hby,hpos,hzs⟩:=zJj ht
 have hlc:l.length≤c:=by
  rcases hA with⟨_,_,_,rfl⟩ | ⟨b,cells,_,_,h3,_⟩
  ·grind
  ·exact h3
 by_cases hm0:m=[]
 ·subst hm0
  refine⟨r,p,c,w,by grind [zIY],?_,?_,?_⟩
  ·exact hO.set hr (Qt _) (fun _ _ _=>rfl) (fun x hx=>tJ hO hr hx) (by simpa [bl] using (hO.pick i hr).nodup) (fun x hx=>.inl (QB.2 ⟨x,hx,rfl⟩))
  ·exact zZ.set hr rfl rfl rfl (Qt _) (fun _ _ _=>rfl) (fun x hx=>.inl (QB.2 ⟨x,hx,rfl⟩))
  ·have hself:Ls.set i r=Ls:=by
    apply Uk;intro j
    by_cases hj:i=j
    ·grind
    ·grind
   grind
 ·have hmpos:0<m.length:=QL.2 hm0
  rcases hR with hR | ⟨b2,off,cs2,rfl,hcs2,hcell⟩
  ·grind
  ·have hl2:cs2.length=m.length*info.size:=by rw[e.rdL_len hcs2,hsize]
   have hnews:∀ j u,cs2[j]?=some u->w.cell? ((⟨b2,off,none⟩:Addr).add j)=some u:=fun j u hu=>by grind [zBX]
   have hone:=e.rdL_one hcs2
   have hbytes:(l.length+m.length)*info.bytes≤140737488355328:=by
    have:=UN (Nat.le_of_lt hsm) hby
    omega
   have h63:((l.length+m.length:Nat):Int)≤9223372036854775807:=by omega
   rcases hA with⟨rfl,rfl,rfl,rfl⟩ | ⟨b,cells,rfl,rfl,h3,h4,h5,h6⟩
   ·
    have hrun:=run_append_nil (P:=P) w t rty te info zv hu hi hz ⟨b2,off,none⟩ m.length k cs2 hl2 hnews hmpos (by omega) (by grind)
    have hge:=grownCap_ge w m.length 0 te
    have hcm:=grownCap_le_maxLen w m.length 0 te (by grind [maxLen])
    refine⟨[(w.heap.size,.cells (cs2.toArray++Builtin.zeroCells zv.cells (grownCap w m.length 0 te-m.length)) te (0,0))],_,_,_,by rw[QA];exact hrun,?_,?_,?_⟩
    ·exact hO.set hr (by simp) (fun k hk _=>Below.heap_alloc w.drew _ k hk) (fun x hx=>by simp only[Qf] at hx;subst hx;exact heap_alloc_new w.drew _) (by simp) (fun x hx=>by grind)
    ·exact zZ.set hr rfl rfl rfl (by simp) (fun k hk _=>Below.heap_alloc w.drew _ k hk) (fun x hx=>by grind)
    ·have hE:zZ qd Ls w (Ls.set i [(w.heap.size,.cells (cs2.toArray++Builtin.zeroCells zv.cells (grownCap w m.length 0 te-m.length)) te (0,0))]) (w.drew.alloc (.cells (cs2.toArray++Builtin.zeroCells zv.cells (grownCap w m.length 0 te-m.length)) te)) :=
      zZ.set hr rfl rfl rfl (by simp) (fun k hk _=>Below.heap_alloc w.drew _ k hk) (fun x hx=>by grind)
     refine .inr ⟨w.heap.size,_,rfl,rfl,by grind,hcm,?_,?_⟩
     ·simp only[U0,Ua,size_zeroCells,hzs,hl2,hsize,←Q0]
      grind
     ·have:(cs2.toArray++Builtin.zeroCells zv.cells (grownCap w m.length 0 te-m.length)).toList.take (([]++m).length*e.n)=cs2:=by
       simp only[UT,QA]
       rw[←hsize,←hl2];simp
      rw[this]
      exact e.rdL_step (hE.step A) (by grind)
   ·have hb:=tJ hO hr (Qf.2 rfl)
    have hlo:(cells.toList.take (l.length*e.n)).length=l.length*info.size:=by rw[e.rdL_len h6,hsize]
    by_cases hroom:l.length+m.length≤c
    ·
     have hfit:l.length*info.size+cs2.length≤cells.size:=by rw[hl2,h5,←Q0,hsize];exact QS _ hroom
     have hrun:=run_append_room (P:=P) w t rty te info hu hi b l.length c cells hb ⟨b2,off,none⟩ m.length k cs2 hl2 hnews hone hroom hfit
     have hk:∀(cs:Array Value) (k:Nat),k<w.heap.size->k∉[(b,Obj.cells cells te (0,0))].map Prod.fst->(w.setRow b cs).heap[k]?=w.heap[k]?:=fun cs k _ hk=>setRow_other w b k _ (fun e=>hk (by simp[e]))
     refine⟨[(b,.cells (cells.toList.take (l.length*info.size)++cs2++cells.toList.drop (l.length*info.size+cs2.length)).toArray te (0,0))],_,c,_,by rw[Qc];exact hrun,?_,?_,?_⟩
     ·exact hO.set hr (by simp) (hk _) (fun x hx=>by grind [setRow_heap]) (by simp) (fun x hx=>by grind)
     ·exact zZ.set hr rfl rfl rfl (by simp) (hk _) (fun x hx=>by grind)
     ·have hE:zZ qd Ls w (Ls.set i [(b,.cells (cells.toList.take (l.length*info.size)++cs2++cells.toList.drop (l.length*info.size+cs2.length)).toArray te (0,0))]) (w.setRow b (cells.toList.take (l.length*info.size)++cs2++cells.toList.drop (l.length*info.size+cs2.length)).toArray) :=
       zZ.set hr rfl rfl rfl (by simp) (hk _) (fun x hx=>by grind)
      refine .inr ⟨b,_,rfl,rfl,by grind,h4,?_,?_⟩
      ·grind
      ·have hsz:(l++m).length*e.n=(cells.toList.take (l.length*info.size)++cs2).length:=by
        rw[Qc,Qc,hsize,hlo,hl2,hsize,Q0]
       have:(cells.toList.take (l.length*info.size)++cs2++cells.toList.drop (l.length*info.size+cs2.length)).toArray.toList.take ((l++m).length*e.n)=cells.toList.take (l.length*e.n)++cs2:=by
        rw[hsz];show List.take _ (cells.toList.take (l.length*info.size)++cs2++_)=_;rw[UO,hsize]
       rw[this]
       exact e.rdL_append (e.rdL_step (hE.step A) h6) (e.rdL_step (hE.step A) hcs2)
    ·
     have holds:∀ j u,(cells.toList.take (l.length*e.n))[j]?=some u->w.cell? ((⟨b,0,none⟩:Addr).add j)=some u:=fun j u hu=>by
      rw[zBX,cell_of_row w b (0+j) cells te (0,0) hb,Ud]
      grind
     have hrun:=run_append_grow (P:=P) w t rty te info zv hu hi hz ⟨b,0,none⟩ l.length c _ hlo holds ⟨b2,off,none⟩ m.length k cs2 hl2 hnews (by omega) h63 (growslice_fits (by omega) hbytes)
     have hge:=grownCap_ge w (l.length+m.length) c te
     have hcm:=grownCap_le_maxLen w (l.length+m.length) c te (by grind [maxLen])
     refine⟨[(w.heap.size,.cells ((cells.toList.take (l.length*e.n)).toArray++cs2.toArray++Builtin.zeroCells zv.cells (grownCap w (l.length+m.length) c te-(l.length+m.length))) te (0,0))],_,_,_,by rw[Qc];exact hrun,?_,?_,?_⟩
     ·exact hO.set hr (by simp) (fun k hk _=>Below.heap_alloc w.drew _ k hk) (fun x hx=>by simp only[Qf] at hx;subst hx;exact heap_alloc_new w.drew _) (by simp) (fun x hx=>by grind)
     ·exact zZ.set hr rfl rfl rfl (by simp) (fun k hk _=>Below.heap_alloc w.drew _ k hk) (fun x hx=>by grind)
     ·have hE:zZ qd Ls w (Ls.set i [(w.heap.size,.cells ((cells.toList.take (l.length*e.n)).toArray++cs2.toArray++Builtin.zeroCells zv.cells (grownCap w (l.length+m.length) c te-(l.length+m.length))) te (0,0))]) (w.drew.alloc (.cells ((cells.toList.take (l.length*e.n)).toArray++cs2.toArray++Builtin.zeroCells zv.cells (grownCap w (l.length+m.length) c te-(l.length+m.length))) te)) :=
       zZ.set hr rfl rfl rfl (by simp) (fun k hk _=>Below.heap_alloc w.drew _ k hk) (fun x hx=>by grind)
      refine .inr ⟨w.heap.size,_,rfl,rfl,by grind,hcm,?_,?_⟩
      ·simp only[U0,Ua,size_zeroCells,hzs,hlo,hl2,hsize,←Q0]
       grind
      ·have hsz:(l++m).length*e.n=(cells.toList.take (l.length*e.n)++cs2).length:=by
        rw[Qc,Qc,hlo,hl2,hsize,Q0]
       have:((cells.toList.take (l.length*e.n)).toArray++cs2.toArray++Builtin.zeroCells zv.cells (grownCap w (l.length+m.length) c te-(l.length+m.length))).toList.take ((l++m).length*e.n)=cells.toList.take (l.length*e.n)++cs2:=by
        rw[hsz];simp only[UT];exact UO
       rw[this]
       exact e.rdL_append (e.rdL_step (hE.step A) h6) (e.rdL_step (hE.step A) hcs2)
theorem z0k (i:Nat){τ:Type}{e:E τ}{t:TypeId}(te:TypeId){r:zH}{p q:Option Addr}{c k:Nat}{l m z:List τ}{x y:Operand}(hS:qO a n S)(hd:Nat.blt d n=true)(hg:qC ops S g=some true)(hO:qF A w Ls)(hr:Ls[i]?=some r)
  (hA:z5g e te (bl Ls++A) w r p c l) (hR:Src e (bl Ls++A) w q m) (hx:zP S x=some (.slice p l.length c)) (hy:zP S y=some (.slice q m.length k)) (ht:xL P t te e.n=true) (hm:qT l m=some z)
  (kk:∀ r' p' c' w',qF A w' (Ls.set i r')->zZ qd Ls w (Ls.set i r') w'->z5g e te (bl (Ls.set i r')++A) w' r' p' c' z->∀ a',qO a' n ((d,.slice p' z.length c')::S)->K a' w') :
  vC P ops Q ⟨some d,.call { callee:=.builtin .append,args:=[x,y].toArray,argTypes:=[t,t].toArray },ty,pos,af,g⟩ K a w:=by
 obtain⟨r',p',c',w',hrun,h1,h2,h3⟩:=zSb (P:=P) (k:=k) hO hr hA hR ht hm ty
 refine zF2 hS hd hg (v:=.slice p' z.length c') (w':=w') ?_ (kk r' p' c' w' h1 h2 h3)
 simp[execOp,resolve,invoke,builtin,hS.eval hx,hS.eval hy,hrun]
end
theorem zY7.arr{te:TypeId}{Z:List Nat}{w:World}{r:zH}{p:Option Addr}{c:Nat}{l:zA}(h:zY7 te r p c l): z5g (zR .u8) te Z w r p c (l.map fun x=>(x.toNat:Int)):=by
 rcases h with⟨h1,h2,h3,rfl⟩ | ⟨g,cells,h1,h2,h3,h4,h5,h6,h7⟩
 ·exact .inl ⟨h1,h2,h3,rfl⟩
 ·refine .inr ⟨g,cells,h1,h2,by grind,h5,by rw[h6];simp[zR],?_⟩
  grind [zR,zZO]
theorem z5g.barr{te:TypeId}{Z:List Nat}{w:World}{r:zH}{p:Option Addr}{c:Nat}{l:List Int}(h:z5g (zR .u8) te Z w r p c l)(hl:l≠[])(hx:∀ x∈l,0≤x∧x<256): zY7 te r p c (l.map fun x=>UInt8.ofNat x.toNat):=by
 rcases h with⟨_,_,_,rfl⟩ | ⟨g,cells,h1,h2,h3,h4,h5,h6⟩
 ·grind
 ·refine .inr ⟨g,cells,h1,h2,by simpa using hl,by grind,h4,by rw[h5];simp[zR],?_⟩
  grind [zR,zRL]
section
variable {P:Program}{n:Nat}{X:Hd qd}{ρ:Type}{Q:PQ ρ}{S:Sl}{Ls:List zH}{F:List PP}{m:Option ρ}{os:Array Oper}{ol:List Oper}{x y:Operand}{p p':yY}
variable {d t T te b:Nat}{ty:TypeId}{pos:String}{af:Array Edge}{g:Option (Nat×Bool)}{r r2:zH}{l:zA}{ad q:Option Addr}{c c2:Nat}{z:Int}{pv:Value}
theorem jBo (i k:Nat)(hF:uL F k=tM T te r b l)(h:∀ pv ad c r2,zRP Ls i (bx b T [pv,.slice ad l.length c]) fun L1=>zM8 L1 r2 fun Ls'=>J P n X Q (.ops os ol) S Ls' (BA te r2 ad c l::Pu (pv=.pointer none∨pv=pt b 0)::F) m)
  (hr:Ls[i]?=some r:=by rfl):J P n X Q (.ops os ol) S Ls F m :=
 ⟨fun hq r0 hm a w hs=>by
  have hB:(tM T te r b l).h (bl Ls++X.A) w:=hF▸hs.g k
  obtain⟨pv,ad,c,r2,hp,rfl,hA⟩:=hB
  have hp1:((Ls.set i [(b,Obj.cells #[pv,.slice ad l.length c] T (0,0))]++[r2]).flatten++[]).Perm Ls.flatten:=by
   have:=zRO [(b,Obj.cells #[pv,.slice ad l.length c] T (0,0))] hr
   rw[Q5] at this
   have h2:=List.Perm.cons_inv this
   simp only[List.flatten_append,U2,List.flatten_nil,QJ]
   exact Uv.trans h2
  have h1:=hs.less hp1
  have h:=h pv ad c r2
  rw[zHB,zIG] at h
  exact h.go hq r0 hm a w ⟨h1.s,h1.o,h1.e,hA,hp,h1.f⟩⟩
theorem jBc (i j k k2:Nat)(hF:uL F k=BA te r2 ad c l)(hP:uL F k2=Pu (pv=.pointer none∨pv=pt b 0))(hi:Ls[i]?=some (bx b T [pv,.slice ad l.length c]))(hj:Ls[j]?=some r2)(h:∀ r',zRP Ls i r' fun L1=>zRP L1 j [] fun Ls'=>J P n X Q p S Ls' (tM T te r' b l::F) m)
  (hij:Nat.beq i j=false:=by rfl) (hl:∀ r',zRP Ls i r' (fun L1=>zRP L1 j [] fun Ls'=>p.less Ls Ls'):=by intro _;first | exact trivial | exact rfl):J P n X Q p S Ls F m :=
 ⟨fun hq r0 hm a w hs=>by
  have hA:zY7 te r2 ad c l:=(hF▸hs.g k:(BA te r2 ad c l).h (bl Ls++X.A) w)
  have hp:pv=.pointer none∨pv=pt b 0:=(hP▸hs.g k2:(Pu (pv=.pointer none∨pv=pt b 0)).h (bl Ls++X.A) w)
  have hne:i≠j:=by intro e;subst e;simp[Nat.beq_refl] at hij
  have hp1:((((Ls.set i ((b,Obj.cells #[pv,.slice ad l.length c] T (0,0))::r2)).set j []).flatten)++[]).Perm Ls.flatten:=by
   have e1:=zRO ((b,Obj.cells #[pv,.slice ad l.length c] T (0,0))::r2) hi
   have e2:=zRO (Ls:=Ls.set i ((b,Obj.cells #[pv,.slice ad l.length c] T (0,0))::r2)) [] (show _=some r2 by rw[List.getElem?_set_ne hne];exact hj)
   simp only[QJ,QA] at e2 ⊢
   have e3:((b,Obj.cells #[pv,.slice ad l.length c] T (0,0))::(Ls.set i ((b,Obj.cells #[pv,.slice ad l.length c] T (0,0))::r2)).flatten).Perm ((b,Obj.cells #[pv,.slice ad l.length c] T (0,0))::(r2++Ls.flatten)):=by simpa [bx] using e1
   exact(List.perm_append_left_iff r2).1 (e2.trans (List.Perm.cons_inv e3))
  have h1:=hs.less hp1
  have h:=h ((b,.cells #[pv,.slice ad l.length c] T (0,0))::r2)
  have hl:=hl ((b,.cells #[pv,.slice ad l.length c] T (0,0))::r2)
  simp only[zHB] at h hl
  have hss:SS qd X.A X.L0 X.w0 n S ((Ls.set i ((b,.cells #[pv,.slice ad l.length c] T (0,0))::r2)).set j []) (tM T te ((b,.cells #[pv,.slice ad l.length c] T (0,0))::r2) b l::F) a w:=⟨h1.s,h1.o,h1.e,⟨_,_,_,_,hp,rfl,hA⟩,h1.f⟩
  exact yY.less_go hl (zVP hp1) hss (h.go hq r0 hm a w hss)⟩
theorem jwb{f:Unit->Option ρ}(at0:At Ls p os ⟨some d,.call { callee:=.builtin .append,args:=[x,y].toArray,argTypes:=[t,t].toArray },ty,pos,af,g⟩ p')(i k:Nat)(hF:uL F k=BA te r ad c l)(g2:wZ Ls F (R (zR .u8) q c2 1 [z]))(hx:zP S x=some (.slice ad l.length c))(hy:zP S y=some (.slice q 1 c2))
  (h:∀ r' p1 c',zRP Ls i r' fun Ls'=>J P n X Q p' ((d,.slice p1 (l++[UInt8.ofNat z.toNat]).length c')::S) Ls' (BA te r' p1 c' (l++[UInt8.ofNat z.toNat])::F) (f ())) (hr:Ls[i]?=some r:=by rfl) (ht:xL P t te 1=true:=by kernel_rfl) (hd:Nat.blt d n=true:=by kernel_rfl) (hg:qC os S g=some true:=by kernel_rfl) :
  J P n X Q p S Ls F ((chk (decide (0≤z)&&decide (z<256)&&decide (len l+1<4294967296))).bind f) :=
 ⟨fun hq r0 hm a w hs=>by
  obtain⟨u,h1,h2⟩:=bnd hm
  have hc:(decide (0≤z)&&decide (z<256)&&decide (len l+1<4294967296))=true:=by
   unfold chk at h1
   split at h1
   ·assumption
   ·cases h1
  simp only[Qb,Ql] at hc
  obtain⟨⟨hz0,hz1⟩,hlen⟩:=hc
  have hlen:(l.length:Int)+1<4294967296:=hlen
  have hA:zY7 te r ad c l:=(hF▸hs.g k:(BA te r ad c l).h (bl Ls++X.A) w)
  refine at0.run fun K hK=>z0k i (e:=zR .u8) te (l:=l.map fun x=>(x.toNat:Int)) (m:=[z]) (k:=c2) hs.s hd hg hs.o hr hA.arr (g2 _ _ hs.o hs.f).1.src (by grind) hy ht (show qT _ _=some _ by unfold qT;rw[Qm (by simp;omega)]) fun r' p1 c' w' hO' hE' hA' a' hS=>hK hE' ?_
  have hne:(l.map fun x=>((x.toNat:Nat):Int))++[z]≠[]:=by simp
  have hall:∀ x∈(l.map fun x=>((x.toNat:Nat):Int))++[z],0≤x∧x<256:=by
   intro x hx
   rcases Qk.1 hx with hx | hx
   ·obtain⟨v,_,rfl⟩:=QB.1 hx
    have:=v.toNat_lt
    omega
   ·grind
  have e1:(((l.map fun x=>((x.toNat:Nat):Int))++[z]).map fun x=>UInt8.ofNat x.toNat)=l++[UInt8.ofNat z.toNat]:=by
   rw[Wc,List.map_map]
   congr 1
   rw[List.map_congr_left (g:=id) fun x _=>by simp]
   simp
  have hB:=z5g.barr hA' hne hall
  rw[e1] at hB
  have h:=h r' p1 c'
  rw[zHB] at h
  cases u
  rw[show((l.map fun x=>((x.toNat:Nat):Int))++[z]).length=(l++[UInt8.ofNat z.toNat]).length by simp] at hS
  exact h.go hq r0 h2 a' w' (hs.next hO' hE' hS [BA te r' p1 c' _] ⟨hB,trivial⟩)⟩
end
end Go.GD
