/- A part. Conditions: none. -/
import Derived.Test.YtgjdojihimkgcaaGreatDoorMap
import Derived.Shelf.Strconv.Itoa3
import Derived.Shelf.Strconv.AtoiAll
import Derived.ChangeKeysEq
import Derived.Lib.AppendZerosOnto
import Derived.Lib.Overlaps
namespace Go.GD
set_option autoImplicit false
section
open Go Go.RowKit Go.Shelf Go.Proofs
set_option linter.unusedVariables false
variable {qd:Prop}
theorem lib_chk{P:Program}{ρ:Ren}(L:Lays.n240 P ρ)(X:Builder.X72 P ρ){T:TypeId}(hT:liesAt P P.depth T (2 / P.cellsOf T) 0 (ρ.t 72) 1=true)(hc:∀ args w,(callFunc (ρ.f 240) args).run P w=.ok (.enter (ρ.f 240) args) w){te b:Nat}{r:zJ}{l:zD}:
  zP qd P (ρ.f 240) [pt b 0] [r] [Bdr T te r b l] (some ()) λ_ K=>∀ r2,K (.tuple #[]) [r2] [Bdr T te r2 b l]:=by
 refine⟨hc,λA w x hm hO hF=>?_⟩
 obtain⟨p,ad,c,r2,hp,hb,hA,rfl,hO2,hbA2⟩:=BdR.at hF.1 hO
 refine(z4T L X hT hp hb).mono λe w1 ⟨he,k1,k2,k3,k4,k5,k6,k7⟩=>?_
 subst he
 have hn:=hO.nodup
 have hnb:b∉r2.map Prod.fst:=by simp[bl] at hn ⊢;exact λx hx=>hn.1 x hx
 refine λG k=>k ((b,.cells #[pt b 0,.slice ad l.length c] T (0,0))::r2) ⟨rfl,⟨λq hq=>by rw[k5];exact hO.old q hq,λs hs q hq=>?_,by simpa [bl] using hn,λq hq=>hO.apart q (by simpa [bl] using hq)⟩,
  ⟨k1,k2,k3,λ_=>by grind,by omega,λk hk hn=>k7 k (λe=>hn (by simp[bl,e])),λq hq=>.inl (by simpa [bl] using hq)⟩,⟨_,_,_,_,.inr rfl,rfl,hA⟩,trivial⟩
 simp only[Qa] at hs
 subst hs
 rcases Qw.1 hq with rfl | hq
 ·exact k6
 ·have h1:=hO.has _ (Qa.2 rfl) q (Qo _ hq)
  grind
def BA (te:TypeId)(r:zJ)(p:Option Addr)(c:Nat)(l:zD): PP:=Pu (z62 te r p c l)
theorem z8E{Z:List Nat}{w:World}: ∀ {l:zD},(zB .u8).rdL Z w (Lib.strCells ⟨⟨l⟩⟩) (l.map λx=>(x.toNat:Int))
 | []=>rfl
 | x::l=>⟨[.int .u8 x.toNat],Lib.strCells ⟨⟨l⟩⟩,by simp[Lib.strCells],rfl,z8E⟩
theorem z7o{Z:List Nat}{w:World}: ∀ {l:List Int} {cs:List Value},(zB .u8).rdL Z w cs l->(∀ x∈l,0≤x∧x<256)->cs=Lib.strCells ⟨⟨l.map λx=>UInt8.ofNat x.toNat⟩⟩
 | [],cs,h,_=>by simp only[E.rdL] at h;subst h;rfl
 | x::l,cs,h,hx=>by
  obtain⟨c1,c2,rfl,h1,h2⟩:=h
  have h1:c1=[.int .u8 x]:=h1
  subst h1
  have h3:=z7o h2 λy hy=>hx y (Qo _ hy)
  have h4:=hx x Qq
  grind [UInt8.toNat_ofNat',Lib.strCells]
def Arr0{τ:Type}(e:E τ)(t:TypeId)(Z:List Nat)(w:World)(r:zJ)(p:Option Addr)(c:Nat)(l:List τ): Prop :=
 (r=[]∧p=none∧c=0∧l=[]) ∨
 ∃ b cells,r=[(b,.cells cells t (0,0))]∧p=some ⟨b,0,none⟩∧l.length≤c∧c≤maxLen∧cells.size=c*e.n∧e.rdL Z w (cells.toList.take (l.length*e.n)) l
section
variable {P:Program}{ops:Array Oper}{Q:Exit->Act->World->Prop}{a:Act}{n:Nat}{S:List (Nat×Value)}{w:World}{K:Act->World->Prop}
variable {A:List Nat}{Ls:List zJ}{d:Nat}{ty:TypeId}{pos:String}{af:Array Edge}{g:Option (Nat×Bool)}
theorem z01{τ:Type}{e:E τ}{t te:Nat}{r:zJ}{p q:Option Addr}{c k i:Nat}{l m z:List τ}(hO:zZ A w Ls)(hr:Ls[i]?=some r)(hA:Arr0 e te (bl Ls++A) w r p c l)
  (hR:Src e (bl Ls++A) w q m) (ht:uT P t te e.n=true) (hm:qF l m=some z) (rty:TypeId) :
  ∃ r' p' c' w',(Builtin.append_ #[t,t] rty #[.slice p l.length c,.slice q m.length k]).run P w=.ok (.slice p' z.length c') w' ∧
   zZ A w' (Ls.set i r')∧zU qd Ls w (Ls.set i r') w'∧Arr0 e te (bl (Ls.set i r')++A) w' r' p' c' z:=by
 obtain⟨hsm,rfl⟩:=app_lt hm
 obtain⟨hu,info,zv,hi,hz,hsize,hby,hpos,hzs⟩:=zMz ht
 have hlc:l.length≤c:=by
  rcases hA with⟨_,_,_,rfl⟩ | ⟨b,cells,_,_,h3,_⟩
  ·grind
  ·exact h3
 by_cases hm0:m=[]
 ·subst hm0
  refine⟨r,p,c,w,by grind [zO3],?_,?_,?_⟩
  ·exact hO.set hr (Qr _) (λ_ _ _=>rfl) (λx hx=>xK hO hr hx) (by simpa [bl] using (hO.pick i hr).nodup) (λx hx=>.inl (Qn.2 ⟨x,hx,rfl⟩))
  ·exact zU.set hr rfl rfl rfl (Qr _) (λ_ _ _=>rfl) (λx hx=>.inl (Qn.2 ⟨x,hx,rfl⟩))
  ·have hself:Ls.set i r=Ls:=by
    apply QN;intro j
    by_cases hj:i=j
    ·grind
    ·grind
   grind
 ·have hmpos:0<m.length:=QY.2 hm0
  rcases hR with hR | ⟨b2,off,cs2,rfl,hcs2,hcell⟩
  ·grind
  ·have hl2:cs2.length=m.length*info.size:=by rw[e.rdL_len hcs2,hsize]
   have hnews:∀ j u,cs2[j]?=some u->w.cell? ((⟨b2,off,none⟩:Addr).add j)=some u:=λj u hu=>by grind [zCt]
   have hone:=e.rdL_one hcs2
   have hbytes:(l.length+m.length)*info.bytes≤140737488355328:=by
    have:=Ws (Nat.le_of_lt hsm) hby
    omega
   have h63:((l.length+m.length:Nat):Int)≤9223372036854775807:=by omega
   rcases hA with⟨rfl,rfl,rfl,rfl⟩ | ⟨b,cells,rfl,rfl,h3,h4,h5,h6⟩
   ·
    have hrun:=run_append_nil (P:=P) w t rty te info zv hu hi hz ⟨b2,off,none⟩ m.length k cs2 hl2 hnews hmpos (by omega) (by grind)
    have hge:=grownCap_ge w m.length 0 te
    have hcm:=grownCap_le_maxLen w m.length 0 te (by grind [maxLen])
    refine⟨[(w.heap.size,.cells (cs2.toArray++Builtin.zeroCells zv.cells (grownCap w m.length 0 te-m.length)) te (0,0))],_,_,_,by rw[QI];exact hrun,?_,?_,?_⟩
    ·exact hO.set hr (by simp) (λk hk _=>Below.heap_alloc w.drew _ k hk) (λx hx=>by simp only[Qa] at hx;subst hx;exact heap_alloc_new w.drew _) (by simp) (λx hx=>by grind)
    ·exact zU.set hr rfl rfl rfl (by simp) (λk hk _=>Below.heap_alloc w.drew _ k hk) (λx hx=>by grind)
    ·have hE:zU qd Ls w (Ls.set i [(w.heap.size,.cells (cs2.toArray++Builtin.zeroCells zv.cells (grownCap w m.length 0 te-m.length)) te (0,0))]) (w.drew.alloc (.cells (cs2.toArray++Builtin.zeroCells zv.cells (grownCap w m.length 0 te-m.length)) te)) :=
      zU.set hr rfl rfl rfl (by simp) (λk hk _=>Below.heap_alloc w.drew _ k hk) (λx hx=>by grind)
     refine .inr ⟨w.heap.size,_,rfl,rfl,by grind,hcm,?_,?_⟩
     ·simp only[Wp,QS,size_zeroCells,hzs,hl2,hsize,←Q1]
      grind
     ·have:(cs2.toArray++Builtin.zeroCells zv.cells (grownCap w m.length 0 te-m.length)).toList.take (([]++m).length*e.n)=cs2:=by
       simp only[Wa,QI]
       rw[←hsize,←hl2];simp
      rw[this]
      exact e.rdL_step (hE.step A) (by grind)
   ·have hb:=xK hO hr (Qa.2 rfl)
    have hlo:(cells.toList.take (l.length*e.n)).length=l.length*info.size:=by rw[e.rdL_len h6,hsize]
    by_cases hroom:l.length+m.length≤c
    ·
     have hfit:l.length*info.size+cs2.length≤cells.size:=by rw[hl2,h5,←Q1,hsize];exact QQ _ hroom
     have hrun:=run_append_room (P:=P) w t rty te info hu hi b l.length c cells hb ⟨b2,off,none⟩ m.length k cs2 hl2 hnews hone hroom hfit
     have hk:∀(cs:Array Value) (k:Nat),k<w.heap.size->k∉[(b,Obj.cells cells te (0,0))].map Prod.fst->(w.setRow b cs).heap[k]?=w.heap[k]?:=λcs k _ hk=>setRow_other w b k _ (λe=>hk (by simp[e]))
     refine⟨[(b,.cells (cells.toList.take (l.length*info.size)++cs2++cells.toList.drop (l.length*info.size+cs2.length)).toArray te (0,0))],_,c,_,by rw[Qd];exact hrun,?_,?_,?_⟩
     ·exact hO.set hr (by simp) (hk _) (λx hx=>by grind [setRow_heap]) (by simp) (λx hx=>by grind)
     ·exact zU.set hr rfl rfl rfl (by simp) (hk _) (λx hx=>by grind)
     ·have hE:zU qd Ls w (Ls.set i [(b,.cells (cells.toList.take (l.length*info.size)++cs2++cells.toList.drop (l.length*info.size+cs2.length)).toArray te (0,0))]) (w.setRow b (cells.toList.take (l.length*info.size)++cs2++cells.toList.drop (l.length*info.size+cs2.length)).toArray) :=
       zU.set hr rfl rfl rfl (by simp) (hk _) (λx hx=>by grind)
      refine .inr ⟨b,_,rfl,rfl,by grind,h4,?_,?_⟩
      ·grind
      ·have hsz:(l++m).length*e.n=(cells.toList.take (l.length*info.size)++cs2).length:=by
        rw[Qd,Qd,hsize,hlo,hl2,hsize,Q1]
       have:(cells.toList.take (l.length*info.size)++cs2++cells.toList.drop (l.length*info.size+cs2.length)).toArray.toList.take ((l++m).length*e.n)=cells.toList.take (l.length*e.n)++cs2:=by
        rw[hsz];show List.take _ (cells.toList.take (l.length*info.size)++cs2++_)=_;rw[UX,hsize]
       rw[this]
       exact e.rdL_append (e.rdL_step (hE.step A) h6) (e.rdL_step (hE.step A) hcs2)
    ·
     have holds:∀ j u,(cells.toList.take (l.length*e.n))[j]?=some u->w.cell? ((⟨b,0,none⟩:Addr).add j)=some u:=λj u hu=>by
      rw[zCt,cell_of_row w b (0+j) cells te (0,0) hb,UB]
      grind
     have hrun:=run_append_grow (P:=P) w t rty te info zv hu hi hz ⟨b,0,none⟩ l.length c _ hlo holds ⟨b2,off,none⟩ m.length k cs2 hl2 hnews (by omega) h63 (growslice_fits (by omega) hbytes)
     have hge:=grownCap_ge w (l.length+m.length) c te
     have hcm:=grownCap_le_maxLen w (l.length+m.length) c te (by grind [maxLen])
     refine⟨[(w.heap.size,.cells ((cells.toList.take (l.length*e.n)).toArray++cs2.toArray++Builtin.zeroCells zv.cells (grownCap w (l.length+m.length) c te-(l.length+m.length))) te (0,0))],_,_,_,by rw[Qd];exact hrun,?_,?_,?_⟩
     ·exact hO.set hr (by simp) (λk hk _=>Below.heap_alloc w.drew _ k hk) (λx hx=>by simp only[Qa] at hx;subst hx;exact heap_alloc_new w.drew _) (by simp) (λx hx=>by grind)
     ·exact zU.set hr rfl rfl rfl (by simp) (λk hk _=>Below.heap_alloc w.drew _ k hk) (λx hx=>by grind)
     ·have hE:zU qd Ls w (Ls.set i [(w.heap.size,.cells ((cells.toList.take (l.length*e.n)).toArray++cs2.toArray++Builtin.zeroCells zv.cells (grownCap w (l.length+m.length) c te-(l.length+m.length))) te (0,0))]) (w.drew.alloc (.cells ((cells.toList.take (l.length*e.n)).toArray++cs2.toArray++Builtin.zeroCells zv.cells (grownCap w (l.length+m.length) c te-(l.length+m.length))) te)) :=
       zU.set hr rfl rfl rfl (by simp) (λk hk _=>Below.heap_alloc w.drew _ k hk) (λx hx=>by grind)
      refine .inr ⟨w.heap.size,_,rfl,rfl,by grind,hcm,?_,?_⟩
      ·simp only[Wp,QS,size_zeroCells,hzs,hlo,hl2,hsize,←Q1]
       grind
      ·have hsz:(l++m).length*e.n=(cells.toList.take (l.length*e.n)++cs2).length:=by
        rw[Qd,Qd,hlo,hl2,hsize,Q1]
       have:((cells.toList.take (l.length*e.n)).toArray++cs2.toArray++Builtin.zeroCells zv.cells (grownCap w (l.length+m.length) c te-(l.length+m.length))).toList.take ((l++m).length*e.n)=cells.toList.take (l.length*e.n)++cs2:=by
        rw[hsz];simp only[Wa];exact UX
       rw[this]
       exact e.rdL_append (e.rdL_step (hE.step A) h6) (e.rdL_step (hE.step A) hcs2)
theorem z97 (i:Nat){τ:Type}{e:E τ}{t:TypeId}(te:TypeId){r:zJ}{p q:Option Addr}{c k:Nat}{l m z:List τ}{x y:Operand}(hS:qL a n S)(hd:Nat.blt d n=true)(hg:zS ops S g=some true)(hO:zZ A w Ls)(hr:Ls[i]?=some r)
  (hA:Arr0 e te (bl Ls++A) w r p c l) (hR:Src e (bl Ls++A) w q m) (hx:zL S x=some (.slice p l.length c)) (hy:zL S y=some (.slice q m.length k)) (ht:uT P t te e.n=true) (hm:qF l m=some z)
  (kk:∀ r' p' c' w',zZ A w' (Ls.set i r')->zU qd Ls w (Ls.set i r') w'->Arr0 e te (bl (Ls.set i r')++A) w' r' p' c' z->∀ a',qL a' n ((d,.slice p' z.length c')::S)->K a' w') :
  vD P ops Q ⟨some d,.call { callee:=.builtin .append,args:=[x,y].toArray,argTypes:=[t,t].toArray },ty,pos,af,g⟩ K a w:=by
 obtain⟨r',p',c',w',hrun,h1,h2,h3⟩:=z01 (P:=P) (k:=k) hO hr hA hR ht hm ty
 refine tE hS hd hg (v:=.slice p' z.length c') (w':=w') ?_ (kk r' p' c' w' h1 h2 h3)
 simp[execOp,resolve,invoke,builtin,hS.eval hx,hS.eval hy,hrun]
end
theorem z62.arr{te:TypeId}{Z:List Nat}{w:World}{r:zJ}{p:Option Addr}{c:Nat}{l:zD}(h:z62 te r p c l): Arr0 (zB .u8) te Z w r p c (l.map λx=>(x.toNat:Int)):=by
 rcases h with⟨h1,h2,h3,rfl⟩ | ⟨g,cells,h1,h2,h3,h4,h5,h6,h7⟩
 ·exact .inl ⟨h1,h2,h3,rfl⟩
 ·refine .inr ⟨g,cells,h1,h2,by grind,h5,by rw[h6];simp[zB],?_⟩
  grind [zB,z8E]
theorem Arr0.barr{te:TypeId}{Z:List Nat}{w:World}{r:zJ}{p:Option Addr}{c:Nat}{l:List Int}(h:Arr0 (zB .u8) te Z w r p c l)(hl:l≠[])(hx:∀ x∈l,0≤x∧x<256): z62 te r p c (l.map λx=>UInt8.ofNat x.toNat):=by
 rcases h with⟨_,_,_,rfl⟩ | ⟨g,cells,h1,h2,h3,h4,h5,h6⟩
 ·grind
 ·refine .inr ⟨g,cells,h1,h2,by simpa using hl,by grind,h4,by rw[h5];simp[zB],?_⟩
  grind [zB,z7o]
section
variable {P:Program}{n:Nat}{X:Hd qd}{ρ:Type}{Q:PQ ρ}{S:Sl}{Ls:List zJ}{F:List PP}{m:Option ρ}{os:Array Oper}{ol:List Oper}{x y:Operand}{p p':uM}
variable {d t T te b:Nat}{ty:TypeId}{pos:String}{af:Array Edge}{g:Option (Nat×Bool)}{r r2:zJ}{l:zD}{ad q:Option Addr}{c c2:Nat}{z:Int}{pv:Value}
theorem jBo (i k:Nat)(hF:uA F k=Bdr T te r b l)(h:∀ pv ad c r2,uR Ls i (bx b T [pv,.slice ad l.length c]) λL1=>zOD L1 r2 λLs'=>J P n X Q (.ops os ol) S Ls' (BA te r2 ad c l::Pu (pv=.pointer none∨pv=pt b 0)::F) m)
  (hr:Ls[i]?=some r:=by rfl):J P n X Q (.ops os ol) S Ls F m :=
 ⟨λhq r0 hm a w hs=>by
  have hB:(Bdr T te r b l).h (bl Ls++X.A) w:=hF▸hs.g k
  obtain⟨pv,ad,c,r2,hp,rfl,hA⟩:=hB
  have hp1:((Ls.set i [(b,Obj.cells #[pv,.slice ad l.length c] T (0,0))]++[r2]).flatten++[]).Perm Ls.flatten:=by
   have:=zZR [(b,Obj.cells #[pv,.slice ad l.length c] T (0,0))] hr
   rw[Ur] at this
   have h2:=List.Perm.cons_inv this
   simp only[List.flatten_append,Wq,List.flatten_nil,QF]
   exact U1.trans h2
  have h1:=hs.less hp1
  have h:=h pv ad c r2
  rw[zH0,zKe] at h
  exact h.go hq r0 hm a w ⟨h1.s,h1.o,h1.e,hA,hp,h1.f⟩⟩
theorem jBc (i j k k2:Nat)(hF:uA F k=BA te r2 ad c l)(hP:uA F k2=Pu (pv=.pointer none∨pv=pt b 0))(hi:Ls[i]?=some (bx b T [pv,.slice ad l.length c]))(hj:Ls[j]?=some r2)(h:∀ r',uR Ls i r' λL1=>uR L1 j [] λLs'=>J P n X Q p S Ls' (Bdr T te r' b l::F) m)
  (hij:Nat.beq i j=false:=by rfl) (hl:∀ r',uR Ls i r' (λL1=>uR L1 j [] λLs'=>p.less Ls Ls'):=by intro _;first | exact trivial | exact rfl):J P n X Q p S Ls F m :=
 ⟨λhq r0 hm a w hs=>by
  have hA:z62 te r2 ad c l:=(hF▸hs.g k:(BA te r2 ad c l).h (bl Ls++X.A) w)
  have hp:pv=.pointer none∨pv=pt b 0:=(hP▸hs.g k2:(Pu (pv=.pointer none∨pv=pt b 0)).h (bl Ls++X.A) w)
  have hne:i≠j:=by intro e;subst e;simp[Nat.beq_refl] at hij
  have hp1:((((Ls.set i ((b,Obj.cells #[pv,.slice ad l.length c] T (0,0))::r2)).set j []).flatten)++[]).Perm Ls.flatten:=by
   have e1:=zZR ((b,Obj.cells #[pv,.slice ad l.length c] T (0,0))::r2) hi
   have e2:=zZR (Ls:=Ls.set i ((b,Obj.cells #[pv,.slice ad l.length c] T (0,0))::r2)) [] (show _=some r2 by rw[List.getElem?_set_ne hne];exact hj)
   simp only[QF,QI] at e2 ⊢
   have e3:((b,Obj.cells #[pv,.slice ad l.length c] T (0,0))::(Ls.set i ((b,Obj.cells #[pv,.slice ad l.length c] T (0,0))::r2)).flatten).Perm ((b,Obj.cells #[pv,.slice ad l.length c] T (0,0))::(r2++Ls.flatten)):=by simpa [bx] using e1
   exact(List.perm_append_left_iff r2).1 (e2.trans (List.Perm.cons_inv e3))
  have h1:=hs.less hp1
  have h:=h ((b,.cells #[pv,.slice ad l.length c] T (0,0))::r2)
  have hl:=hl ((b,.cells #[pv,.slice ad l.length c] T (0,0))::r2)
  simp only[zH0] at h hl
  have hss:SS qd X.A X.L0 X.w0 n S ((Ls.set i ((b,.cells #[pv,.slice ad l.length c] T (0,0))::r2)).set j []) (Bdr T te ((b,.cells #[pv,.slice ad l.length c] T (0,0))::r2) b l::F) a w:=⟨h1.s,h1.o,h1.e,⟨_,_,_,_,hp,rfl,hA⟩,h1.f⟩
  exact uM.less_go hl (z2u hp1) hss (h.go hq r0 hm a w hss)⟩
theorem jwb{f:Unit->Option ρ}(at0:At Ls p os ⟨some d,.call { callee:=.builtin .append,args:=[x,y].toArray,argTypes:=[t,t].toArray },ty,pos,af,g⟩ p')(i k:Nat)(hF:uA F k=BA te r ad c l)(g2:vN Ls F (R (zB .u8) q c2 1 [z]))(hx:zL S x=some (.slice ad l.length c))(hy:zL S y=some (.slice q 1 c2))
  (h:∀ r' p1 c',uR Ls i r' λLs'=>J P n X Q p' ((d,.slice p1 (l++[UInt8.ofNat z.toNat]).length c')::S) Ls' (BA te r' p1 c' (l++[UInt8.ofNat z.toNat])::F) (f ())) (hr:Ls[i]?=some r:=by rfl) (ht:uT P t te 1=true:=by kernel_rfl) (hd:Nat.blt d n=true:=by kernel_rfl) (hg:zS os S g=some true:=by kernel_rfl) :
  J P n X Q p S Ls F ((vT (decide (0≤z)&&decide (z<256)&&decide (len l+1<4294967296))).bind f) :=
 ⟨λhq r0 hm a w hs=>by
  obtain⟨u,h1,h2⟩:=xG hm
  have hc:(decide (0≤z)&&decide (z<256)&&decide (len l+1<4294967296))=true:=by
   unfold vT at h1
   split at h1
   ·assumption
   ·cases h1
  simp only[QA,Qm] at hc
  obtain⟨⟨hz0,hz1⟩,hlen⟩:=hc
  have hlen:(l.length:Int)+1<4294967296:=hlen
  have hA:z62 te r ad c l:=(hF▸hs.g k:(BA te r ad c l).h (bl Ls++X.A) w)
  refine at0.run λK hK=>z97 i (e:=zB .u8) te (l:=l.map λx=>(x.toNat:Int)) (m:=[z]) (k:=c2) hs.s hd hg hs.o hr hA.arr (g2 _ _ hs.o hs.f).1.src (by grind) hy ht (show qF _ _=some _ by unfold qF;rw[Ql (by simp;omega)]) λr' p1 c' w' hO' hE' hA' a' hS=>hK hE' ?_
  have hne:(l.map λx=>((x.toNat:Nat):Int))++[z]≠[]:=by simp
  have hall:∀ x∈(l.map λx=>((x.toNat:Nat):Int))++[z],0≤x∧x<256:=by
   intro x hx
   rcases Qb.1 hx with hx | hx
   ·obtain⟨v,_,rfl⟩:=Qn.1 hx
    have:=v.toNat_lt
    omega
   ·grind
  have e1:(((l.map λx=>((x.toNat:Nat):Int))++[z]).map λx=>UInt8.ofNat x.toNat)=l++[UInt8.ofNat z.toNat]:=by
   rw[UL,List.map_map]
   congr 1
   rw[Wc (g:=id) λx _=>by simp]
   simp
  have hB:=Arr0.barr hA' hne hall
  rw[e1] at hB
  have h:=h r' p1 c'
  rw[zH0] at h
  cases u
  rw[show((l.map λx=>((x.toNat:Nat):Int))++[z]).length=(l++[UInt8.ofNat z.toNat]).length by simp] at hS
  exact h.go hq r0 h2 a' w' (hs.next hO' hE' hS [BA te r' p1 c' _] ⟨hB,trivial⟩)⟩
end
end
section
open Go Go.RowKit Go.Shelf Go.Proofs
set_option linter.unusedVariables false
variable {qd:Prop}
theorem ext_grow (w:World)(k:Nat)(os:Array Obj): zU qd [] w [] (Go.Sort.grow (w.drewN k) os) :=
 ⟨rfl,rfl,rfl,λ_=>Nat.le_add_right _ _,by simp_all,λi hi _=>(by
  show((w.drewN k).heap++os)[i]?=_
  rw[Array.getElem?_append_left (by simp_all)]
  rfl),λb hb=>by grind⟩
section
variable {P:Program}{ρ:Ren}
theorem lib_fmt10 (L:LaysM.n246 P ρ)(hc:∀ args w,(callFunc (ρ.f 246) args).run P w=.ok (.enter (ρ.f 246) args) w){n z:Int}:
  zP qd P (ρ.f 246) [vi n,vi z] [] [Tb P "internal/strconv.uint64pow10" .u64 Lib.pow10Tab] (fmt10 n z) λr K=>K (vs r) [] []:=by
 refine con_v hc λZ w r hm hF=>?_
 unfold fmt10 at hm
 split at hm
 case isFalse=>cases hm
 rename_i h
 obtain⟨rfl,h0,h1⟩:=h
 obtain rfl:=QE hm
 obtain⟨⟨_,_,_,_,hT⟩,_⟩:=hF
 refine(Any.internal_strconv_FormatInt_10 L n h0 h1 w hT).mono λe w' ⟨he,k,os,hw⟩=>?_
 subst hw
 exact⟨he,ext_grow w k os⟩
end
end
section
open Go Go.RowKit
variable {qd:Prop}
set_option linter.unusedVariables false
def aset{α:Type}: List α->Int->Int->α->List α
 | [],_,_,_=>[]
 | a::l,k,i,v=>(if(i==k)=true then v else a)::aset l (k+1) i v
theorem z8Y{α:Type}(v:α): ∀(l:List α) (k i:Int),k≤i->aset l k i v=l.set (i-k).toNat v
 | [],_,_,_=>rfl
 | a::l,k,i,h=>by
  unfold aset
  by_cases e:i=k
  ·subst e
   have h0:∀(l:List α) (k:Int),i<k->aset l k i v=l:=by
    intro l
    induction l with
    | nil=>intro k _;rfl
    | cons b l ih =>
     grind [aset]
   grind
  ·have h1:(i==k)=false:=by simpa using e
   rw[h1,z8Y v l (k+1) i (by omega)]
   have:(i-k).toNat=(i-(k+1)).toNat+1:=by omega
   grind
section
variable {P:Program}{n:Nat}{X:Hd qd}{ρ:Type}{Q:PQ ρ}{S:Sl}{Ls:List zJ}{F:List PP}{m:Option ρ}{os:Array Oper}{ol:List Oper}{x y:Operand}{p p':uM}{a:Act}
variable {d t:Nat}{ty:TypeId}{pos:String}{af:Array Edge}{g:Option (Nat×Bool)}{kd:IntKind}{B Jj:List Nat}{li:Array Bool}{fuel:Nat}
theorem zUj{b o o' k sz:Nat}{i:Int}{d:Option Tmp}(hS:qL a n S)(hx:zL S x=some (pt b o))(hy:zL S y=some (.int kd i))(ht:zOg P t=some (k,sz))(h0:0≤i∧i<(k:Int))(ho:o+i.toNat*sz=o')(w:World):
  (execOp a.eval ⟨d,.indexAddr t x y,ty,pos,af,g⟩).run P w=.ok (.value (pt b o')) w:=by
 subst ho
 simp[execOp,hS.eval hx,hS.eval hy,zSO ht h0.1 (show i.toNat<k by omega)]
section
variable {τ:Type}{l:List τ}{ix:Int}{u:τ}{b o:Nat}{c:List Value}{te:TypeId}{fr:Nat×Nat}
theorem idx_bd (h:zC l ix=some u): 0≤ix∧ix<(l.length:Int):=by grind [zC]
theorem jiB{f:τ->Option ρ}(hx:zL S x=some (pt b o))(hy:zL S y=some (.int kd ix))
  (h:∀ u,zC l ix=some u->J P n X Q (.ops os ol) ((d,pt b (o+ix.toNat*1))::S) Ls F (f u))
  (ht:zOg P t=some (l.length,1):=by kernel_rfl) (hd:Nat.blt d n=true:=by kernel_rfl) (hg:zS os S g=some true:=by kernel_rfl) :
  J P n X Q (.ops os (⟨some d,.indexAddr t x y,ty,pos,af,g⟩::ol)) S Ls F ((zC l ix).bind f) :=
 ⟨λhq r hm a w hs=>by
  obtain⟨u,h1,h2⟩:=xG hm
  exact sl (b_val hs (v:=pt b (o+ix.toNat*1)) (λw'=>zUj hs.s hx hy ht (idx_bd h1) rfl w') (λa h'=>(h u h1).go hq r h2 a w h') hd hg)⟩
theorem cell_at (w:τ->Value)(hc:(c.drop o).take l.length=l.map w)(hm:zC l ix=some u): ∃ hlt:o+ix.toNat*1<c.length,c[o+ix.toNat*1]=w u:=by
 obtain⟨h1,h2,h3⟩:=zNo hm
 have h4:((c.drop o).take l.length)[ix.toNat]?=some (w u):=by rw[hc,Q7,h2];rfl
 grind
theorem load_at (w:τ->Value)(hc:(c.drop o).take l.length=l.map w)(hm:zC l ix=some u)(ht:vW P t=some (false,1)): zNt P t c.toArray (o+ix.toNat*1)=some (w u):=by
 obtain⟨hlt,he⟩:=cell_at w hc hm
 unfold zNt
 rw[ht]
 have:Nat.ble (o+ix.toNat*1+1) c.toArray.size=true:=by rw[UY,QS];exact hlt
 simp only[this,Qf,z9V]
 rw[Qv hlt,he]
 rfl
theorem jlI (i:Nat)(w:τ->Value)(hx:zL S x=some (pt b (o+ix.toNat*1)))(hr:Ls[i]?=some [(b,.cells c.toArray te fr)])(hc:(c.drop o).take l.length=l.map w)(hm:zC l ix=some u)
  (h:J P n X Q (.ops os ol) ((d,w u)::S) Ls F m) (ht:vW P t=some (false,1):=by kernel_rfl) (hd:Nat.blt d n=true:=by kernel_rfl) (hg:zS os S g=some true:=by kernel_rfl):J P n X Q (.ops os (⟨some d,.load t x,ty,pos,af,g⟩::ol)) S Ls F m :=
 ⟨λhq r hm' a w' hs=>sl (zMX i (w u) hs hx hr (λa h'=>h.go hq r hm' a w' h') (load_at w hc hm ht) hd hg)⟩
theorem jsI{z:τ}(w:τ->Value)(at0:At Ls p os ⟨none,.store t x y,ty,pos,af,g⟩ p')(i:Nat)(hx:zL S x=some (pt b (o+ix.toNat*1)))(hy:zL S y=some (w z))(hr:Ls[i]?=some (bx b te c))(hc:(c.drop o).take l.length=l.map w)(hm:zC l ix=some u)
  (h:putC o c ((aset l 0 ix z).map w) λc'=>uR Ls i (bx b te c') λLs'=>J P n X Q p' S Ls' F m) (ht:vW P t=some (false,1):=by kernel_rfl) (hz:(w z).oneCell'=true:=by rfl) (hg:zS os S g=some true:=by kernel_rfl):J P n X Q p S Ls F m :=
 ⟨λhq r hm' a w' hs=>at0.run λK hK=>zQx i hs hx hy hr (λa w2 h' e=>hK e (by
  have h:=z6O h
  rw[zH0] at h
  obtain⟨h1,h2,h3⟩:=zNo hm
  have hlen:(aset l 0 ix z).map w=(l.map w).set ix.toNat (w z):=by
   rw[z8Y z l 0 ix h1,Int.sub_zero,List.map_set]
  have hl2:(l.map w).length=l.length:=QJ w
  have hcl:o+l.length≤c.length:=by
   have:=congrArg List.length hc
   simp only[QB,UE,QJ] at this
   omega
  have hnew:c.take o++(aset l 0 ix z).map w++c.drop (o+((aset l 0 ix z).map w).length)=c.set (o+ix.toNat*1) (w z):=by
   rw[hlen,UJ,hl2]
   have hd1:c=c.take o++(l.map w++c.drop (o+l.length)):=by
    conv=>lhs;rw[←QG o c,←QG l.length (c.drop o),hc,We]
   conv=>rhs;rw[hd1]
   have ho:(c.take o).length=o:=by rw[QB];omega
   rw[List.set_append_right _ _ (by omega),ho,show o+ix.toNat*1-o=ix.toNat by omega,List.set_append_left _ _ (by omega),Qs]
  rw[hnew] at h
  have hz1:(w z).cells.toList=[w z]:=by
   cases hv:w z <;> first | rfl | (rw[hv] at hz;cases hz)
  have hlt:o+ix.toNat*1<c.length:=by omega
  have hput:tK c.toArray (o+ix.toNat*1) (w z).cells.toList=(c.set (o+ix.toNat*1) (w z)).toArray:=by
   unfold tK
   rw[hz1,List.set_eq_take_append_cons_drop,Ql hlt]
   simp
  rw[hput] at h' ⊢
  exact h.go hq r hm' a w2 h')) (by
   obtain⟨h1,h2,h3⟩:=zNo hm
   have hcl:o+l.length≤c.length:=by
    have:=congrArg List.length hc
    simp only[QB,UE,QJ] at this
    omega
   have hz1:(w z).cells.toList=[w z]:=by
    cases hv:w z <;> first | rfl | (rw[hv] at hz;cases hz)
   have hz2:(w z).cells.size=1:=by rw[←Wb,hz1];rfl
   unfold zN4
   rw[ht]
   have hble:Nat.ble (o+ix.toNat*1+1) c.toArray.size=true:=by rw[UY,QS];omega
   grind) hg⟩
end
end
end
section
open Go Go.RowKit
section
variable {P:Program}{n:Nat}{S:Sl}{x y:Operand}{a:Act}{t te:Nat}{ty u:TypeId}{pos:String}{af:Array Edge}{g:Option (Nat×Bool)}{kd:IntKind}{i1 i2 j1 j2:Int}{d:Option Tmp}
theorem run_part1{cs:Array Value}{o:Nat}{v:Value}(hsh:vW P te=some (false,1))(h:cs[o]?=some v)(w:World): (part te cs o).run P w=.ok v w :=
 by grind [zSW,partV]
end
end
section
open Go Go.RowKit
variable {qd:Prop}
set_option linter.unusedVariables false
def uD (k:Nat)(l:List Int): List Value:=(List.range k).map λj=>vi (l.getD j 0)
abbrev uF (pre:List Value)(k:Nat)(l:List Int)(post:List Value): List Value:=pre++(uD k l++post)
theorem zEf (k:Nat)(l:List Int): (uD k l).length=k:=by simp[uD]
theorem zZM{k j:Nat}(l:List Int)(h:j<k): (uD k l)[j]?=some (vi (l.getD j 0)):=by
 simp[uD,h]
theorem arrC_set (k:Nat)(l:List Int)(i v:Int): uD k (tD k l i v)=(uD k l).set i.toNat (vi v):=by
 apply QN
 intro j
 by_cases hj:j<k
 ·rw[zZM _ hj,List.getElem?_set]
  by_cases e:i.toNat=j
  ·grind [zEf,tD]
  ·rw[Qi e,zZM _ hj]
   have:¬ j=i.toNat:=λh=>e h.symm
   simp[tD,hj,this]
 grind [zEf]
section
variable {P:Program}{n:Nat}{X:Hd qd}{ρ:Type}{Q:PQ ρ}{S:Sl}{Ls:List zJ}{F:List PP}{m:Option ρ}{os:Array Oper}{ol:List Oper}{x y:Operand}{p p':uM}{a:Act}
variable {d t:Nat}{ty:TypeId}{pos:String}{af:Array Edge}{g:Option (Nat×Bool)}{kd:IntKind}{B Jj:List Nat}{li:Array Bool}{fuel:Nat}
variable {b o:Nat}{te:TypeId}{fr:Nat×Nat}{ix K:Int}
theorem chk_bd{k:Nat}{u:Unit}(hK:K=((k:Nat):Int))(h:vT (decide (0≤ix)&&decide (ix<K))=some u): 0≤ix∧ix<(k:Int):=by
 unfold vT at h
 grind
theorem jiL{f:Unit->Option ρ}(k:Nat)(hx:zL S x=some (pt b o))(hy:zL S y=some (.int kd ix))
  (h:∀ u,(0≤ix∧ix.toNat<k)->J P n X Q (.ops os ol) ((d,pt b (o+ix.toNat*1))::S) Ls F (f u))
  (ht:zOg P t=some (k,1):=by kernel_rfl) (hK:K=((k:Nat):Int):=by rfl) (hd:Nat.blt d n=true:=by kernel_rfl) (hg:zS os S g=some true:=by kernel_rfl) :
  J P n X Q (.ops os (⟨some d,.indexAddr t x y,ty,pos,af,g⟩::ol)) S Ls F ((vT (decide (0≤ix)&&decide (ix<K))).bind f) :=
 ⟨λhq r hm a w hs=>by
  obtain⟨u,h1,h2⟩:=xG hm
  have hb:=chk_bd hK h1
  exact sl (b_val hs (v:=pt b (o+ix.toNat*1)) (λw'=>zUj hs.s hx hy ht hb rfl w') (λa h'=>(h u ⟨hb.1,by omega⟩).go hq r h2 a w h') hd hg)⟩
theorem jdiL{f:Unit->Option ρ}(k i:Nat)(hi:os[i]?=some ⟨some d,.indexAddr t x y,ty,pos,af,g⟩)(hx:zL S x=some (pt b o))(hy:zL S y=some (.int kd ix))
  (h:∀ u,(0≤ix∧ix.toNat<k)->J P n X Q (.dr os B Jj fuel (li.setIfInBounds i true)) ((d,pt b (o+ix.toNat*1))::S) Ls F (f u))
  (ht:zOg P t=some (k,1):=by kernel_rfl) (hK:K=((k:Nat):Int):=by rfl) (hk:vZ os B li i=true:=by kernel_rfl) (hd:Nat.blt d n=true:=by kernel_rfl) (hg:zS os S g=some true:=by kernel_rfl) :
  J P n X Q (.dr os B Jj (fuel+1) li) S Ls F ((vT (decide (0≤ix)&&decide (ix<K))).bind f) :=
 ⟨λhq r hm a w hs=>by
  obtain⟨u,h1,h2⟩:=xG hm
  have hb:=chk_bd hK h1
  exact dv (v:=pt b (o+ix.toNat*1)) i hs hi (λw'=>zUj hs.s hx hy ht hb rfl w') (λa' hs'=>(h u ⟨hb.1,by omega⟩).go hq r h2 a' w hs') (λc v a w hp=>(hq r c _ _ hp).elim) hk hd hg⟩
theorem z69{pre post:List Value}{k j:Nat}{l:List Int}(ho:pre.length=o)(hj:j<k): o+j*1<(pre++(uD k l++post)).length∧(pre++(uD k l++post))[o+j*1]?=some (vi (l.getD j 0)):=by
 have h1:(pre++(uD k l++post))[o+j*1]?=some (vi (l.getD j 0)):=by
  rw[Uj (by omega),Q4 (by rw[zEf];omega),show o+j*1-pre.length=j by omega,zZM l hj]
 grind
theorem z3p{pre post:List Value}{k j:Nat}{l:List Int}(ho:pre.length=o)(hj:j<k)(ht:vW P t=some (false,1)): zNt P t (pre++(uD k l++post)).toArray (o+j*1)=some (vi (l.getD j 0)):=by
 obtain⟨hlt,he⟩:=z69 (post:=post) (l:=l) ho hj
 unfold zNt
 rw[ht]
 have:Nat.ble (o+j*1+1) (pre++(uD k l++post)).toArray.size=true:=by rw[UY,QS];exact hlt
 simp only[this,Qf,z9V]
 rw[Qv hlt,(Qe.1 he).2]
 rfl
theorem jlL (i k:Nat)(l:List Int)(pre post:List Value)(hm:0≤ix∧ix.toNat<k)(hx:zL S x=some (pt b (o+ix.toNat*1)))(hr:Ls[i]?=some [(b,.cells (uF pre k l post).toArray te fr)])
  (h:J P n X Q (.ops os ol) ((d,vi (yS l ix))::S) Ls F m) (ho:pre.length=o:=by rfl) (ht:vW P t=some (false,1):=by kernel_rfl) (hd:Nat.blt d n=true:=by kernel_rfl) (hg:zS os S g=some true:=by kernel_rfl):J P n X Q (.ops os (⟨some d,.load t x,ty,pos,af,g⟩::ol)) S Ls F m :=
 ⟨λhq r hm' a w' hs=>sl (zMX i (vi (yS l ix)) hs hx hr (λa h'=>h.go hq r hm' a w' h') (z3p ho hm.2 ht) hd hg)⟩
theorem jdlL (i q k:Nat)(l:List Int)(pre post:List Value)(hm:0≤ix∧ix.toNat<k)(hi:os[i]?=some ⟨some d,.load t x,ty,pos,af,g⟩)(hx:zL S x=some (pt b (o+ix.toNat*1)))(hr:Ls[q]?=some [(b,.cells (uF pre k l post).toArray te fr)])
  (h:J P n X Q (.dr os B Jj fuel (li.setIfInBounds i true)) ((d,vi (yS l ix))::S) Ls F m) (ho:pre.length=o:=by rfl)
  (ht:vW P t=some (false,1):=by kernel_rfl) (hb:B.all (λj=>behind os i os.size j)=true:=by kernel_rfl) (hJ:Jj.contains q=true:=by kernel_rfl)
  (hk:vZ os B li i=true:=by kernel_rfl) (hd:Nat.blt d n=true:=by kernel_rfl) (hg:zS os S g=some true:=by kernel_rfl):J P n X Q (.dr os B Jj (fuel+1) li) S Ls F m :=
 ⟨λhq r hm' a w' hs=>dlo i q (vi (yS l ix)) hs hi hx hr (λa' hs'=>h.go hq r hm' a' w' hs') (z3p ho hm.2 ht) hb hJ (λc v a w hp=>(hq r c _ _ hp).elim) hk hd hg⟩
theorem jsL (z:Int)(at0:At Ls p os ⟨none,.store t x y,ty,pos,af,g⟩ p')(i k:Nat)(l:List Int)(pre post:List Value)(hm:0≤ix∧ix.toNat<k)(hx:zL S x=some (pt b (o+ix.toNat*1)))(hy:zL S y=some (vi z))(hr:Ls[i]?=some (bx b te (uF pre k l post)))
  (h:uR Ls i (bx b te (uF pre k (tD k l ix z) post)) λLs'=>J P n X Q p' S Ls' F m) (ho:pre.length=o:=by rfl) (ht:vW P t=some (false,1):=by kernel_rfl) (hg:zS os S g=some true:=by kernel_rfl):J P n X Q p S Ls F m :=
 ⟨λhq r hm' a w hs=>at0.run λK hK=>by
  obtain⟨hlt,he⟩:=z69 (post:=post) (l:=l) ho hm.2
  have hput:tK (pre++(uD k l++post)).toArray (o+ix.toNat*1) (vi z).cells.toList=(pre++(uD k (tD k l ix z)++post)).toArray:=by
   have h1:(pre++(uD k l++post)).set (o+ix.toNat*1) (vi z)=pre++(uD k (tD k l ix z)++post):=by
    rw[List.set_append_right _ _ (by omega),List.set_append_left _ _ (by rw[zEf];omega),show o+ix.toNat*1-pre.length=ix.toNat by omega,arrC_set]
   rw[←h1,List.set_eq_take_append_cons_drop,Ql hlt]
   simp[tK,Value.cells]
  refine zQx i hs hx hy hr (λa w2 h' e=>hK e ?_) ?_ hg
  ·rw[zH0] at h
   rw[hput] at h' ⊢
   exact h.go hq r hm' a w2 h'
  ·unfold zN4
   rw[ht]
   have hble:Nat.ble (o+ix.toNat*1+1) (pre++(uD k l++post)).toArray.size=true:=by rw[UY,QS];exact hlt
   simp only[hble]
   rfl⟩
theorem jalA (at0:At Ls p os ⟨some d,.alloc t,ty,pos,af,g⟩ p')(c:List Value)(h:∀ b,zOD Ls (bx b t c) λLs'=>J P n X Q p' ((d,pt b 0)::S) Ls' F m)
  (hx:zJX P t=some (.agg c.toArray):=by kernel_rfl) (hd:Nat.blt d n=true:=by kernel_rfl) (hg:zS os S g=some true:=by kernel_rfl):J P n X Q p S Ls F m :=
 ⟨λhq r hm a w hs=>at0.run λK hK=>b_alloc hs hx (λb a w' h' e=>hK e (by
  have h:=h b
  rw[zKe] at h
  exact h.go hq r hm a w' h')) hd hg⟩
end
end
section
open Go Go.RowKit
variable {qd:Prop}
set_option linter.unusedVariables false
section
variable {P:Program}{n:Nat}{X:Hd qd}{ρ:Type}{Q:PQ ρ}{S:Sl}{Ls:List zJ}{F:List PP}{m m1 m2:Option ρ}{os:Array Oper}{ol:List Oper}{x y:Operand}{p p':uM}{a:Act}
variable {d t:Nat}{ty:TypeId}{pos:String}{af:Array Edge}{g:Option (Nat×Bool)}{kd:IntKind}{k0:Nat}
theorem jbF{parts:List (Nat×Operand)}(at0:At Ls p os ⟨some d,.buildSlice t k0 parts.toArray,ty,pos,af,g⟩ p')(te:TypeId)(cs:List Value)
  (h:∀ b,zOD Ls (bx b te cs) λLs'=>J P n X Q p' ((d,.slice (some ⟨b,0,none⟩) k0 k0)::S) Ls' F m) (ht:uT P t te 1=true:=by kernel_rfl) (hc:zMP P S t k0 parts=some cs:=by kernel_rfl)
  (hd:Nat.blt d n=true:=by kernel_rfl) (hg:zS os S g=some true:=by kernel_rfl):J P n X Q p S Ls F m :=
 ⟨λhq r hm a w hs=>at0.run λK hK=>by
  have hE:=zU.alloc (qd:=qd) (w:=w) (w':=w.alloc (.cells cs.toArray te)) Ls (.cells cs.toArray te) rfl rfl rfl rfl
  refine tE hs.s hd hg (zP3 hs.s ht (by grind)) λa hS=>hK hE ?_
  have h:=h w.heap.size
  rw[zKe] at h
  exact h.go hq r hm a _ (hs.next (hs.o.alloc _ rfl) hE hS [] trivial)⟩
theorem zVu{b m c:Nat}{i:Int}{d:Option Tmp}(hS:qL a n S)(hx:zL S x=some (.slice (some ⟨b,0,none⟩) m c))(hy:zL S y=some (.int kd i))(h0:0≤i∧i<(m:Int))(ht:yE P t=some 1){o:Nat}(ho:0+i.toNat*1=o)(w:World):
  (execOp a.eval ⟨d,.indexAddr t x y,ty,pos,af,g⟩).run P w=.ok (.value (pt b o)) w:=by
 subst ho
 simp[execOp,hS.eval hx,hS.eval hy,zMR ht h0.1 h0.2]
theorem jeqI{ix c:Int}(h1:ix=c->J P n X Q p S Ls F m1)(h2:J P n X Q p S Ls F m2): J P n X Q p S Ls F (if(ix==c)=true then m1 else m2) :=
 by grind
end
end
section
open Go Go.RowKit
variable {qd:Prop}
set_option linter.unusedVariables false
section
variable {P:Program}{n:Nat}{X:Hd qd}{ρ:Type}{Q:PQ ρ}{S:Sl}{Ls:List zJ}{F:List PP}{m:Option ρ}{os:Array Oper}{ol:List Oper}{x y:Operand}{p p':uM}{a:Act}
variable {d t t2:Nat}{ty:TypeId}{pos:String}{af:Array Edge}{g:Option (Nat×Bool)}{kd:IntKind}{j:Int}
variable {τ:Type}{e:E τ}{te:TypeId}{r:zJ}
theorem r_cap{s:Option Addr}{k c:Nat}{e':TypeId}{d:Option Tmp}(hS:qL a n S)(hx:zL S x=some (.slice s k c))(hu:P.underlying t=some (.slice e'))(w:World):
  (execOp a.eval ⟨d,.call { callee:=.builtin .cap,args:=[x].toArray,argTypes:=[t].toArray },ty,pos,af,g⟩).run P w=.ok (.value (vi (c:Int))) w:=by
 simp[execOp,resolve,invoke,builtin,hS.eval hx,Builtin.cap_,run_underlying hu,goInt]
theorem r_slnil{d:Option Tmp}(hS:qL a n S)(hx:zL S x=some (.slice none 0 0)){x2:Operand}(hy:zL S x2=some (.int kd 0))(ht:yE P t=some e.n)(w:World):
  (execOp a.eval ⟨d,.slice t x none (some x2) none,ty,pos,af,g⟩).run P w=.ok (.value (.slice none 0 0)) w:=by
 unfold yE at ht
 split at ht
 ·rename_i te hu
  cases hq:P.info? te with
  | none=>grind
  | some info =>
   have hb:=zPk (P:=P) (w:=w) (b:=true) (m:=0) (c:=0) (i:=0) (j:=0) (lo:=none) (hi:=some (.int kd 0)) (.inl ⟨rfl,rfl⟩) (.inr ⟨_,rfl⟩) (by omega) (by omega) (by simp)
   have e1:tI S (some x2)=some (some (.int kd 0)):=by simp[tI,hy]
   simp[execOp,hS.eval hx,hS.evalO e1,Instr.sliceAt,Instr.slice,run_underlying hu,hb,sizeOf,typeInfo,hq]
 ·cases ht
theorem zYd{w:World}{info:TypeInfo}{zv:Value}(hu:P.underlying t=some (.slice te))(hi:P.info? te=some info)(hz:info.zero=some zv)(h2:P.underlying t2=some (.int .i64))(hby:info.bytes≤32768)(hs:0<info.size)(h0:0<j)(hj:j≤4294967296):
  (Builtin.append_ #[t,t2] ty #[.slice none 0 0,.int .i64 j]).run P w =
   .ok (.slice (some ⟨w.heap.size,0,none⟩) j.toNat (grownCap w j.toNat 0 te)) (w.drew.alloc (.cells (Builtin.zeroCells zv.cells j.toNat++Builtin.zeroCells zv.cells (grownCap w j.toNat 0 te-j.toNat)) te)):=by
 obtain⟨k,rfl⟩:=QH (show 0≤j by omega)
 have hk:0<k:=by omega
 have hwr:IntKind.i64.wrap (k:Int)=(k:Int):=by simp only[IntKind.wrap,IntKind.signed,IntKind.bits,Uw];(grind)
 have hmul:info.bytes*k≤32768*4294967296:=Ws hby (by omega)
 have hb:¬ (281474976710656:Int)<(k:Int)*(info.bytes:Int):=by
  rw[←Int.natCast_mul,Nat.mul_comm];omega
 have h48':¬ (281474976710656<Builtin.nextslicecap k 0*info.bytes):=by rw[nextslicecap_zero hk,Nat.mul_comm];omega
 have hkn:¬ k=0:=by omega
 have hsz:¬ info.size=0:=by omega
 have h63':¬ (9223372036854775807<(k:Int)):=by omega
 have hneg:¬ ((k:Int)<0):=by omega
 have hks:¬ (k*info.size=0):=Nat.mul_ne_zero hkn hsz
 simp[Builtin.append_,run_underlying hu,run_underlying h2,sizeOf,typeInfo,zeroValue,hi,hz,hwr,hb,h48',hkn,hks,h63',hneg,Question.forced,newRow,grownCap,Builtin.firstCells,asInt,asIntOf]
theorem jaz{f:List τ->Option ρ}(at0:At Ls p os ⟨some d,.call { callee:=.builtin .append,args:=[x,y].toArray,argTypes:=[t,t2].toArray },ty,pos,af,g⟩ p')(i k:Nat)(te:TypeId)(zd:τ)(zv:Value)(hF:uA F k=Ar e te r none 0 0 [])(hzr:RV e Ls F zv.cells.toList zd)
  (hx:zL S x=some (.slice none 0 0)) (hy:zL S y=some (.int .i64 j))
  (h:∀ z r' p1 c',uR Ls i r' λLs'=>J P n X Q p' ((d,sv p1 z c')::S) Ls' (Al e te r' p1 c' z::F) (f z)) (hr:Ls[i]?=some r:=by rfl) (hz:zJX P te=some zv:=by kernel_rfl) (ht:uT P t te e.n=true:=by kernel_rfl)
  (h2:P.underlying t2=some (.int .i64)) (hd:Nat.blt d n=true:=by kernel_rfl) (hg:zS os S g=some true:=by kernel_rfl):J P n X Q p S Ls F ((mkS j j zd).bind f) :=
 ⟨λhq r0 hm a w hs=>by
  obtain⟨z,h1,h3⟩:=xG hm
  obtain⟨h0,_,hj,rfl⟩:=mkS_lt h1
  have hfact:(Ar e te r none 0 0 ([]:List τ)).h (bl Ls++X.A) w:=hF▸hs.g k
  have hre:r=[]:=by
   rcases hfact.1 with⟨hh,_⟩ | ⟨b,o,cells,_,hh,_⟩
   ·exact hh
   ·cases hh
  subst hre
  obtain⟨hu,info,zv',hi,hz',hsize,hby,hpos,hzs⟩:=zMz ht
  have hzz:zv'=zv:=by simp[zJX,hi,hz'] at hz;exact hz
  subst hzz
  refine at0.run λK hK=>?_
  by_cases hj0:j=0
  ·subst hj0
   have hrun:(Builtin.append_ #[t,t2] ty #[.slice none 0 0,.int .i64 0]).run P w=.ok (.slice none 0 0) w:=by
    have hwr:IntKind.i64.wrap (0:Int)=0:=rfl
    simp[Builtin.append_,run_underlying hu,run_underlying h2,sizeOf,typeInfo,hi,hwr,asInt,asIntOf]
   refine tE hs.s hd hg (v:=.slice none 0 0) (w':=w) (by simp[execOp,resolve,invoke,builtin,hs.s.eval hx,hs.s.eval hy,hrun]) λa hS=>?_
   have hself:Ls.set i []=Ls:=by
    apply QN;intro q
    by_cases hq:i=q
    ·grind
    ·grind
   have h:=h [] [] none 0
   rw[zH0,hself] at h
   refine hK (zU.refl _ _) (h.go hq r0 h3 a w ?_)
   exact(hs.slot hS).add ⟨vO.nil,rfl⟩
  ·have hjp:0<j:=by omega
   have hrun:=zYd (ty:=ty) (w:=w) hu hi hz' h2 hby (by omega) hjp hj
   have hge:=grownCap_ge w j.toNat 0 te
   have hcm:=grownCap_le_maxLen w j.toNat 0 te (by grind [maxLen])
   have hE:zU qd Ls w (Ls.set i [(w.heap.size,.cells (Builtin.zeroCells zv'.cells j.toNat++Builtin.zeroCells zv'.cells (grownCap w j.toNat 0 te-j.toNat)) te (0,0))]) (w.drew.alloc (.cells (Builtin.zeroCells zv'.cells j.toNat++Builtin.zeroCells zv'.cells (grownCap w j.toNat 0 te-j.toNat)) te)) :=
    zU.set hr rfl rfl rfl (by simp) (λk hk _=>Below.heap_alloc w.drew _ k hk) (λx hx=>by grind)
   refine tE hs.s hd hg (v:=.slice (some ⟨w.heap.size,0,none⟩) j.toNat (grownCap w j.toNat 0 te)) (w':=w.drew.alloc (.cells (Builtin.zeroCells zv'.cells j.toNat++Builtin.zeroCells zv'.cells (grownCap w j.toNat 0 te-j.toNat)) te)) (by simp[execOp,resolve,invoke,builtin,hs.s.eval hx,hs.s.eval hy,hrun]) λa hS=>?_
   have h:=h (List.replicate j.toNat zd) [(w.heap.size,.cells (Builtin.zeroCells zv'.cells j.toNat++Builtin.zeroCells zv'.cells (grownCap w j.toNat 0 te-j.toNat)) te (0,0))] (some ⟨w.heap.size,0,none⟩) (grownCap w j.toNat 0 te)
   rw[zH0] at h
   have hO:=hs.o.set hr (w':=w.drew.alloc (.cells (Builtin.zeroCells zv'.cells j.toNat++Builtin.zeroCells zv'.cells (grownCap w j.toNat 0 te-j.toNat)) te)) (r':=[(w.heap.size,.cells (Builtin.zeroCells zv'.cells j.toNat++Builtin.zeroCells zv'.cells (grownCap w j.toNat 0 te-j.toNat)) te (0,0))]) (by simp) (λk hk _=>Below.heap_alloc w.drew _ k hk) (λx hx=>by simp only[Qa] at hx;subst hx;exact heap_alloc_new w.drew _) (by simp) (λx hx=>by grind)
   have hlen:(List.replicate j.toNat zd).length=j.toNat:=U0
   refine hK hE (h.go hq r0 h3 a _ (hs.next hO hE (by grind) [Ar e te _ _ _ _ _] ⟨⟨vO.mk0 w.heap.size _ rfl rfl (by grind) hcm ?_ ?_,rfl⟩,trivial⟩))
   ·simp only[Wp,size_zeroCells,hzs,←Q1]
    grind
   ·have hrd:=E.rdL_replicate (hzr _ _ hs.o hs.f) j.toNat
    rw[←zM1] at hrd
    have hl2:(Builtin.zeroCells zv'.cells j.toNat).toList.length=(List.replicate j.toNat zd).length*e.n:=by rw[hlen,Wb,size_zeroCells,hzs]
    rw[Wa,←hl2,UX]
    exact e.rdL_step (hE.step X.A) hrd⟩
end
end
section
open Go Go.RowKit
variable {qd:Prop}
set_option linter.unusedVariables false
section
variable {P:Program}{n:Nat}{X:Hd qd}{ρ:Type}{Q:PQ ρ}{S:Sl}{Ls:List zJ}{F:List PP}{m:Option ρ}{os:Array Oper}{ol:List Oper}{x y:Operand}{p p':uM}{a:Act}
variable {d t:Nat}{ty:TypeId}{pos:String}{af:Array Edge}{g:Option (Nat×Bool)}{kd:IntKind}{B Jj:List Nat}{li:Array Bool}{fuel:Nat}
variable {b o:Nat}{te:TypeId}{fr:Nat×Nat}
theorem arrT_mid{pre post:List Value}{k:Nat}{l:List Int}(ho:pre.length=o): ((pre++(uD k l++post)).drop o).take k=uD k l:=by
 subst ho
 rw[List.drop_left,Uz (by rw[zEf];grind),Qx (by rw[zEf];grind)]
theorem z4O{pre post:List Value}{k:Nat}{l:List Int}(ho:pre.length=o)(ht:vW P t=some (true,k)): zNt P t (pre++(uD k l++post)).toArray o=some (.agg (uD k l).toArray):=by
 unfold zNt
 rw[ht]
 have:Nat.ble (o+k) (pre++(uD k l++post)).toArray.size=true:=by
  rw[UY,QS,Qd,Qd,zEf];omega
 simp only[this,Qf,z9V,mkV]
 rw[arrT_mid ho]
theorem jlW (i k:Nat)(l:List Int)(pre post:List Value)(hx:zL S x=some (pt b o))(hr:Ls[i]?=some [(b,.cells (uF pre k l post).toArray te fr)])
  (h:J P n X Q (.ops os ol) ((d,.agg (uD k l).toArray)::S) Ls F m) (ho:pre.length=o:=by rfl) (ht:vW P t=some (true,k):=by kernel_rfl) (hd:Nat.blt d n=true:=by kernel_rfl) (hg:zS os S g=some true:=by kernel_rfl):J P n X Q (.ops os (⟨some d,.load t x,ty,pos,af,g⟩::ol)) S Ls F m :=
 ⟨λhq r hm' a w' hs=>sl (zMX i (.agg (uD k l).toArray) hs hx hr (λa h'=>h.go hq r hm' a w' h') (z4O ho ht) hd hg)⟩
theorem jdlW (i q k:Nat)(l:List Int)(pre post:List Value)(hi:os[i]?=some ⟨some d,.load t x,ty,pos,af,g⟩)(hx:zL S x=some (pt b o))(hr:Ls[q]?=some [(b,.cells (uF pre k l post).toArray te fr)])
  (h:J P n X Q (.dr os B Jj fuel (li.setIfInBounds i true)) ((d,.agg (uD k l).toArray)::S) Ls F m) (ho:pre.length=o:=by rfl)
  (ht:vW P t=some (true,k):=by kernel_rfl) (hb:B.all (λj=>behind os i os.size j)=true:=by kernel_rfl) (hJ:Jj.contains q=true:=by kernel_rfl)
  (hk:vZ os B li i=true:=by kernel_rfl) (hd:Nat.blt d n=true:=by kernel_rfl) (hg:zS os S g=some true:=by kernel_rfl):J P n X Q (.dr os B Jj (fuel+1) li) S Ls F m :=
 ⟨λhq r hm' a w' hs=>dlo i q (.agg (uD k l).toArray) hs hi hx hr (λa' hs'=>h.go hq r hm' a' w' hs') (z4O ho ht) hb hJ (λc v a w hp=>(hq r c _ _ hp).elim) hk hd hg⟩
theorem jsW (l2:List Int)(at0:At Ls p os ⟨none,.store t x y,ty,pos,af,g⟩ p')(i k:Nat)(l:List Int)(pre post:List Value)(hx:zL S x=some (pt b o))(hy:zL S y=some (.agg (uD k l2).toArray))(hr:Ls[i]?=some (bx b te (uF pre k l post)))
  (h:uR Ls i (bx b te (uF pre k l2 post)) λLs'=>J P n X Q p' S Ls' F m) (ho:pre.length=o:=by rfl) (ht:vW P t=some (true,k):=by kernel_rfl) (hg:zS os S g=some true:=by kernel_rfl):J P n X Q p S Ls F m :=
 ⟨λhq r hm' a w' hs=>at0.run λK hK=>by
  have hput:tK (pre++(uD k l++post)).toArray o (Value.agg (uD k l2).toArray).cells.toList=(pre++(uD k l2++post)).toArray:=by
   subst ho
   have h1:(pre++(uD k l++post)).drop (pre.length+(uD k l2).length)=post:=by
    rw[zEf,Wf,Uf (by omega),QI,UD,Wf,Uf (by rw[zEf];omega),zEf,Nat.sub_self,List.drop_zero,QI]
   simp only[tK,Value.cells]
   rw[UX,h1,Qs]
  refine zQx i hs hx hy hr (λa w2 h' e=>hK e ?_) ?_ hg
  ·rw[zH0] at h
   rw[hput] at h' ⊢
   exact h.go hq r hm' a w2 h'
  ·unfold zN4
   rw[ht]
   have hble:Nat.ble (o+k) (pre++(uD k l++post)).toArray.size=true:=by
    rw[UY,QS,Qd,Qd,zEf];omega
   have hsz:((Value.agg (uD k l2).toArray).cells.size==k)=true:=by simp[Value.cells,zEf]
   have hone:(Value.agg (uD k l2).toArray).cells.toList.all (λx=>x.oneCell')=true:=by
    simp only[Value.cells,QW]
    intro v hv
    simp only[uD,Qn] at hv
    obtain⟨j,_,rfl⟩:=hv
    rfl
   grind⟩
theorem z6l{k:Nat}{l u:List Int}{j:Int}(h:asub k l j=some u): 0≤j∧j≤k∧u=(List.range j.toNat).map λi=>l.getD i 0:=by grind [asub]
theorem r_asl{k:Nat}{j:Int}{dd:Option Tmp}(hS:qL a n S)(hx:zL S x=some (pt b o))(hy:zL S y=some (.int kd j))(ht:zOg P t=some (k,1))(h0:0≤j)(hk:j≤k)(w:World):
  (execOp a.eval ⟨dd,.slice t x none (some y) none,ty,pos,af,g⟩).run P w=.ok (.value (.slice (some ⟨b,o,none⟩) j.toNat k)) w:=by
 unfold zOg at ht
 split at ht
 ·rename_i k' el hu
  cases hq:P.info? el with
  | none=>grind
  | some info =>
   have hh:k'=k∧info.size=1:=by simpa [hq] using ht
   obtain⟨rfl,hs⟩:=hh
   have hb:(Instr.sliceBounds false k' k' none (some (.int kd j)) none).run P w=.ok (0,j.toNat,k') w:=by
    simp[Instr.sliceBounds,Instr.sliceBound,asIntOf,h0,hk]
   simp[execOp,hS.eval hx,hS.eval hy,Instr.sliceAt,Instr.sureAddr,run_underlying hu,hb,sizeOf,typeInfo,hq,hs,zCt]
 ·cases ht
theorem z8S{k:Nat}{l u:List Int}{j:Int}(h:asub k l j=some u): u.length=j.toNat:=by
 obtain⟨_,_,rfl⟩:=z6l h;simp
theorem jdasl{k:Nat}{j:Int}{f:List Int->Option ρ}(i:Nat)(l:List Int)(hi:os[i]?=some ⟨some d,.slice t x none (some y) none,ty,pos,af,g⟩)(hx:zL S x=some (pt b o))(hy:zL S y=some (.int kd j))
  (h:∀ u,asub k l j=some u->J P n X Q (.dr os B Jj fuel (li.setIfInBounds i true)) ((d,sv (some ⟨b,o,none⟩) u k)::S) Ls F (f u)) (ht:zOg P t=some (k,1):=by kernel_rfl) (hk:vZ os B li i=true:=by kernel_rfl) (hd:Nat.blt d n=true:=by kernel_rfl) (hg:zS os S g=some true:=by kernel_rfl) :
  J P n X Q (.dr os B Jj (fuel+1) li) S Ls F ((asub k l j).bind f) :=
 ⟨λhq r hm a w hs=>by
  obtain⟨u,h1,h2⟩:=xG hm
  obtain⟨h3,h4,_⟩:=z6l h1
  refine dv (v:=sv (some ⟨b,o,none⟩) u k) i hs hi (λw'=>?_) (λa' hs'=>(h u h1).go hq r h2 a' w hs') (λc v a w hp=>(hq r c _ _ hp).elim) hk hd hg
  rw[sv,z8S h1]
  exact r_asl hs.s hx hy ht h3 h4 w'⟩
theorem z4W{Z:List Nat}{w:World}: ∀(u:List Int),(zB .i64).rdL Z w (u.map vi) u
 | []=>rfl
 | x::u=>⟨[vi x],u.map vi,rfl,rfl,z4W u⟩
theorem cA{js ls:List Nat}{u:List Int}{j:Int}(i k:Nat)(l:List Int)(pre post:List Value)(hu:asub k l j=some u)(hr:Ls[i]?=some [(b,.cells (uF pre k l post).toArray te fr)])(ho:pre.length=o:=by rfl)
  (hk:z6n (js++ls) Ls.length=true:=by kernel_rfl) (hi:ls.contains i=true:=by kernel_rfl):OKc Ls F js ls (Rl (zB .i64) (some ⟨b,o,none⟩) k u):=λA w hO hA=>by
 obtain⟨hn,_⟩:=zQI hk
 have hi':i∈ls:=by simpa using hi
 have hij:i∉js:=λhj=>(QT.1 hn).2.2 i hj i hi' rfl
 obtain⟨h0,h1,he⟩:=z6l hu
 have hb:=hO.has _ (UP hr) _ (Qa.2 rfl)
 have hul:=z8S hu
 refine⟨⟨by grind,.inr ⟨b,o,u.map vi,rfl,λhm=>?_,(Qu.1 hb).1,z4W u,λq v hv=>?_⟩⟩,rfl⟩
 ·rcases Qb.1 hm with hm | hm
  ·obtain⟨s,hs,q,hq,he⟩:=zMM.1 hm
   obtain⟨k,hk,hlk⟩:=zTW hs hq
   exact zGM hO.nodup hr hlk (λe=>hij (e▸hk)) _ (Qa.2 rfl) q hq he.symm
  ·rcases Qb.1 hm with hm | hm
   ·obtain⟨k,s,hk,hs,q,hq,he⟩:=zTL hm
    exact zGM hO.nodup hr hs (λe=>hk (Qb.2 (.inr (e▸hi')))) _ (Qa.2 rfl) q hq he.symm
   ·exact hO.apart b (zCo hr (Qa.2 rfl)) hm
 ·rw[Q7] at hv
  obtain⟨z,hz,rfl⟩:=UG.1 hv
  have hqu:q<j.toNat:=by rw[←hul];exact(Qe.1 hz).1
  obtain⟨hlt,hc⟩:=z69 (pre:=pre) (post:=post) (l:=l) (k:=k) (j:=q) ho (by omega)
  rw[UK] at hc
  have hz':z=l.getD q 0:=by
   rw[he,Q7,List.getElem?_range hqu] at hz
   exact(QE hz).symm
  simp only[World.cell?,hb]
  grind
theorem zYA{k j:Nat}{l:List Int}(hsh:vW P te=some (false,1))(hj:j<k)(w:World): (part te (uD k l).toArray (j*1)).run P w=.ok (vi (l.getD j 0)) w :=
 run_part1 hsh (by rw[UK,List.getElem?_toArray];exact zZM l hj) w
theorem zSc{k:Nat}{l l2:List Int}(D:Nat)(he:P.underlying te=some (.int .i64))(hc:P.cellsOf te=1)(hsh:vW P te=some (false,1))(w:World): ∀(js:List Nat),(∀ j∈js,j<k)->
  (Op.eqItems (D+1) te (P.cellsOf te) (uD k l).toArray (uD k l2).toArray js).run P w=.ok (js.all λj=>l.getD j 0==l2.getD j 0) w
 | [],_=>by simp[Op.eqItems]
 | j::js,hj=>by
  have ih:=zSc (l:=l) (l2:=l2) D he hc hsh w js (λi hi=>hj i (Qo _ hi))
  have hjk:=hj j (Qq ..)
  unfold Op.eqItems
  rw[hc] at ih ⊢
  simp only[Sem.run_bind,Sem.run_ite]
  rw[zYA hsh hjk,Result.andThen_ok,zYA hsh hjk,Result.andThen_ok,run_equalIn_int w D te .i64 .i64 _ _ he,Result.andThen_ok,ih,U8]
  cases h1:(l.getD j 0==l2.getD j 0) with
  | false=>simp
  | true=>simp
theorem r_eqArr{k:Nat}{l l2:List Int}{u:TypeId}{dd:Option Tmp}(hS:qL a n S)(hx:zL S x=some (.agg (uD k l).toArray))(hy:zL S y=some (.agg (uD k l2).toArray))(hu:P.underlying t=some (.array k te))(he:P.underlying te=some (.int .i64))(hi:(P.info? te).isSome=true)(hc:P.cellsOf te=1)
  (hsh:vW P te=some (false,1)) (hg:P.eqGuardType P.depth t=false) (w:World) :
  (execOp a.eval ⟨dd,.binOp .eql t x y u,ty,pos,af,g⟩).run P w=.ok (.value (vb (aeq k l l2))) w:=by
 obtain⟨i,hi⟩:=Option.isSome_iff_exists.1 hi
 have hrun:(Op.equalIn 10000 t (.agg (uD k l).toArray) (.agg (uD k l2).toArray)).run P w=.ok (aeq k l l2) w:=by
  rw[show(10000:Nat)=9998+1+1 from rfl,run_equalIn_array w 9999 _ _ hu hi]
  exact zSc 9998 he hc hsh w (List.range k) (λj hj=>Ua.1 hj)
 simp[execOp,hS.eval hx,hS.eval hy,run_eqGuard_agg,hg,run_eql_struct,hrun]
end
end
section
open Go Go.RowKit
variable {qd:Prop}
set_option linter.unusedVariables false
section
variable {P:Program}{A:List Nat}{Ls:List zJ}{w:World}{n:Nat}{S:Sl}{a:Act}
variable {τ:Type}{e:E τ}{te:TypeId}{r:zJ}{p q:Option Addr}{c:Nat}{l z:List τ}{t:TypeId}{x:Operand}
variable {d:Option Tmp}{ty:TypeId}{pos:String}{af:Array Edge}{g:Option (Nat×Bool)}
end
section
variable {P:Program}{n:Nat}{S:Sl}{a:Act}{p0:Option Addr}{k0 c:Nat}{t:TypeId}{x lo hi mx:Operand}{d:Option Tmp}{ty:TypeId}{pos:String}{af:Array Edge}{g:Option (Nat×Bool)}{i j k:Int}{k1 k2 k3:IntKind}
end
section
variable {P:Program}{n:Nat}{X:Hd qd}{ρ:Type}{Q:PQ ρ}{S:Sl}{Ls:List zJ}{F:List PP}{m:Option ρ}{os:Array Oper}{ol:List Oper}{x y:Operand}{p p':uM}
variable {d t:Nat}{ty:TypeId}{pos:String}{af:Array Edge}{g:Option (Nat×Bool)}{kd:IntKind}
variable {τ:Type}{e:E τ}{te:TypeId}{r r2:zJ}{p0 q0:Option Addr}{c c2 k0 k2:Nat}{z z2:List τ}
end
section
variable {P:Program}{n:Nat}{X:Hd qd}{ρ:Type}{Q:PQ ρ}{S:Sl}{Ls:List zJ}{F:List PP}{m:Option ρ}{p:uM}{τ:Type}{e:E τ}{te:TypeId}{r:zJ}{p0:Option Addr}{c k0:Nat}{z z2:List τ}
end
section
variable {α:Type}{l z:List α}{i j:Int}{c nn:Nat}{p:Option Addr}{zd:α}
theorem hpp (h:p=none∧l=[]∧c=0∨∃ b o,p=some ⟨b,o,none⟩): p=none∨∃ b o,p=some ⟨b,o,none⟩:=by grind
abbrev InsH (l z:List α)(i:Int): Prop:=z.length=1∧0≤i∧i≤l.length∧l.length+1<4294967296
variable (hc:InsH l z i)
include hc
end
end
section
open Go Go.RowKit
set_option linter.unusedVariables false
variable {qd:Prop}
structure qP (F:List PP)(f:PP): Prop where
 h:∃ k,uA F k=f
structure wH (Ls:List zJ)(i:Nat)(r:zJ): Prop where
 h:Ls[i]?=some r
section
variable {F:List PP}{f g:PP}{Ls:List zJ}{r s:zJ}{i:Nat}
theorem qP.y:qP (f::F) f:=⟨0,rfl⟩
theorem qP.n (h:qP F f): qP (g::F) f:=⟨h.h.elim λk hk=>⟨k+1,hk⟩⟩
theorem wH.y:wH (r::Ls) 0 r:=⟨rfl⟩
theorem wH.n (h:wH Ls i r): wH (s::Ls) (i+1) r:=⟨by simpa using h.h⟩
inductive tH (Ls:List zJ): Nat->List Nat->List zJ->Prop
 | n {k:Nat}:tH Ls k [] []
 | c {k i:Nat} {js:List Nat} {r:zJ} {L:List zJ} (h:wH Ls i r) (t:tH Ls k js L):tH Ls k (i::js) (r::L)
 | z {k:Nat} {js:List Nat} {L:List zJ} (t:tH Ls (k+1) js L) (h:Nat.ble Ls.length (k+900)=true):tH Ls k ((k+900)::js) ([]::L)
theorem tH.eq{k:Nat}{js:List Nat}{L:List zJ}(h:tH Ls k js L): uY Ls js=L:=by
 induction h with
 | n=>rfl
 | c h _ ih=>rw[uY,Ug,←uY,ih];simp[List.getD,h.h]
 | z _ h ih=>rw[uY,Ug,←uY,ih];rw[UY] at h;simp[List.getD,UZ h]
end
inductive NEr:zJ->Prop
 | nil:NEr []
 | any {r:zJ}:NEr r
inductive BX (Ls:List zJ): List zJ->Prop
 | any {L:List zJ}:BX Ls L
theorem BX.n{Ls:List zJ}: BX Ls []:=.any
theorem BX.s{Ls L:List zJ}(t:BX Ls L.tail): BX Ls L:=.any
theorem BX.m{Ls L:List zJ}{r:zJ}{i:Nat}(t:BX Ls L)(hne:NEr r:=by(fail_if_success exact NEr.nil);exact NEr.any)(h:wH Ls i r:=by(repeat (first | exact wH.y | apply wH.n));(first | done | fail)): BX Ls (r::L):=.any
class Sh (t:TypeId)(ag:outParam Bool)(k:outParam Nat): Prop
class Ty (t:TypeId){τ:outParam Type}(e:outParam (E τ))(op:outParam (uZ e))(ag:outParam Bool): Prop
class Fs (s:TypeId)(os:outParam (List Nat)): Prop
class Zr (t:TypeId)(v:outParam Value): Prop
class Se (t:TypeId)(te:outParam TypeId){τ:outParam Type}(e:outParam (E τ)): Prop
class It (t:TypeId)(k:outParam IntKind): Prop
class Cn (f:FuncId)(i:Nat)(p:outParam Prop): Prop where
 h:p
section
variable {β:Type}
def pvX (S:Sl)(op:Op)(ob:List Ob)(kk:List Ob->Value->Option β): Option β:=match op with
 | .pick c a b=>z1a S c λu=>match u with
  | .bool true=>z1a S a (kk ob)
  | .bool false=>z1a S b (kk ob)
  | _=>none
 | op=>pvC S op ob kk
def runX (os:Array Oper): Nat->List Oper->Sl->List Ob->Option (Sl×List Oper×List Ob)
 | 0,l,S,ob=>some (S,l,ob)
 | _+1,[],S,ob=>some (S,[],ob)
 | k+1,o::l,S,ob=>match o.dst with
  | none=>some (S,o::l,ob)
  | some d=>match guC os S o.guard (pvX S o.op ob λob v=>runX os k l ((d,v)::S) ob) (runX os k l ((d,undef)::S) ob) with
   | some r=>some r
   | none=>some (S,o::l,ob)
end
theorem z7w{β:Type}{P:Program}{S:Sl}{op:Op}{ob:List Ob}{kk:List Ob->Value->Option β}{r:β}(h:pvX S op ob kk=some r):
  ∃ ob' v,kk ob' v=some r∧(z1D P ob'=true->pv P S op=some v∧z1D P ob=true):=by
 unfold pvX at h
 split at h
 ·rename_i c a b
  rw[zL8] at h
  obtain⟨u,hu,h⟩:=zCF h
  split at h
  ·rw[zL8] at h
   obtain⟨v,hv,h⟩:=zCF h
   exact⟨ob,v,h,λho=>⟨by simp[pv,hu,hv],ho⟩⟩
  ·rw[zL8] at h
   obtain⟨v,hv,h⟩:=zCF h
   exact⟨ob,v,h,λho=>⟨by simp[pv,hu,hv],ho⟩⟩
  ·cases h
 ·exact z2x h
theorem zT5{P:Program}{os:Array Oper}{n:Nat}{Q:Exit->Act->World->Prop}{w:World}: ∀(k:Nat) (l:List Oper) (S S':Sl) (l':List Oper) (ob ob':List Ob) (a:Act),qL a n S->runX os k l S ob=some (S',l',ob')->
  ((z3k l).all (λd=>Nat.blt d n)=true)->z1D P ob'=true->(∀ a',qL a' n S'->wpList P os Q l' a' w)->z1D P ob=true∧wpList P os Q l a w
 | 0,l,S,S',l',ob,ob',a,hS,h,_,ho,kk=>by
  simp only[runX,Qg,Prod.mk.injEq] at h
  obtain⟨rfl,rfl,rfl⟩:=h
  exact⟨ho,kk a hS⟩
 | _+1,[],S,S',l',ob,ob',a,hS,h,_,ho,kk=>by
  simp only[runX,Qg,Prod.mk.injEq] at h
  obtain⟨rfl,rfl,rfl⟩:=h
  exact⟨ho,kk a hS⟩
 | k+1,o::l,S,S',l',ob,ob',a,hS,h,hd,ho,kk=>by
  simp only[runX] at h
  split at h
  ·simp only[Qg,Prod.mk.injEq] at h
   obtain⟨rfl,rfl,rfl⟩:=h
   exact⟨ho,kk a hS⟩
  ·rename_i d hod
   simp only[z3k,hod,U8,QA] at hd
   split at h
   ·rename_i r hr
    cases h
    rcases z33 hr with⟨hg,h⟩ | ⟨hg,h⟩
    ·obtain⟨ob1,v,h,hv⟩:=z7w (P:=P) h
     have key:∀ a,qL a n ((d,v)::S)->z1D P ob1=true∧wpList P os Q l a w:=λa hS=>zT5 k l _ S' l' ob1 ob' a hS h hd.2 ho kk
     have h1:=(zT5 (P:=P) (Q:=Q) k l _ S' l' ob1 ob' _ (hS.put hd.1 v) h hd.2 ho kk).1
     obtain⟨h2,h3⟩:=hv h1
     refine⟨h3,zSp (v:=v) (w':=w) hg hS (z2D hS h2 _ _ _ _ _ w) ?_⟩
     rw[hod]
     exact(key _ (hS.put hd.1 v)).2
    ·have h1:=zT5 (P:=P) (Q:=Q) k l _ S' l' ob ob' _ (hS.put hd.1 undef) h hd.2 ho kk
     refine⟨h1.1,zVM hg hS ?_⟩
     rw[hod]
     exact h1.2
   ·simp only[Qg,Prod.mk.injEq] at h
    obtain⟨rfl,rfl,rfl⟩:=h
    exact⟨ho,kk a hS⟩
structure LdR (Ls:List zJ)(b o:Nat)(v:Value): Prop where
 h:∃(i:Nat) (c:List Value) (te:TypeId) (fr:Nat×Nat),Ls[i]?=some [(b,Obj.cells (List.toArray c) te fr)]∧getC c o some=some v
structure LdA (Ls:List zJ)(b o k:Nat)(cs:List Value): Prop where
 h:∃(i:Nat) (c:List Value) (te:TypeId) (fr:Nat×Nat),Ls[i]?=some [(b,Obj.cells (List.toArray c) te fr)]∧z7T o c (λl=>z3w k l some)=some cs
section
variable {Ls:List zJ}{b o k te:Nat}{fr:Nat×Nat}{c cs:List Value}{v:Value}{r:zJ}
theorem LdR.y (h:getC c o some=some v): LdR ([(b,Obj.cells c.toArray te fr)]::Ls) b o v:=⟨0,c,te,fr,rfl,h⟩
theorem LdR.n (h:LdR Ls b o v): LdR (r::Ls) b o v:=by obtain⟨i,c,te,fr,h1,h2⟩:=h.h;exact⟨i+1,c,te,fr,by simpa using h1,h2⟩
theorem LdA.y (h:z7T o c (λl=>z3w k l some)=some cs): LdA ([(b,Obj.cells c.toArray te fr)]::Ls) b o k cs:=⟨0,c,te,fr,rfl,h⟩
theorem LdA.n (h:LdA Ls b o k cs): LdA (r::Ls) b o k cs:=by obtain⟨i,c,te,fr,h1,h2⟩:=h.h;exact⟨i+1,c,te,fr,by simpa using h1,h2⟩
end
structure tV{σ τ:Type}(e0:E σ)(b o0:Nat)(x0:σ)(e:E τ)(o:Nat)(u:τ): Prop where
 h:∀ Z w,tX e0 Z w ⟨b,o0,none⟩ x0->tX e Z w ⟨b,o,none⟩ u
structure PtS{τ:Type}(F:List PP)(e:E τ)(b o:Nat)(u:τ): Prop where
 h:∀ Z w,uW F Z w->tX e Z w ⟨b,o,none⟩ u
section
variable {α β σ τ:Type}{a:E α}{a2:E β}{e0:E σ}{e:E τ}{b o o0:Nat}{x:α×β}{x0:σ}{u:τ}{F:List PP}{f:PP}
theorem tV.r:tV e b o u e o u:=⟨λ_ _ h=>h⟩
theorem tV.l (h:tV a b o0 x.1 e o u): tV (wP a a2) b o0 x e o u:=⟨λZ w h0=>h.h Z w (tX.fst h0)⟩
theorem tV.s (h:tV a2 b (o0+a.n) x.2 e o u): tV (wP a a2) b o0 x e o u:=⟨λZ w h0=>h.h Z w (tX.snd h0)⟩
theorem PtS.y (h:tV e0 b o0 x0 e o u): PtS (Pt e0 b o0 x0::F) e b o u:=⟨λZ w hF=>h.h Z w hF.1⟩
theorem PtS.n (h:PtS F e b o u): PtS (f::F) e b o u:=⟨λZ w hF=>h.h Z w hF.2⟩
end
section
variable {P:Program}{n:Nat}{X:Hd qd}{ρ σ:Type}{Q:PQ ρ}{S S':Sl}{Ls:List zJ}{F:List PP}{m m1 m2:Option ρ}{os:Array Oper}{l l':List Oper}{x y:Operand}{p p':uM}{z:Code}
variable {d t:Nat}{ty ty2:TypeId}{pos pos2:String}{af af2:Array Edge}{g g2:Option (Nat×Bool)}{kd:IntKind}{op:Op}
theorem gC{c:Code}(h:J P n X Q (.code c) S Ls F m): J P n X Q (.code c) S Ls F m:=h
theorem gO (h:J P n X Q (.ops os l) S Ls F m): J P n X Q (.ops os l) S Ls F m:=h
theorem gEx{e:Exit}(h:J P n X Q (.ex e) S Ls F m): J P n X Q (.ex e) S Ls F m:=h
section
variable {dd:Option Nat}{u:Operand}{lo hi mx:Option Operand}{s f:Nat}{cl:Call}{t3:TypeId}{vs:Array (Nat×Operand)}
theorem gLd (h:J P n X Q (.ops os (⟨dd,.load t x,ty,pos,af,g⟩::l)) S Ls F m): J P n X Q (.ops os (⟨dd,.load t x,ty,pos,af,g⟩::l)) S Ls F m:=h
theorem gSt (h:J P n X Q (.ops os (⟨dd,.store t x y,ty,pos,af,g⟩::l)) S Ls F m): J P n X Q (.ops os (⟨dd,.store t x y,ty,pos,af,g⟩::l)) S Ls F m:=h
theorem gFa (h:J P n X Q (.ops os (⟨dd,.fieldAddr s x f,ty,pos,af,g⟩::l)) S Ls F m): J P n X Q (.ops os (⟨dd,.fieldAddr s x f,ty,pos,af,g⟩::l)) S Ls F m:=h
theorem gIa (h:J P n X Q (.ops os (⟨dd,.indexAddr t x y,ty,pos,af,g⟩::l)) S Ls F m): J P n X Q (.ops os (⟨dd,.indexAddr t x y,ty,pos,af,g⟩::l)) S Ls F m:=h
theorem gIx (h:J P n X Q (.ops os (⟨dd,.index t x y,ty,pos,af,g⟩::l)) S Ls F m): J P n X Q (.ops os (⟨dd,.index t x y,ty,pos,af,g⟩::l)) S Ls F m:=h
theorem gCl (h:J P n X Q (.ops os (⟨dd,.call cl,ty,pos,af,g⟩::l)) S Ls F m): J P n X Q (.ops os (⟨dd,.call cl,ty,pos,af,g⟩::l)) S Ls F m:=h
theorem gSl (h:J P n X Q (.ops os (⟨dd,.slice t x lo hi mx,ty,pos,af,g⟩::l)) S Ls F m): J P n X Q (.ops os (⟨dd,.slice t x lo hi mx,ty,pos,af,g⟩::l)) S Ls F m:=h
theorem gCt (h:J P n X Q (.ops os (⟨dd,.binOp .add t x y t3,ty,pos,af,g⟩::l)) S Ls F m): J P n X Q (.ops os (⟨dd,.binOp .add t x y t3,ty,pos,af,g⟩::l)) S Ls F m:=h
theorem gRm (h:J P n X Q (.ops os (⟨dd,.binOp .rem t x y t3,ty,pos,af,g⟩::l)) S Ls F m): J P n X Q (.ops os (⟨dd,.binOp .rem t x y t3,ty,pos,af,g⟩::l)) S Ls F m:=h
theorem gQu (h:J P n X Q (.ops os (⟨dd,.binOp .quo t x y t3,ty,pos,af,g⟩::l)) S Ls F m): J P n X Q (.ops os (⟨dd,.binOp .quo t x y t3,ty,pos,af,g⟩::l)) S Ls F m:=h
theorem gBx (h:J P n X Q (.ops os (⟨dd,.box t x,ty,pos,af,g⟩::l)) S Ls F m): J P n X Q (.ops os (⟨dd,.box t x,ty,pos,af,g⟩::l)) S Ls F m:=h
theorem gAl (h:J P n X Q (.ops os (⟨dd,.alloc t,ty,pos,af,g⟩::l)) S Ls F m): J P n X Q (.ops os (⟨dd,.alloc t,ty,pos,af,g⟩::l)) S Ls F m:=h
theorem gBs (h:J P n X Q (.ops os (⟨dd,.buildSlice t s vs,ty,pos,af,g⟩::l)) S Ls F m): J P n X Q (.ops os (⟨dd,.buildSlice t s vs,ty,pos,af,g⟩::l)) S Ls F m:=h
theorem gBd (h:J P n X Q (.ops os (⟨dd,.build t vs,ty,pos,af,g⟩::l)) S Ls F m): J P n X Q (.ops os (⟨dd,.build t vs,ty,pos,af,g⟩::l)) S Ls F m:=h
theorem gCv (h:J P n X Q (.ops os (⟨dd,.convert s t x,ty,pos,af,g⟩::l)) S Ls F m): J P n X Q (.ops os (⟨dd,.convert s t x,ty,pos,af,g⟩::l)) S Ls F m:=h
theorem gPk (h:J P n X Q (.ops os (⟨dd,.pick u x y,ty,pos,af,g⟩::l)) S Ls F m): J P n X Q (.ops os (⟨dd,.pick u x y,ty,pos,af,g⟩::l)) S Ls F m:=h
theorem gGu{bb:Bool}(h:J P n X Q (.ops os (⟨dd,op,ty,pos,af,some (s,bb)⟩::l)) S Ls F m): J P n X Q (.ops os (⟨dd,op,ty,pos,af,some (s,bb)⟩::l)) S Ls F m:=h
theorem gRt{fn:Func}{post:ρ->(Value->List zJ->List PP->Prop)->Prop}(h:J P n X (zY2 P fn X post) (.ex .ret) S Ls F m): J P n X (zY2 P fn X post) (.ex .ret) S Ls F m:=h
theorem gNn{I:ρ->xY->Prop}(h:J P n X (jnQ X n I) (.ex .normal) S Ls F m): J P n X (jnQ X n I) (.ex .normal) S Ls F m:=h
theorem gLp{σ ρ:Type}{Q:PQ ρ}{m:Option (σ⊕ρ)}{I:σ->xY->Prop}(h:J P n X (lpQ X n I Q) (.ex .normal) S Ls F m): J P n X (lpQ X n I Q) (.ex .normal) S Ls F m:=h
end
section
variable {bb:Bool}{j:Nat}{o:Oper}{dd:Option Nat}{b:Bool}{u v:Operand}{za zb:Code}
theorem aM{ob:List Ob}(k:Nat)(hr:guC os S g (pvX S op [] λob v=>runX os k l ((d,v)::S) ob) (runX os k l ((d,undef)::S) [])=some (S',l',ob))(h:J P n X Q (.ops os l') S' Ls F m)
  (hd:(z3k (⟨some d,op,ty,pos,af,g⟩::l)).all (λd=>Nat.blt d n)=true:=by kernel_rfl) (ho:z1D P ob=true:=by kernel_rfl):J P n X Q (.ops os (⟨some d,op,ty,pos,af,g⟩::l)) S Ls F m :=
 ⟨λhq r hm a w hs=>(zT5 (k+1) _ S S' l' [] ob a hs.s (by simp only[runX];rw[hr]) hd ho λa' hS=>h.go hq r hm a' w (hs.slot hS)).2⟩
inductive Und:Bool->Prop
 | tt:Und true
 | ff:Und false
 | any {b:Bool}:Und b
theorem aGi (hj:os[j]?=some o)(ht:o.dst=some t)(hl:vX S t=some (.bool b))(h1:J P n X Q (.ops os (⟨dd,op,ty,pos,af,some (j,bb)⟩::l)) ((t,.bool true)::S) Ls F m1)
  (h2:J P n X Q (.ops os (⟨dd,op,ty,pos,af,some (j,bb)⟩::l)) ((t,.bool false)::S) Ls F m2) (hu:Und b:=by(fail_if_success (first | exact Und.tt | exact Und.ff));exact Und.any):J P n X Q (.ops os (⟨dd,op,ty,pos,af,some (j,bb)⟩::l)) S Ls F (if b=true then m1 else m2):=uO t hl h1 h2
theorem aGs (hj:os[j]?=some o)(ht:o.dst=some t)(hl:vX S t=some (.bool b))(h1:b=true->J P n X Q (.ops os (⟨dd,op,ty,pos,af,some (j,bb)⟩::l)) ((t,.bool true)::S) Ls F m)
  (h2:b=false->J P n X Q (.ops os (⟨dd,op,ty,pos,af,some (j,bb)⟩::l)) ((t,.bool false)::S) Ls F m) (hu:Und b:=by(fail_if_success (first | exact Und.tt | exact Und.ff));exact Und.any):J P n X Q (.ops os (⟨dd,op,ty,pos,af,some (j,bb)⟩::l)) S Ls F m:=xO t hl h1 h2
theorem aPi (hl:vX S t=some (.bool b))(h1:J P n X Q (.ops os (⟨dd,.pick (.tmp t) u v,ty,pos,af,g⟩::l)) ((t,.bool true)::S) Ls F m1)
  (h2:J P n X Q (.ops os (⟨dd,.pick (.tmp t) u v,ty,pos,af,g⟩::l)) ((t,.bool false)::S) Ls F m2) (hu:Und b:=by(fail_if_success (first | exact Und.tt | exact Und.ff));exact Und.any):J P n X Q (.ops os (⟨dd,.pick (.tmp t) u v,ty,pos,af,g⟩::l)) S Ls F (if b=true then m1 else m2):=uO t hl h1 h2
theorem aPs (hl:vX S t=some (.bool b))(h1:b=true->J P n X Q (.ops os (⟨dd,.pick (.tmp t) u v,ty,pos,af,g⟩::l)) ((t,.bool true)::S) Ls F m)
  (h2:b=false->J P n X Q (.ops os (⟨dd,.pick (.tmp t) u v,ty,pos,af,g⟩::l)) ((t,.bool false)::S) Ls F m) (hu:Und b:=by(fail_if_success (first | exact Und.tt | exact Und.ff));exact Und.any):J P n X Q (.ops os (⟨dd,.pick (.tmp t) u v,ty,pos,af,g⟩::l)) S Ls F m:=xO t hl h1 h2
theorem aCs (hl:vX S t=some (.bool b))(h1:b=true->J P n X Q (.code (.cond (.tmp t) za zb)) ((t,.bool true)::S) Ls F m)
  (h2:b=false->J P n X Q (.code (.cond (.tmp t) za zb)) ((t,.bool false)::S) Ls F m) (hu:Und b:=by(fail_if_success (first | exact Und.tt | exact Und.ff));exact Und.any):J P n X Q (.code (.cond (.tmp t) za zb)) S Ls F m:=xO t hl h1 h2
end
section
variable {b o:Nat}{c cs:List Value}{te:TypeId}{v:Value}{k i:Nat}{ag:Bool}{r:zJ}
theorem aLo[i0:Sh t false 1](hx:zL S x=some (pt b o))(h:J P n X Q (.ops os l) ((d,v)::S) Ls F m)(hr:LdR Ls b o v:=by(repeat (first | exact LdR.y rfl | apply LdR.n));(first | done | fail))
  (ht:vW P t=some (false,1):=by kernel_rfl) (hd:Nat.blt d n=true:=by kernel_rfl) (hg:zS os S g=some true:=by rfl):J P n X Q (.ops os (⟨some d,.load t x,ty,pos,af,g⟩::l)) S Ls F m:=by
 obtain⟨i,c,te,fr,h1,h2⟩:=hr.h
 exact qI i hx h1 h2 h ht hd hg
theorem aLa[i0:Sh t true k](hx:zL S x=some (pt b o))(h:J P n X Q (.ops os l) ((d,.agg cs.toArray)::S) Ls F m)(hr:LdA Ls b o k cs:=by(repeat (first | exact LdA.y rfl | apply LdA.n));(first | done | fail))
  (ht:vW P t=some (true,k):=by kernel_rfl) (hd:Nat.blt d n=true:=by kernel_rfl) (hg:zS os S g=some true:=by rfl):J P n X Q (.ops os (⟨some d,.load t x,ty,pos,af,g⟩::l)) S Ls F m:=by
 obtain⟨i,c,te,fr,h1,h2⟩:=hr.h
 exact wU i k hx h1 h2 h ht hd hg
theorem aLd{τ:Type}{e:E τ}{op:uZ e}{u:τ}[i0:Ty t e op ag](hx:zL S x=some (pt b o))(h:op.op u [] F λcs F'=>mkC ag cs λv=>J P n X Q (.ops os l) ((d,v)::S) Ls F' m)
  (hP:PtS F e b o u:=by(repeat (first | (apply PtS.y;(repeat (first | exact tV.r | (apply tV.l;(repeat (first | exact tV.r | (apply tV.l;(repeat (first | exact tV.r | apply tV.s));done) | apply tV.s));done) | apply tV.s));done) | apply PtS.n));(first | done | fail))
  (ht:vW P t=some (ag,e.n):=by kernel_rfl) (hag:ag=true∨e.n=1:=by first | exact .inl rfl | exact .inr rfl)
  (hd:Nat.blt d n=true:=by kernel_rfl) (hg:zS os S g=some true:=by rfl):J P n X Q (.ops os (⟨some d,.load t x,ty,pos,af,g⟩::l)) S Ls F m:=yN ag op (λA w _ hF=>hP.h _ w hF) hx h ht hag hd hg
theorem aFa{s f off:Nat}{ofs:List Nat}[i0:Fs s ofs](hx:zL S x=some (pt b o))(h:J P n X Q (.ops os l) ((d,pt b (o+off))::S) Ls F m)(ho:ofs.getD f 0=off:=by rfl)
  (hf:z0o P s f=some off:=by kernel_rfl) (hd:Nat.blt d n=true:=by kernel_rfl) (hg:zS os S g=some true:=by rfl):J P n X Q (.ops os (⟨some d,.fieldAddr s x f,ty,pos,af,g⟩::l)) S Ls F m:=zY off hx h hf hd hg
theorem aSo (hx:zL S x=some (pt b o))(hy:zL S y=some v)(h:zUI v λcs=>putC o c cs λc'=>uR Ls i (bx b te c') λLs'=>J P n X Q (.ops os l) S Ls' F m)(hr:wH Ls i (bx b te c):=by(repeat (first | exact wH.y | apply wH.n));(first | done | fail))
  (hv:zN4 P t c.toArray o v=true:=by kernel_rfl) (hg:zS os S g=some true:=by rfl):J P n X Q (.ops os (⟨none,.store t x y,ty,pos,af,g⟩::l)) S Ls F m:=wJ .s i hx hy hr.h h hv hg
theorem aBx (hx:zL S x=some v)(h:∀ b,zUI v λcs=>zOD Ls (bx b t cs) λLs'=>J P n X Q (.ops os l) ((d,pt b 0)::S) Ls' F m)
  (hd:Nat.blt d n=true:=by kernel_rfl) (hg:zS os S g=some true:=by rfl):J P n X Q (.ops os (⟨some d,.box t x,ty,pos,af,g⟩::l)) S Ls F m:=wN .s hx h hd hg
theorem aAl[i0:Zr t v](h:∀ b,zUI v λcs=>zOD Ls (bx b t cs) λLs'=>J P n X Q (.ops os l) ((d,pt b 0)::S) Ls' F m)
  (hx:zJX P t=some v:=by kernel_rfl) (hd:Nat.blt d n=true:=by kernel_rfl) (hg:zS os S g=some true:=by rfl):J P n X Q (.ops os (⟨some d,.alloc t,ty,pos,af,g⟩::l)) S Ls F m:=yB .s v h hx hd hg
end
section
variable {τ:Type}{e:E τ}{te:TypeId}{r r2:zJ}{p0 q0:Option Addr}{c k0 c2 k2 i:Nat}{z z2:List τ}{ix j:Int}{lo hi:Option Operand}{vlo vhi:Option Value}
theorem aIx{f:τ->Option ρ}(hx:zL S x=some (.slice p0 k0 c))(hy:zL S y=some (.int kd ix))(h:∀ u b o,J P n X Q (.ops os l) ((d,pt b o)::S) Ls (Pt e b o u::F) (f u))
  (hF:qP F (R e p0 c k0 z):=by(repeat (first | exact qP.y | refine qP.n ?_));(first | done | fail)) (ht:yE P t=some e.n:=by kernel_rfl) (hd:Nat.blt d n=true:=by kernel_rfl) (hg:zS os S g=some true:=by rfl) :
  J P n X Q (.ops os (⟨some d,.indexAddr t x y,ty,pos,af,g⟩::l)) S Ls F ((zC z ix).bind f):=by
 obtain⟨k,hk⟩:=hF.h
 exact yD k hk hx hy h ht hd hg
theorem aSl{f:List τ->Option ρ}(hx:zL S x=some (.slice p0 k0 c))(hlo:tI S lo=some vlo)(hhi:tI S hi=some vhi)(h:∀ u p' c',J P n X Q (.ops os l) ((d,sv p' u c')::S) Ls (Rl e p' c' u::F) (f u))
  (hF:qP F (R e p0 c k0 z):=by(repeat (first | exact qP.y | refine qP.n ?_));(first | done | fail)) (b1:Bd vlo ix 0:=by first | exact .inl ⟨rfl,rfl⟩ | exact .inr ⟨_,rfl⟩) (b2:Bd vhi j z.length:=by first | exact .inl ⟨rfl,rfl⟩ | exact .inr ⟨_,rfl⟩)
  (ht:yE P t=some e.n:=by kernel_rfl) (hd:Nat.blt d n=true:=by kernel_rfl) (hg:zS os S g=some true:=by rfl) :
  J P n X Q (.ops os (⟨some d,.slice t x lo hi none,ty,pos,af,g⟩::l)) S Ls F ((sub z ix j).bind f):=by
 obtain⟨k,hk⟩:=hF.h
 exact jsl (hk▸gk k) hx hlo hhi b1 b2 h ht hd hg
theorem aSP{f:List τ->Option ρ}{x2:Operand}(hx:zL S x=some (.slice p0 k0 c))(hhi:zL S x2=some (.int kd j))(h:∀ u,J P n X Q (.ops os l) ((d,sv p0 u c)::S) Ls (Al e te r p0 c u::F) (f u))
  (hF:qP F (Ar e te r p0 c k0 z):=by(repeat (first | exact qP.y | refine qP.n ?_));(first | done | fail)) (ht:yE P t=some e.n:=by kernel_rfl) (hd:Nat.blt d n=true:=by kernel_rfl) (hg:zS os S g=some true:=by rfl) :
  J P n X Q (.ops os (⟨some d,.slice t x none (some x2) none,ty,pos,af,g⟩::l)) S Ls F ((sub z 0 j).bind f):=by
 obtain⟨k,hk⟩:=hF.h
 exact jsP k hk hx hhi h ht hd hg
theorem aAr{f:List τ->Option ρ}(hx:zL S x=some (.slice p0 k0 c))(hy:zL S y=some (.slice q0 k2 c2))
  (h:∀ u r' p1 c',uR Ls i r' λLs'=>J P n X Q (.ops os l) ((d,sv p1 u c')::S) Ls' (Al e te r' p1 c' u::F) (f u))
  (hF:qP F (Ar e te r p0 c k0 z):=by(repeat (first | exact qP.y | refine qP.n ?_));(first | done | fail)) (hF2:qP F (R e q0 c2 k2 z2):=by(repeat (first | exact qP.y | refine qP.n ?_));(first | done | fail)) (hr:wH Ls i r:=by(repeat (first | exact wH.y | apply wH.n));(first | done | fail))
  (ht:uT P t te e.n=true:=by kernel_rfl) (hd:Nat.blt d n=true:=by kernel_rfl) (hg:zS os S g=some true:=by rfl) :
  J P n X Q (.ops os (⟨some d,.call { callee:=.builtin .append,args:=[x,y].toArray,argTypes:=[t,t].toArray },ty,pos,af,g⟩::l)) S Ls F ((qF z z2).bind f):=by
 obtain⟨k,hk⟩:=hF.h
 obtain⟨k',hk'⟩:=hF2.h
 exact uB .s i k hk (hk'▸gk k') hx hy h hr.h ht hd hg
theorem aCat{p q:zD}{t2 t3:TypeId}{f:zD->Option ρ}(hx:zL S x=some (vs p))(hy:zL S y=some (vs q))(h:∀ r,J P n X Q (.ops os l) ((d,vs r)::S) Ls F (f r))
  (hd:Nat.blt d n=true:=by kernel_rfl) (hg:zS os S g=some true:=by rfl):J P n X Q (.ops os (⟨some d,.binOp .add t2 x y t3,ty,pos,af,g⟩::l)) S Ls F ((cat p q).bind f) :=
 tL λr h1=>jv (λhS=>z1d hS hx hy h1) (h r) hd hg
theorem aSi{s:zD}{f:Int->Option ρ}(hx:zL S x=some (vs s))(hy:zL S y=some (.int kd ix))(h:∀ r,J P n X Q (.ops os l) ((d,.int .u8 r)::S) Ls F (f r))
  (hu:P.underlying t=some .string:=by kernel_rfl) (hd:Nat.blt d n=true:=by kernel_rfl) (hg:zS os S g=some true:=by rfl):J P n X Q (.ops os (⟨some d,.index t x y,ty,pos,af,g⟩::l)) S Ls F ((xX s ix).bind f) :=
 tL λr h1=>jv (λhS=>r_sidx hS hx hy hu h1) (h r) hd hg
theorem aSs{s:zD}{f:zD->Option ρ}(hx:zL S x=some (vs s))(hlo:tI S lo=some vlo)(hhi:tI S hi=some vhi)(h:∀ r,J P n X Q (.ops os l) ((d,vs r)::S) Ls F (f r))
  (b1:Bd vlo ix 0:=by first | exact .inl ⟨rfl,rfl⟩ | exact .inr ⟨_,rfl⟩) (b2:Bd vhi j s.length:=by first | exact .inl ⟨rfl,rfl⟩ | exact .inr ⟨_,rfl⟩)
  (hu:P.underlying t=some .string:=by kernel_rfl) (hd:Nat.blt d n=true:=by kernel_rfl) (hg:zS os S g=some true:=by rfl):J P n X Q (.ops os (⟨some d,.slice t x lo hi none,ty,pos,af,g⟩::l)) S Ls F ((sub s ix j).bind f) :=
 tL λr h1=>jv (λhS=>z7n hS hx hu hlo hhi b1 b2 h1) (h r) hd hg
theorem aRm{a b:Int}{k:IntKind}{t2 t3:TypeId}{f:Int->Option ρ}(hx:zL S x=some (.int k a))(hy:zL S y=some (.int k b))(h:∀ r,J P n X Q (.ops os l) ((d,.int k r)::S) Ls F (f r))
  (hd:Nat.blt d n=true:=by kernel_rfl) (hg:zS os S g=some true:=by rfl):J P n X Q (.ops os (⟨some d,.binOp .rem t2 x y t3,ty,pos,af,g⟩::l)) S Ls F ((remK a b).bind f) :=
 tL λr h1=>jv (λhS=>r_remK hS hx hy h1) (h r) hd hg
theorem aQu{a b:Int}{k:IntKind}{t2 t3:TypeId}{f:Int->Option ρ}(hx:zL S x=some (.int k a))(hy:zL S y=some (.int k b))(h:∀ r,J P n X Q (.ops os l) ((d,.int k r)::S) Ls F (f r))
  (hd:Nat.blt d n=true:=by kernel_rfl) (hg:zS os S g=some true:=by rfl):J P n X Q (.ops os (⟨some d,.binOp .quo t2 x y t3,ty,pos,af,g⟩::l)) S Ls F ((quoK k a b).bind f) :=
 tL λr h1=>jv (λhS=>r_quoK hS hx hy h1) (h r) hd hg
end
section
variable {β:Type}
def overO:List Value->List Value->(List Value->Option β)->Option β
 | l,[],k=>k l
 | [],_::_,_=>none
 | _::l,v::vs,k=>overO l vs λl'=>k (v::l')
def putO:Nat->List Value->List Value->(List Value->Option β)->Option β
 | 0,l,v,k=>overO l v k
 | _+1,[],_,_=>none
 | o+1,a::l,v,k=>putO o l v λl'=>k (a::l')
def nthO:List Nat->Nat->(Nat->Option β)->Option β
 | [],_,_=>none
 | a::_,0,k=>k a
 | _::l,i+1,k=>nthO l i k
def cellsO (v:Value)(k:List Value->Option β): Option β:=match v with
 | .agg ⟨cs⟩=>k cs
 | v=>k [v]
def appO:List Value->List Value->(List Value->Option β)->Option β
 | [],l,k=>k l
 | a::m,l,k=>appO m l λl'=>k (a::l')
end
def bldC (S:Sl)(ofs:List Nat): List (Nat×Operand)->List Value->Option (List Value)
 | [],cs=>some cs
 | (j,x)::r,cs=>z1a S x λu=>nthO ofs j λo=>cellsO u λvs=>putO o cs vs λcs'=>bldC S ofs r cs'
def bsC (S:Sl): List (Nat×Operand)->Nat->(List Value->Option (List Value))->Option (List Value)
 | [],_,k=>k []
 | (j,x)::r,i,k=>bif Nat.beq j i then z1a S x λu=>bsC S r (i+1) λcs=>cellsO u λvs=>appO vs cs k else none
section
variable {parts:List (Nat×Operand)}{ofs:List Nat}{zc cs:List Value}{k0:Nat}{te:TypeId}{τ:Type}{e:E τ}{z:List τ}
theorem aBd[i0:Fs t ofs][i1:Zr t (.agg zc.toArray)](h:J P n X Q (.ops os l) ((d,.agg cs.toArray)::S) Ls F m)(hb:bldC S ofs parts zc=some cs:=by rfl)(hv:pv P S (.build t parts.toArray)=some (.agg cs.toArray):=by kernel_rfl)
  (hd:Nat.blt d n=true:=by kernel_rfl) (hg:zS os S g=some true:=by rfl):J P n X Q (.ops os (⟨some d,.build t parts.toArray,ty,pos,af,g⟩::l)) S Ls F m:=zV _ h hv hd (hg)
theorem aCv{a:Int}{k k1:IntKind}{s t2:TypeId}[i0:It t2 k](hx:zL S x=some (.int k1 a))(h:J P n X Q (.ops os l) ((d,.int k (k.wrap a))::S) Ls F m)(hv:pv P S (.convert s t2 x)=some (.int k (k.wrap a)):=by kernel_rfl)
  (hd:Nat.blt d n=true:=by kernel_rfl) (hg:zS os S g=some true:=by rfl):J P n X Q (.ops os (⟨some d,.convert s t2 x,ty,pos,af,g⟩::l)) S Ls F m:=zV _ h hv hd hg
theorem avQ{α β:Type}{a:E α}{b:E β}{cs:List Value}{x1:α}{x2:β}(h:RV a Ls F (cs.take a.n) x1)(k:RV b Ls F (cs.drop a.n) x2): RV (wP a b) Ls F cs (x1,x2):=vP h k
theorem avN{p:Option Addr}{c:Nat}: RV (zT e) Ls F [.slice p 0 c] []:=vL gn
theorem avF{p:Option Addr}{c m:Nat}(h:qP F (R e p c m z)): RV (zT e) Ls F [.slice p m c] z:=vL (by obtain⟨k,hk⟩:=h.h;exact hk▸gk k)
theorem aBs[i0:Se t te e](h:∀ p1 c',J P n X Q (.ops os l) ((d,sv p1 z c')::S) Ls (Rl e p1 c' z::F) m)(hb:bsC S parts 0 some=some cs:=by rfl)
  (hrd:RD e Ls F cs z:=by(repeat' (first | exact rN | apply rC | exact vI | exact vB | exact vS | exact vU | exact avN | apply avQ | apply avF | exact qP.y | apply qP.n));(first | done | fail))
  (ht:uT P t te e.n=true:=by kernel_rfl) (hc:zMP P S t k0 parts=some cs:=by kernel_rfl) (hl:z.length=k0:=by rfl) (hd:Nat.blt d n=true:=by kernel_rfl) (hg:zS os S g=some true:=by rfl) :
  J P n X Q (.ops os (⟨some d,.buildSlice t k0 parts.toArray,ty,pos,af,g⟩::l)) S Ls F m:=yH .s te cs z hrd h ht hc hl hd hg
end
theorem vN.f{f:PP}(h:qP F f): vN Ls F f:=by obtain⟨k,hk⟩:=h.h;exact hk▸gk k
theorem vN.zz{τ:Type}{e:E τ}{te:TypeId}: vN Ls F (Ar e te [] none 0 0 []):=λ_ _ _ _=>⟨.inl ⟨rfl,rfl,rfl,rfl⟩,rfl⟩
theorem vN.fa{f:PP}(h:qP F f:=by(repeat (first | exact qP.y | refine qP.n ?_));(first | done | fail)): vN Ls F f:=vN.f h
theorem vN.ga{τ:Type}{e:E τ}{p:Option Addr}{c m:Nat}{l:List τ}(h:qP F (R e p c m l):=by(repeat (first | exact qP.y | refine qP.n ?_));(first | done | fail)): vN Ls F (R e p c (List.length l) l):=gl (vN.f h)
theorem vN.gA{τ:Type}{e:E τ}{te:TypeId}{r:zJ}{p:Option Addr}{c m:Nat}{l:List τ}(h:qP F (Ar e te r p c m l):=by(repeat (first | exact qP.y | refine qP.n ?_));(first | done | fail)): vN Ls F (Ar e te r p c (List.length l) l):=gL (vN.f h)
theorem vN.pp{τ:Type}{e:E τ}{b o:Nat}{u:τ}(h:PtS F e b o u): vN Ls F (Pt e b o u):=λA w _ hF=>h.h _ w hF
theorem xQ.cc{p:PP->Prop}{f:PP}{F:List PP}(h:p f)(t:xQ p F): xQ p (f::F):=⟨h,t⟩
theorem xQ.nn{p:PP->Prop}: xQ p []:=trivial
inductive SE:Sl->Sl->Prop
 | n:SE [] []
 | c {d:Nat} {v v':Value} {l l':Sl} (h:v=v') (t:SE l l'):SE ((d,v)::l) ((d,v')::l')
theorem SE.ca{d:Nat}{v v':Value}{l l':Sl}(t:SE l l')(h:v=v':=by first | (simp only[*];done) | (simp[*];done)): SE ((d,v)::l) ((d,v')::l'):=.c h t
theorem SE.eq{S S':Sl}(h:SE S S'): S=S':=by
 induction h with
 | n=>rfl
 | c h _ ih=>rw[h,ih]
theorem gvA{I:xY->Prop}{S1 S2:Sl}{L2:List zJ}{F2:List PP}{js:List Nat}(hk:∀ K,I K->K S2 L2 F2)(hS:zYT S (S2.map Prod.fst)=some S1:=by rfl)
  (hE:SE S1 S2:=by(repeat (first | exact SE.n | apply SE.c rfl | refine SE.ca ?_));(first | done | fail))
  (hX:BX Ls L2:=by(repeat (first | exact BX.n | refine BX.m ?_ | refine BX.s ?_));(first | done | fail)) (hF:xQ (vN Ls F) F2:=by(repeat' (first | exact xQ.nn | refine xQ.cc ?_ ?_ | exact gn | exact vN.zz | exact vN.fa | exact vN.ga | exact vN.gA));(first | done | fail))
  (hL:tH Ls 0 js L2:=by(repeat' (first | exact tH.n | exact wH.y | apply tH.z _ rfl | apply tH.c | apply wH.n));(first | done | fail)) (hn:js.Nodup:=by decide):Gv Ls S F I:=by
 cases hE.eq
 exact gv hk js hF hL.eq hS hn
inductive Lnt (Ls:List zJ)(F:List PP): List PP->List Nat->Prop
 | n:Lnt Ls F [] []
 | c {f:PP} {F1:List PP} {ls:List Nat} (h:qP F f) (t:Lnt Ls F F1 ls):Lnt Ls F (f::F1) ls
 | e {τ:Type} {e:E τ} {p:Option Addr} {c:Nat} {F1:List PP} {ls:List Nat} (t:Lnt Ls F F1 ls):Lnt Ls F (R e p c 0 []::F1) ls
 | l {τ:Type} {e:E τ} {te:TypeId} {r:zJ} {p:Option Addr} {c m i:Nat} {z:List τ} {F1:List PP} {ls:List Nat} (h:qP F (Ar e te r p c m z)) (hi:wH Ls i r) (t:Lnt Ls F F1 ls):Lnt Ls F (R e p c m z::F1) (i::ls)
theorem Lnt.ca{f:PP}{F1:List PP}{ls:List Nat}(t:Lnt Ls F F1 ls)(h:qP F f:=by(repeat (first | exact qP.y | refine qP.n ?_));(first | done | fail)): Lnt Ls F (f::F1) ls:=.c h t
theorem Lnt.ok{F1:List PP}{ls ls0 js:List Nat}(h:Lnt Ls F F1 ls)(hk:z6n (js++ls0) Ls.length=true): (∀ i∈ls,i∈ls0)->xQ (OKc Ls F js ls0) F1:=by
 induction h with
 | n=>exact λ_=>trivial
 | c h _ ih=>exact λhs=>⟨by obtain⟨k,hk⟩:=h.h;exact hk▸ck k,ih hs⟩
 | e _ ih=>exact λhs=>⟨cn,ih hs⟩
 | l h hi _ ih=>exact λhs=>⟨by obtain⟨k,hk'⟩:=h.h;exact cl _ k hk hi.h hk' (by simpa using hs _ (Qq ..)),ih λi hi=>hs i (Qo _ hi)⟩
theorem aC0 (ci:Nat){fd:FuncId}{pp:Prop}{cal:Operand}{xs:Array Operand}{ats:Array TypeId}{bs0 caps:Array Value}[i0:Cn fd ci pp](hcal:zL S cal=some (.func (.func fd) bs0 caps))
  (h:pp->J P n X Q (.ops os (⟨some d,.call { callee:=.value cal,args:=xs,argTypes:=ats },ty,pos,af,g⟩::l)) S Ls F m):J P n X Q (.ops os (⟨some d,.call { callee:=.value cal,args:=xs,argTypes:=ats },ty,pos,af,g⟩::l)) S Ls F m:=h i0.h
theorem aCa{fd:FuncId}{cal:Operand}{xs:List Operand}{bs0 caps:List Value}{ats:Array TypeId}{us vs:List Value}{L:List zJ}{F1:List PP}{m1:Option σ}{post:σ->(Value->List zJ->List PP->Prop)->Prop}{f:σ->Option ρ}{js ls:List Nat}
  (c:zP qd P fd vs L F1 m1 post) (hcal:zL S cal=some (.func (.func fd) bs0.toArray caps.toArray)) (hx:z8X S xs=some us) (hv:bs0++us++caps=vs)
  (h:∀ r K,(∀ {v L1 F1},callK ls js L1 Ls F1 F (λLs' F'=>J P n X Q (.ops os l) ((d,v)::S) Ls' F' (f r))->K v L1 F1)->post r K)
  (hX:BX Ls L:=by(repeat (first | exact BX.n | refine BX.m ?_ | refine BX.s ?_));(first | done | fail)) (hF:Lnt Ls F F1 ls:=by(repeat' (first | exact Lnt.n | exact qP.y | exact wH.y | (apply Lnt.c;focus ((repeat (first | exact qP.y | refine qP.n ?_));(first | done | fail))) | apply Lnt.e | apply Lnt.l | refine qP.n ?_ | apply wH.n));(first | done | fail))
  (hL:tH Ls 0 js L:=by(repeat' (first | exact tH.n | exact wH.y | apply tH.z _ rfl | apply tH.c | apply wH.n));(first | done | fail)) (hk:z6n (js++ls) Ls.length=true:=by rfl) (hd:Nat.blt d n=true:=by kernel_rfl) (hg:zS os S g=some true:=by rfl) :
  J P n X Q (.ops os (⟨some d,.call { callee:=.value cal,args:=xs.toArray,argTypes:=ats },ty,pos,af,g⟩::l)) S Ls F (m1.bind f) :=
 qD .s js ls c hcal hx hv (hF.ok hk λ_ h=>h) h hL.eq hk hd hg
theorem aR1{fn:Func}{post:ρ->(Value->List zJ->List PP->Prop)->Prop}{r:ρ}{v v1:Value}{L1:List zJ}{F1:List PP}{js:List Nat}(hf:fn.results=#[.tmp t])(hv:vX S t=some v)(hk:∀ K,post r K->K v1 L1 F1)
  (he:v=v1:=by first | rfl | (simp only[sv,UJ] <;> rfl)) (hX:BX Ls L1:=by(repeat (first | exact BX.n | refine BX.m ?_ | refine BX.s ?_));(first | done | fail)) (hF:xQ (vN Ls F) F1:=by(repeat' (first | exact xQ.nn | refine xQ.cc ?_ ?_ | exact gn | exact vN.zz | exact vN.fa | exact vN.ga | exact vN.gA));(first | done | fail))
  (hL:tH Ls 0 js L1:=by(repeat' (first | exact tH.n | exact wH.y | apply tH.z _ rfl | apply tH.c | apply wH.n));(first | done | fail)) (hn:js.Nodup:=by decide):J P n X (zY2 P fn X post) (.ex .ret) S Ls F (some r):=qR hf hv hk js hF he hL.eq hn
theorem lR{b te:Nat}{c:List Value}{fr:Nat×Nat}{rs:List ResultVar}{vs:List Value}{i:Nat}{v:Value}[i0:Sh ty false 1](hl:vX S t=some (pt b 0))(hr:wH Ls i [(b,.cells c.toArray te fr)])(hv:getC c 0 some=some v)(k:RL P S Ls rs vs)(hv2:zNt P ty c.toArray 0=some v:=by kernel_rfl): RL P S Ls (.cell t ty::rs) (v::vs):=lC i v hl hr.h k hv2
theorem lA{b te j:Nat}{c cs:List Value}{fr:Nat×Nat}{rs:List ResultVar}{vs:List Value}{i:Nat}[i0:Sh ty true j](hl:vX S t=some (pt b 0))(hr:wH Ls i [(b,.cells c.toArray te fr)])(hv:z3w j c some=some cs)(k:RL P S Ls rs vs)(hv2:zNt P ty c.toArray 0=some (.agg cs.toArray):=by kernel_rfl): RL P S Ls (.cell t ty::rs) (.agg cs.toArray::vs):=lC i _ hl hr.h k hv2
theorem aRg{fn:Func}{rs:List ResultVar}{vs:List Value}{post:ρ->(Value->List zJ->List PP->Prop)->Prop}{r:ρ}{v1:Value}{L1:List zJ}{F1:List PP}{js:List Nat}(hf:fn.results=rs.toArray)(hk:∀ K,post r K->K v1 L1 F1)
  (hr:RL P S Ls rs vs:=by(repeat' (first | exact lN | exact wH.y | rfl | apply lT | apply lR | apply lA | apply wH.n));(first | done | fail))
  (he:(if h:vs.length=1 then vs[0] else .tuple vs.toArray)=v1:=by first | rfl | (simp only[sv,UJ] <;> rfl)) (hX:BX Ls L1:=by(repeat (first | exact BX.n | refine BX.m ?_ | refine BX.s ?_));(first | done | fail)) (hF:xQ (vN Ls F) F1:=by(repeat' (first | exact xQ.nn | refine xQ.cc ?_ ?_ | exact gn | exact vN.zz | exact vN.fa | exact vN.ga | exact vN.gA));(first | done | fail))
  (hL:tH Ls 0 js L1:=by(repeat' (first | exact tH.n | exact wH.y | apply tH.z _ rfl | apply tH.c | apply wH.n));(first | done | fail)) (hn:js.Nodup:=by decide):J P n X (zY2 P fn X post) (.ex .ret) S Ls F (some r):=yM hf hr hk js hF he hL.eq hn
theorem gMk{dd:Option Nat}(h:J P n X Q (.ops os (⟨dd,.makeSlice t x y,ty,pos,af,g⟩::l)) S Ls F m): J P n X Q (.ops os (⟨dd,.makeSlice t x y,ty,pos,af,g⟩::l)) S Ls F m:=h
structure OWK (d:Nat): Prop
theorem hO{G:Prop}(d:Nat)(h:OWK d->G): G:=h ⟨⟩
class By (t:TypeId)(te:outParam TypeId): Prop
section
variable {τ ω:Type}{e:E τ}{ef:E ω}{te:TypeId}{r:zJ}{p0:Option Addr}{c k0 i:Nat}{z:List τ}{ix:Int}{b o o':Nat}{u:τ}{ag:Bool}{v zv:Value}
theorem aIa{f:τ->Option ρ}(hx:zL S x=some (.slice p0 k0 c))(hy:zL S y=some (.int kd ix))(h:∀ u,zC z ix=some u->∀ b o,p0=some ⟨b,o,none⟩->J P n X Q (.ops os l) ((d,pt b (o+ix.toNat*e.n))::S) Ls F (f u))
  (hF:qP F (Ar e te r p0 c k0 z):=by(repeat (first | exact qP.y | refine qP.n ?_));(first | done | fail)) (ht:yE P t=some e.n:=by kernel_rfl) (hd:Nat.blt d n=true:=by kernel_rfl) (hg:zS os S g=some true:=by rfl):J P n X Q (.ops os (⟨some d,.indexAddr t x y,ty,pos,af,g⟩::l)) S Ls F ((zC z ix).bind f):=by
 obtain⟨k,hk⟩:=hF.h
 exact jia k hk hx hy h ht hd hg
theorem aLA{op:uZ ef}[i0:Ty t ef op ag](s:xS e ef)(hx:zL S x=some (pt b o'))(h:op.op (s.get u) [] F λcs F'=>mkC ag cs λv=>J P n X Q (.ops os l) ((d,v)::S) Ls F' m)
  (hp:p0=some ⟨b,o,none⟩:=by assumption) (hF:qP F (Ar e te r p0 c k0 z):=by(repeat (first | exact qP.y | refine qP.n ?_));(first | done | fail)) (he:o'=o+ix.toNat*e.n+s.off:=by rfl) (hm:zC z ix=some u:=by assumption) (hr:wH Ls i r:=by(repeat (first | exact wH.y | apply wH.n));(first | done | fail))
  (ht:vW P t=some (ag,ef.n):=by kernel_rfl) (hag:ag=true∨ef.n=1:=by first | exact .inl rfl | exact .inr rfl) (hd:Nat.blt d n=true:=by kernel_rfl) (hg:zS os S g=some true:=by rfl):J P n X Q (.ops os (⟨some d,.load t x,ty,pos,af,g⟩::l)) S Ls F m:=by
 obtain⟨k,hk⟩:=hF.h
 subst he
 exact jlA i k s ag op hk hp hm hx h hr.h ht hag hd hg
theorem aSA{op:uZ ef}[i0:Ty t ef op ag]{nz:ω}(s:xS e ef)(hx:zL S x=some (pt b o'))(hy:zL S y=some v)(h:∀ r',uR Ls i r' λLs'=>J P n X Q (.ops os l) S Ls' (Ar e te r' p0 c k0 (z.set ix.toNat (s.put u nz))::F) m)
  (hp:p0=some ⟨b,o,none⟩:=by assumption) (hF:qP F (Ar e te r p0 c k0 z):=by(repeat (first | exact qP.y | refine qP.n ?_));(first | done | fail)) (he:o'=o+ix.toNat*e.n+s.off:=by rfl) (hm:zC z ix=some u:=by assumption) (hr:wH Ls i r:=by(repeat (first | exact wH.y | apply wH.n));(first | done | fail))
  (hv:RV ef Ls F v.cells.toList nz:=by(repeat' (first | exact vI | exact vB | exact vS | exact vU | exact avN | apply avQ | apply avF | exact qP.y | apply qP.n));(first | done | fail)) (ht:vW P t=some (ag,ef.n):=by kernel_rfl) (hg:zS os S g=some true:=by rfl):J P n X Q (.ops os (⟨none,.store t x y,ty,pos,af,g⟩::l)) S Ls F m:=by
 obtain⟨k,hk⟩:=hF.h
 subst he
 exact jsA .s i k s nz ag hk hp hm hx hy hv h hr.h ht hg
theorem aMk{zd:τ}{k1 k2:IntKind}{i j:Int}{f:List τ->Option ρ}[i0:Se t te e][i1:Zr te zv](hx:zL S x=some (.int k1 i))(hy:zL S y=some (.int k2 j))
  (h:∀ z r' p1 c',zOD Ls r' λLs'=>J P n X Q (.ops os l) ((d,sv p1 z c')::S) Ls' (Al e te r' p1 c' z::F) (f z)) (hzr:RV e Ls F zv.cells.toList zd:=by(repeat' (first | exact vI | exact vB | exact vS | exact vU | exact avN | apply avQ | apply avF | exact qP.y | apply qP.n));(first | done | fail)) (hz:zJX P te=some zv:=by kernel_rfl) (ht:uT P t te e.n=true:=by kernel_rfl)
  (hd:Nat.blt d n=true:=by kernel_rfl) (hg:zS os S g=some true:=by rfl):J P n X Q (.ops os (⟨some d,.makeSlice t x y,ty,pos,af,g⟩::l)) S Ls F ((mkS i j zd).bind f):=jmk .s te zd zv hzr hx hy h hz ht hd hg
theorem aBo{parts:List (Nat×Operand)}{cs:List Value}[i0:Se t te e](h:∀ r' p1 c',zOD Ls r' λLs'=>J P n X Q (.ops os l) ((d,sv p1 z c')::S) Ls' (Al e te r' p1 c' z::F) m)(ho:OWK d:=by assumption)(hb:bsC S parts 0 some=some cs:=by rfl)
  (hrd:RD e Ls F cs z:=by(repeat' (first | exact rN | apply rC | exact vI | exact vB | exact vS | exact vU | exact avN | apply avQ | apply avF | exact qP.y | apply qP.n));(first | done | fail)) (ht:uT P t te e.n=true:=by kernel_rfl) (hc:zMP P S t k0 parts=some cs:=by kernel_rfl) (hl:z.length=k0:=by rfl) (hm:Nat.ble k0 16777216=true:=by kernel_rfl) (hd:Nat.blt d n=true:=by kernel_rfl) (hg:zS os S g=some true:=by rfl) :
  J P n X Q (.ops os (⟨some d,.buildSlice t k0 parts.toArray,ty,pos,af,g⟩::l)) S Ls F m:=jbo .s te cs z hrd h ht hc hl hm hd hg
theorem aCb{z:List Int}{s:TypeId}[i0:By s te](hx:zL S x=some (.slice p0 k0 c))(h:J P n X Q (.ops os l) ((d,vs (zY4 z))::S) Ls F m)(hF:qP F (R (zB .u8) p0 c k0 z):=by(repeat (first | exact qP.y | refine qP.n ?_));(first | done | fail))
  (hs:P.underlying s=some (.slice te):=by kernel_rfl) (he:P.underlying te=some (.int .u8):=by kernel_rfl) (ht:P.underlying t=some .string:=by kernel_rfl) (hd:Nat.blt d n=true:=by kernel_rfl) (hg:zS os S g=some true:=by rfl) :
  J P n X Q (.ops os (⟨some d,.convert s t x,ty,pos,af,g⟩::l)) S Ls F m:=by
 obtain⟨k,hk⟩:=hF.h
 exact jsb .s (hk▸gk k) hx hs he ht h hd hg
theorem aSh (hF:qP F (Ar e te r p0 c k0 z))(h:uR Ls i [] λLs'=>J P n X Q p S Ls' (R e p0 c k0 z::F) m)(hr:wH Ls i r:=by(repeat (first | exact wH.y | apply wH.n));(first | done | fail))(hl:uR Ls i [] (λLs'=>p.less Ls Ls'):=by first | exact trivial | exact rfl): J P n X Q p S Ls F m:=by
 obtain⟨k,hk⟩:=hF.h
 exact uQ i k hk hr.h h hl
theorem z9P (hF:qP F (Ar e te r p0 c k0 z))(hr:wH Ls i r:=by(repeat (first | exact wH.y | apply wH.n));(first | done | fail))(hl:uR Ls i [] (λLs'=>p.less Ls Ls'):=by first | exact trivial | exact rfl)
  (h:uR Ls i [] λLs'=>J P n X Q p S Ls' (R e p0 c k0 z::F) m:=by first | exact aR1 rfl rfl (λ_ k=>k ..) | exact aRg rfl (λ_ k=>k ..)):J P n X Q p S Ls F m:=aSh hF h hr hl
theorem aShN (hF:qP F (Ar e te r p0 c k0 z))(hr:wH Ls i r:=by(repeat (first | exact wH.y | apply wH.n));(first | done | fail))(hl:uR Ls i [] (λLs'=>p.less Ls Ls'):=by first | exact trivial | exact rfl)
  (h:uR Ls i [] λLs'=>J P n X Q p S Ls' (R e p0 c k0 z::F) m:=by exact qB (gvA (λ_ k=>k ..))):J P n X Q p S Ls F m:=aSh hF h hr hl
theorem aShS (hF:qP F (Ar e te r p0 c k0 z))(hr:wH Ls i r:=by(repeat (first | exact wH.y | apply wH.n));(first | done | fail))(hl:uR Ls i [] (λLs'=>p.less Ls Ls'):=by first | exact trivial | exact rfl)
  (h:uR Ls i [] λLs'=>J P n X Q p S Ls' (R e p0 c k0 z::F) m:=by first | exact z9P (.n .y) | exact z9P (.n (.n .y)) | exact z9P (.n (.n (.n .y))) | exact z9P (.n (.n (.n (.n .y)))) | exact z9P (.n (.n (.n (.n (.n .y)))))):J P n X Q p S Ls F m:=aSh hF h hr hl
end
section
variable {te:TypeId}{r:zJ}{p0:Option Addr}{c k0 i:Nat}{w:zD}{ix:Int}{b o':Nat}
theorem aBy{t2:TypeId}[i0:By t2 te](hx:zL S x=some (vs w))(h:∀ r p1 c',zOD Ls r λLs'=>J P n X Q (.ops os l) ((d,.slice p1 w.length c')::S) Ls' (Byr te r p1 w.length w::F) m)
  (hs:P.underlying t=some .string:=by kernel_rfl) (ht:P.underlying t2=some (.slice te):=by kernel_rfl) (he:P.underlying te=some (.int .u8):=by kernel_rfl) (hd:Nat.blt d n=true:=by kernel_rfl) (hg:zS os S g=some true:=by rfl) :
  J P n X Q (.ops os (⟨some d,.convert t t2 x,ty,pos,af,g⟩::l)) S Ls F m:=jby .s hx hs ht he h hd hg
theorem aByJ{f:UInt8->Option ρ}(hx:zL S x=some (.slice p0 k0 c))(hy:zL S y=some (.int kd ix))(h:∀ u,zC w ix=some u->∀ b,p0=some ⟨b,0,none⟩->J P n X Q (.ops os l) ((d,pt b (0+ix.toNat*1))::S) Ls F (f u))
  (hF:qP F (Byr te r p0 k0 w):=by(repeat (first | exact qP.y | refine qP.n ?_));(first | done | fail)) (ht:yE P t=some 1:=by kernel_rfl) (hd:Nat.blt d n=true:=by kernel_rfl) (hg:zS os S g=some true:=by rfl):J P n X Q (.ops os (⟨some d,.indexAddr t x y,ty,pos,af,g⟩::l)) S Ls F ((zC w ix).bind f):=by
 obtain⟨k,hk⟩:=hF.h
 exact jbyJ k hk hx hy h ht hd hg
theorem aByL{u:UInt8}(hx:zL S x=some (pt b o'))(h:J P n X Q (.ops os l) ((d,.int .u8 ((u.toNat:Nat):Int))::S) Ls F m)(hp:p0=some ⟨b,0,none⟩:=by assumption)(hF:qP F (Byr te r p0 k0 w):=by(repeat (first | exact qP.y | refine qP.n ?_));(first | done | fail))(he:o'=0+ix.toNat*1:=by rfl)
  (hu:zC w ix=some u:=by assumption) (hr:wH Ls i r:=by(repeat (first | exact wH.y | apply wH.n));(first | done | fail)) (ht:vW P t=some (false,1):=by kernel_rfl) (hd:Nat.blt d n=true:=by kernel_rfl) (hg:zS os S g=some true:=by rfl):J P n X Q (.ops os (⟨some d,.load t x,ty,pos,af,g⟩::l)) S Ls F m:=by
 obtain⟨k,hk⟩:=hF.h
 subst he
 exact jbyl i k hk hr.h hp hu hx h ht hd hg
theorem aByS{f:zD->Option ρ}{v:Int}(hx:zL S x=some (pt b o'))(hy:zL S y=some (.int .u8 v))(h:∀ l' r',uR Ls i r' λLs'=>J P n X Q (.ops os l) S Ls' (Byr te r' p0 k0 l'::F) (f l'))(hp:p0=some ⟨b,0,none⟩:=by assumption)
  (hF:qP F (Byr te r p0 k0 w):=by(repeat (first | exact qP.y | refine qP.n ?_));(first | done | fail)) (he:o'=0+ix.toNat*1:=by rfl) (hr:wH Ls i r:=by(repeat (first | exact wH.y | apply wH.n));(first | done | fail)) (ht:vW P t=some (false,1):=by kernel_rfl) (hg:zS os S g=some true:=by rfl) :
  J P n X Q (.ops os (⟨none,.store t x y,ty,pos,af,g⟩::l)) S Ls F ((bset w ix v).bind f):=by
 obtain⟨k,hk⟩:=hF.h
 subst he
 exact jbys .s i k hk hr.h hp hx hy h ht hg
theorem aByC{t2:TypeId}[i0:By t te](hx:zL S x=some (.slice p0 k0 c))(h:J P n X Q (.ops os l) ((d,vs w)::S) Ls F m)(hF:qP F (Byr te r p0 k0 w):=by(repeat (first | exact qP.y | refine qP.n ?_));(first | done | fail))(hr:wH Ls i r:=by(repeat (first | exact wH.y | apply wH.n));(first | done | fail))
  (hs:P.underlying t=some (.slice te):=by kernel_rfl) (he:P.underlying te=some (.int .u8):=by kernel_rfl) (ht:P.underlying t2=some .string:=by kernel_rfl) (hd:Nat.blt d n=true:=by kernel_rfl) (hg:zS os S g=some true:=by rfl) :
  J P n X Q (.ops os (⟨some d,.convert t t2 x,ty,pos,af,g⟩::l)) S Ls F m:=by
 obtain⟨k,hk⟩:=hF.h
 exact jbyS .s k hk hr.h hx hs he ht h hd hg
end
inductive UQ
 | r (x:zJ)
 | c (l:List (Nat×Value))
def putsC:List Value->List (Nat×Value)->(List Value->Prop)->Prop
 | cs,[],k=>k cs
 | cs,(o,v)::l,k=>uR cs o v λcs'=>putsC cs' l k
def modR:List zJ->Nat->List (Nat×Value)->(List zJ->Prop)->Prop
 | [],_,_,_=>False
 | r::L,0,l,k=>match r with
  | [(b,.cells ⟨cs⟩ t fr)]=>putsC cs l λcs'=>k ([(b,.cells cs'.toArray t fr)]::L)
  | _=>False
 | r::L,i+1,l,k=>modR L i l λL'=>k (r::L')
def updQ:List zJ->List (Nat×UQ)->(List zJ->Prop)->Prop
 | L,[],k=>k L
 | L,(i,.r r)::us,k=>putR L i r λL'=>updQ L' us k
 | L,(i,.c l)::us,k=>modR L i l λL'=>updQ L' us k
abbrev KQ:=List Nat->List (Nat×UQ)->List Nat->Sl->List PP->Prop
def kq (S:Sl)(L:List zJ)(F:List PP)(K:xY): KQ:=λks us fs S1 F1=>selSC S ks S1 λS'=>updQ L us λL'=>selFC F fs λF'=>appC F1 F' λF2=>K S' L' F2
def cid:Code->Nat×Nat
 | .region id _ _=>(id,0)
 | .seq a _=>match cid a with
  | (k,j)=>(k,j+1)
 | .cond _ a _=>match cid a with
  | (k,j)=>(k,j+1)
 | .block _ a=>match cid a with
  | (k,j)=>(k,j+1)
 | .loop a=>match cid a with
  | (k,j)=>(k,j+1)
 | .scope a=>match cid a with
  | (k,j)=>(k,j+1)
 | _=>(9999,0)
structure ROK (d len:Nat){τ:Type}(e:E τ)(te:TypeId): Prop
theorem hR{τ:Type}{G:Prop}(d len:Nat)(e:E τ)(te:TypeId)(h:ROK d len e te->G): G:=h ⟨⟩
theorem jroE{τ:Type}{e:E τ}{te:TypeId}{d len:Nat}(hd:(os.back?.bind λo:Oper=>o.dst)=some d)(h:zOD Ls [] λLs'=>J P n X Q (.ops os []) S Ls' (Ar e te [] none 0 0 []::F) m)
  (hR:ROK d len e te:=by assumption) (hl:Nat.beq Ls.length len=true:=by rfl):J P n X Q (.ops os []) S Ls F m:=yU e te h (by rw[zKe];exact trivial)
structure LIK (n k j:Nat){σ:Type}(I:σ->KQ->Prop): Prop
theorem hI{σ:Type}{G:Prop}(n k j:Nat)(I:σ->KQ->Prop)(h:LIK n k j I->G): G:=h ⟨⟩
structure LPK (n k j:Nat)(I:KQ->Prop): Prop
theorem hP{G:Prop}(n k j:Nat)(I:KQ->Prop)(h:LPK n k j I->G): G:=h ⟨⟩
theorem jjpQ{cx cy:Code}{k j:Nat}{I:KQ->Prop}(hk:cid cx=(k,j))(hx:J P n X (jnQ X n λ(_:Unit) K=>I (kq S Ls F K)) (.code cx) S Ls F (some ()))
  (hy:∀ K:xY,(∀ {S' L' F'},J P n X Q (.code cy) S' L' F' m->K S' L' F')->I (kq S Ls F K)) (hI:LPK 4 k j I:=by assumption):J P n X Q (.code (.seq cx cy)) S Ls F m:=jjp (λK=>I (kq S Ls F K)) hx hy
theorem jjqQ{cx:Code}{k j:Nat}{I:KQ->Prop}(hk:cid cx=(k,j))(hx:J P n X (jnQ X n λ(_:Unit) K=>I (kq S Ls F K)) (.code cx) S Ls F (some ()))
  (hy:∀ K:xY,(∀ {S' L' F'},J P n X Q (.ex .normal) S' L' F' m->K S' L' F')->I (kq S Ls F K)) (hI:LPK 5 k j I:=by assumption):J P n X Q (.code cx) S Ls F m:=jjq (λK=>I (kq S Ls F K)) hx hy
section
variable {cx cy:Code}{k j:Nat}{I:σ->KQ->Prop}
theorem jlpQ{B:σ->Option (σ⊕ρ)}{s0:σ}(hk:cid cx=(k,j))(g:Gv Ls S F (λK=>I s0 (kq S Ls F K)))
  (hb:∀ s K,(∀ {S' L' F'},J P n X (lpQ X n (λs K=>I s (kq S Ls F K)) Q) (.code cx) S' L' F' (B s)->K S' L' F')->I s (kq S Ls F K)) (hI:LIK 0 k j I:=by assumption):J P n X Q (.code (.loop cx)) S Ls F (zN B s0):=jlp (λs K=>I s (kq S Ls F K)) g hb
theorem jjnQ{m1:Option σ}{f:σ->Option ρ}(hk:cid cx=(k,j))(hx:J P n X (jnQ X n λs K=>I s (kq S Ls F K)) (.code cx) S Ls F m1)
  (hy:∀ s K,(∀ {S' L' F'},J P n X Q (.code cy) S' L' F' (f s)->K S' L' F')->I s (kq S Ls F K)) (hI:LIK 1 k j I:=by assumption):J P n X Q (.code (.seq cx cy)) S Ls F (m1.bind f):=jjn (λs K=>I s (kq S Ls F K)) hx hy
theorem jjoQ{m1:Option (σ⊕ρ)}{f:σ->Option ρ}(hk:cid cx=(k,j))(hx:J P n X (lpQ X n (λs K=>I s (kq S Ls F K)) Q) (.code cx) S Ls F m1)
  (hy:∀ s K,(∀ {S' L' F'},J P n X Q (.code cy) S' L' F' (f s)->K S' L' F')->I s (kq S Ls F K)) (hI:LIK 2 k j I:=by assumption):J P n X Q (.code (.seq cx cy)) S Ls F (vH m1 f):=jjo (λs K=>I s (kq S Ls F K)) hx hy
theorem jjcQ{m1:Option σ}{f:σ->Option ρ}(hk:cid cx=(k,j))(hx:J P n X (jnQ X n λs K=>I s (kq S Ls F K)) (.code cx) S Ls F m1)
  (hy:∀ s K,(∀ {S' L' F'},J P n X Q (.ex .normal) S' L' F' (f s)->K S' L' F')->I s (kq S Ls F K)) (hI:LIK 3 k j I:=by assumption):J P n X Q (.code cx) S Ls F (m1.bind f):=jjc (λs K=>I s (kq S Ls F K)) hx hy
end
theorem gGv{I:xY->Prop}(h:Gv Ls S F I): Gv Ls S F I:=h
inductive OT
 | e
 | l (is:List Nat) (t:OT)
 | f (i:Nat) (t:OT)
 | w (i j:Nat) (t u:OT)
 | v (i j k:Nat) (t u x:OT)
 | s (d:Nat) (t u:OT)
 | b (B J:List Nat) (t:OT)
def DJ (o:OT)(G:Prop): Prop:=G
structure DRK (id:Nat)(B J:List Nat)(o:OT): Prop
theorem hD{G:Prop}(id:Nat)(B J:List Nat)(o:OT)(h:DRK id B J o->G): G:=h ⟨⟩
section
variable {B Jj B' J' js ls:List Nat}{li:Array Bool}{fuel i j k q id:Nat}{o u w:OT}{is:List Nat}{G:Prop}{z0:Code}{v:Value}{ag:Bool}{b oo:Nat}{c cs:List Value}{te:TypeId}{fr:Nat×Nat}{L0:List zJ}
theorem gDJ (h:DJ o G): DJ o G:=h
theorem dds (h:DJ o (J P n X (zVQ P z0 Q) (.dr l.toArray B Jj l.length (Array.replicate l.length false)) S Ls F m))(hh:DRK id B Jj o:=by assumption)(hm:P.follows .mixedOrders=true:=by kernel_rfl):
  J P n X Q (.code (.seq (.region id l.toArray true) z0)) S Ls F m:=xA B Jj _ h rfl hm
theorem ddS (h:DJ o (J P n X Q (.dr l.toArray B Jj l.length (Array.replicate l.length false)) S Ls F m))(hh:DRK id B Jj o:=by assumption)(hm:P.follows .mixedOrders=true:=by kernel_rfl):
  J P n X Q (.code (.region id l.toArray true)) S Ls F m:=tM B Jj _ h rfl hm
theorem dE (h:J P n X Q (.ex .normal) S Ls F m)(hr:Region.ready .any os li=[]:=by kernel_rfl): DJ .e (J P n X Q (.dr os B Jj fuel li) S Ls F m):=qY h hr
theorem dNil (h:DJ o G): DJ (.l [] o) G:=h
theorem d1f (h:DJ o (J P n X Q (.fo i os B Jj fuel li) S Ls F m))(hr:Region.ready .any os li=[i]:=by kernel_rfl): DJ (.f i o) (J P n X Q (.dr os B Jj (fuel+1) li) S Ls F m):=qO i h hr
theorem d2f (h:DJ o (J P n X Q (.fo i os B Jj fuel li) S Ls F m))(h':DJ u (J P n X Q (.fo j os B Jj fuel li) S Ls F m))(hr:Region.ready .any os li=[i,j]:=by kernel_rfl): DJ (.w i j o u) (J P n X Q (.dr os B Jj (fuel+1) li) S Ls F m):=jd2 i j h h' hr
theorem d3f (h:DJ o (J P n X Q (.fo i os B Jj fuel li) S Ls F m))(h':DJ u (J P n X Q (.fo j os B Jj fuel li) S Ls F m))(h'':DJ w (J P n X Q (.fo k os B Jj fuel li) S Ls F m))(hr:Region.ready .any os li=[i,j,k]:=by kernel_rfl): DJ (.v i j k o u w) (J P n X Q (.dr os B Jj (fuel+1) li) S Ls F m):=jd3 i j k h h' h'' hr
theorem dN (h:DJ o (J P n X Q (.dr os B Jj fuel li) S Ls F m))(hJ:Jj.map (Ls[·]?)=Jj.map (L0[·]?):=by rfl): DJ o (J P n X Q (.af L0 os B Jj fuel li) S Ls F m):=qM h hJ
theorem dB (h:DJ o (J P n X Q (.dr os B' J' fuel li) S Ls F m))(hb:B.all (λj=>!li.getD j false)=false:=by kernel_rfl): DJ (.b B' J' o) (J P n X Q (.af L0 os B Jj fuel li) S Ls F m):=jdb B' J' h hb
theorem dSi{b:Bool}(hl:vX S t=some (.bool b))(h1:DJ o (J P n X Q (.dr os B Jj fuel li) ((t,.bool true)::S) Ls F m1))(h2:DJ u (J P n X Q (.dr os B Jj fuel li) ((t,.bool false)::S) Ls F m2)): DJ (.s t o u) (J P n X Q (.dr os B Jj fuel li) S Ls F (if b=true then m1 else m2)):=uO t hl h1 h2
theorem dSs{b:Bool}(hl:vX S t=some (.bool b))(h1:b=true->DJ o (J P n X Q (.dr os B Jj fuel li) ((t,.bool true)::S) Ls F m))(h2:b=false->DJ u (J P n X Q (.dr os B Jj fuel li) ((t,.bool false)::S) Ls F m)): DJ (.s t o u) (J P n X Q (.dr os B Jj fuel li) S Ls F m):=xO t hl h1 h2
theorem dX{ob:List Ob}(hi:os[i]?=some ⟨some d,op,ty,pos,af,g⟩)(hv:pvX S op [] (λob v=>some (v,ob))=some (v,ob))(h:DJ (.l is o) (J P n X Q (.dr os B Jj fuel (li.setIfInBounds i true)) ((d,v)::S) Ls F m))(hg:zS os S g=some true:=by rfl)
  (hk:vZ os B li i=true:=by kernel_rfl) (hd:Nat.blt d n=true:=by kernel_rfl) (ho:z1D P ob=true:=by kernel_rfl):DJ (.l (i::is) o) (J P n X Q (.dr os B Jj (fuel+1) li) S Ls F m):=by
 obtain⟨ob',v',h1,h2⟩:=z7w (P:=P) hv
 cases h1
 exact vK i v hi h hk hd hg (h2 ho).1
theorem dSk (hi:os[i]?=some ⟨some d,op,ty,pos,af,g⟩)(hg:zS os S g=some false)(h:DJ (.l is o) (J P n X Q (.dr os B Jj fuel (li.setIfInBounds i true)) ((d,undef)::S) Ls F m))
  (hk:vZ os B li i=true:=by kernel_rfl) (hd:Nat.blt d n=true:=by kernel_rfl):DJ (.l (i::is) o) (J P n X Q (.dr os B Jj (fuel+1) li) S Ls F m) :=
 ⟨λhq r hm a w hs=>dk i hs hi (λa' hs'=>J.go h hq r hm a' w hs') (λc v a w hp=>(hq r c _ _ hp).elim) hk hd hg⟩
theorem dFa{s f off:Nat}{ofs:List Nat}[i0:Fs s ofs](hi:os[i]?=some ⟨some d,.fieldAddr s x f,ty,pos,af,g⟩)(hx:zL S x=some (pt b oo))(h:DJ (.l is o) (J P n X Q (.dr os B Jj fuel (li.setIfInBounds i true)) ((d,pt b (oo+off))::S) Ls F m))(ho:ofs.getD f 0=off:=by rfl)
  (hf:z0o P s f=some off:=by kernel_rfl) (hk:vZ os B li i=true:=by kernel_rfl) (hd:Nat.blt d n=true:=by kernel_rfl) (hg:zS os S g=some true:=by rfl):DJ (.l (i::is) o) (J P n X Q (.dr os B Jj (fuel+1) li) S Ls F m):=qU i off hi hx h hf hk hd hg
theorem dLo[i0:Sh t false 1](hi:os[i]?=some ⟨some d,.load t x,ty,pos,af,g⟩)(hx:zL S x=some (pt b oo))(h:DJ (.l is o) (J P n X Q (.dr os B Jj fuel (li.setIfInBounds i true)) ((d,v)::S) Ls F m))
  (hr:wH Ls q [(b,.cells c.toArray te fr)]:=by(repeat (first | exact wH.y | apply wH.n));(first | done | fail)) (hv:getC c oo some=some v:=by rfl)
  (ht:vW P t=some (false,1):=by kernel_rfl) (hb:B.all (λj=>behind os i os.size j)=true:=by kernel_rfl) (hJ:Jj.contains q=true:=by kernel_rfl)
  (hk:vZ os B li i=true:=by kernel_rfl) (hd:Nat.blt d n=true:=by kernel_rfl) (hg:zS os S g=some true:=by rfl):DJ (.l (i::is) o) (J P n X Q (.dr os B Jj (fuel+1) li) S Ls F m):=wV i q hi hx hr.h hv h ht hb hJ hk hd hg
theorem dLa[i0:Sh t true k](hi:os[i]?=some ⟨some d,.load t x,ty,pos,af,g⟩)(hx:zL S x=some (pt b oo))(h:DJ (.l is o) (J P n X Q (.dr os B Jj fuel (li.setIfInBounds i true)) ((d,.agg cs.toArray)::S) Ls F m))
  (hr:wH Ls q [(b,.cells c.toArray te fr)]:=by(repeat (first | exact wH.y | apply wH.n));(first | done | fail)) (hv:z7T oo c (λl=>z3w k l some)=some cs:=by rfl)
  (ht:vW P t=some (true,k):=by kernel_rfl) (hb:B.all (λj=>behind os i os.size j)=true:=by kernel_rfl) (hJ:Jj.contains q=true:=by kernel_rfl)
  (hk:vZ os B li i=true:=by kernel_rfl) (hd:Nat.blt d n=true:=by kernel_rfl) (hg:zS os S g=some true:=by rfl):DJ (.l (i::is) o) (J P n X Q (.dr os B Jj (fuel+1) li) S Ls F m):=xE i q k hi hx hr.h hv h ht hb hJ hk hd hg
theorem dLd{τ:Type}{e:E τ}{op:uZ e}{u:τ}[i0:Ty t e op ag](hi:os[i]?=some ⟨some d,.load t x,ty,pos,af,g⟩)(hx:zL S x=some (pt b oo))(h:op.op u [] F λcs F'=>mkC ag cs λv=>DJ (.l is o) (J P n X Q (.dr os B Jj fuel (li.setIfInBounds i true)) ((d,v)::S) Ls F' m))
  (hP:PtS F e b oo u:=by(repeat (first | (apply PtS.y;(repeat (first | exact tV.r | (apply tV.l;(repeat (first | exact tV.r | (apply tV.l;(repeat (first | exact tV.r | apply tV.s));done) | apply tV.s));done) | apply tV.s));done) | apply PtS.n));(first | done | fail)) (ht:vW P t=some (ag,e.n):=by kernel_rfl) (hag:ag=true∨e.n=1:=by first | exact .inl rfl | exact .inr rfl)
  (hb:B.all (λj=>behind os i os.size j)=true:=by kernel_rfl) (hk:vZ os B li i=true:=by kernel_rfl) (hd:Nat.blt d n=true:=by kernel_rfl) (hg:zS os S g=some true:=by rfl):DJ (.l (i::is) o) (J P n X Q (.dr os B Jj (fuel+1) li) S Ls F m) :=
 tZ i ag op hi (λA w _ hF=>hP.h _ w hF) hx h ht hag hb hk hd hg
theorem dIx{τ:Type}{e:E τ}{p0:Option Addr}{c k0:Nat}{z:List τ}{ix:Int}{f:τ->Option ρ}(hi:os[i]?=some ⟨some d,.indexAddr t x y,ty,pos,af,g⟩)(hx:zL S x=some (.slice p0 k0 c))(hy:zL S y=some (.int kd ix))
  (h:∀ u b oo,DJ (.l is o) (J P n X Q (.dr os B Jj fuel (li.setIfInBounds i true)) ((d,pt b oo)::S) Ls (Pt e b oo u::F) (f u))) (hF:qP F (R e p0 c k0 z):=by(repeat (first | exact qP.y | refine qP.n ?_));(first | done | fail))
  (ht:yE P t=some e.n:=by kernel_rfl) (hk:vZ os B li i=true:=by kernel_rfl) (hd:Nat.blt d n=true:=by kernel_rfl) (hg:zS os S g=some true:=by rfl):DJ (.l (i::is) o) (J P n X Q (.dr os B Jj (fuel+1) li) S Ls F ((zC z ix).bind f)):=by
 obtain⟨k,hk'⟩:=hF.h
 exact jdi i k hi hk' hx hy h ht hk hd hg
theorem dIa{τ:Type}{e:E τ}{r:zJ}{p0:Option Addr}{c k0:Nat}{z:List τ}{ix:Int}{f:τ->Option ρ}(hi:os[i]?=some ⟨some d,.indexAddr t x y,ty,pos,af,g⟩)(hx:zL S x=some (.slice p0 k0 c))(hy:zL S y=some (.int kd ix))
  (h:∀ u,zC z ix=some u->∀ b oo,p0=some ⟨b,oo,none⟩->DJ (.l is o) (J P n X Q (.dr os B Jj fuel (li.setIfInBounds i true)) ((d,pt b (oo+ix.toNat*e.n))::S) Ls F (f u))) (hF:qP F (Ar e te r p0 c k0 z):=by(repeat (first | exact qP.y | refine qP.n ?_));(first | done | fail))
  (ht:yE P t=some e.n:=by kernel_rfl) (hk:vZ os B li i=true:=by kernel_rfl) (hd:Nat.blt d n=true:=by kernel_rfl) (hg:zS os S g=some true:=by rfl):DJ (.l (i::is) o) (J P n X Q (.dr os B Jj (fuel+1) li) S Ls F ((zC z ix).bind f)):=by
 obtain⟨k,hk'⟩:=hF.h
 exact jdI i k hi hk' hx hy h ht hk hd hg
theorem dLA{τ ω:Type}{e:E τ}{ef:E ω}{op:uZ ef}{r:zJ}{p0:Option Addr}{c k0 o1 o' q:Nat}{z:List τ}{ix:Int}{u:τ}[i0:Ty t ef op ag](s:xS e ef)(hi:os[i]?=some ⟨some d,.load t x,ty,pos,af,g⟩)(hx:zL S x=some (pt b o'))
  (h:op.op (s.get u) [] F λcs F'=>mkC ag cs λv=>DJ (.l is o) (J P n X Q (.dr os B Jj fuel (li.setIfInBounds i true)) ((d,v)::S) Ls F' m))
  (hp:p0=some ⟨b,o1,none⟩:=by assumption) (hF:qP F (Ar e te r p0 c k0 z):=by(repeat (first | exact qP.y | refine qP.n ?_));(first | done | fail)) (he:o'=o1+ix.toNat*e.n+s.off:=by rfl) (hm:zC z ix=some u:=by assumption) (hr:wH Ls q r:=by(repeat (first | exact wH.y | apply wH.n));(first | done | fail))
  (ht:vW P t=some (ag,ef.n):=by kernel_rfl) (hag:ag=true∨ef.n=1:=by first | exact .inl rfl | exact .inr rfl) (hb:B.all (λj=>behind os i os.size j)=true:=by kernel_rfl) (hJ:Jj.contains q=true:=by kernel_rfl)
  (hk:vZ os B li i=true:=by kernel_rfl) (hd:Nat.blt d n=true:=by kernel_rfl) (hg:zS os S g=some true:=by rfl):DJ (.l (i::is) o) (J P n X Q (.dr os B Jj (fuel+1) li) S Ls F m):=by
 obtain⟨k,hk'⟩:=hF.h
 subst he
 exact tU i q k s ag op hi hk' hp hm hx h hr.h ht hag hb hJ hk hd hg
theorem dCat{p q:zD}{t2 t3:TypeId}{f:zD->Option ρ}(hi:os[i]?=some ⟨some d,.binOp .add t2 x y t3,ty,pos,af,g⟩)(hx:zL S x=some (vs p))(hy:zL S y=some (vs q))(h:∀ r,DJ (.l is o) (J P n X Q (.dr os B Jj fuel (li.setIfInBounds i true)) ((d,vs r)::S) Ls F (f r)))
  (hk:vZ os B li i=true:=by kernel_rfl) (hd:Nat.blt d n=true:=by kernel_rfl) (hg:zS os S g=some true:=by rfl):DJ (.l (i::is) o) (J P n X Q (.dr os B Jj (fuel+1) li) S Ls F ((cat p q).bind f)) :=
 tL λr h1=>jdv i hi (λhS=>z1d hS hx hy h1) (h r) hk hd hg
theorem dSx{s:zD}{ix:Int}{f:Int->Option ρ}(hi:os[i]?=some ⟨some d,.index t x y,ty,pos,af,g⟩)(hx:zL S x=some (vs s))(hy:zL S y=some (.int kd ix))(h:∀ r,DJ (.l is o) (J P n X Q (.dr os B Jj fuel (li.setIfInBounds i true)) ((d,.int .u8 r)::S) Ls F (f r)))
  (hu:P.underlying t=some .string:=by kernel_rfl) (hk:vZ os B li i=true:=by kernel_rfl) (hd:Nat.blt d n=true:=by kernel_rfl) (hg:zS os S g=some true:=by rfl):DJ (.l (i::is) o) (J P n X Q (.dr os B Jj (fuel+1) li) S Ls F ((xX s ix).bind f)) :=
 tL λr h1=>jdv i hi (λhS=>r_sidx hS hx hy hu h1) (h r) hk hd hg
theorem dSb{s:zD}{ix j:Int}{lo hi:Option Operand}{vlo vhi:Option Value}{f:zD->Option ρ}(hi0:os[i]?=some ⟨some d,.slice t x lo hi none,ty,pos,af,g⟩)(hx:zL S x=some (vs s))(hlo:tI S lo=some vlo)(hhi:tI S hi=some vhi)(h:∀ r,DJ (.l is o) (J P n X Q (.dr os B Jj fuel (li.setIfInBounds i true)) ((d,vs r)::S) Ls F (f r)))
  (b1:Bd vlo ix 0:=by first | exact .inl ⟨rfl,rfl⟩ | exact .inr ⟨_,rfl⟩) (b2:Bd vhi j s.length:=by first | exact .inl ⟨rfl,rfl⟩ | exact .inr ⟨_,rfl⟩)
  (hu:P.underlying t=some .string:=by kernel_rfl) (hk:vZ os B li i=true:=by kernel_rfl) (hd:Nat.blt d n=true:=by kernel_rfl) (hg:zS os S g=some true:=by rfl):DJ (.l (i::is) o) (J P n X Q (.dr os B Jj (fuel+1) li) S Ls F ((sub s ix j).bind f)) :=
 tL λr h1=>jdv i hi0 (λhS=>z7n hS hx hu hlo hhi b1 b2 h1) (h r) hk hd hg
theorem dBd{parts:List (Nat×Operand)}{ofs:List Nat}{zc cs:List Value}[i0:Fs t ofs][i1:Zr t (.agg zc.toArray)](hi:os[i]?=some ⟨some d,.build t parts.toArray,ty,pos,af,g⟩)(h:DJ (.l is o) (J P n X Q (.dr os B Jj fuel (li.setIfInBounds i true)) ((d,.agg cs.toArray)::S) Ls F m))(hb:bldC S ofs parts zc=some cs:=by rfl)(hv:pv P S (.build t parts.toArray)=some (.agg cs.toArray):=by kernel_rfl)
  (hk:vZ os B li i=true:=by kernel_rfl) (hd:Nat.blt d n=true:=by kernel_rfl) (hg:zS os S g=some true:=by rfl):DJ (.l (i::is) o) (J P n X Q (.dr os B Jj (fuel+1) li) S Ls F m):=vK i _ hi h hk hd hg hv
theorem eSo (hi:os[i]?=some ⟨none,.store t x y,ty,pos,af,g⟩)(hx:zL S x=some (pt b oo))(hy:zL S y=some v)(h:zUI v λcs=>putC oo c cs λc'=>uR Ls q (bx b te c') λLs'=>DJ o (J P n X Q (.af Ls os B Jj fuel (li.setIfInBounds i true)) S Ls' F m))(hr:wH Ls q (bx b te c):=by(repeat (first | exact wH.y | apply wH.n));(first | done | fail))
  (hv:zN4 P t c.toArray oo v=true:=by kernel_rfl) (hg:zS os S g=some true:=by rfl):DJ o (J P n X Q (.fo i os B Jj fuel li) S Ls F m):=wJ (.f hi) q hx hy hr.h h hv hg
theorem eBx (hi:os[i]?=some ⟨some d,.box t x,ty,pos,af,g⟩)(hx:zL S x=some v)(h:∀ b,zUI v λcs=>zOD Ls (bx b t cs) λLs'=>DJ o (J P n X Q (.af Ls os B Jj fuel (li.setIfInBounds i true)) ((d,pt b 0)::S) Ls' F m))
  (hd:Nat.blt d n=true:=by kernel_rfl) (hg:zS os S g=some true:=by rfl):DJ o (J P n X Q (.fo i os B Jj fuel li) S Ls F m):=wN (.f hi) hx h hd hg
theorem eAl[i0:Zr t v](hi:os[i]?=some ⟨some d,.alloc t,ty,pos,af,g⟩)(h:∀ b,zUI v λcs=>zOD Ls (bx b t cs) λLs'=>DJ o (J P n X Q (.af Ls os B Jj fuel (li.setIfInBounds i true)) ((d,pt b 0)::S) Ls' F m))
  (hx:zJX P t=some v:=by kernel_rfl) (hd:Nat.blt d n=true:=by kernel_rfl) (hg:zS os S g=some true:=by rfl):DJ o (J P n X Q (.fo i os B Jj fuel li) S Ls F m):=yB (.f hi) v h hx hd hg
theorem eLo[i0:Sh t false 1](hi:os[i]?=some ⟨some d,.load t x,ty,pos,af,g⟩)(hx:zL S x=some (pt b oo))(h:DJ o (J P n X Q (.af Ls os B Jj fuel (li.setIfInBounds i true)) ((d,v)::S) Ls F m))(hr:LdR Ls b oo v:=by(repeat (first | exact LdR.y rfl | apply LdR.n));(first | done | fail))
  (ht:vW P t=some (false,1):=by kernel_rfl) (hd:Nat.blt d n=true:=by kernel_rfl) (hg:zS os S g=some true:=by rfl):DJ o (J P n X Q (.fo i os B Jj fuel li) S Ls F m):=by
 obtain⟨q,c,te,fr,h1,h2⟩:=hr.h
 exact jfl0 (.f hi) q hx h1 h2 h ht hd hg
theorem eC0 (ci:Nat){fd:FuncId}{pp:Prop}{cal:Operand}{xs:Array Operand}{ats:Array TypeId}{bs0 caps:Array Value}[i0:Cn fd ci pp](hi:os[i]?=some ⟨some d,.call { callee:=.value cal,args:=xs,argTypes:=ats },ty,pos,af,g⟩)(hcal:zL S cal=some (.func (.func fd) bs0 caps))
  (h:pp->DJ o (J P n X Q (.fo i os B Jj fuel li) S Ls F m)):DJ o (J P n X Q (.fo i os B Jj fuel li) S Ls F m):=h i0.h
theorem eCa{fd:FuncId}{cal:Operand}{xs:List Operand}{bs0 caps:List Value}{ats:Array TypeId}{us vs:List Value}{L:List zJ}{F1:List PP}{m1:Option σ}{post:σ->(Value->List zJ->List PP->Prop)->Prop}{f:σ->Option ρ}
  (c:zP qd P fd vs L F1 m1 post) (hi:os[i]?=some ⟨some d,.call { callee:=.value cal,args:=xs.toArray,argTypes:=ats },ty,pos,af,g⟩) (hcal:zL S cal=some (.func (.func fd) bs0.toArray caps.toArray)) (hx:z8X S xs=some us) (hv:bs0++us++caps=vs)
  (h:∀ r K,(∀ {v L1 F1},callK ls js L1 Ls F1 F (λLs' F'=>DJ o (J P n X Q (.af Ls os B Jj fuel (li.setIfInBounds i true)) ((d,v)::S) Ls' F' (f r)))->K v L1 F1)->post r K)
  (hX:BX Ls L:=by(repeat (first | exact BX.n | refine BX.m ?_ | refine BX.s ?_));(first | done | fail)) (hF:Lnt Ls F F1 ls:=by(repeat' (first | exact Lnt.n | exact qP.y | exact wH.y | (apply Lnt.c;focus ((repeat (first | exact qP.y | refine qP.n ?_));(first | done | fail))) | apply Lnt.e | apply Lnt.l | refine qP.n ?_ | apply wH.n));(first | done | fail)) (hL:tH Ls 0 js L:=by(repeat' (first | exact tH.n | exact wH.y | apply tH.z _ rfl | apply tH.c | apply wH.n));(first | done | fail)) (hk:z6n (js++ls) Ls.length=true:=by rfl) (hd:Nat.blt d n=true:=by kernel_rfl) (hg:zS os S g=some true:=by rfl) :
  DJ o (J P n X Q (.fo i os B Jj fuel li) S Ls F (m1.bind f)):=qD (.f hi) js ls c hcal hx hv (hF.ok hk λ_ h=>h) h hL.eq hk hd hg
theorem eSb{z:List Int}{s te:TypeId}{p0:Option Addr}{c k0:Nat}[i0:By s te](hi:os[i]?=some ⟨some d,.convert s t x,ty,pos,af,g⟩)(hx:zL S x=some (.slice p0 k0 c))(h:DJ o (J P n X Q (.af Ls os B Jj fuel (li.setIfInBounds i true)) ((d,vs (zY4 z))::S) Ls F m))(hF:qP F (R (zB .u8) p0 c k0 z):=by(repeat (first | exact qP.y | refine qP.n ?_));(first | done | fail))
  (hs:P.underlying s=some (.slice te):=by kernel_rfl) (he:P.underlying te=some (.int .u8):=by kernel_rfl) (ht:P.underlying t=some .string:=by kernel_rfl) (hd:Nat.blt d n=true:=by kernel_rfl) (hg:zS os S g=some true:=by rfl):DJ o (J P n X Q (.fo i os B Jj fuel li) S Ls F m):=by
 obtain⟨k,hk⟩:=hF.h
 exact jsb (.f hi) (hk▸gk k) hx hs he ht h hd hg
theorem eByC{w:zD}{s te:TypeId}{r:zJ}{p0:Option Addr}{c k0:Nat}[i0:By s te](hi:os[i]?=some ⟨some d,.convert s t x,ty,pos,af,g⟩)(hx:zL S x=some (.slice p0 k0 c))(h:DJ o (J P n X Q (.af Ls os B Jj fuel (li.setIfInBounds i true)) ((d,vs w)::S) Ls F m))(hF:qP F (Byr te r p0 k0 w):=by(repeat (first | exact qP.y | refine qP.n ?_));(first | done | fail))
  (hr:wH Ls q r:=by(repeat (first | exact wH.y | apply wH.n));(first | done | fail)) (hs:P.underlying s=some (.slice te):=by kernel_rfl) (he:P.underlying te=some (.int .u8):=by kernel_rfl) (ht:P.underlying t=some .string:=by kernel_rfl) (hd:Nat.blt d n=true:=by kernel_rfl) (hg:zS os S g=some true:=by rfl):DJ o (J P n X Q (.fo i os B Jj fuel li) S Ls F m):=by
 obtain⟨k,hk⟩:=hF.h
 exact jbyS (.f hi) k hk hr.h hx hs he ht h hd hg
theorem eBo{parts:List (Nat×Operand)}{cs:List Value}{k0:Nat}{τ:Type}{e:E τ}{z:List τ}[i0:Se t te e](hi:os[i]?=some ⟨some d,.buildSlice t k0 parts.toArray,ty,pos,af,g⟩)(h:∀ r' p1 c',zOD Ls r' λLs'=>DJ o (J P n X Q (.af Ls os B Jj fuel (li.setIfInBounds i true)) ((d,sv p1 z c')::S) Ls' (Al e te r' p1 c' z::F) m))
  (ho:OWK d:=by assumption) (hb:bsC S parts 0 some=some cs:=by rfl) (hrd:RD e Ls F cs z:=by(repeat' (first | exact rN | apply rC | exact vI | exact vB | exact vS | exact vU | exact avN | apply avQ | apply avF | exact qP.y | apply qP.n));(first | done | fail)) (ht:uT P t te e.n=true:=by kernel_rfl) (hc:zMP P S t k0 parts=some cs:=by kernel_rfl) (hl:z.length=k0:=by rfl) (hm:Nat.ble k0 16777216=true:=by kernel_rfl) (hd:Nat.blt d n=true:=by kernel_rfl) (hg:zS os S g=some true:=by rfl) :
  DJ o (J P n X Q (.fo i os B Jj fuel li) S Ls F m):=jbo (.f hi) te cs z hrd h ht hc hl hm hd hg
theorem eBs{parts:List (Nat×Operand)}{cs:List Value}{k0:Nat}{τ:Type}{e:E τ}{z:List τ}[i0:Se t te e](hi:os[i]?=some ⟨some d,.buildSlice t k0 parts.toArray,ty,pos,af,g⟩)(h:∀ p1 c',DJ o (J P n X Q (.af Ls os B Jj fuel (li.setIfInBounds i true)) ((d,sv p1 z c')::S) Ls (Rl e p1 c' z::F) m))(hb:bsC S parts 0 some=some cs:=by rfl)
  (hrd:RD e Ls F cs z:=by(repeat' (first | exact rN | apply rC | exact vI | exact vB | exact vS | exact vU | exact avN | apply avQ | apply avF | exact qP.y | apply qP.n));(first | done | fail)) (ht:uT P t te e.n=true:=by kernel_rfl) (hc:zMP P S t k0 parts=some cs:=by kernel_rfl) (hl:z.length=k0:=by rfl) (hd:Nat.blt d n=true:=by kernel_rfl) (hg:zS os S g=some true:=by rfl) :
  DJ o (J P n X Q (.fo i os B Jj fuel li) S Ls F m):=yH (.f hi) te cs z hrd h ht hc hl hd hg
theorem eAr{τ:Type}{e:E τ}{r:zJ}{p0 q0:Option Addr}{c k0 c2 k2:Nat}{z z2:List τ}{f:List τ->Option ρ}(hi:os[i]?=some ⟨some d,.call { callee:=.builtin .append,args:=[x,y].toArray,argTypes:=[t,t].toArray },ty,pos,af,g⟩)(hx:zL S x=some (.slice p0 k0 c))(hy:zL S y=some (.slice q0 k2 c2))
  (h:∀ u r' p1 c',uR Ls q r' λLs'=>DJ o (J P n X Q (.af Ls os B Jj fuel (li.setIfInBounds i true)) ((d,sv p1 u c')::S) Ls' (Al e te r' p1 c' u::F) (f u)))
  (hF:qP F (Ar e te r p0 c k0 z):=by(repeat (first | exact qP.y | refine qP.n ?_));(first | done | fail)) (hF2:qP F (R e q0 c2 k2 z2):=by(repeat (first | exact qP.y | refine qP.n ?_));(first | done | fail)) (hr:wH Ls q r:=by(repeat (first | exact wH.y | apply wH.n));(first | done | fail))
  (ht:uT P t te e.n=true:=by kernel_rfl) (hd:Nat.blt d n=true:=by kernel_rfl) (hg:zS os S g=some true:=by rfl):DJ o (J P n X Q (.fo i os B Jj fuel li) S Ls F ((qF z z2).bind f)):=by
 obtain⟨k,hk⟩:=hF.h
 obtain⟨k',hk'⟩:=hF2.h
 exact uB (.f hi) q k hk (hk'▸gk k') hx hy h hr.h ht hd hg
end
end
attribute [irreducible] DJ
section
theorem au{G:Prop}(h:G:=by
 repeat' (first
  | (refine gO ?_;first
   | refine jroE rfl ?_ | refine zK ?_ | refine qN ?_ | refine aM 100 rfl ?_
   | (refine gFa ?_;refine aFa rfl ?_) | (refine gLd ?_;first | refine aLo rfl ?_ | refine aLd rfl ?_ | refine aLa rfl ?_ | refine aByL rfl ?_ | refine aLA sI rfl ?_ | refine aLA (sI.fst) rfl ?_ | refine aLA (sI.snd) rfl ?_ | refine aLA (sI.snd.fst) rfl ?_ | refine aLA (sI.snd.snd) rfl ?_ | refine aLA (sI.snd.snd.fst) rfl ?_ | refine aLA (sI.snd.snd.snd) rfl ?_ | refine aLA (sI.snd.snd.snd.fst) rfl ?_ | refine aLA (sI.snd.snd.snd.snd) rfl ?_ | refine aLA (sI.snd.snd.snd.snd.fst) rfl ?_ | refine aLA (sI.snd.snd.snd.snd.snd) rfl ?_) | (refine gSt ?_;first | refine aSo rfl rfl ?_ | refine aByS rfl rfl ?_ | refine aSA (sI) rfl rfl ?_ | refine aSA (sI.fst) rfl rfl ?_ | refine aSA (sI.snd) rfl rfl ?_ | refine aSA (sI.snd.fst) rfl rfl ?_ | refine aSA (sI.snd.snd) rfl rfl ?_ | refine aSA (sI.snd.snd.fst) rfl rfl ?_ | refine aSA (sI.snd.snd.snd) rfl rfl ?_ | refine aSA (sI.snd.snd.snd.fst) rfl rfl ?_ | refine aSA (sI.snd.snd.snd.snd) rfl rfl ?_ | refine aSA (sI.snd.snd.snd.snd.fst) rfl rfl ?_ | refine aSA (sI.snd.snd.snd.snd.snd) rfl rfl ?_)
   | (refine gCl ?_;first | (refine aC0 0 rfl λc=>?_;refine aCa c rfl rfl rfl ?_) | refine aAr rfl rfl ?_ | (refine aC0 1 rfl λc=>?_;refine aCa c rfl rfl rfl ?_) | (refine aC0 2 rfl λc=>?_;refine aCa c rfl rfl rfl ?_) | (refine aC0 3 rfl λc=>?_;refine aCa c rfl rfl rfl ?_))
   | (refine gIa ?_;first | refine aIx rfl rfl ?_ | refine aIa rfl rfl ?_ | refine aByJ rfl rfl ?_) | (refine gCt ?_;refine aCat rfl rfl ?_) | (refine gIx ?_;refine aSi rfl rfl ?_) | (refine gRm ?_;refine aRm rfl rfl ?_) | (refine gQu ?_;refine aQu rfl rfl ?_) | (refine gSl ?_;first | refine aSs rfl rfl rfl ?_ | refine aSl rfl rfl rfl ?_ | refine aSP rfl rfl ?_) | (refine gBx ?_;refine aBx rfl ?_) | (refine gAl ?_;refine aAl ?_) | (refine gBd ?_;refine aBd ?_) | (refine gCv ?_;first | refine aCv rfl ?_ | refine aCb rfl ?_ | refine aBy rfl ?_ | refine aByC rfl ?_) | (refine gBs ?_;first | refine aBo ?_ | refine aBs ?_) | (refine gMk ?_;refine aMk rfl rfl ?_)
   | refine aM 0 rfl ?_
   | (refine gGu ?_;first | refine aGi rfl rfl rfl ?_ ?_ | refine aGs rfl rfl rfl ?_ ?_) | (refine gPk ?_;first | refine aPi rfl ?_ ?_ | refine aPs rfl ?_ ?_))
  | (refine gC ?_;first
   | refine jlpQ rfl ?_ ?_ | refine jjnQ rfl ?_ ?_ | refine jjoQ rfl ?_ ?_ | refine jjcQ rfl ?_ ?_ | refine jjpQ rfl ?_ ?_ | refine jjqQ rfl ?_ ?_
   | refine zG ?_ | refine dds ?_ | refine ddS ?_ | refine jst ?_ | refine jss ?_ | refine zQ ?_ | refine wQ ?_ | refine jct rfl ?_ | refine jcf rfl ?_ | refine zR rfl ?_ ?_ | refine vF ?_ | refine qC ?_ | refine qA ?_ | refine yX ?_ | refine jcs ?_ | refine jlb ?_ | refine aCs rfl ?_ ?_)
  | (refine gEx ?_;first
   | refine qK ?_ | refine qS ?_ | refine yR ?_ | refine wT ?_ | refine yC ?_ | refine yV ?_ | refine jbm ?_ | refine jcn ?_ | refine jce ?_ | refine jcr ?_ | refine jrn ?_
   | (refine gNn ?_;first | exact qB (gvA (λ_ k=>k ..)) | exact aShN .y | exact aShN (.n .y) | exact aShN (.n (.n .y)) | exact aShN (.n (.n (.n .y))) | exact aShN (.n (.n (.n (.n .y)))) | exact aShN (.n (.n (.n (.n (.n .y))))) | exact aShN (.n (.n (.n (.n (.n (.n .y)))))) | exact aShN (.n (.n (.n (.n (.n (.n (.n .y)))))))) | (refine gRt ?_;first | exact aR1 rfl rfl (λ_ k=>k ..) | exact aRg rfl (λ_ k=>k ..) | exact z9P .y | exact z9P (.n .y) | exact z9P (.n (.n .y)) | exact z9P (.n (.n (.n .y))) | exact z9P (.n (.n (.n (.n .y)))) | exact z9P (.n (.n (.n (.n (.n .y))))) | exact z9P (.n (.n (.n (.n (.n (.n .y)))))) | exact z9P (.n (.n (.n (.n (.n (.n (.n .y))))))) | exact aShS .y | exact aShS (.n .y) | exact aShS (.n (.n .y)) | exact aShS (.n (.n (.n .y))) | exact aShS (.n (.n (.n (.n .y)))) | exact aShS (.n (.n (.n (.n (.n .y)))))) | (refine gLp ?_;exact vG (gvA (λ_ k=>k ..))) | refine yQ ?_ | refine tF ?_)
  | (refine gDJ ?_;first
   | refine dE ?_ | refine dNil ?_ | refine dX rfl rfl ?_ | refine dSk rfl rfl ?_ | refine dFa rfl rfl ?_ | refine dLo rfl rfl ?_ | refine dLd rfl rfl ?_ | refine dLa rfl rfl ?_ | refine dIx rfl rfl rfl ?_ | refine dIa rfl rfl rfl ?_ | refine dLA (sI) rfl rfl ?_ | refine dLA (sI.fst) rfl rfl ?_ | refine dLA (sI.snd) rfl rfl ?_ | refine dLA (sI.snd.fst) rfl rfl ?_ | refine dLA (sI.snd.snd) rfl rfl ?_ | refine dLA (sI.snd.snd.fst) rfl rfl ?_ | refine dLA (sI.snd.snd.snd) rfl rfl ?_ | refine dLA (sI.snd.snd.snd.fst) rfl rfl ?_ | refine dLA (sI.snd.snd.snd.snd) rfl rfl ?_ | refine dLA (sI.snd.snd.snd.snd.fst) rfl rfl ?_ | refine dLA (sI.snd.snd.snd.snd.snd) rfl rfl ?_ | refine dCat rfl rfl rfl ?_ | refine dSx rfl rfl rfl ?_ | refine dSb rfl rfl rfl rfl ?_ | refine dBd rfl ?_
   | refine d1f ?_ | refine dN ?_ | refine dB ?_ | refine dSi rfl ?_ ?_ | refine dSs rfl ?_ ?_ | refine d2f ?_ ?_ | refine d3f ?_ ?_ ?_
   | refine eSo rfl rfl rfl ?_ | (refine eC0 0 rfl rfl λc=>?_;refine eCa c rfl rfl rfl rfl ?_) | refine eBx rfl rfl ?_ | refine eAl rfl ?_ | refine eLo rfl rfl ?_ | refine eSb rfl rfl ?_ | refine eByC rfl rfl ?_ | refine eBo rfl ?_ | refine eBs rfl ?_ | refine eAr rfl rfl rfl ?_ | (refine eC0 1 rfl rfl λc=>?_;refine eCa c rfl rfl rfl rfl ?_) | (refine eC0 2 rfl rfl λc=>?_;refine eCa c rfl rfl rfl rfl ?_))
  | (refine gGv ?_;exact gvA (λ_ k=>k ..))
  | (intro r K k;(repeat intro _);refine k ?_)
  | (intro K k;(repeat intro _);refine k ?_)
  | refine λ_=>?_)):G:=h
end
end
end Go.GD
