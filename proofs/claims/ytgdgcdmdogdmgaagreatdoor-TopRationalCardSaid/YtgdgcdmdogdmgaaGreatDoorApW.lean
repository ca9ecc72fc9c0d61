/- A part. Conditions: none. -/
import Derived.Test.YtgdgcdmdogdmgaaGreatDoorJ4
namespace Go.GD
open Go Go.RowKit
set_option autoImplicit false
set_option linter.unusedVariables false
variable {qd:Prop}
section
variable {P:Program}{w:World}{A:List Nat}{Ls:List zG}
theorem zX0{τ:Type}{e:E τ}{t te:Nat}{r:zG}{p q:Option Addr}{c k i:Nat}{l m z:List τ}(hO:zU A w Ls)(hr:Ls[i]?=some r)(hA:wG e te (bl Ls++A) w r p c l)
  (hR:Src e (bl Ls++A) w q m) (ht:yW P t te e.n=true) (hsm:l.length+m.length<2199023255552) (hz0:z=l++m) (hbb:∀ info,P.info? te=some info->(l.length+m.length)*info.bytes≤140737488355328) (rty:TypeId) :
  ∃ r' p' c' w',(Builtin.append_ #[t,t] rty #[.slice p l.length c,.slice q m.length k]).run P w=.ok (.slice p' z.length c') w' ∧
   zU A w' (Ls.set i r')∧zT qd Ls w (Ls.set i r') w'∧wG e te (bl (Ls.set i r')++A) w' r' p' c' z:=by
 subst hz0
 obtain⟨hu,info,zv,hi,hz,hsize,hby,hpos,hzs⟩:=zLR ht
 have hlc:l.length≤c:=by
  rcases hA with⟨_,_,_,rfl⟩ | ⟨b,o,cells,_,_,h3,_⟩
  ·grind
  ·exact h3
 by_cases hm0:m=[]
 ·subst hm0
  refine⟨r,p,c,w,by grind [zMS],?_,?_,?_⟩
  ·exact hO.set hr (Qr _) (fun _ _ _=>rfl) (fun x hx=>yP hO hr hx) (by simpa [bl] using (hO.pick i hr).nodup) (fun x hx=>.inl (Qj.2 ⟨x,hx,rfl⟩))
  ·exact zT.set hr rfl rfl rfl (Qr _) (fun _ _ _=>rfl) (fun x hx=>.inl (Qj.2 ⟨x,hx,rfl⟩))
  ·have hself:Ls.set i r=Ls:=by
    apply QG;intro j
    by_cases hj:i=j
    ·grind
    ·grind
   grind
 ·have hmpos:0<m.length:=Q5.2 hm0
  rcases hR with hR | ⟨b2,off,cs2,rfl,hcs2,hcell⟩
  ·grind
  ·have hl2:cs2.length=m.length*info.size:=by rw[e.rdL_len hcs2,hsize]
   have hnews:∀ j u,cs2[j]?=some u->w.cell? ((⟨b2,off,none⟩:Addr).add j)=some u:=fun j u hu=>by grind [zCj]
   have hone:=e.rdL_one hcs2
   have hbytes:(l.length+m.length)*info.bytes≤140737488355328:=hbb info hi
   have h63:((l.length+m.length:Nat):Int)≤9223372036854775807:=by omega
   rcases hA with⟨rfl,rfl,rfl,rfl⟩ | ⟨b,o,cells,rfl,rfl,h3,h4,h5,h6⟩
   ·
    have hrun:=run_append_nil (P:=P) w t rty te info zv hu hi hz ⟨b2,off,none⟩ m.length k cs2 hl2 hnews hmpos (by omega) (by grind)
    have hge:=grownCap_ge w m.length 0 te
    have hcm:=grownCap_le_maxLen w m.length 0 te (by grind [maxLen])
    refine⟨[(w.heap.size,.cells (cs2.toArray++Builtin.zeroCells zv.cells (grownCap w m.length 0 te-m.length)) te (0,0))],_,_,_,by rw[QM];exact hrun,?_,?_,?_⟩
    ·exact hO.set hr (by simp) (fun k hk _=>Below.heap_alloc w.drew _ k hk) (fun x hx=>by simp only[Qa] at hx;subst hx;exact heap_alloc_new w.drew _) (by simp) (fun x hx=>by grind)
    ·exact zT.set hr rfl rfl rfl (by simp) (fun k hk _=>Below.heap_alloc w.drew _ k hk) (fun x hx=>by grind)
    ·have hE:zT qd Ls w (Ls.set i [(w.heap.size,.cells (cs2.toArray++Builtin.zeroCells zv.cells (grownCap w m.length 0 te-m.length)) te (0,0))]) (w.drew.alloc (.cells (cs2.toArray++Builtin.zeroCells zv.cells (grownCap w m.length 0 te-m.length)) te)) :=
      zT.set hr rfl rfl rfl (by simp) (fun k hk _=>Below.heap_alloc w.drew _ k hk) (fun x hx=>by grind)
     refine wG.mk0 w.heap.size _ rfl rfl (by grind) hcm ?_ ?_
     ·simp only[Wg,Q1,size_zeroCells,hzs,hl2,hsize,←QP]
      grind
     ·have:(cs2.toArray++Builtin.zeroCells zv.cells (grownCap w m.length 0 te-m.length)).toList.take (([]++m).length*e.n)=cs2:=by
       simp only[U1,QM]
       rw[←hsize,←hl2];simp
      rw[this]
      exact e.rdL_step (hE.step A) (by grind)
   ·have hb:=yP hO hr (Qa.2 rfl)
    have hlo:((cells.toList.drop o).take (l.length*e.n)).length=l.length*info.size:=by rw[e.rdL_len h6,hsize]
    by_cases hroom:l.length+m.length≤c
    ·
     have hfit0:l.length*info.size+cs2.length≤c*e.n:=by rw[hl2,←QP,hsize];exact QF _ hroom
     have hfit:o+l.length*info.size+cs2.length≤cells.size:=by omega
     have hfit1:o+l.length*info.size≤cells.toList.length:=by have:=UK (xs:=cells);omega
     have hrun:=zKN (P:=P) w t rty te info hu hi b o l.length c cells hb ⟨b2,off,none⟩ m.length k cs2 hl2 hnews hone hroom hfit
     have hk:∀(cs:Array Value) (k:Nat),k<w.heap.size->k∉[(b,Obj.cells cells te (0,0))].map Prod.fst->(w.setRow b cs).heap[k]?=w.heap[k]?:=fun cs k _ hk=>setRow_other w b k _ (fun e=>hk (by simp[e]))
     refine⟨[(b,.cells (cells.toList.take (o+l.length*info.size)++cs2++cells.toList.drop (o+l.length*info.size+cs2.length)).toArray te (0,0))],_,c,_,by rw[Qh];exact hrun,?_,?_,?_⟩
     ·exact hO.set hr (by simp) (hk _) (fun x hx=>by grind [setRow_heap]) (by simp) (fun x hx=>by grind)
     ·exact zT.set hr rfl rfl rfl (by simp) (hk _) (fun x hx=>by grind)
     ·have hE:zT qd Ls w (Ls.set i [(b,.cells (cells.toList.take (o+l.length*info.size)++cs2++cells.toList.drop (o+l.length*info.size+cs2.length)).toArray te (0,0))]) (w.setRow b (cells.toList.take (o+l.length*info.size)++cs2++cells.toList.drop (o+l.length*info.size+cs2.length)).toArray) :=
       zT.set hr rfl rfl rfl (by simp) (hk _) (fun x hx=>by grind)
      refine .inr ⟨b,o,_,rfl,rfl,by grind,h4,?_,?_⟩
      ·grind
      ·have hsz:(l++m).length*e.n=l.length*info.size+cs2.length:=by
        rw[Qh,hl2,hsize,QP]
       have:((cells.toList.take (o+l.length*info.size)++cs2++cells.toList.drop (o+l.length*info.size+cs2.length)).toArray.toList.drop o).take ((l++m).length*e.n)=(cells.toList.drop o).take (l.length*e.n)++cs2:=by
        rw[hsz,zOa _ _ _ _ hfit1,hsize]
       rw[this]
       exact e.rdL_append (e.rdL_step (hE.step A) h6) (e.rdL_step (hE.step A) hcs2)
    ·
     have holds:∀ j u,((cells.toList.drop o).take (l.length*e.n))[j]?=some u->w.cell? ((⟨b,o,none⟩:Addr).add j)=some u:=fun j u hu=>by
      grind [zCj,cell_of_row]
     have hrun:=run_append_grow (P:=P) w t rty te info zv hu hi hz ⟨b,o,none⟩ l.length c _ hlo holds ⟨b2,off,none⟩ m.length k cs2 hl2 hnews (by omega) h63 (growslice_fits (by omega) hbytes)
     have hge:=grownCap_ge w (l.length+m.length) c te
     have hcm:=grownCap_le_maxLen w (l.length+m.length) c te (by grind [maxLen])
     refine⟨[(w.heap.size,.cells (((cells.toList.drop o).take (l.length*e.n)).toArray++cs2.toArray++Builtin.zeroCells zv.cells (grownCap w (l.length+m.length) c te-(l.length+m.length))) te (0,0))],_,_,_,by rw[Qh];exact hrun,?_,?_,?_⟩
     ·exact hO.set hr (by simp) (fun k hk _=>Below.heap_alloc w.drew _ k hk) (fun x hx=>by simp only[Qa] at hx;subst hx;exact heap_alloc_new w.drew _) (by simp) (fun x hx=>by grind)
     ·exact zT.set hr rfl rfl rfl (by simp) (fun k hk _=>Below.heap_alloc w.drew _ k hk) (fun x hx=>by grind)
     ·have hE:zT qd Ls w (Ls.set i [(w.heap.size,.cells (((cells.toList.drop o).take (l.length*e.n)).toArray++cs2.toArray++Builtin.zeroCells zv.cells (grownCap w (l.length+m.length) c te-(l.length+m.length))) te (0,0))]) (w.drew.alloc (.cells (((cells.toList.drop o).take (l.length*e.n)).toArray++cs2.toArray++Builtin.zeroCells zv.cells (grownCap w (l.length+m.length) c te-(l.length+m.length))) te)) :=
       zT.set hr rfl rfl rfl (by simp) (fun k hk _=>Below.heap_alloc w.drew _ k hk) (fun x hx=>by grind)
      refine wG.mk0 w.heap.size _ rfl rfl (by grind) hcm ?_ ?_
      ·simp only[Wg,Q1,size_zeroCells,hzs,hlo,hl2,hsize,←QP]
       grind
      ·have hsz:(l++m).length*e.n=((cells.toList.drop o).take (l.length*e.n)++cs2).length:=by
        rw[Qh,Qh,hlo,hl2,hsize,QP]
       have:(((cells.toList.drop o).take (l.length*e.n)).toArray++cs2.toArray++Builtin.zeroCells zv.cells (grownCap w (l.length+m.length) c te-(l.length+m.length))).toList.take ((l++m).length*e.n)=(cells.toList.drop o).take (l.length*e.n)++cs2:=by
        rw[hsz];simp only[U1];exact U4
       rw[this]
       exact e.rdL_append (e.rdL_step (hE.step A) h6) (e.rdL_step (hE.step A) hcs2)
end
def z71 (P:Program)(te:TypeId): Bool:=match P.info? te with
 | some i=>Nat.ble i.bytes 64
 | none=>false
section
variable {P:Program}{n:Nat}{X:Hd qd}{ρ:Type}{Q:PQ ρ}{S:Sl}{Ls:List zG}{F:List PP}{m:Option ρ}{os:Array Oper}{x y:Operand}{p p':yO}
variable {d t:Nat}{ty:TypeId}{pos:String}{af:Array Edge}{g:Option (Nat×Bool)}{τ:Type}{e:E τ}{te:TypeId}{r:zG}{p0 q:Option Addr}{c k0 c2 k2:Nat}{z z2:List τ}
theorem jarW{f:List τ->Option ρ}(at0:At Ls p os ⟨some d,.call { callee:=.builtin .append,args:=[x,y].toArray,argTypes:=[t,t].toArray },ty,pos,af,g⟩ p')(i k:Nat)(hF:vW F k=Ar e te r p0 c k0 z)(g2:wO Ls F (R e q c2 k2 z2))(hx:zK S x=some (.slice p0 k0 c))(hy:zK S y=some (.slice q k2 c2))
  (h:∀ u r' p1 c',uE Ls i r' fun Ls'=>J P n X Q p' ((d,sv p1 u c')::S) Ls' (Al e te r' p1 c' u::F) (f u)) (hr:Ls[i]?=some r:=by rfl) (ht:yW P t te e.n=true:=by kernel_rfl) (hw:z71 P te=true:=by kernel_rfl) (hd:Nat.blt d n=true:=by kernel_rfl) (hg:zQ os S g=some true:=by kernel_rfl) :
  J P n X Q p S Ls F ((apw z z2).bind f) :=
 ⟨fun hq r0 hm a w hs=>by
  obtain⟨u,h1,h2⟩:=xQ hm
  have hsm:z.length+z2.length<2199023255552∧u=z++z2:=by grind [apw]
  have hA:(Ar e te r p0 c k0 z).h (bl Ls++X.A) w:=hF▸hs.g k
  obtain⟨hA,rfl⟩:=hA
  obtain⟨hR,rfl⟩:=g2 _ _ hs.o hs.f
  refine at0.run fun K hK=>?_
  obtain⟨r',p1,c',w',hrun,k1,k3,k4⟩:=zX0 (qd:=qd) (P:=P) (k:=c2) hs.o hr hA hR.src ht hsm.1 hsm.2 (fun info hi=>by
   unfold z71 at hw
   rw[hi] at hw
   have:=Nat.mul_le_mul (Nat.le_of_lt hsm.1) (Q3 hw)
   omega) ty
  refine uX hs.s hd hg (v:=.slice p1 u.length c') (w':=w') ?_ fun a' hS=>hK k3 ?_
  ·simp[execOp,resolve,invoke,builtin,hs.s.eval hx,hs.s.eval hy,hrun]
  ·have h:=h u r' p1 c'
   rw[zH7] at h
   exact h.go hq r0 h2 a' w' (hs.next k1 k3 hS [_] ⟨⟨k4,rfl⟩,trivial⟩)⟩
end
end Go.GD
