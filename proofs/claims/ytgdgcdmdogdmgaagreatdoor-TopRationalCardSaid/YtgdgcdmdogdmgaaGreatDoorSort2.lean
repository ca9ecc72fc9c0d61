/- A part. Conditions: none. -/
import Derived.Test.YtgdgcdmdogdmgaaGreatDoorSort
import Derived.Test.YtgdgcdmdogdmgaaGreatDoorBun
import Derived.Shelf.SortM.Plain
import Derived.Shelf.SortM.SortNone
namespace Go.GD
open Go Go.RowKit Go.Shelf Go.Sort Go.Proofs
set_option autoImplicit false
variable {qd:Prop}
theorem z0u{τ:Type}[Inhabited τ]{o:Nat}(enc:τ->Value)(d:Array τ)(cells:Array Value): putCells enc o d cells=putCells id o (d.map enc) cells:=by grind [putCells]
theorem z8v{P:Program}{f:Nat}{τ:Type}[Inhabited τ]{e:E τ}(enc:τ->Value)(hn:e.n=1)(F:∀ {Z w cs x},e.rd Z w cs x↔cs=[enc x])(le:τ->τ->Bool)
  (hnone:∀ p cap w,Calls P f #[.slice p 0 cap] w fun e w'=>e=.returned (.tuple #[])∧w'=w)
  (hsome:∀ blk off cap (zs:List τ) w,Holds enc w blk off zs.toArray->blk<w.heap.size->zs.length<4611686018427387904->Calls P f #[.slice (some ⟨blk,off,none⟩) zs.length cap] w fun e w' =>
   e=.returned (.tuple #[])∧∃ n os,w'=grow (putRow enc (Sort.ahead w n) blk off (zs.mergeSort le).toArray) os)
  {te:TypeId} {A:List Nat} {w:World} {r:zG} {p:Option Addr} {c:Nat} {l z:List τ} (hO:zU A w [r]) (hA:wG e te (bl [r]++A) w r p c l) (hm:(if l.length<4294967296 then some (l.mergeSort le) else none)=some z) :
  Calls P f #[.slice p l.length c] w (Ret fun v w'=>∃ r',v=.tuple #[]∧zU A w' [r']∧zT qd [r] w [r'] w'∧wG e te (bl [r']++A) w' r' p c z∧List.length z=List.length l):=by
 split at hm
 case isFalse=>cases hm
 rename_i hl
 obtain rfl:=QC hm
 have G:yM e:=⟨fun x=>[enc x],F⟩
 have hG:∀ {Z:List Nat} {w:World} {l:List τ} {cs:List Value},e.rdL Z w cs l↔cs=l.map enc:=by
  intro Z w l
  induction l with
  | nil=>intro cs;simp[E.rdL]
  | cons x l ih =>
   intro cs
   simp only[E.rdL,Ua]
   simp_all
 rcases hA with⟨rfl,rfl,rfl,rfl⟩ | ⟨b,o,cells,rfl,rfl,h3,h4,h5,h6⟩
 ·refine(hnone none 0 w).mono ?_
  rintro e w' ⟨rfl,rfl⟩
  exact⟨[],rfl,hO,zT.refl _ _,by rw[List.mergeSort_nil];exact wG.nil,by simp⟩
 ·have hb:=yP hO (i:=0) rfl (Qa.2 rfl)
  have hblk:=(Qt.1 hb).1
  have hcs:=hG.1 h6
  rw[hn,UN] at h5 hcs
  have hH:Holds enc w b o l.toArray:=by
   intro j hj
   have hj':j<l.length:=by simpa using hj
   rw[cell_of_row w b (o+j) cells te (0,0) hb]
   refine⟨?_,by simp[World.frozen?,hb]⟩
   have h1:((cells.toList.drop o).take l.length)[j]?=cells[o+j]?:=by rw[Ub,Qu hj',Wq];simp
   rw[←h1,hcs,Q2,Qe hj',getElem!_pos l.toArray j hj]
   simp
  refine(hsome b o c l w hH hblk (by omega)).mono ?_
  rintro e' w' ⟨rfl,n,os,rfl⟩
  have hlen:(l.mergeSort le).length=l.length:=List.length_mergeSort _
  have hrow:∀ W:World,putRow enc W b o (l.mergeSort le).toArray=putRow id W b o ((l.mergeSort le).toArray.map enc):=fun W=>by
   show mapBlock W b _=mapBlock W b _
   congr 1
   grind [z0u]
  rw[hrow]
  generalize hD:(l.mergeSort le).toArray.map enc=D
  have hDs:D.size=l.length:=by rw[←hD];simp
  obtain⟨k1,k2⟩:=z0y (n:=n) (o:=o) hb D os
  have hgrow:w.heap.size≤(grow (putRow id (Sort.ahead w n) b o D) os).heap.size:=by
   show w.heap.size≤((w.heap.modify b _)++os).size
   simp
  have hoth:∀ k,k<w.heap.size->k∉[(b,Obj.cells cells te (0,0))].map Prod.fst->(grow (putRow id (Sort.ahead w n) b o D) os).heap[k]?=w.heap[k]?:=fun k hk hn=>k2 k hk (fun e=>hn (by simp[e]))
  have hE:zT qd [[(b,Obj.cells cells te (0,0))]] w [[(b,Obj.cells (putCells id o D cells) te (0,0))]] (grow (putRow id (Sort.ahead w n) b o D) os) :=
   zT.set (i:=0) rfl rfl rfl rfl hgrow hoth (fun q hq=>.inl (by grind)) (fun _=>Nat.le_add_right _ _)
  refine⟨[(b,.cells (putCells id o D cells) te (0,0))],rfl,?_,hE,.inr ⟨b,o,_,rfl,rfl,by grind,h4,?_,?_⟩,hlen⟩
  ·exact hO.set (i:=0) rfl hgrow hoth (fun q hq=>by grind) (by simp) (fun q hq=>.inl (by grind))
  ·grind [putCells]
  ·rw[hlen,hn,UN,←hDs,zTR _ _ _ (by grind),←hD]
   grind
theorem z9W{P:Program}{ρ:Ren}(L:SlLaysM.n5 P ρ){te:TypeId}{A:List Nat}{w:World}{r:zG}{p:Option Addr}{c:Nat}{l z:List Int}(hO:zU A w [r])(hA:wG (zH .i64) te (bl [r]++A) w r p c l)(hm:z8z l=some z):
  Calls P (ρ.f 5) #[.slice p l.length c] w (Ret fun v w'=>∃ r',v=.tuple #[]∧zU A w' [r']∧zT qd [r] w [r'] w'∧wG (zH .i64) te (bl [r']++A) w' r' p c z∧List.length z=List.length l) :=
 z8v (Value.int .i64) rfl Iff.rfl _ (AnyM.slices_Sort_int_none L) (fun blk off cap zs w h1 h2 h3=>AnyM.slices_Sort_int L blk off cap zs w h1 h2 h3) hO hA hm
end Go.GD
