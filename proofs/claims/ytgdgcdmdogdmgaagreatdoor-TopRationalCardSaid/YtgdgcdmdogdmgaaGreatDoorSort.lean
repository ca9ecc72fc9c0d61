/- A part. Conditions: none. -/
import Derived.Test.YtgdgcdmdogdmgaaGreatDoorMore
import Derived.Test.YtgdgcdmdogdmgaaGreatDoorLib
import Derived.Shelf.SlSortCmp.NoneTotal
namespace Go.GD
open Go Go.RowKit Go.Shelf Go.Sort Go.Proofs
set_option autoImplicit false
variable {qd:Prop}
structure yM{τ:Type}(e:E τ) where
 enc:τ->List Value
 iff:∀ {Z w cs x},e.rd Z w cs x↔cs=enc x
def yM.int (k:IntKind): yM (zH k):=⟨fun x=>[.int k x],Iff.rfl⟩
def yM.bool:yM zYO:=⟨fun x=>[.bool x],Iff.rfl⟩
def yM.str:yM qX:=⟨fun x=>[vs x],Iff.rfl⟩
def yM.prod{α β:Type}{e:E α}{f:E β}(h:yM e)(k:yM f): yM (wJ e f) :=
 ⟨fun x=>h.enc x.1++k.enc x.2,fun {Z w cs x}=>⟨fun⟨c1,c2,h0,h1,h2⟩=>by rw[h0,h.iff.1 h1,k.iff.1 h2],fun h0=>⟨_,_,h0,h.iff.2 rfl,k.iff.2 rfl⟩⟩⟩
section
variable {τ:Type}{e:E τ}
theorem yM.len (F:yM e)(x:τ): (F.enc x).length=e.n:=e.len (Z:=[]) (w:=default) (F.iff.2 rfl)
theorem yM.one (F:yM e)(x:τ): ∀ v∈F.enc x,v.oneCell'=true:=e.one (Z:=[]) (w:=default) (F.iff.2 rfl)
theorem yM.rdL (F:yM e){Z:List Nat}{w:World}: ∀ {l:List τ} {cs:List Value},e.rdL Z w cs l↔cs=l.flatMap F.enc
 | [],cs=>by simp[E.rdL]
 | x::l,cs=>by
  simp only[E.rdL,UJ]
  constructor
  ·rintro ⟨c1,c2,rfl,h1,h2⟩
   rw[F.iff.1 h1,(yM.rdL F).1 h2]
  ·rintro rfl
   exact⟨_,_,rfl,F.iff.2 rfl,(yM.rdL F).2 rfl⟩
theorem yM.flat_get[Inhabited τ](F:yM e): ∀ {l:List τ} {t:Nat},t<l.length*e.n->(l.flatMap F.enc)[t]?=some ((F.enc (l.toArray[t / e.n]!))[t % e.n]!)
 | [],t,h=>by simp at h
 | x::l,t,h=>by
  have hl:=F.len x
  have hn:0<e.n:=by
   rcases Nat.eq_zero_or_pos e.n with h0 | h0
   ·rw[h0] at h;simp at h
   ·exact h0
  rw[UJ]
  by_cases ht:t<e.n
  ·rw[QY (by omega),Nat.div_eq_of_lt ht,U7 ht]
   rw[Qe (by omega)]
   simp[hl,ht]
  ·have ih:=yM.flat_get F (l:=l) (t:=t-e.n) (by rw[QI,QP,Nat.one_mul] at h;omega)
   rw[Uf (by omega),hl,ih]
   have h1:t / e.n=(t-e.n) / e.n+1:=by rw[Nat.div_eq,Qu ⟨hn,by omega⟩]
   have h2:t % e.n=(t-e.n) % e.n:=Nat.mod_eq_sub_mod (by omega)
   rw[h1,h2]
   simp
theorem yM.flatK[Inhabited τ](F:yM e)(l:List τ): (Go.Sort.flatK F.enc e.n l.toArray).toList=l.flatMap F.enc:=by
 apply QG
 intro t
 by_cases ht:t<l.length*e.n
 ·rw[F.flat_get ht]
  have hs:t<(Go.Sort.flatK F.enc e.n l.toArray).size:=by simpa using ht
  rw[Array.getElem?_toList,Array.getElem?_eq_getElem hs,←getElem!_pos _ t hs,get_flatK _ _ _ _ (by grind)]
 ·rw[UD (by simpa using ht),UD]
  have:(l.flatMap F.enc).length=l.length*e.n:=e.rdL_len (Z:=[]) (w:=default) (F.rdL.2 rfl)
  omega
theorem z9A{w w':World}(h:zT True [] w [] w'): ∃ q os,w'=grow (w.drewN q) os:=by
 refine⟨w'.drawn-w.drawn,w'.heap.extract w.heap.size w'.heap.size,?_⟩
 have hh:w'.heap=w.heap++w'.heap.extract w.heap.size w'.heap.size:=by
  apply Array.ext_getElem?
  intro k
  by_cases hk:k<w.heap.size
  ·rw[Array.getElem?_append_left hk,h.keep k hk (by simp[bl])]
  ·grind
 have hd:=h.drawn trivial
 have h1:=h.os;have h2:=h.tape;have h3:=h.output
 cases w' with
 | mk hp tp dr os out =>
  simp only at h1 h2 h3 hd hh
  simp only[grow,World.drewN]
  subst h1 h2 h3
  congr 1
  ·omega
end
theorem zTR (o:Nat)(D cells:Array Value)(h:o+D.size≤cells.size): ((putCells id o D cells).toList.drop o).take D.size=D.toList:=by
 apply QG
 grind [putCells]
theorem z0y{w:World}{b n o:Nat}{cells:Array Value}{te:TypeId}(hb:w.heap[b]?=some (.cells cells te (0,0)))(D:Array Value)(os:Array Obj):
  (grow (putRow id (Sort.ahead w n) b o D) os).heap[b]?=some (.cells (putCells id o D cells) te (0,0))∧∀ k,k<w.heap.size->k≠b->(grow (putRow id (Sort.ahead w n) b o D) os).heap[k]?=w.heap[k]?:=by
 have hlt:=(Qt.1 hb).1
 have key:∀ k,k<w.heap.size->(grow (putRow id (Sort.ahead w n) b o D) os).heap[k]?=(w.heap.modify b (onCells (putCells id o D)))[k]?:=fun k hk=>by
  show((w.heap.modify b (onCells (putCells id o D)))++os)[k]?=_
  grind
 refine⟨?_,fun k hk hne=>?_⟩
 ·rw[key b hlt,UT,Qu rfl,hb];rfl
 grind
theorem zSc{P:Program}{ρ:Ren}(L:SlLaysF0.n6 P ρ){τ:Type}[Inhabited τ]{e:E τ}(F:yM e){te:TypeId}
  (aE:∀ w,(isAgg (ρ.t 24)).run P w=.ok true w) (zE:∀ w,(Go.sizeOf (ρ.t 24)).run P w=.ok e.n w)
  (f:τ->τ->Option Int) (g:Nat) (eg:∀ args w,(callFunc g args).run P w=.ok (.enter g args) w)
  (hg:∀(w:World) (x y:τ) (n:Int),f x y=some n->Calls P g #[.agg (F.enc x).toArray,.agg (F.enc y).toArray] w (Ret fun v w'=>v=vi n∧zT True [] w [] w'))
  {A:List Nat} {w:World} {r:zG} {p:Option Addr} {c:Nat} {l z:List τ} (hO:zU A w [r]) (hA:wG e te (bl [r]++A) w r p c l) (hm:zZ7 f l=some z) :
  Calls P (ρ.f 6) #[.slice p l.length c,.func (.func g) #[] #[]] w (Ret fun v w'=>∃ r',v=.tuple #[]∧zU A w' [r']∧zT qd [r] w [r'] w'∧wG e te (bl [r']++A) w' r' p c z∧List.length z=List.length l):=by
 unfold zZ7 at hm
 split at hm
 case isFalse=>cases hm
 rename_i hc
 obtain⟨hf,hl⟩:=hc
 obtain rfl:=QC hm
 rcases hA with⟨rfl,rfl,rfl,rfl⟩ | ⟨b,o,cells,rfl,rfl,h3,h4,h5,h6⟩
 ·refine(AnyF.slices_SortFunc_none L none 0 _ w).mono ?_
  rintro e w' ⟨rfl,rfl⟩
  exact⟨[],rfl,hO,zT.refl _ _,by rw[List.mergeSort_nil];exact wG.nil,by simp⟩
 ·have hb:=yP hO (i:=0) rfl (Qa.2 rfl)
  have hblk:=(Qt.1 hb).1
  have hcs:=F.rdL.1 h6
  have hmul:o+l.length*e.n≤cells.size:=QD (U2 (QF _ h3) _) h5
  have hS:SWO (ltOf fun x y=>(f x y).getD 0):=⟨hf.irrefl,hf.trans,hf.ntrans⟩
  have hH:HoldsK F.enc e.n w b o l.toArray:=by
   intro j hj
   have hj':j<l.length*e.n:=by simpa using hj
   rw[cell_of_row w b (o+j) cells te (0,0) hb]
   refine⟨?_,by simp[World.frozen?,hb]⟩
   have h1:((cells.toList.drop o).take (l.length*e.n))[j]?=cells[o+j]?:=by rw[Ub,Qu hj',Wq];simp
   rw[←h1,hcs,F.flat_get hj',id,get_flatK _ _ _ _ (by grind)]
  have hC:CmpLays P g #[] F.enc e.n (fun x y=>(f x y).getD 0) b o l.toArray.size w:=by
   intro m os dk _ x y
   obtain⟨n,hn⟩:=hf.tot x y
   have:=hg (sortWorldK F.enc e.n w b o m dk os) x y n hn
   simp only[Array.append_empty]
   refine Calls.mono this ?_
   intro e w' he
   cases e with
   | returned v =>
    obtain⟨rfl,hE⟩:=he
    exact⟨by grind,z9A hE⟩
   | _=>exact he.elim
  refine(AnyQ.slices_SortFunc_total L e.n aE zE F.enc F.len F.one _ hS g #[] b o c l.toArray w eg hC hH hblk (by simp;omega) hf.eq).mono ?_
  rintro e' w' ⟨rfl,n,os,rfl⟩
  have hlen:(l.mergeSort fun x y=>!yN f y x).length=l.length:=List.length_mergeSort _
  have hsz:(Go.Sort.flatK F.enc e.n (l.mergeSort fun x y=>!yN f y x).toArray).size=l.length*e.n:=by simp
  obtain⟨k1,k2⟩:=z0y (n:=n) (o:=o) hb (Go.Sort.flatK F.enc e.n (l.mergeSort fun x y=>!yN f y x).toArray) os
  have hgrow:w.heap.size≤(grow (putRow id (Sort.ahead w n) b o (Go.Sort.flatK F.enc e.n (l.mergeSort fun x y=>!yN f y x).toArray)) os).heap.size:=by
   show w.heap.size≤((w.heap.modify b _)++os).size
   simp
  have hoth:∀ k,k<w.heap.size->k∉[(b,Obj.cells cells te (0,0))].map Prod.fst->(grow (putRow id (Sort.ahead w n) b o (Go.Sort.flatK F.enc e.n (l.mergeSort fun x y=>!yN f y x).toArray)) os).heap[k]?=w.heap[k]? :=
   fun k hk hn=>k2 k hk (fun e=>hn (by simp[e]))
  have hE:zT qd [[(b,Obj.cells cells te (0,0))]] w [[(b,Obj.cells (putCells id o (Go.Sort.flatK F.enc e.n (l.mergeSort fun x y=>!yN f y x).toArray) cells) te (0,0))]] (grow (putRow id (Sort.ahead w n) b o (Go.Sort.flatK F.enc e.n (l.mergeSort fun x y=>!yN f y x).toArray)) os) :=
   zT.set (i:=0) rfl rfl rfl rfl hgrow hoth (fun q hq=>.inl (by grind)) (fun _=>Nat.le_add_right _ _)
  refine⟨[(b,.cells (putCells id o (Go.Sort.flatK F.enc e.n (l.mergeSort fun x y=>!yN f y x).toArray) cells) te (0,0))],rfl,?_,hE,.inr ⟨b,o,_,rfl,rfl,by grind,h4,?_,?_⟩,hlen⟩
  ·exact hO.set (i:=0) rfl hgrow hoth (fun q hq=>by simp only[Qa] at hq;subst hq;exact k1) (by simp) (fun q hq=>.inl (by grind))
  ·simpa [putCells] using h5
  ·rw[hlen,←hsz,zTR _ _ _ (by grind),F.flatK]
   exact F.rdL.2 rfl
end Go.GD
