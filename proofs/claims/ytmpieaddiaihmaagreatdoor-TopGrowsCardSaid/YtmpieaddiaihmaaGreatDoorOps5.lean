/- A part. Conditions: none. -/
import Derived.Test.YtmpieaddiaihmaaGreatDoorOps4
import Derived.Lib.ConvBytes
import Derived.Laws.IdiomStrings
import Derived.Lib.FrozenHead
namespace Go.GD
open Go Go.RowKit
set_option autoImplicit false
set_option linter.unusedVariables false
variable {qd:Prop}
def ByR (te:TypeId)(r:zJ)(p:Option Addr)(m:Nat)(l:zG): Prop :=
 m=l.length∧∃ b cells,r=[(b,.cells cells te (cells.size,cells.size+1))]∧p=some ⟨b,0,none⟩∧l.length≤cells.size∧cells.toList.take l.length=Lib.strCells ⟨⟨l⟩⟩
def Byr (te:TypeId)(r:zJ)(p:Option Addr)(m:Nat)(l:zG): PP:=Pu (ByR te r p m l)
section
variable {P:Program}{n:Nat}{X:Hd qd}{ρ:Type}{Q:PQ ρ}{S:Sl}{Ls:List zJ}{F:List PP}{m:Option ρ}{os:Array Oper}{ol:List Oper}{x y:Operand}{p p':uH}
variable {d t t2 te:TypeId}{ty:TypeId}{pos:String}{af:Array Edge}{g:Option (Nat×Bool)}{l:zG}{r:zJ}{p0:Option Addr}{c k0:Nat}{kd:IntKind}{ix:Int}
theorem jby{u:TypeDesc}(at0:At Ls p os ⟨some d,.convert t t2 x,ty,pos,af,g⟩ p')(hx:zL S x=some (vs l))(hs:P.underlying t=some u)(ht:P.underlying t2=some (.slice te))(he:P.underlying te=some (.int .u8))
  (h:∀ r p1 c',tZ Ls r fun Ls'=>J P n X Q p' ((d,.slice p1 l.length c')::S) Ls' (Byr te r p1 l.length l::F) m)
  (hd:Nat.blt d n=true:=by kernel_rfl) (hg:zR os S g=some true:=by kernel_rfl):J P n X Q p S Ls F m :=
 ⟨fun hq r0 hm a w hS=>at0.run fun K hK=>by
  have hrun:=Lib.run_convert_string_bytes (P:=P) w t t2 te ⟨⟨l⟩⟩ hs ht he
  have hO:=hS.o
  have hnew:=Lib.bytesWorld_at_new w te ⟨⟨l⟩⟩
  have hsz:=Lib.bytesWorld_size w te ⟨⟨l⟩⟩
  have hold:=fun j hj=>Lib.bytesWorld_at_old w te ⟨⟨l⟩⟩ j hj
  have hE:zU qd Ls w (Ls++[[(w.heap.size,.cells (Lib.bytesCells w te ⟨⟨l⟩⟩) te ((Lib.bytesCells w te ⟨⟨l⟩⟩).size,(Lib.bytesCells w te ⟨⟨l⟩⟩).size+1))]]) (Lib.bytesWorld w te ⟨⟨l⟩⟩):=by
   refine⟨?_,?_,?_,fun _=>?_,by omega,fun k hk _=>hold k hk,fun b hb=>?_⟩
   ·unfold Lib.bytesWorld World.freeze;split <;> rfl
   ·unfold Lib.bytesWorld World.freeze;split <;> rfl
   ·unfold Lib.bytesWorld World.freeze;split <;> rfl
   ·unfold Lib.bytesWorld World.freeze;simp_all
   ·grind [zCi,bl]
  have hO':zZ X.A (Lib.bytesWorld w te ⟨⟨l⟩⟩) (Ls++[[(w.heap.size,.cells (Lib.bytesCells w te ⟨⟨l⟩⟩) te ((Lib.bytesCells w te ⟨⟨l⟩⟩).size,(Lib.bytesCells w te ⟨⟨l⟩⟩).size+1))]]):=by
   have hn:w.heap.size∉bl Ls:=fun hm=>UU _ (hO.lt hm)
   refine⟨fun b hb=>by have:=hO.old b hb;omega,fun r hr q hq=>?_,?_,fun b hb=>?_⟩
   ·rcases Qb.1 hr with h1 | h1
    ·rw[hold q.1 (Qq.1 (hO.has r h1 q hq)).1];exact hO.has r h1 q hq
    grind
   ·rw[zCi]
    refine QT.2 ⟨hO.nodup,by simp[bl],fun x hx y hy=>?_⟩
    grind [bl]
   ·rw[zCi] at hb
    rcases Qb.1 hb with h1 | h1
    ·exact hO.apart b h1
    ·simp[bl] at h1
     subst h1
     exact fun hA=>UU _ (hO.old _ hA)
  have hB:ByR te [(w.heap.size,.cells (Lib.bytesCells w te ⟨⟨l⟩⟩) te ((Lib.bytesCells w te ⟨⟨l⟩⟩).size,(Lib.bytesCells w te ⟨⟨l⟩⟩).size+1))] (some ⟨w.heap.size,0,none⟩) l.length l:=by
   refine⟨rfl,_,_,rfl,rfl,?_,?_⟩
   ·grind [Lib.bytesCells]
   ·grind [Lib.bytesCells,Lib.strCells]
  refine xS hS.s hd hg (v:=.slice (some ⟨w.heap.size,0,none⟩) l.length (grownCap w l.length 0 te)) (w':=Lib.bytesWorld w te ⟨⟨l⟩⟩) ?_ fun a' hS'=>hK hE ?_
  ·have:(⟨⟨l⟩⟩:ByteArray).size=l.length:=rfl
   rw[this] at hrun
   simp[execOp,hS.s.eval hx,hrun]
  ·have h:=h [(w.heap.size,.cells (Lib.bytesCells w te ⟨⟨l⟩⟩) te ((Lib.bytesCells w te ⟨⟨l⟩⟩).size,(Lib.bytesCells w te ⟨⟨l⟩⟩).size+1))] (some ⟨w.heap.size,0,none⟩) (grownCap w l.length 0 te)
   rw[zKb] at h
   exact h.go hq r0 hm a' _ (hS.next hO' hE hS' [_] ⟨hB,trivial⟩)⟩
theorem ByR.at_{A:List Nat}{w:World}{i:Nat}(h:ByR te r p0 k0 l)(hO:zZ A w Ls)(hr:Ls[i]?=some r): ∃ b cells,r=[(b,.cells cells te (cells.size,cells.size+1))]∧p0=some ⟨b,0,none⟩∧w.heap[b]?=some (.cells cells te (cells.size,cells.size+1)):=by
 obtain⟨_,b,cells,rfl,hp,_,_⟩:=h
 exact⟨b,cells,rfl,hp,xN hO hr (Qa.2 rfl)⟩
theorem jbys{f:zG->Option ρ}{b:Nat}{v:Int}(at0:At Ls p os ⟨none,.store t x y,ty,pos,af,g⟩ p')(i k:Nat)(hF:yE F k=Byr te r p0 k0 l)(hr:Ls[i]?=some r)(hp:p0=some ⟨b,0,none⟩)
  (hx:zL S x=some (pt b (0+ix.toNat*1))) (hy:zL S y=some (.int .u8 v))
  (h:∀ l' r',uT Ls i r' fun Ls'=>J P n X Q p' S Ls' (Byr te r' p0 k0 l'::F) (f l')) (ht:vC P t=some (false,1):=by kernel_rfl) (hg:zR os S g=some true:=by kernel_rfl):J P n X Q p S Ls F ((bset l ix v).bind f) :=
 ⟨fun hq r0 hm a w hs=>at0.run fun K hK=>by
  obtain⟨l',h1,h2⟩:=uS hm
  have hB0:(Byr te r p0 k0 l).h (bl Ls++X.A) w:=hF▸hs.g k
  have hB:ByR te r p0 k0 l:=hB0
  obtain⟨rfl,b',cells,rfl,hp',hle,htk⟩:=hB
  rw[hp] at hp'
  cases hp'
  subst hp
  unfold bset at h1
  split at h1
  case isFalse=>cases h1
  rename_i hc
  obtain⟨⟨c1,c2⟩,c3,c4⟩:=hc
  obtain rfl:=QH h1
  have hb:=xN hs.o hr (Qa.2 rfl)
  have hlt:ix.toNat<cells.size:=by omega
  have hcell:w.cell? ⟨b,ix.toNat,none⟩=some cells[ix.toNat]:=by simp[World.cell?,hb,hlt]
  have hfz:w.frozen? ⟨b,ix.toNat,none⟩=false:=by simp[World.frozen?,hb];omega
  have hst:(storeVar t ⟨b,ix.toNat,none⟩ (.int .u8 v)).run P w=.ok () (w.setCell ⟨b,ix.toNat,none⟩ (.int .u8 v)):=by
   obtain⟨k1,k2⟩:=zGb (w:=w) ht
   have:=run_storeCells_cells (P:=P) b ix.toNat [.int .u8 v] 0 w (by grind) (by grind) (by simp[Value.oneCell'])
   simp only[QM] at this
   simp[storeVar,k2,Value.cells,this,World.setCells]
  have hnew:(w.setCell ⟨b,ix.toNat,none⟩ (.int .u8 v)).heap[b]?=some (.cells (cells.setIfInBounds ix.toNat (.int .u8 v)) te (cells.size,cells.size+1)):=by
   simp[World.setCell,Array.getElem?_modify,hb]
  have hk:∀ k,k<w.heap.size->k∉[(b,Obj.cells cells te (cells.size,cells.size+1))].map Prod.fst->(w.setCell ⟨b,ix.toNat,none⟩ (.int .u8 v)).heap[k]?=w.heap[k]?:=fun k _ hk=>Below.heap_setCell _ _ _ _ (fun e=>hk (by simp[e]))
  have hsz:w.heap.size≤(w.setCell ⟨b,ix.toNat,none⟩ (.int .u8 v)).heap.size:=by simp[World.setCell]
  have hE:zU qd Ls w (Ls.set i [(b,.cells (cells.setIfInBounds ix.toNat (.int .u8 v)) te (cells.size,cells.size+1))]) (w.setCell ⟨b,ix.toNat,none⟩ (.int .u8 v)) :=
   zU.set hr rfl rfl rfl hsz hk (fun q hq=>.inl (by grind))
  have hO:zZ X.A (w.setCell ⟨b,ix.toNat,none⟩ (.int .u8 v)) (Ls.set i [(b,.cells (cells.setIfInBounds ix.toNat (.int .u8 v)) te (cells.size,cells.size+1))]) :=
   hs.o.set hr hsz hk (fun q hq=>by grind) (by simp) (fun q hq=>.inl (by grind))
  have hB':ByR te [(b,.cells (cells.setIfInBounds ix.toNat (.int .u8 v)) te (cells.size,cells.size+1))] (some ⟨b,0,none⟩) l.length (l.set ix.toNat (UInt8.ofNat v.toNat)):=by
   refine⟨by simp,b,_,by rw[Array.size_setIfInBounds],rfl,by grind,?_⟩
   have hv:((UInt8.ofNat v.toNat).toNat:Int)=v:=by simp;omega
   rw[UB,Array.toList_setIfInBounds,List.take_set,htk]
   unfold Lib.strCells
   simp only[List.map_set,hv]
  refine z3w hs.s hg (w':=w.setCell ⟨b,ix.toNat,none⟩ (.int .u8 v)) ?_ fun a' hS'=>hK hE ?_
  ·simp only[US,UG] at hx
   simp[execOp,hs.s.eval hx,hs.s.eval hy,Instr.storeAt,Instr.sureAddr,hst]
  ·have h:=h (l.set ix.toNat (UInt8.ofNat v.toNat)) [(b,.cells (cells.setIfInBounds ix.toNat (.int .u8 v)) te (cells.size,cells.size+1))]
   rw[zJL] at h
   exact h.go hq r0 h2 a' _ (hs.next hO hE hS' [_] ⟨hB',trivial⟩)⟩
theorem jbyS{i:Nat}(at0:At Ls p os ⟨some d,.convert t t2 x,ty,pos,af,g⟩ p')(k:Nat)(hF:yE F k=Byr te r p0 k0 l)(hr:Ls[i]?=some r)(hx:zL S x=some (.slice p0 k0 c))(hs:P.underlying t=some (.slice te))(he:P.underlying te=some (.int .u8))(ht:P.underlying t2=some .string)
  (h:J P n X Q p' ((d,vs l)::S) Ls F m) (hd:Nat.blt d n=true:=by kernel_rfl) (hg:zR os S g=some true:=by kernel_rfl):J P n X Q p S Ls F m :=
 ⟨fun hq r0 hm a w hS=>at0.run fun K hK=>by
  have hB0:(Byr te r p0 k0 l).h (bl Ls++X.A) w:=hF▸hS.g k
  have hB:ByR te r p0 k0 l:=hB0
  obtain⟨rfl,b,cells,rfl,rfl,hle,htk⟩:=hB
  have hb:=xN hS.o hr (Qa.2 rfl)
  have hrun:=run_convert_bytes_back (P:=P) w t t2 te ⟨b,0,none⟩ c l hs he ht (fun j hj=>by
   rw[tV,cell_of_row w b (0+j) cells te _ hb,US]
   have h1:(cells.toList.take l.length)[j]?=some (.int .u8 l[j].toNat):=by rw[htk];simp[Lib.strCells,hj]
   grind)
  exact xS hS.s hd hg (v:=vs l) (w':=w) (by simp[execOp,hS.s.eval hx,hrun,vs]) fun a' hS'=>hK (zU.refl _ _) (h.go hq r0 hm a' w (hS.slot hS'))⟩
end
end Go.GD
