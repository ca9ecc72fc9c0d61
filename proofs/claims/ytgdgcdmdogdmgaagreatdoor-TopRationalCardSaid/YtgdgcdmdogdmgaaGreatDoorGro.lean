/- A part. Conditions: none. -/
import Derived.Test.YtgdgcdmdogdmgaaGreatDoorMake
namespace Go.GD
open Go Go.RowKit
set_option autoImplicit false
variable {qd:Prop}
set_option linter.unusedVariables false
section
variable {P:Program}{n:Nat}{X:Hd qd}{ρ:Type}{Q:PQ ρ}{S:Sl}{Ls:List zG}{F:List PP}{m:Option ρ}{os:Array Oper}{ol:List Oper}{x y:Operand}{p p':yO}{a:Act}
variable {d t t2:Nat}{ty:TypeId}{pos:String}{af:Array Edge}{g:Option (Nat×Bool)}{kd:IntKind}{j:Int}
variable {τ:Type}{e:E τ}{te:TypeId}{r:zG}
theorem r_cap{s:Option Addr}{k c:Nat}{e':TypeId}{d:Option Tmp}(hS:zY a n S)(hx:zK S x=some (.slice s k c))(hu:P.underlying t=some (.slice e'))(w:World):
  (execOp a.eval ⟨d,.call { callee:=.builtin .cap,args:=[x].toArray,argTypes:=[t].toArray },ty,pos,af,g⟩).run P w=.ok (.value (vi (c:Int))) w:=by
 simp[execOp,resolve,invoke,builtin,hS.eval hx,Builtin.cap_,run_underlying hu,goInt]
theorem r_slnil{d:Option Tmp}(hS:zY a n S)(hx:zK S x=some (.slice none 0 0)){x2:Operand}(hy:zK S x2=some (.int kd 0))(ht:wY P t=some e.n)(w:World):
  (execOp a.eval ⟨d,.slice t x none (some x2) none,ty,pos,af,g⟩).run P w=.ok (.value (.slice none 0 0)) w:=by
 unfold wY at ht
 split at ht
 ·rename_i te hu
  cases hq:P.info? te with
  | none=>grind
  | some info =>
   have hb:=zJd (P:=P) (w:=w) (b:=true) (m:=0) (c:=0) (i:=0) (j:=0) (lo:=none) (hi:=some (.int kd 0)) (.inl ⟨rfl,rfl⟩) (.inr ⟨_,rfl⟩) (by omega) (by omega) (by simp)
   have e1:uR S (some x2)=some (some (.int kd 0)):=by simp[uR,hy]
   simp[execOp,hS.eval hx,hS.evalO e1,Instr.sliceAt,Instr.slice,run_underlying hu,hb,sizeOf,typeInfo,hq]
 ·cases ht
theorem zVi{w:World}{info:TypeInfo}{zv:Value}(hu:P.underlying t=some (.slice te))(hi:P.info? te=some info)(hz:info.zero=some zv)(h2:P.underlying t2=some (.int .i64))(hby:info.bytes≤32768)(hs:0<info.size)(h0:0<j)(hj:j≤4294967296):
  (Builtin.append_ #[t,t2] ty #[.slice none 0 0,.int .i64 j]).run P w =
   .ok (.slice (some ⟨w.heap.size,0,none⟩) j.toNat (grownCap w j.toNat 0 te)) (w.drew.alloc (.cells (Builtin.zeroCells zv.cells j.toNat++Builtin.zeroCells zv.cells (grownCap w j.toNat 0 te-j.toNat)) te)):=by
 obtain⟨k,rfl⟩:=Qw (show 0≤j by omega)
 have hk:0<k:=by omega
 have hwr:IntKind.i64.wrap (k:Int)=(k:Int):=by simp only[IntKind.wrap,IntKind.signed,IntKind.bits,Ux];(grind)
 have hmul:info.bytes*k≤32768*4294967296:=Nat.mul_le_mul hby (by omega)
 have hb:¬ (281474976710656:Int)<(k:Int)*(info.bytes:Int):=by
  rw[←Int.natCast_mul,Nat.mul_comm];omega
 have h48':¬ (281474976710656<Builtin.nextslicecap k 0*info.bytes):=by rw[nextslicecap_zero hk,Nat.mul_comm];omega
 have hkn:¬ k=0:=by omega
 have hsz:¬ info.size=0:=by omega
 have h63':¬ (9223372036854775807<(k:Int)):=by omega
 have hneg:¬ ((k:Int)<0):=by omega
 have hks:¬ (k*info.size=0):=Nat.mul_ne_zero hkn hsz
 simp[Builtin.append_,run_underlying hu,run_underlying h2,sizeOf,typeInfo,zeroValue,hi,hz,hwr,hb,h48',hkn,hks,h63',hneg,Question.forced,newRow,grownCap,Builtin.firstCells,asInt,asIntOf]
theorem jaz{f:List τ->Option ρ}(at0:At Ls p os ⟨some d,.call { callee:=.builtin .append,args:=[x,y].toArray,argTypes:=[t,t2].toArray },ty,pos,af,g⟩ p')(i k:Nat)(te:TypeId)(zd:τ)(zv:Value)(hF:vW F k=Ar e te r none 0 0 [])(hzr:RV e Ls F zv.cells.toList zd)
  (hx:zK S x=some (.slice none 0 0)) (hy:zK S y=some (.int .i64 j))
  (h:∀ z r' p1 c',uE Ls i r' fun Ls'=>J P n X Q p' ((d,sv p1 z c')::S) Ls' (Al e te r' p1 c' z::F) (f z)) (hr:Ls[i]?=some r:=by rfl) (hz:tX P te=some zv:=by kernel_rfl) (ht:yW P t te e.n=true:=by kernel_rfl)
  (h2:P.underlying t2=some (.int .i64)) (hd:Nat.blt d n=true:=by kernel_rfl) (hg:zQ os S g=some true:=by kernel_rfl):J P n X Q p S Ls F ((mkS j j zd).bind f) :=
 ⟨fun hq r0 hm a w hs=>by
  obtain⟨z,h1,h3⟩:=xQ hm
  obtain⟨h0,_,hj,rfl⟩:=mkS_lt h1
  have hfact:(Ar e te r none 0 0 ([]:List τ)).h (bl Ls++X.A) w:=hF▸hs.g k
  have hre:r=[]:=by
   rcases hfact.1 with⟨hh,_⟩ | ⟨b,o,cells,_,hh,_⟩
   ·exact hh
   ·cases hh
  subst hre
  obtain⟨hu,info,zv',hi,hz',hsize,hby,hpos,hzs⟩:=zLR ht
  have hzz:zv'=zv:=by simp[tX,hi,hz'] at hz;exact hz
  subst hzz
  refine at0.run fun K hK=>?_
  by_cases hj0:j=0
  ·subst hj0
   have hrun:(Builtin.append_ #[t,t2] ty #[.slice none 0 0,.int .i64 0]).run P w=.ok (.slice none 0 0) w:=by
    have hwr:IntKind.i64.wrap (0:Int)=0:=rfl
    simp[Builtin.append_,run_underlying hu,run_underlying h2,sizeOf,typeInfo,hi,hwr,asInt,asIntOf]
   refine uX hs.s hd hg (v:=.slice none 0 0) (w':=w) (by simp[execOp,resolve,invoke,builtin,hs.s.eval hx,hs.s.eval hy,hrun]) fun a hS=>?_
   have hself:Ls.set i []=Ls:=by
    apply QG;intro q
    by_cases hq:i=q
    ·grind
    ·grind
   have h:=h [] [] none 0
   rw[zH7,hself] at h
   refine hK (zT.refl _ _) (h.go hq r0 h3 a w ?_)
   exact(hs.slot hS).add ⟨wG.nil,rfl⟩
  ·have hjp:0<j:=by omega
   have hrun:=zVi (ty:=ty) (w:=w) hu hi hz' h2 hby (by omega) hjp hj
   have hge:=grownCap_ge w j.toNat 0 te
   have hcm:=grownCap_le_maxLen w j.toNat 0 te (by grind [maxLen])
   have hE:zT qd Ls w (Ls.set i [(w.heap.size,.cells (Builtin.zeroCells zv'.cells j.toNat++Builtin.zeroCells zv'.cells (grownCap w j.toNat 0 te-j.toNat)) te (0,0))]) (w.drew.alloc (.cells (Builtin.zeroCells zv'.cells j.toNat++Builtin.zeroCells zv'.cells (grownCap w j.toNat 0 te-j.toNat)) te)) :=
    zT.set hr rfl rfl rfl (by simp) (fun k hk _=>Below.heap_alloc w.drew _ k hk) (fun x hx=>by grind)
   refine uX hs.s hd hg (v:=.slice (some ⟨w.heap.size,0,none⟩) j.toNat (grownCap w j.toNat 0 te)) (w':=w.drew.alloc (.cells (Builtin.zeroCells zv'.cells j.toNat++Builtin.zeroCells zv'.cells (grownCap w j.toNat 0 te-j.toNat)) te)) (by simp[execOp,resolve,invoke,builtin,hs.s.eval hx,hs.s.eval hy,hrun]) fun a hS=>?_
   have h:=h (List.replicate j.toNat zd) [(w.heap.size,.cells (Builtin.zeroCells zv'.cells j.toNat++Builtin.zeroCells zv'.cells (grownCap w j.toNat 0 te-j.toNat)) te (0,0))] (some ⟨w.heap.size,0,none⟩) (grownCap w j.toNat 0 te)
   rw[zH7] at h
   have hO:=hs.o.set hr (w':=w.drew.alloc (.cells (Builtin.zeroCells zv'.cells j.toNat++Builtin.zeroCells zv'.cells (grownCap w j.toNat 0 te-j.toNat)) te)) (r':=[(w.heap.size,.cells (Builtin.zeroCells zv'.cells j.toNat++Builtin.zeroCells zv'.cells (grownCap w j.toNat 0 te-j.toNat)) te (0,0))]) (by simp) (fun k hk _=>Below.heap_alloc w.drew _ k hk) (fun x hx=>by simp only[Qa] at hx;subst hx;exact heap_alloc_new w.drew _) (by simp) (fun x hx=>by grind)
   have hlen:(List.replicate j.toNat zd).length=j.toNat:=List.length_replicate
   refine hK hE (h.go hq r0 h3 a _ (hs.next hO hE (by grind) [Ar e te _ _ _ _ _] ⟨⟨wG.mk0 w.heap.size _ rfl rfl (by grind) hcm ?_ ?_,rfl⟩,trivial⟩))
   ·simp only[Wg,size_zeroCells,hzs,←QP]
    grind
   ·have hrd:=E.rdL_replicate (hzr _ _ hs.o hs.f) j.toNat
    rw[←zKs] at hrd
    have hl2:(Builtin.zeroCells zv'.cells j.toNat).toList.length=(List.replicate j.toNat zd).length*e.n:=by rw[hlen,UK,size_zeroCells,hzs]
    rw[U1,←hl2,U4]
    exact e.rdL_step (hE.step X.A) hrd⟩
end
end Go.GD
