/- A part. Conditions: none. -/
import Derived.Test.YtgdgcdmdogdmgaaGreatDoorJ5
namespace Go.GD
open Go Go.RowKit
set_option autoImplicit false
variable {qd:Prop}
set_option linter.unusedVariables false
section
variable {P:Program}{ops:Array Oper}{Q:Exit->Act->World->Prop}{K:Act->World->Prop}
variable {A:List Nat}{L0 Ls:List zG}{w0 w:World}{n:Nat}{S:List (Nat×Value)}{F:List PP}{a:Act}{Z:List Nat}
variable {d:Nat}{ty:TypeId}{pos:String}{af:Array Edge}{g:Option (Nat×Bool)}
variable {τ:Type}{e:E τ}{te:TypeId}{r:zG}{p q:Option Addr}{c:Nat}{l z:List τ}{t:TypeId}{x y:Operand}{i j:Int}{k1 k2:IntKind}
theorem mkS_lt{α:Type}{n c:Int}{z:α}{l:List α}(h:mkS n c z=some l): 0≤n∧n≤c∧c≤4294967296∧l=List.replicate n.toNat z:=by grind [mkS]
theorem b_make{zd:τ}{zv:Value}(h:SS qd A L0 w0 n S Ls F a w)(hz:tX P te=some zv)(hzr:e.rd (bl Ls++A) w zv.cells.toList zd)(hx:zK S x=some (.int k1 i))(hy:zK S y=some (.int k2 j))(hm:mkS i j zd=some l)
  (k:∀ r p c a' w',SS qd A L0 w0 n ((d,.slice p (List.length l) c)::S) (Ls++[r]) (Ar e te r p c (List.length l) l::F) a' w'->zT qd Ls w (Ls++[r]) w'->K a' w')
  (ht:yW P t te e.n=true:=by kernel_rfl) (hd:Nat.blt d n=true:=by kernel_rfl) (hg:zQ ops S g=some true:=by kernel_rfl):wH P ops Q ⟨some d,.makeSlice t x y,ty,pos,af,g⟩ K a w:=by
 obtain⟨h0,hij,hj,rfl⟩:=mkS_lt hm
 obtain⟨hu,info,zv',hi,hz',hsize,hby,hpos,hzs⟩:=zLR ht
 have hzz:zv'=zv:=by simp[tX,hi,hz'] at hz;exact hz
 subst hzz
 have hjn:j=(j.toNat:Int):=by omega
 have hbytes:(info.bytes:Int)*j≤281474976710656:=by
  have h1:info.bytes*j.toNat≤32768*4294967296:=Nat.mul_le_mul hby (by omega)
  rw[hjn]
  have h2:((info.bytes*j.toNat:Nat):Int)≤281474976710656:=by omega
  rwa [Int.natCast_mul] at h2
 have hrun:=run_make (P:=P) w t te info zv' hu hi hz' k1 k2 i j h0 hij hbytes (by omega)
 have hcs:(madeCells zv'.cells (j.toNat*info.size)).toList=(List.replicate j.toNat zv'.cells.toList).flatten:=by
  rw[←zKs,hsize,←hzs];rfl
 have hE:=zT.alloc (qd:=qd) (w:=w) (w':=w.alloc (.cells (madeCells zv'.cells (j.toNat*info.size)) te)) Ls (.cells (madeCells zv'.cells (j.toNat*info.size)) te) rfl rfl rfl rfl
 have hrd:=e.rdL_take i.toNat (E.rdL_replicate hzr j.toNat)
 rw[←hcs,List.take_replicate,Uc (by omega)] at hrd
 refine uX h.s hd hg (v:=.slice (some ⟨w.heap.size,0,none⟩) (List.replicate i.toNat zd).length j.toNat) (w':=w.alloc (.cells (madeCells zv'.cells (j.toNat*info.size)) te)) ?_ fun a hS=>?_
 ·simp[execOp,h.s.eval hx,h.s.eval hy,hrun]
 ·refine k _ _ _ a _ (h.next (h.o.alloc _ rfl) hE hS [Ar e te _ _ _ _ _] ⟨⟨wG.mk0 w.heap.size _ rfl rfl (by grind) (by grind [maxLen]) (by rw[size_madeCells,hsize]) ?_,rfl⟩,trivial⟩) hE
  rw[List.length_replicate]
  exact e.rdL_step (hE.step A) hrd
end
section
variable {P:Program}{n:Nat}{X:Hd qd}{ρ σ:Type}{Q:PQ ρ}{S:Sl}{Ls:List zG}{F:List PP}{m m1 m2:Option ρ}{os:Array Oper}{l:List Oper}{x y:Operand}{p p':yO}
variable {d t:Nat}{ty ty2:TypeId}{pos pos2:String}{af af2:Array Edge}{g g2:Option (Nat×Bool)}{k1 k2:IntKind}{i j:Int}
variable {τ:Type}{e:E τ}{te:TypeId}
theorem jmk{f:List τ->Option ρ}(at0:At Ls p os ⟨some d,.makeSlice t x y,ty,pos,af,g⟩ p')(te:TypeId)(zd:τ)(zv:Value)(hzr:RV e Ls F zv.cells.toList zd)(hx:zK S x=some (.int k1 i))(hy:zK S y=some (.int k2 j))
  (h:∀ z r' p1 c',zM5 Ls r' fun Ls'=>J P n X Q p' ((d,sv p1 z c')::S) Ls' (Al e te r' p1 c' z::F) (f z)) (hz:tX P te=some zv:=by kernel_rfl) (ht:yW P t te e.n=true:=by kernel_rfl)
  (hd:Nat.blt d n=true:=by kernel_rfl) (hg:zQ os S g=some true:=by kernel_rfl):J P n X Q p S Ls F ((mkS i j zd).bind f) :=
 ⟨fun hq r0 hm a w hs=>by
  obtain⟨z,h1,h2⟩:=xQ hm
  exact at0.run fun K hK=>b_make hs hz (hzr _ _ hs.o hs.f) hx hy h1 (fun r' p1 c' a w' h' e=>hK e (by
   have h:=h z r' p1 c'
   rw[zJS] at h
   exact h.go hq r0 h2 a w' h')) ht hd hg⟩
end
theorem jcm{P:Program}{n:Nat}{X:Hd qd}{ρ α β:Type}{Q:PQ ρ}{p:yO}{S:Sl}{Ls:List zG}{F:List PP}{ma:Option α}{mb:Option β}{f:α->β->Option ρ}(h:J P n X Q p S Ls F (mb.bind fun y=>ma.bind fun x=>f x y)): J P n X Q p S Ls F (ma.bind fun x=>mb.bind fun y=>f x y):=by
 have e:(ma.bind fun x=>mb.bind fun y=>f x y)=(mb.bind fun y=>ma.bind fun x=>f x y):=by cases ma <;> cases mb <;> rfl
 grind
end Go.GD
