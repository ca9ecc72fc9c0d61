/- A part. Conditions: none. -/
import Derived.Test.YtmpieaddiaihmaaGreatDoorJ5
namespace Go.GD
open Go Go.RowKit
set_option autoImplicit false
variable {qd:Prop}
set_option linter.unusedVariables false
section
variable {P:Program}{ops:Array Oper}{Q:Exit->Act->World->Prop}{K:Act->World->Prop}
variable {A:List Nat}{L0 Ls:List zJ}{w0 w:World}{n:Nat}{S:List (Nat×Value)}{F:List PP}{a:Act}{Z:List Nat}
variable {d:Nat}{ty:TypeId}{pos:String}{af:Array Edge}{g:Option (Nat×Bool)}
variable {τ:Type}{e:E τ}{te:TypeId}{r:zJ}{p q:Option Addr}{c:Nat}{l z:List τ}{t:TypeId}{x y:Operand}{i j:Int}{k1 k2:IntKind}
theorem mkS_lt{α:Type}{n c:Int}{z:α}{l:List α}(h:mkS n c z=some l): 0≤n∧n≤c∧c≤4294967296∧l=List.replicate n.toNat z:=by grind [mkS]
theorem b_make{zd:τ}{zv:Value}(h:SS qd A L0 w0 n S Ls F a w)(hz:tL P te=some zv)(hzr:e.rd (bl Ls++A) w zv.cells.toList zd)(hx:zL S x=some (.int k1 i))(hy:zL S y=some (.int k2 j))(hm:mkS i j zd=some l)
  (k:∀ r p c a' w',SS qd A L0 w0 n ((d,.slice p (List.length l) c)::S) (Ls++[r]) (Ar e te r p c (List.length l) l::F) a' w'->zU qd Ls w (Ls++[r]) w'->K a' w')
  (ht:yS P t te e.n=true:=by kernel_rfl) (hd:Nat.blt d n=true:=by kernel_rfl) (hg:zR ops S g=some true:=by kernel_rfl):wU P ops Q ⟨some d,.makeSlice t x y,ty,pos,af,g⟩ K a w:=by
 obtain⟨h0,hij,hj,rfl⟩:=mkS_lt hm
 obtain⟨hu,info,zv',hi,hz',hsize,hby,hpos,hzs⟩:=zJT ht
 have hzz:zv'=zv:=by simp[tL,hi,hz'] at hz;exact hz
 subst hzz
 have hjn:j=(j.toNat:Int):=by omega
 have hbytes:(info.bytes:Int)*j≤281474976710656:=by
  have h1:info.bytes*j.toNat≤32768*4294967296:=U0 hby (by omega)
  rw[hjn]
  have h2:((info.bytes*j.toNat:Nat):Int)≤281474976710656:=by omega
  rwa [Int.natCast_mul] at h2
 have hrun:=run_make (P:=P) w t te info zv' hu hi hz' k1 k2 i j h0 hij hbytes (by omega)
 have hcs:(madeCells zv'.cells (j.toNat*info.size)).toList=(List.replicate j.toNat zv'.cells.toList).flatten:=by
  rw[←zJZ,hsize,←hzs];rfl
 have hE:=zU.alloc (qd:=qd) (w:=w) (w':=w.alloc (.cells (madeCells zv'.cells (j.toNat*info.size)) te)) Ls (.cells (madeCells zv'.cells (j.toNat*info.size)) te) rfl rfl rfl rfl
 have hrd:=e.rdL_take i.toNat (E.rdL_replicate hzr j.toNat)
 rw[←hcs,List.take_replicate,QP (by omega)] at hrd
 refine xS h.s hd hg (v:=.slice (some ⟨w.heap.size,0,none⟩) (List.replicate i.toNat zd).length j.toNat) (w':=w.alloc (.cells (madeCells zv'.cells (j.toNat*info.size)) te)) ?_ fun a hS=>?_
 ·simp[execOp,h.s.eval hx,h.s.eval hy,hrun]
 ·refine k _ _ _ a _ (h.next (h.o.alloc _ rfl) hE hS [Ar e te _ _ _ _ _] ⟨⟨wJ.mk0 w.heap.size _ rfl rfl (by grind) (by grind [maxLen]) (by rw[size_madeCells,hsize]) ?_,rfl⟩,trivial⟩) hE
  rw[U7]
  exact e.rdL_step (hE.step A) hrd
end
section
variable {P:Program}{n:Nat}{X:Hd qd}{ρ σ:Type}{Q:PQ ρ}{S:Sl}{Ls:List zJ}{F:List PP}{m m1 m2:Option ρ}{os:Array Oper}{l:List Oper}{x y:Operand}{p p':uH}
variable {d t:Nat}{ty ty2:TypeId}{pos pos2:String}{af af2:Array Edge}{g g2:Option (Nat×Bool)}{k1 k2:IntKind}{i j:Int}
variable {τ:Type}{e:E τ}{te:TypeId}
theorem jmk{f:List τ->Option ρ}(at0:At Ls p os ⟨some d,.makeSlice t x y,ty,pos,af,g⟩ p')(te:TypeId)(zd:τ)(zv:Value)(hzr:RV e Ls F zv.cells.toList zd)(hx:zL S x=some (.int k1 i))(hy:zL S y=some (.int k2 j))
  (h:∀ z r' p1 c',tZ Ls r' fun Ls'=>J P n X Q p' ((d,sv p1 z c')::S) Ls' (Al e te r' p1 c' z::F) (f z)) (hz:tL P te=some zv:=by kernel_rfl) (ht:yS P t te e.n=true:=by kernel_rfl)
  (hd:Nat.blt d n=true:=by kernel_rfl) (hg:zR os S g=some true:=by kernel_rfl):J P n X Q p S Ls F ((mkS i j zd).bind f) :=
 ⟨fun hq r0 hm a w hs=>by
  obtain⟨z,h1,h2⟩:=uS hm
  exact at0.run fun K hK=>b_make hs hz (hzr _ _ hs.o hs.f) hx hy h1 (fun r' p1 c' a w' h' e=>hK e (by
   have h:=h z r' p1 c'
   rw[zKb] at h
   exact h.go hq r0 h2 a w' h')) ht hd hg⟩
end
theorem jcm{P:Program}{n:Nat}{X:Hd qd}{ρ α β:Type}{Q:PQ ρ}{p:uH}{S:Sl}{Ls:List zJ}{F:List PP}{ma:Option α}{mb:Option β}{f:α->β->Option ρ}(h:J P n X Q p S Ls F (mb.bind fun y=>ma.bind fun x=>f x y)): J P n X Q p S Ls F (ma.bind fun x=>mb.bind fun y=>f x y):=by
 have e:(ma.bind fun x=>mb.bind fun y=>f x y)=(mb.bind fun y=>ma.bind fun x=>f x y):=by cases ma <;> cases mb <;> rfl
 grind
def fldV (P:Program)(t i:Nat)(cs:Array Value): Option Value:=match P.underlying t with
 | some (.struct fs)=>match fs[i]? with
  | some f=>xP P f.type cs f.offset
  | none=>none
 | _=>none
theorem z8j{P:Program}{w:World}{t:TypeId}{cs:Array Value}{o:Nat}{v:Value}(h:xP P t cs o=some v): (part t cs o).run P w=.ok v w:=by
 unfold xP at h
 split at h
 ·cases h
 ·rename_i ag n hs
  split at h
  ·rename_i hle
   have hle':o+n≤cs.size:=QW hle
   obtain⟨h1,h2⟩:=zGb (w:=w) hs
   cases ag with
   | true =>
    simp only[xW,Qd] at h
    subst h
    have he:cs.extract o (o+n)=(List.take n (List.drop o cs.toList)).toArray:=by
     apply Array.ext'
     simp[List.extract_eq_take_drop]
    simp[part,h1,h2,z1K,he]
   | false =>
    have hg:z1K cs o n=[v]:=by
     cases hc:z1K cs o n with
     | nil=>simp[hc,xW] at h
     | cons u r=>cases r with
      | nil=>grind [xW]
      | cons _ _=>simp[hc,xW] at h
    have:cs[o]?=some v:=by
     have:=z9v (c:=cs) (o:=o) (n:=n) (j:=0) (u:=v) (by grind)
     simpa using this
    simp[part,h1,this]
  ·cases h
theorem r_field{P:Program}{a:Act}{n:Nat}{S:Sl}{t i:Nat}{x:Operand}{cs:Array Value}{v:Value}{d:Option Tmp}{ty:TypeId}{pos:String}{af:Array Edge}{g:Option (Nat×Bool)}(hS:qF a n S)(hx:zL S x=some (.agg cs))(hf:fldV P t i cs=some v)(w:World):
  (execOp a.eval ⟨d,.field t x i,ty,pos,af,g⟩).run P w=.ok (.value v) w:=by
 unfold fldV at hf
 split at hf
 ·rename_i fs hu
  split at hf
  ·rename_i f hff
   simp[execOp,hS.eval hx,Instr.field,run_underlying hu,hff,asAgg,z8j hf]
  ·cases hf
 ·cases hf
end Go.GD
