/- A part. Conditions: none. -/
import Derived.Test.YtgdgcdmdogdmgaaGreatDoorIfc
import Derived.Shelf.Strconv.Itoa3
import Derived.Shelf.Strconv.AtoiAll
namespace Go.GD
open Go Go.RowKit Go.Shelf Go.Proofs
set_option autoImplicit false
set_option linter.unusedVariables false
variable {qd:Prop}
theorem z8g (w:World)(k:Nat)(os:Array Obj): zT qd [] w [] (Go.Sort.grow (w.drewN k) os) :=
 ⟨rfl,rfl,rfl,fun _=>Nat.le_add_right _ _,by simp_all,fun i hi _=>(by
  show((w.drewN k).heap++os)[i]?=_
  rw[Array.getElem?_append_left (by simp_all)]
  rfl),fun b hb=>by grind⟩
section
variable {P:Program}{ρ:Ren}
theorem z5z (L:LaysM.n246 P ρ)(hc:∀ args w,(callFunc (ρ.f 246) args).run P w=.ok (.enter (ρ.f 246) args) w){n z:Int}:
  zP qd P (ρ.f 246) [vi n,vi z] [] [Tb P "internal/strconv.uint64pow10" .u64 Lib.pow10Tab] (z8f n z) fun r K=>K (vs r) [] []:=by
 refine con_v hc fun Z w r hm hF=>?_
 unfold z8f at hm
 split at hm
 case isFalse=>cases hm
 rename_i h
 obtain⟨rfl,h0,h1⟩:=h
 obtain rfl:=QC hm
 obtain⟨⟨_,_,_,_,hT⟩,_⟩:=hF
 refine(Any.internal_strconv_FormatInt_10 L n h0 h1 w hT).mono fun e w' ⟨he,k,os,hw⟩=>?_
 subst hw
 exact⟨he,z8g w k os⟩
end
end Go.GD
