/- A part. Conditions: none. -/
import Derived.Test.YtcoildnkgkbjfaaGreatDoorIfc
import Derived.Shelf.Strconv.Itoa3
import Derived.Shelf.Strconv.AtoiAll
namespace Go.GD
open Go Go.RowKit Go.Shelf Go.Proofs
set_option autoImplicit false
set_option linter.unusedVariables false
variable {qd:Prop}
theorem z4e (w:World)(k:Nat)(os:Array Obj): zZ qd [] w [] (Go.Sort.grow (w.drewN k) os) :=
 ⟨rfl,rfl,rfl,fun _=>Nat.le_add_right _ _,by simp_all,fun i hi _=>(by
  show((w.drewN k).heap++os)[i]?=_
  rw[Array.getElem?_append_left (by simp_all)]
  rfl),fun b hb=>by grind⟩
def vW (g:Nat): PP :=
 ⟨fun Z w=>g∉Z∧∃ ev,w.cell? ⟨g,0,none⟩=some ev∧(ev=.nilIface∨∃ te pe,ev=.iface te pe),by
  rintro Z w Z' w' s ⟨h1,ev,h2,h3⟩
  have hlt:=World.block_lt_of_cell? w ⟨g,0,none⟩ h2
  obtain⟨k1,k2⟩:=s.same g hlt h1
  grind [World.cell?_of_block]⟩
section
variable {P:Program}{ρ:Ren}
theorem z2Z (L:LaysM.n246 P ρ)(hc:∀ args w,(callFunc (ρ.f 246) args).run P w=.ok (.enter (ρ.f 246) args) w){n z:Int}:
  zN qd P (ρ.f 246) [vi n,vi z] [] [Tb P "internal/strconv.uint64pow10" .u64 Lib.pow10Tab] (z4E n z) fun r K=>K (vs r) [] []:=by
 refine z4M hc fun Z w r hm hF=>?_
 unfold z4E at hm
 split at hm
 case isFalse=>cases hm
 rename_i h
 obtain⟨rfl,h0,h1⟩:=h
 obtain rfl:=QE hm
 obtain⟨⟨_,_,_,_,hT⟩,_⟩:=hF
 refine(Any.internal_strconv_FormatInt_10 L n h0 h1 w hT).mono fun e w' ⟨he,k,os,hw⟩=>?_
 subst hw
 exact⟨he,z4e w k os⟩
theorem z1h (w:World)(t:TypeId)(s:ByteArray): zZ qd [] w [] (Lib.bytesWorld w t s):=by
 have hsz:=Lib.bytesWorld_size w t s
 refine⟨?_,?_,?_,fun _=>?_,by omega,fun i hi _=>Lib.bytesWorld_at_old w t s i hi,fun b hb=>by grind⟩
 ·unfold Lib.bytesWorld World.freeze;split <;> rfl
 ·unfold Lib.bytesWorld World.freeze;split <;> rfl
 ·unfold Lib.bytesWorld World.freeze;split <;> rfl
 ·unfold Lib.bytesWorld World.freeze;simp_all
theorem z5C (L:LaysC.n172 P ρ)(hc:∀ args w,(callFunc (ρ.f 172) args).run P w=.ok (.enter (ρ.f 172) args) w){s:zA}:
  zN False P (ρ.f 172) [vs s] [] [vW (ρ.g 15),vW (ρ.g 16)] (z4t s) fun r K=>∀ v,K (.tuple #[vi r.1,v]) [] [Erv v r.2]:=by
 refine⟨hc,fun A w r hm hO hF=>?_⟩
 unfold z4t at hm
 split at hm
 case isFalse=>cases hm
 rename_i hl
 obtain⟨⟨_,e1,h1,h1'⟩,⟨_,e2,h2,h2'⟩,_⟩:=hF
 have hd:∀ {e:Ending} {w':World} {v:Value},zZ False [] w [] w'->ErB v r.2->e=.returned (.tuple #[vi r.1,v])->_:=fun {e w' v} hE hv he=>(⟨he,hO.frame hE,hE,hv,trivial⟩:_∧_∧_∧_∧True)
 cases ha:Lib.atoiAll s with
 | ok v =>
  rw[ha] at hm
  obtain rfl:=QE hm
  refine(Any.strconv_Atoi_ok L ⟨⟨s⟩⟩ (by show s.length≤_;omega) v ha w).mono fun e w' ⟨he,hw⟩=>?_
  subst he
  have hE:zZ False [] w [] w':=by
   rcases hw with rfl | ⟨t,rfl⟩
   ·exact zZ.refl _ _
   ·exact z1h w _ t
  exact fun G k=>k .nilIface ⟨rfl,hO.frame hE,hE,.inl ⟨rfl,rfl⟩,trivial⟩
 | «syntax» =>
  rw[ha] at hm
  obtain rfl:=QE hm
  refine(Any.strconv_Atoi_syntax L ⟨⟨s⟩⟩ (by show s.length≤_;omega) ha e1 w h1 h1').mono fun e w' ⟨N,he,_,_,hB⟩=>?_
  subst he
  have hE:=zNy hB
  exact fun G k=>k _ ⟨rfl,hO.frame hE,hE,.inr ⟨⟨_,_,rfl⟩,rfl⟩,trivial⟩
 | range =>
  rw[ha] at hm
  obtain rfl:=QE hm
  refine(Any.strconv_Atoi_range L ⟨⟨s⟩⟩ (by show s.length≤_;omega) ha e2 w h2 h2').mono fun e w' ⟨N,he,_,_,hB⟩=>?_
  subst he
  have hE:=zNy hB
  exact fun G k=>k _ ⟨rfl,hO.frame hE,hE,.inr ⟨⟨_,_,rfl⟩,rfl⟩,trivial⟩
end
end Go.GD
