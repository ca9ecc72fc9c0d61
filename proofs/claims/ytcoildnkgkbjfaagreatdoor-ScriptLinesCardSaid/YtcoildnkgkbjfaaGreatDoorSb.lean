/- A part. Conditions: none. -/
import Derived.Test.YtcoildnkgkbjfaaGreatDoorGlob
import Derived.Shelf.Strings.OnBuilder
import Derived.Shelf.Strings.FieldsAny
import Derived.Shelf.Strings.Search3
import Derived.Shelf.Strings.Count
namespace Go.GD
open Go Go.RowKit Go.Shelf Go.Proofs
set_option autoImplicit false
variable {qd:Prop}
theorem zNy{w w':World}(h:Below w.heap.size w w'): zZ False [] w [] w' :=
 ⟨h.os,h.tape,h.output,fun q=>q.elim,h.size,fun k hk _=>h.block k hk,fun b hb=>by grind⟩
section
variable {P:Program}{f:FuncId}{vs:List Value}{F:List PP}{σ τ:Type}{m:Option σ}
theorem z4M{val:σ->Value}(hc:∀ args w,(callFunc f args).run P w=.ok (.enter f args) w)
  (h:∀ Z w r,m=some r->xA F Z w->Calls P f vs.toArray w fun e w'=>e=.returned (val r)∧zZ qd [] w [] w'):zN qd P f vs [] F m fun r K=>K (val r) [] [] :=
 ⟨hc,fun _ w0 r hm hO hF=>(h _ w0 r hm hF).mono fun e w' ⟨he,hE⟩=>by subst he;exact fun G k=>k ⟨rfl,hO.frame hE,hE,trivial⟩⟩
end
def Tb (P:Program)(name:String)(k:IntKind)(zs:List Int): PP :=
 ⟨fun Z w=>∃ g,P.globalNamed name=some g∧g∉Z∧g<w.heap.size∧Lib.TabIs P w name k zs,by
  rintro Z w Z' w' s ⟨g,h1,h2,h3,h4⟩
  obtain⟨h5,h6⟩:=s.same g h3 h2
  grind [Lib.TabIs,World.var?]⟩
theorem zZq{Z:List Nat}{w:World}: ∀ l:List zA,wD.rdL Z w (l.map fun x=>Value.string ⟨⟨x⟩⟩) l
 | []=>rfl
 | x::l=>⟨[.string ⟨⟨x⟩⟩],_,rfl,rfl,zZq l⟩
section
variable {P:Program}{ρ:Ren}
theorem z4h (L:Lays.n156 P ρ)(X:Builder.Extra P ρ)(hc:∀ args w,(callFunc (ρ.f 156) args).run P w=.ok (.enter (ρ.f 156) args) w){p:Option Addr}{c:Nat}{l:List zA}{s:zA}:
  zN False P (ρ.f 156) [sv p l c,vs s] [] [Rl wD p c l] (z42 l s) fun r K=>K (vs r) [] []:=by
 refine z4M hc fun Z w r hm hF=>?_
 unfold z42 at hm
 split at hm
 case isFalse=>cases hm
 rename_i hl
 obtain rfl:=QE hm
 obtain⟨hR,_⟩:=hF.1
 rcases hR.2 with h0 | ⟨b,o,cs,hp,hb,hlt,hcs,hcell⟩
 ·subst h0
  refine(Any.strings_Join_none L X p c ⟨⟨s⟩⟩ w).mono fun e w' ⟨he,hw⟩=>?_
  subst hw
  exact⟨he,zZ.refl _ _⟩
 ·subst hp
  have hmap:(l.map fun s:zA=>(⟨⟨s⟩⟩:ByteArray)).map (·.data.toList)=l:=by rw[List.map_map];exact(List.map_congr_left fun _ _=>rfl).trans (List.map_id _)
  have hlen:(l.map fun s:zA=>(⟨⟨s⟩⟩:ByteArray)).length=l.length:=by simp
  have h:=Any.strings_Join L X b o c (l.map fun s:zA=>(⟨⟨s⟩⟩:ByteArray)) ⟨⟨s⟩⟩ w (fun j x hx=>by
   rw[U1,Ul] at hx
   obtain⟨y,hy,rfl⟩:=hx
   obtain⟨ci,h1,h2⟩:=wD.rdL_get hcs hy
   obtain rfl:ci=[.string ⟨⟨y⟩⟩]:=h1
   have:=hcell (j*1+0) (.string ⟨⟨y⟩⟩) (h2 0 _ rfl)
   grind) hlt (by grind) (by rw[hlen];exact hR.1) (by rw[hmap];exact hl.2)
  rw[hlen,hmap] at h
  exact h.mono fun e w' ⟨he,hw⟩=>⟨he,zNy hw⟩
theorem zZu (L:Lays.n219 P ρ)(hc:∀ args w,(callFunc (ρ.f 219) args).run P w=.ok (.enter (ρ.f 219) args) w){s u:zA}:
  zN qd P (ρ.f 219) [vs s,vs u] [] [] (zZA s u) fun r K=>K (vi r) [] []:=by
 refine z4M hc fun Z w r hm hF=>?_
 unfold zZA at hm
 split at hm
 ·rename_i c
  obtain rfl:=QE hm
  exact(Any.stringslite_Index_one L ⟨⟨s⟩⟩ c w).mono fun e w' ⟨he,hw⟩=>by subst hw;exact⟨he,zZ.refl _ _⟩
 ·cases hm
end
end Go.GD
