/- A part. Conditions: none. -/
import Derived.Test.YtmpieaddiaihmaaGreatDoorGlob
import Derived.Shelf.Strings.OnBuilder
import Derived.Shelf.Strings.FieldsAny
import Derived.Shelf.Strings.Search3
import Derived.Shelf.Strings.Count
namespace Go.GD
open Go Go.RowKit Go.Shelf Go.Proofs
set_option autoImplicit false
variable {qd:Prop}
theorem z2K{w w':World}(h:Below w.heap.size w w'): zU False [] w [] w' :=
 ⟨h.os,h.tape,h.output,fun q=>q.elim,h.size,fun k hk _=>h.block k hk,fun b hb=>by grind⟩
section
variable {P:Program}{f:FuncId}{vs:List Value}{F:List PP}{σ τ:Type}{m:Option σ}
theorem con_v{val:σ->Value}(hc:∀ args w,(callFunc f args).run P w=.ok (.enter f args) w)
  (h:∀ Z w r,m=some r->uM F Z w->Calls P f vs.toArray w fun e w'=>e=.returned (val r)∧zU qd [] w [] w'):zP qd P f vs [] F m fun r K=>K (val r) [] [] :=
 ⟨hc,fun _ w0 r hm hO hF=>(h _ w0 r hm hF).mono fun e w' ⟨he,hE⟩=>by subst he;exact fun G k=>k ⟨rfl,hO.frame hE,hE,trivial⟩⟩
theorem con_s{e:E τ}{m:Option (List τ)}(hc:∀ args w,(callFunc f args).run P w=.ok (.enter f args) w)
  (h:∀ Z w r,m=some r->(∀ b∈Z,b<w.heap.size)->uM F Z w->Calls P f vs.toArray w fun x w'=>∃ p c,x=.returned (sv p r c)∧zU qd [] w [] w'∧(Rl e p c r).h Z w') :
  zP qd P f vs [] F m fun r K=>∀ p c,K (sv p r c) [] [Rl e p c r] :=
 ⟨hc,fun A w0 r hm hO hF=>(h (bl []++A) w0 r hm (fun b hb=>hO.old b (by simpa [bl] using hb)) hF).mono fun x w' ⟨p,c,he,hE,hR⟩=>by
  subst he;exact fun G k=>k p c ⟨rfl,hO.frame hE,hE,hR,trivial⟩⟩
end
def Tb (P:Program)(name:String)(k:IntKind)(zs:List Int): PP :=
 ⟨fun Z w=>∃ g,P.globalNamed name=some g∧g∉Z∧g<w.heap.size∧Lib.TabIs P w name k zs,by
  rintro Z w Z' w' s ⟨g,h1,h2,h3,h4⟩
  obtain⟨h5,h6⟩:=s.same g h3 h2
  grind [Lib.TabIs,World.var?]⟩
def Wt (g:Nat): PP :=
 ⟨fun Z w=>∃ T oT R oR:Nat,(g∉Z∧T∉Z∧R∉Z)∧w.cell? ⟨g,0,none⟩=some (.pointer (some ⟨T,oT,none⟩))∧w.cell? ⟨T,oT,none⟩=some (.slice (some ⟨R,oR,none⟩) 7 7) ∧
  w.cell? ⟨T,oT+1,none⟩=some (.slice none 0 0)∧w.cell? ⟨T,oT+2,none⟩=some (.int .i64 2)∧∀ i,i<21->w.cell? ⟨R,oR+i,none⟩=some (.int .u16 (Lib.whiteT.getD i 0)),by
  rintro Z w Z' w' s ⟨T,oT,R,oR,⟨h1,h2,h3⟩,h4,h5,h6,h7,h8⟩
  have mv:∀ {a:Addr} {v:Value},a.block∉Z->w.cell? a=some v->a.block∉Z'∧w'.cell? a=some v:=fun {a v} ha hc=>by
   have hlt:=World.block_lt_of_cell? w a hc
   obtain⟨k1,k2⟩:=s.same a.block hlt ha
   grind [World.cell?_of_block]
  exact⟨T,oT,R,oR,⟨(mv h1 h4).1,(mv h2 h5).1,(mv h3 (h8 0 (by omega))).1⟩,(mv h1 h4).2,(mv h2 h5).2,(mv h2 h6).2,(mv h2 h7).2,fun i hi=>(mv h3 (h8 i hi)).2⟩⟩
theorem Wt.tab{g:Nat}{Z:List Nat}{w:World}(h:(Wt g).h Z w): Lib.WhiteTab g w:=by
 obtain⟨T,oT,R,oR,_,h⟩:=h
 exact⟨T,oT,R,oR,h⟩
theorem z0w{Z:List Nat}{w:World}: ∀ l:List zG,wB.rdL Z w (l.map fun x=>Value.string ⟨⟨x⟩⟩) l
 | []=>rfl
 | x::l=>⟨[.string ⟨⟨x⟩⟩],_,rfl,rfl,z0w l⟩
section
variable {P:Program}{ρ:Ren}
theorem z8y (L:Lays.n156 P ρ)(X:Builder.Extra P ρ)(hc:∀ args w,(callFunc (ρ.f 156) args).run P w=.ok (.enter (ρ.f 156) args) w){p:Option Addr}{c:Nat}{l:List zG}{s:zG}:
  zP False P (ρ.f 156) [sv p l c,vs s] [] [Rl wB p c l] (z9I l s) fun r K=>K (vs r) [] []:=by
 refine con_v hc fun Z w r hm hF=>?_
 unfold z9I at hm
 split at hm
 case isFalse=>cases hm
 rename_i hl
 obtain rfl:=QH hm
 obtain⟨hR,_⟩:=hF.1
 rcases hR.2 with h0 | ⟨b,o,cs,hp,hb,hlt,hcs,hcell⟩
 ·subst h0
  refine(Any.strings_Join_none L X p c ⟨⟨s⟩⟩ w).mono fun e w' ⟨he,hw⟩=>?_
  subst hw
  exact⟨he,zU.refl _ _⟩
 ·subst hp
  have hmap:(l.map fun s:zG=>(⟨⟨s⟩⟩:ByteArray)).map (·.data.toList)=l:=by rw[List.map_map];exact(List.map_congr_left fun _ _=>rfl).trans (List.map_id _)
  have hlen:(l.map fun s:zG=>(⟨⟨s⟩⟩:ByteArray)).length=l.length:=by simp
  have h:=Any.strings_Join L X b o c (l.map fun s:zG=>(⟨⟨s⟩⟩:ByteArray)) ⟨⟨s⟩⟩ w (fun j x hx=>by
   rw[Uz,UE] at hx
   obtain⟨y,hy,rfl⟩:=hx
   obtain⟨ci,h1,h2⟩:=wB.rdL_get hcs hy
   obtain rfl:ci=[.string ⟨⟨y⟩⟩]:=h1
   have:=hcell (j*1+0) (.string ⟨⟨y⟩⟩) (h2 0 _ rfl)
   grind) hlt (by grind) (by rw[hlen];exact hR.1) (by rw[hmap];exact hl.2)
  rw[hlen,hmap] at h
  exact h.mono fun e w' ⟨he,hw⟩=>⟨he,z2K hw⟩
theorem z6O (L:Lays.n157 P ρ)(hi9:(P.info? (ρ.t 9)).map (fun i=>(i.zero,i.size,i.bytes))=some (some (.string ByteArray.empty),1,16))
  (hi154:(P.info? (ρ.t 154)).map (fun i=>(i.zero,i.size,i.bytes))=some (some (.agg #[.int .i64 0,.int .i64 0]),2,16)) (hg:P.globalNamed "strings.asciiSpace"=some (ρ.g 0))
  (hc:∀ args w,(callFunc (ρ.f 157) args).run P w=.ok (.enter (ρ.f 157) args) w) {s:zG} :
  zP False P (ρ.f 157) [vs s] [] [Tb P "strings.asciiSpace" .u8 Lib.asciiSpaceTab,Wt (ρ.g 6)] (z06 s) fun r K=>∀ p c,K (sv p r c) [] [Rl wB p c r]:=by
 refine con_s hc fun Z w r hm hZ hF=>?_
 unfold z06 at hm
 split at hm
 case isFalse=>cases hm
 rename_i hl
 obtain rfl:=QH hm
 obtain⟨⟨_,_,_,_,hT⟩,hW,_⟩:=hF
 refine(Any.strings_Fields_any L hi9 hi154 hg ⟨⟨s⟩⟩ w hl hT (Wt.tab (Z:=Z) hW)).mono fun e w' ⟨A,he,hA,hO,hB⟩=>?_
 refine⟨_,_,he,z2K hB,⟨⟨Qs _,.inr ?_⟩,rfl⟩⟩
 obtain⟨h1,h2 | ⟨g,cap,cur,hv,hbg,hg,hn,hcm,hcs,htk⟩⟩:=hO
 ·cases h2.1
 ·cases hv
  have hlt:A<w'.heap.size:=(Qq.1 hg).1
  refine⟨A,0,(Lib.fieldsD s).map fun x=>Value.string ⟨⟨x⟩⟩,rfl,fun hm=>by grind,hlt,?_,fun j u hu=>?_⟩
  ·exact z0w _
  ·rw[cell_of_row w' A (0+j) cur (ρ.t 9) (0,0) hg,US]
   grind
theorem z6N (L:Lays.n219 P ρ)(hc:∀ args w,(callFunc (ρ.f 219) args).run P w=.ok (.enter (ρ.f 219) args) w){s u:zG}:
  zP qd P (ρ.f 219) [vs s,vs u] [] [] (z4p s u) fun r K=>K (vi r) [] []:=by
 refine con_v hc fun Z w r hm hF=>?_
 unfold z4p at hm
 split at hm
 ·rename_i c
  obtain rfl:=QH hm
  exact(Any.stringslite_Index_one L ⟨⟨s⟩⟩ c w).mono fun e w' ⟨he,hw⟩=>by subst hw;exact⟨he,zU.refl _ _⟩
 ·cases hm
end
end Go.GD
